/- What calls of the program return, under the conditions that each theorem states. -/
import Derived.Test.YtlihcmknfdckdaaDoorT30
import Derived.Test.YtlihcmknfdckdaaDoorT05
import Derived.Test.YtlihcmknfdckdaaDoorT02
import Derived.Test.YtlihcmknfdckdaaDoorT03
import Derived.Test.YtlihcmknfdckdaaDoorT33
import Derived.Test.YtlihcmknfdckdaaDoorT34
import Derived.Test.YtlihcmknfdckdaaDoorT14
import Derived.Test.YtlihcmknfdckdaaDoorT19
import Derived.Test.YtlihcmknfdckdaaDoorT35
import Derived.Test.YtlihcmknfdckdaaDoorT04
namespace Go.Proofs.YtlihcmknfdckdaaDoor
open Go.RowKit Go.Proofs.Wit Tryd
def mvV (at_ : Int → Int) (x : LV) (q : Option Nat) (cap : Nat) : LV := ⟨⟨q.map (fun b => ⟨b, 0, none⟩), cap, compF x.f.f⟩, x.r, if 10 ≤ x.r then at_ x.a else x.a, if x.r = 10 then at_ x.b else x.b, x.g⟩
set_option maxRecDepth 8000 in
theorem moved_c (x : LV) (gf : FuncId) (cs : List Value) (at_ : Int → Int) (w : World) (hf : FA w x.f.a x.f.f) (hfl : x.f.f.length ≤ maxLen) (hr : 1 ≤ x.r ∧ x.r ≤ 12) (hcf : ∀ args w, (callFunc gf args).run Tryd.prog w = .ok (.enter gf args) w)
    (hat : ∀ w', Ex [] w w' → ∀ y : Int, (10 ≤ x.r ∧ y = x.a) ∨ (x.r = 10 ∧ y = x.b) → Cn Tryd.prog gf ([.int .i64 y] ++ cs) w' (fun v _ => v = .int .i64 (at_ y))) :
    Cn Tryd.prog 61 [.agg (LV.cells x).toArray, .func (.func gf) #[] cs.toArray] w (fun v w' => ∃ (q : Option Nat) (cap : Nat) (sp : List Value), v = .agg (LV.cells (mvV at_ x q cap)).toArray ∧ (q = none → (compF x.f.f).length = 0 ∧ cap = 0) ∧ ((compF x.f.f).flatMap NV.cells ++ sp).length = cap * 6 ∧ NewH w w' [(q, obN 80 (compF x.f.f) sp)]) := by
  have hp := premN_cases hr.1 hr.2
  refine Cn.of func61 rfl rfl ?_
  refine gS (gR ?_)
  refine GoH.bx rfl rfl rfl rfl (fun b2 => ?_)
  refine GoH.alc rfl rfl rfl (fun _ => zeroValue40 _) (fun b4 => ?_)
  refine gE (gS (gR ?_)); refine gFp underlying40 sizeOf23 0 ?_; refine gLo isAgg23 1 ?_
  refine gM rfl rfl rfl rfl rfl call44 (fun w _ hS => (by exact fcompact_c x.f.a x.f.c x.f.f w (hf.ex0 hS.ext) hfl)) ?_
  rintro v w1 w2 Y' hS he ho
  rw [subF_top] at ho
  obtain ⟨qc, cc, spc, rfl, hqc, hcapc, hS'⟩ := gainN hS he ho
  refine ⟨_, hS', ?_⟩
  refine gFp underlying40 sizeOf23 0 ?_
  refine GoH.st rfl rfl rfl rfl sizeOf23 rfl 2 rfl rfl ?_
  refine gE (gS (gS (gR ?_))); refine gFp underlying40 sizeOf3 1 ?_; refine gLo isAgg3 2 ?_
  refine gP rfl rfl rfl rfl rfl call65 (fun w _ hS => (by exact prem_c x.r w)) ?_
  refine gBi bGt ?_; refine gE ?_
  refine gC (fun hc => ?_) fun hc => ?_
  ·
   have h1 : 10 ≤ x.r := by simp at hc; omega
   refine gR ?_; refine gMv ?_; refine gFp underlying40 sizeOf3 2 ?_; refine gLo isAgg3 2 ?_
   refine GoH.callCP (v := .int .i64 (at_ x.a)) (fs := []) (cs := cs) rfl rfl rfl rfl rfl hcf (fun w _ hS => hat w hS.ext x.a (.inl ⟨h1, rfl⟩)) ?_
   refine gFp underlying40 sizeOf3 2 ?_
   refine GoH.st rfl rfl rfl rfl sizeOf3 rfl 2 rfl rfl ?_
   refine gE (gS (gS (gR ?_))); refine gFp underlying40 sizeOf3 1 ?_; refine gLo isAgg3 2 ?_
   refine gP rfl rfl rfl rfl rfl call65 (fun w _ hS => (by exact prem_c x.r w)) ?_
   refine gBi bGt ?_; refine gE ?_
   refine gC (fun hc => ?_) fun hc => ?_
   ·
    have h2 : x.r = 10 := by simp at hc; omega
    refine gR ?_; refine gMv ?_; refine gFp underlying40 sizeOf3 3 ?_; refine gLo isAgg3 2 ?_
    refine GoH.callCP (v := .int .i64 (at_ x.b)) (fs := []) (cs := cs) rfl rfl rfl rfl rfl hcf (fun w _ hS => hat w hS.ext x.b (.inr ⟨h2, rfl⟩)) ?_
    refine gFp underlying40 sizeOf3 3 ?_
    refine GoH.st rfl rfl rfl rfl sizeOf3 rfl 2 rfl rfl ?_
    refine gE (gS (gR ?_))
    refine GoH.v (Vop.ldB rfl rfl rfl rfl isAgg40 2 rfl sizeOf40 rfl) ?_
    refine GoH.stB rfl rfl rfl rfl sizeOf40 1 rfl rfl rfl rfl ?_
    refine gE ?_
    refine GoH.retH Tryd.f61 func61 _ (resH.cell rfl isAgg40 sizeOf40 (j := 1) rfl rfl resH.nil) (fun w' hS => ?_)
    exact ⟨hS.ext, qc, cc, spc, by rw [mvV, if_pos h1, if_pos h2]; rfl, hqc, hcapc, (NewH.of hS).sub (.cons_cons _ (List.nil_sublist _))⟩
   ·
    have h2 : ¬ x.r = 10 := by simp at hc; omega
    refine gK (gS (gR ?_))
    refine GoH.v (Vop.ldB rfl rfl rfl rfl isAgg40 2 rfl sizeOf40 rfl) ?_
    refine GoH.stB rfl rfl rfl rfl sizeOf40 1 rfl rfl rfl rfl ?_
    refine gE ?_
    refine GoH.retH Tryd.f61 func61 _ (resH.cell rfl isAgg40 sizeOf40 (j := 1) rfl rfl resH.nil) (fun w' hS => ?_)
    exact ⟨hS.ext, qc, cc, spc, by rw [mvV, if_pos h1, if_neg h2]; rfl, hqc, hcapc, (NewH.of hS).sub (.cons_cons _ (List.nil_sublist _))⟩
  ·
   have h1 : ¬ 10 ≤ x.r := by simp at hc; omega
   refine gK (gS (gS (gR ?_))); refine gFp underlying40 sizeOf3 1 ?_; refine gLo isAgg3 2 ?_
   refine gP rfl rfl rfl rfl rfl call65 (fun w _ hS => (by exact prem_c x.r w)) ?_
   refine gBi bGt ?_; refine gE ?_
   refine GoH.cond rfl (fun hc => by exfalso; simp at hc; omega) (fun _ => ?_)
   refine gK (gS (gR ?_))
   refine GoH.v (Vop.ldB rfl rfl rfl rfl isAgg40 2 rfl sizeOf40 rfl) ?_
   refine GoH.stB rfl rfl rfl rfl sizeOf40 1 rfl rfl rfl rfl ?_
   refine gE ?_
   refine GoH.retH Tryd.f61 func61 _ (resH.cell rfl isAgg40 sizeOf40 (j := 1) rfl rfl resH.nil) (fun w' hS => ?_)
   exact ⟨hS.ext, qc, cc, spc, by rw [mvV, if_neg h1, if_neg (by omega)]; rfl, hqc, hcapc, (NewH.of hS).sub (.cons_cons _ (List.nil_sublist _))⟩
end Go.Proofs.YtlihcmknfdckdaaDoor
