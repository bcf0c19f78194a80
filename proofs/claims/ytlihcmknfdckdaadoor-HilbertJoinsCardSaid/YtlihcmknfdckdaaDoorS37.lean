/- What calls of the program return, under the conditions that each theorem states. -/
import Derived.Test.YtlihcmknfdckdaaDoorS31
import Derived.Test.YtlihcmknfdckdaaDoorS05
import Derived.Test.YtlihcmknfdckdaaDoorS02
import Derived.Test.YtlihcmknfdckdaaDoorS03
import Derived.Test.YtlihcmknfdckdaaDoorS14
import Derived.Test.YtlihcmknfdckdaaDoorS34
import Derived.Test.YtlihcmknfdckdaaDoorS35
import Derived.Test.YtlihcmknfdckdaaDoorS19
import Derived.Test.YtlihcmknfdckdaaDoorS36
import Derived.Test.YtlihcmknfdckdaaDoorS04
namespace Go.Proofs.YtlihcmknfdckdaaDoor
open Go.RowKit Go.Proofs.Wit Tryd
/-! pruned proofs: the program -/
def bkA (ls : List LV) (i : Nat) : List Value := [.int .i64 ((ls.length : Int) - 1 - i), .agg (LV.cells (ls.getD (ls.length - 1 - i) ⟨⟨none, 0, []⟩, 0, 0, 0, 0⟩)).toArray]
set_option maxRecDepth 8000 in
theorem back_it (w0 : World) (A : Option Addr) (cA : Nat) (ls : List LV) (hA : LA w0 A ls) (hn : ls.length ≤ 400) (b : Nat) :
    IterC Tryd.prog w0 [] 100 [.pointer (some ⟨b, 0, none⟩)] ((List.range ls.length).map (bkA ls)) [(some b, .cells #[.slice A ls.length cA] 22 (0, 0))] := by
  refine IterC.of func100 rfl rfl (fun Y σ Hc I X Yx L hy c0 hI0 => ?_)
  refine gS (gR ?_); refine gLo isAgg22 0 ?_; refine gBl underlying22 ?_; refine gBx rfl rfl rfl rfl (bSub (by omega)) ?_; refine gAs ?_; refine gE (gB ?_)
  refine GoH.loop (σ := Nat × σ) (fun s => [(0, Value.func (.yield L) #[] #[]), (1, .pointer (some ⟨b, 0, none⟩)), (3, .int .i64 ((ls.length : Int) - 1 - s.1))]) (fun s => (some b, .cells #[.slice A ls.length cA] 22 (0, 0)) :: Hc s.2)
    (fun s => s.1 ≤ ls.length ∧ I s.1 s.2) (fun s => ls.length - s.1) (0, c0) ⟨Nat.zero_le _, hI0⟩ ⟨rfl, rfl, by simp; rfl, trivial⟩ (List.Sublist.refl _) (fun s hs IH => ?_)
  obtain ⟨i, c⟩ := s
  obtain ⟨hle, hI⟩ := hs
  dsimp only at hle hI
  refine gS (gS (gR ?_)); refine gMv ?_; refine gBi bGe ?_; refine gE ?_
  refine gC (fun hc => ?_) fun hc => ?_
  ·
   have hlt : i < ls.length := by simp at hc; omega
   have hk : ls.length - 1 - i < ls.length := by omega
   have hg : ls.getD (ls.length - 1 - i) ⟨⟨none, 0, []⟩, 0, 0, 0, 0⟩ = ls[ls.length - 1 - i] := by simp [List.getD_eq_getElem?_getD, hk]
   refine gK (gS (gB (gS (gR ?_))))
   iterate 2 refine gMv ?_
   refine gLo isAgg22 0 ?_; refine gMv ?_
   refine GoH.v (Vop.idxN rfl rfl rfl rfl rfl underlying22 sizeOf40 ⟨_, (hA).at_⟩ (flat_len (enc := LV.cells) (sz := 5) (fun _ => rfl)) (by decide) ((ls.length - 1 - i)) ⟨(by dsimp only; omega), hk⟩) ?_
   refine GoH.v (Vop.ldN (cs := LV.cells ls[ls.length - 1 - i]) rfl rfl rfl rfl isAgg40 sizeOf40 (fun w _ hS => Sl.many (enc := LV.cells) (sz := 5) (hA.ex0 hS.ext).at_ (fun _ => rfl) hk)) ?_
   refine GoH.yieldI (fun h' => ∃ c', I (i + 1) c' ∧ h' = (some b, .cells #[.slice A ls.length cA] 22 (0, 0)) :: Hc c') (fun h' Y' => ∃ c', X c' ∧ h' = (some b, .cells #[.slice A ls.length cA] 22 (0, 0)) :: Hc c' ∧ Y' = Yx c') rfl rfl rfl rfl rfl
     (fun w Y1 hS => ?_) (fun h' hh => ?_) (fun h' Y' hh => ?_)
   · obtain ⟨fn, tm, as', bd, hyy, hrr⟩ := hy i (bkA ls i) (by rw [List.getElem?_map, List.getElem?_range hlt]; rfl) c hI [(some b, .cells #[.slice A ls.length cA] 22 (0, 0))] w Y1 hS
     have hbk : bkA ls i = [.int .i64 ((ls.length : Int) - 1 - i), .agg (LV.cells ls[ls.length - 1 - i]).toArray] := by unfold bkA; rw [hg]
     rw [hbk] at hyy
     refine ⟨fn, tm, as', bd, hyy, fun c2 cs => ?_⟩
     obtain ⟨v, w', hpost, hst⟩ := hrr c2 cs
     refine ⟨v, w', ?_, hst⟩
     rcases hpost with ⟨hv, c', hI', hS'⟩ | ⟨hv, c', hX', hS'⟩
     · exact .inl ⟨hv, _, ⟨c', hI', rfl⟩, hS'⟩
     · exact .inr ⟨hv, _, _, ⟨c', hX', rfl, rfl⟩, hS'⟩
   rotate_left
   · obtain ⟨c', hX', rfl, rfl⟩ := hh
     refine gUn uNot ?_
     refine GoH.regionEnd (GoH.condT rfl (GoH.ret Tryd.f100 func100 rfl (fun w' hS => .inr ⟨c', hX', hS.subH (List.sublist_cons_self ..)⟩)))
   obtain ⟨c', hI', rfl⟩ := hh
   refine gUn uNot ?_; refine gE ?_
   refine gC (fun hc => ?_) fun hc => ?_
   ·
    simp at hc
   ·
    refine gK (gIb (gR ?_)); refine gMv ?_; refine gBx rfl rfl rfl rfl (bSub (by omega)) ?_; refine gAs ?_; refine gE ?_
    exact IH (i + 1, c') _ _ ⟨hlt, hI'⟩ (by dsimp only; omega) ⟨rfl, rfl, by dsimp only; rw [show (ls.length : Int) - 1 - ((i + 1 : Nat) : Int) = (ls.length : Int) - 1 - i - 1 by omega]; rfl, trivial⟩ (List.Sublist.refl _)
  ·
   have hge : i = ls.length := by simp at hc; omega
   subst hge
   refine GoH.exit rfl ?_
   refine GoH.fin Tryd.f100 func100 rfl (fun w' hS => ?_)
   exact .inl ⟨c, by simpa using hI, hS.subH (List.sublist_cons_self ..)⟩
def mvV (at_ : Int → Int) (x : LV) (q : Option Nat) (cap : Nat) : LV := ⟨⟨q.map (fun b => ⟨b, 0, none⟩), cap, compF x.f.f⟩, x.r, if 10 ≤ x.r then at_ x.a else x.a, if x.r = 10 then at_ x.b else x.b, x.g⟩
set_option maxRecDepth 8000 in
theorem moved_c (x : LV) (gf : FuncId) (cs : List Value) (at_ : Int → Int) (w : World) (hf : FA w x.f.a x.f.f) (hfl : x.f.f.length ≤ maxLen) (hr : 1 ≤ x.r ∧ x.r ≤ 12) (hcf : ∀ args w, (callFunc gf args).run Tryd.prog w = .ok (.enter gf args) w)
    (hat : ∀ w', Ex [] w w' → ∀ y : Int, (10 ≤ x.r ∧ y = x.a) ∨ (x.r = 10 ∧ y = x.b) → Cn Tryd.prog gf ([.int .i64 y] ++ cs) w' (fun v _ => v = .int .i64 (at_ y))) :
    Cn Tryd.prog 61 [.agg (LV.cells x).toArray, .func (.func gf) #[] cs.toArray] w (fun v w' => ∃ (q : Option Nat) (cap : Nat) (sp : List Value), v = .agg (LV.cells (mvV at_ x q cap)).toArray ∧ (q = none → (compF x.f.f).length = 0 ∧ cap = 0) ∧ ((compF x.f.f).flatMap NV.cells ++ sp).length = cap * 6 ∧ NewH w w' [(q, obN 80 (compF x.f.f) sp)]) := by
  have hp := premN_cases hr.1 hr.2
  refine Cn.of func61 rfl rfl ?_
  refine gS (gR ?_)
  refine GoH.bx rfl rfl rfl rfl (fun b2 => ?_)
  refine GoH.alc rfl rfl rfl (fun _ => zeroValue40 _) (fun b4 => ?_)
  refine gE (gS (gR ?_)); refine gFp underlying40 sizeOf23 0 ?_; refine gLo isAgg23 1 ?_
  refine gM rfl rfl rfl rfl rfl call44 (fun w _ hS => (by exact fcompact_c x.f.a x.f.c x.f.f w (hf.ex0 hS.ext) hfl)) ?_
  rintro v w1 w2 Y' hS he ho
  rw [subF_top] at ho
  obtain ⟨qc, cc, spc, rfl, hqc, hcapc, hS'⟩ := gainN hS he ho
  refine ⟨_, hS', ?_⟩
  refine gFp underlying40 sizeOf23 0 ?_
  refine GoH.st rfl rfl rfl rfl sizeOf23 rfl 2 rfl rfl ?_
  refine gE (gS (gS (gR ?_))); refine gFp underlying40 sizeOf3 1 ?_; refine gLo isAgg3 2 ?_
  refine gP rfl rfl rfl rfl rfl call65 (fun w _ hS => (by exact prem_c x.r w)) ?_
  refine gBi bGt ?_; refine gE ?_
  refine gC (fun hc => ?_) fun hc => ?_
  ·
   have h1 : 10 ≤ x.r := by simp at hc; omega
   refine gR ?_; refine gMv ?_; refine gFp underlying40 sizeOf3 2 ?_; refine gLo isAgg3 2 ?_
   refine GoH.callCP (v := .int .i64 (at_ x.a)) (fs := []) (cs := cs) rfl rfl rfl rfl rfl hcf (fun w _ hS => hat w hS.ext x.a (.inl ⟨h1, rfl⟩)) ?_
   refine gFp underlying40 sizeOf3 2 ?_
   refine GoH.st rfl rfl rfl rfl sizeOf3 rfl 2 rfl rfl ?_
   refine gE (gS (gS (gR ?_))); refine gFp underlying40 sizeOf3 1 ?_; refine gLo isAgg3 2 ?_
   refine gP rfl rfl rfl rfl rfl call65 (fun w _ hS => (by exact prem_c x.r w)) ?_
   refine gBi bGt ?_; refine gE ?_
   refine gC (fun hc => ?_) fun hc => ?_
   ·
    have h2 : x.r = 10 := by simp at hc; omega
    refine gR ?_; refine gMv ?_; refine gFp underlying40 sizeOf3 3 ?_; refine gLo isAgg3 2 ?_
    refine GoH.callCP (v := .int .i64 (at_ x.b)) (fs := []) (cs := cs) rfl rfl rfl rfl rfl hcf (fun w _ hS => hat w hS.ext x.b (.inr ⟨h2, rfl⟩)) ?_
    refine gFp underlying40 sizeOf3 3 ?_
    refine GoH.st rfl rfl rfl rfl sizeOf3 rfl 2 rfl rfl ?_
    refine gE (gS (gR ?_))
    refine GoH.v (Vop.ldB rfl rfl rfl rfl isAgg40 2 rfl sizeOf40 rfl) ?_
    refine GoH.stB rfl rfl rfl rfl sizeOf40 1 rfl rfl rfl rfl ?_
    refine gE ?_
    refine GoH.retH Tryd.f61 func61 _ (resH.cell rfl isAgg40 sizeOf40 (j := 1) rfl rfl resH.nil) (fun w' hS => ?_)
    exact ⟨hS.ext, qc, cc, spc, by rw [mvV, if_pos h1, if_pos h2]; rfl, hqc, hcapc, (NewH.of hS).sub (.cons_cons _ (List.nil_sublist _))⟩
   ·
    have h2 : ¬ x.r = 10 := by simp at hc; omega
    refine gK (gS (gR ?_))
    refine GoH.v (Vop.ldB rfl rfl rfl rfl isAgg40 2 rfl sizeOf40 rfl) ?_
    refine GoH.stB rfl rfl rfl rfl sizeOf40 1 rfl rfl rfl rfl ?_
    refine gE ?_
    refine GoH.retH Tryd.f61 func61 _ (resH.cell rfl isAgg40 sizeOf40 (j := 1) rfl rfl resH.nil) (fun w' hS => ?_)
    exact ⟨hS.ext, qc, cc, spc, by rw [mvV, if_pos h1, if_neg h2]; rfl, hqc, hcapc, (NewH.of hS).sub (.cons_cons _ (List.nil_sublist _))⟩
  ·
   have h1 : ¬ 10 ≤ x.r := by simp at hc; omega
   refine gK (gS (gS (gR ?_))); refine gFp underlying40 sizeOf3 1 ?_; refine gLo isAgg3 2 ?_
   refine gP rfl rfl rfl rfl rfl call65 (fun w _ hS => (by exact prem_c x.r w)) ?_
   refine gBi bGt ?_; refine gE ?_
   refine GoH.cond rfl (fun hc => by exfalso; simp at hc; omega) (fun _ => ?_)
   refine gK (gS (gR ?_))
   refine GoH.v (Vop.ldB rfl rfl rfl rfl isAgg40 2 rfl sizeOf40 rfl) ?_
   refine GoH.stB rfl rfl rfl rfl sizeOf40 1 rfl rfl rfl rfl ?_
   refine gE ?_
   refine GoH.retH Tryd.f61 func61 _ (resH.cell rfl isAgg40 sizeOf40 (j := 1) rfl rfl resH.nil) (fun w' hS => ?_)
   exact ⟨hS.ext, qc, cc, spc, by rw [mvV, if_neg h1, if_neg (by omega)]; rfl, hqc, hcapc, (NewH.of hS).sub (.cons_cons _ (List.nil_sublist _))⟩
end Go.Proofs.YtlihcmknfdckdaaDoor
