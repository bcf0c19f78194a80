/- What calls of the program return, under the conditions that each theorem states. -/
import Derived.Test.YtlihcmknfdckdaaDoorR32
import Derived.Test.YtlihcmknfdckdaaDoorR05
import Derived.Test.YtlihcmknfdckdaaDoorR36
import Derived.Test.YtlihcmknfdckdaaDoorR38
import Derived.Test.YtlihcmknfdckdaaDoorR39
import Derived.Test.YtlihcmknfdckdaaDoorR04
namespace Go.Proofs.YtlihcmknfdckdaaDoor
open Go.RowKit Go.Proofs.Wit
/-! the laws HilbertMore, HilbertSound and HilbertRefuses -/
def prC (p : Int × Int) : List Value := [.int .i64 p.1, .int .i64 p.2]
set_option maxRecDepth 8000 in
theorem hilbertMore_c (A : Option Addr) (cA : Nat) (ls : List LV) (w : World) (hT : Axs w) (hA : LA w A ls) :
    Cn Tryd.prog 6 [.slice A ls.length cA] w (fun v _ => v = .bool true) := by
  refine Cn.of Tryd.func6 rfl rfl ?_
  refine gS (gR ?_); refine gAs ?_; refine gE (gS (gS (gR ?_))); refine gMv ?_
  refine GoH.callM _ rfl rfl rfl rfl rfl (fun _ _ => Tryd.call11 _ _) (fun w _ hS => (by exact gfewL_c A cA ls 20 w (by decide) (hA.ex0 hS.ext))) ?_
  rintro v w1 w2 Y' hS he ⟨b, rfl, hb⟩
  refine ⟨_, hS.later he, ?_⟩
  refine gUn uNot ?_; refine gE ?_
  refine GoH.cond rfl (fun hc => ?_) (fun hc => ?_)
  ·
   have h1 : b = false := by simpa using hc
   refine gS (gR ?_)
   refine GoH.callP rfl rfl rfl rfl rfl (fun _ _ => Tryd.call13 _ _) (fun w _ hS => (by exact awake49_c w (hT.ex hS.ext))) ?_
   refine gAs ?_; refine gE ?_
   refine GoH.ret Tryd.f6 Tryd.func6 rfl (fun w' hS => ?_)
   exact ⟨hS.ext, rfl⟩
  ·
   have h1 : b = true := by simpa using hc
   refine gK (gS (gR ?_))
   iterate 8 refine GoH.v (Vop.bld rfl rfl rfl rfl (bldA (c := [_, _]) Tryd.underlying45 Tryd.sizeOf3 Tryd.zeroValue45 rfl)) ?_
   refine GoH.bsN (c := [_, _, _, _, _, _, _, _, _, _, _, _, _, _, _, _]) rfl rfl rfl rfl Tryd.underlying46 Tryd.sizeOf45 Tryd.zeroValue45 rfl rfl (fun b18 => ?_)
   refine gAs ?_; refine gE (gS (gS (gR ?_))); refine gMv ?_; refine gBl Tryd.underlying46 ?_; refine gMv ?_; refine gE (gB ?_)
   refine GoH.loop (σ := Nat) (fun k => [(0, .slice A ls.length cA), (19, .slice (some ⟨b18, 0, none⟩) 8 8), (20, .int .i64 8), (21, .int .i64 k)])
     (fun _ => [(some b18, .cells (morePs.flatMap prC ++ []).toArray 45 (0, 0))]) (fun k => k ≤ 8) (fun k => 8 - k) 0 (Nat.zero_le _) ⟨rfl, rfl, rfl, rfl, trivial⟩ (List.Sublist.refl _) (fun k hk IH => ?_)
   refine gS (gR ?_); refine gBi bLt ?_; refine gE (gS ?_)
   refine GoH.cond rfl (fun hc => ?_) (fun hc => ?_)
   ·
    have hlt : k < 8 := by simp at hc; omega
    have hltm : k < morePs.length := hlt
    have hmem : morePs[k] ∈ morePs := List.getElem_mem hltm
    refine gK (gS (gB (gS (gR ?_))))
    refine GoH.v (Vop.idxS rfl rfl rfl rfl rfl Tryd.underlying46 Tryd.sizeOf45 (k) ⟨rfl, hlt⟩) ?_
    refine GoH.v (Vop.ldN (cs := prC morePs[k]) rfl rfl rfl rfl Tryd.isAgg45 Tryd.sizeOf45 (fun w _ hS => Sl.many (enc := prC) (sz := 2) (a := some ⟨b18, 0, none⟩) (Sl.blk (hS.get (j := 0) rfl)) (fun _ => rfl) hltm)) ?_
    refine GoH.alc rfl rfl rfl (fun _ => Tryd.zeroValue45 _) (fun b5 => ?_)
    refine GoH.stB rfl rfl rfl rfl Tryd.sizeOf45 0 rfl rfl rfl rfl ?_
    refine gE (gS (gR ?_))
    refine GoH.v (Vop.idxA rfl rfl rfl rfl rfl Tryd.underlying45 Tryd.sizeOf3 0 rfl (by decide)) ?_
    refine gLo Tryd.isAgg3 0 ?_; refine gMv ?_
    refine GoH.callP rfl rfl rfl rfl rfl (fun _ _ => Tryd.call14 _ _) (fun w _ hS => (by exact hcheck_c morePs[k].1 A cA ls w (hA.ex0 hS.ext) (hT.ex hS.ext))) ?_
    refine gBi bEq ?_; refine gMv ?_
    refine GoH.cases (d := 30) rfl (fun hc => ?_) (fun hc => ?_)
    ·
     have h0 : checkH morePs[k].1 ls = 0 := by simpa using hc
     have h2 := more_ok hmem h0
     refine GoH.v (Vop.idxA rfl rfl rfl rfl rfl Tryd.underlying45 Tryd.sizeOf3 1 rfl (by decide)) ?_
     refine gLo Tryd.isAgg3 0 ?_; refine gMv ?_
     refine GoH.callP rfl rfl rfl rfl rfl (fun _ _ => Tryd.call14 _ _) (fun w _ hS => (by exact hcheck_c morePs[k].2 A cA ls w (hA.ex0 hS.ext) (hT.ex hS.ext))) ?_
     refine gBi bNe ?_; refine gPt ?_; refine gE ?_
     refine GoH.cond rfl (fun hc => by exfalso; rw [h2] at hc; exact absurd hc (by decide)) (fun _ => ?_)
     refine gK (gIb (gR ?_))
     refine GoH.v (Vop.bin rfl rfl rfl rfl (bAdd (by omega)) rfl) ?_
     refine gMv ?_; refine gE ?_
     exact IH (k + 1) _ _ hlt (by omega) ⟨rfl, rfl, rfl, rfl, trivial⟩ (.cons _ (List.Sublist.refl _))
    ·
     skip
     iterate 5 refine gNo ?_
     refine gPf ?_; refine gE (GoH.condF rfl (gK (gIb (gR ?_))))
     refine GoH.v (Vop.bin rfl rfl rfl rfl (bAdd (by omega)) rfl) ?_
     refine gMv ?_; refine gE ?_
     exact IH (k + 1) _ _ hlt (by omega) ⟨rfl, rfl, rfl, rfl, trivial⟩ (.cons _ (List.Sublist.refl _))
   ·
    skip
    refine GoH.exit rfl (gS (gR ?_))
    refine GoH.callP rfl rfl rfl rfl rfl (fun _ _ => Tryd.call13 _ _) (fun w _ hS => (by exact awake49_c w (hT.ex hS.ext))) ?_
    refine gAs ?_; refine gE ?_
    refine GoH.ret Tryd.f6 Tryd.func6 rfl (fun w' hS => ?_)
    exact ⟨hS.ext, rfl⟩
set_option maxRecDepth 8000 in
theorem hilbertSound_c (l : Int) (A : Option Addr) (cA : Nat) (ls : List LV) (m : MV) (w : World) (hT : Axs w) (hA : LA w A ls) (hm : m.At w) :
    Cn Tryd.prog 5 [.int .i64 l, .slice A ls.length cA, m.v] w (fun v _ => v = .bool true) := by
  refine Cn.of Tryd.func5 rfl rfl ?_
  refine gS (gR ?_)
  refine GoH.bx rfl rfl rfl rfl (fun b5 => ?_)
  refine gAs ?_; refine gE (gS (gS (gR ?_))); refine gMv ?_
  refine GoH.callM _ rfl rfl rfl rfl rfl (fun _ _ => Tryd.call11 _ _) (fun w _ hS => (by exact gfewL_c A cA ls 20 w (by decide) (hA.ex0 hS.ext))) ?_
  rintro v w1 w2 Y' hS he ⟨b, rfl, hb⟩
  refine ⟨_, hS.later he, ?_⟩
  refine gUn uNot ?_; refine gMv ?_
  refine GoH.cases (d := 15) rfl (fun hc => ?_) (fun hc => ?_)
  ·
   have h1 : b = false := by simpa using hc
   iterate 3 refine gNo ?_
   refine gPt ?_; refine gMv ?_
   iterate 4 refine gNo ?_
   refine gPt ?_; refine gMv ?_
   iterate 4 refine gNo ?_
   refine gPt ?_; refine gE (GoH.condT rfl (gS (gR ?_)))
   refine GoH.callP rfl rfl rfl rfl rfl (fun _ _ => Tryd.call13 _ _) (fun w _ hS => (by exact awake49_c w (hT.ex hS.ext))) ?_
   refine gAs ?_; refine gE ?_
   refine GoH.ret Tryd.f5 Tryd.func5 rfl (fun w' hS => ?_)
   exact ⟨hS.ext, rfl⟩
  ·
   have h1 : b = true := by simpa using hc
   refine GoH.v (Vop.ldB rfl rfl rfl rfl Tryd.isAgg35 0 rfl Tryd.sizeOf35 rfl) ?_
   refine GoH.callM _ rfl rfl rfl rfl rfl (fun _ _ => Tryd.call20 _ _) (fun w _ hS => (by exact few_c m 8 w (hm.ex0 hS.ext))) ?_
   rintro v w1 w2 Y' hS he ⟨b2, rfl⟩
   refine ⟨_, hS.later he, ?_⟩
   refine gUn uNot ?_; refine gPf ?_; refine gMv ?_
   refine GoH.cases (d := 20) rfl (fun hc => ?_) (fun hc => ?_)
   ·
    have h2 : b2 = false := by simpa using hc
    iterate 4 refine gNo ?_
    refine gPt ?_; refine gMv ?_
    iterate 4 refine gNo ?_
    refine gPt ?_; refine gE (GoH.condT rfl (gS (gR ?_)))
    refine GoH.callP rfl rfl rfl rfl rfl (fun _ _ => Tryd.call13 _ _) (fun w _ hS => (by exact awake49_c w (hT.ex hS.ext))) ?_
    refine gAs ?_; refine gE ?_
    refine GoH.ret Tryd.f5 Tryd.func5 rfl (fun w' hS => ?_)
    exact ⟨hS.ext, rfl⟩
   ·
    have h2 : b2 = true := by simpa using hc
    refine GoH.v (Vop.ldB rfl rfl rfl rfl Tryd.isAgg35 0 rfl Tryd.sizeOf35 rfl) ?_
    refine gMv ?_
    refine GoH.callP rfl rfl rfl rfl rfl (fun _ _ => Tryd.call21 _ _) (fun w _ hS => (by exact rIn15_c m l w (hm.ex0 hS.ext))) ?_
    refine gUn uNot ?_; refine gPf ?_; refine gMv ?_
    refine GoH.cases (d := 26) rfl (fun hc => ?_) (fun hc => ?_)
    ·
     have h3 : inM m.n m.val m.rel l = false := by simpa using hc
     iterate 4 refine gNo ?_
     refine gPt ?_; refine gE (GoH.condT rfl (gS (gR ?_)))
     refine GoH.callP rfl rfl rfl rfl rfl (fun _ _ => Tryd.call13 _ _) (fun w _ hS => (by exact awake49_c w (hT.ex hS.ext))) ?_
     refine gAs ?_; refine gE ?_
     refine GoH.ret Tryd.f5 Tryd.func5 rfl (fun w' hS => ?_)
     exact ⟨hS.ext, rfl⟩
    ·
     have h3 : inM m.n m.val m.rel l = true := by simpa using hc
     iterate 2 refine gMv ?_
     refine GoH.callP rfl rfl rfl rfl rfl (fun _ _ => Tryd.call14 _ _) (fun w _ hS => (by exact hcheck_c l A cA ls w (hA.ex0 hS.ext) (hT.ex hS.ext))) ?_
     refine gBi bNe ?_; refine gPf ?_; refine gE ?_
     refine GoH.cond rfl (fun hc => ?_) (fun hc => ?_)
     ·
      have h4 : checkH l ls ≠ 0 := by simpa using hc
      refine gS (gR ?_)
      refine GoH.callP rfl rfl rfl rfl rfl (fun _ _ => Tryd.call13 _ _) (fun w _ hS => (by exact awake49_c w (hT.ex hS.ext))) ?_
      refine gAs ?_; refine gE ?_
      refine GoH.ret Tryd.f5 Tryd.func5 rfl (fun w' hS => ?_)
      exact ⟨hS.ext, rfl⟩
     ·
      have h4 : checkH l ls = 0 := by simpa using hc
      have hvm : ValM m.n m.val m.rel := checkM_zero.1 (inM_true.1 h3).2.1
      obtain ⟨n, hn⟩ : ∃ n : Nat, m.n = n := ⟨m.n.toNat, by have := hvm.n1; omega⟩
      have hv : ValM (n : Int) m.val m.rel := hn ▸ hvm
      have hn64 : n ≤ 64 := by have := hv.n64; omega
      have hF : FrK (kmOf hv) l := frK_of hv (hn ▸ h3)
      refine gK (gS (gR ?_)); refine gFp Tryd.underlying35 Tryd.sizeOf3 0 ?_
      refine GoH.v (Vop.ldo (v := .int .i64 m.n) rfl rfl rfl rfl Tryd.isAgg3 0 rfl rfl) ?_
      refine GoH.callP rfl rfl rfl rfl rfl (fun _ _ => Tryd.call22 _ _) (fun w _ hS => (by have := rmAll_c n w hn64; rw [← hn] at this; exact this)) ?_
      refine gAs ?_; refine gE (gS (gS (gR ?_))); refine gMv ?_; refine gBl Tryd.underlying22 ?_; refine gMv ?_; refine gE (gB ?_)
      refine GoH.loop (σ := Nat) (fun k => [(7, U (allW n)), (5, .pointer (some ⟨b5, 0, none⟩)), (36, .slice A ls.length cA), (37, .int .i64 ls.length), (38, .int .i64 k)])
        (fun _ => [(some b5, .cells m.v.cells 35 (0, 0))]) (fun k => k ≤ ls.length) (fun k => ls.length - k) 0 (Nat.zero_le _) ⟨rfl, rfl, rfl, rfl, rfl, trivial⟩ (List.Sublist.refl _) (fun k hk IH => ?_)
      refine gS (gR ?_); refine gBi bLt ?_; refine gE (gS ?_)
      refine GoH.cond rfl (fun hc => ?_) (fun hc => ?_)
      ·
       have hlt : k < ls.length := by simpa using hc
       obtain ⟨hfa, hla⟩ := hA.fs ls[k] (List.getElem_mem hlt)
       have hfm := line_form h4 k hlt
       have hll : ls.length ≤ 400 := (checkH_zero.1 h4).2.2.1
       refine gK (gS (gB (gS (gR ?_))))
       refine GoH.v (Vop.idxN rfl rfl rfl rfl rfl Tryd.underlying22 Tryd.sizeOf40 ⟨_, (hA).at_⟩ (flat_len (enc := LV.cells) (sz := 5) (fun _ => rfl)) (by decide) (k) ⟨rfl, hlt⟩) ?_
       refine GoH.v (Vop.ldN (cs := LV.cells ls[k]) rfl rfl rfl rfl Tryd.isAgg40 Tryd.sizeOf40 (fun w _ hS => Sl.many (enc := LV.cells) (sz := 5) (hA.ex0 hS.ext).at_ (fun _ => rfl) hlt)) ?_
       refine GoH.alc rfl rfl rfl (fun _ => Tryd.zeroValue40 _) (fun b9 => ?_)
       refine GoH.stB rfl rfl rfl rfl Tryd.sizeOf40 0 rfl rfl rfl rfl ?_
       refine gE (gS (gS (gR ?_))); refine gFp Tryd.underlying40 Tryd.sizeOf23 0 ?_; refine gLo Tryd.isAgg23 0 ?_; refine gFp Tryd.underlying35 Tryd.sizeOf33 2 ?_
       refine GoH.v (Vop.ldo (v := .slice m.ra m.rows.length m.rc) rfl rfl rfl rfl Tryd.isAgg33 1 rfl rfl) ?_
       refine gBl Tryd.underlying33 ?_; refine gFp Tryd.underlying35 Tryd.sizeOf32 1 ?_
       refine GoH.v (Vop.ldo (v := .slice m.va m.val.length m.vc) rfl rfl rfl rfl Tryd.isAgg32 1 rfl rfl) ?_
       refine gBl Tryd.underlying32 ?_
       refine GoH.callP rfl rfl rfl rfl rfl (fun _ _ => Tryd.call23 _ _) (fun w _ hS => (by exact rfitsF_c ls[k].f.a ls[k].f.c ls[k].f.f m.rows.length m.val.length w (hfa.ex0 hS.ext) hla)) ?_
       refine gUn uNot ?_; refine gE ?_
       refine GoH.cond rfl (fun hc => ?_) (fun hc => ?_)
       ·
        have h5 : fitB ls[k].f.f m.rows.length m.val.length = false := by simpa using hc
        refine GoH.exit rfl (gR ?_)
        refine GoH.v (Vop.bin rfl rfl rfl rfl (bAdd (by omega)) rfl) ?_
        refine gMv ?_; refine gE ?_
        exact IH (k + 1) _ _ hlt (by omega) ⟨rfl, rfl, rfl, rfl, rfl, trivial⟩ (.cons _ (List.Sublist.refl _))
       ·
        have h5 : fitB ls[k].f.f m.rows.length m.val.length = true := by simpa using hc
        have hrl : m.rel.length = m.rows.length := List.length_map ..
        have hE : holdE m.n m.val m.rel ls[k].f.f = 0 := hold_form hvm hfm (by rw [hrl]; exact h5)
        have hS1 : holdS m n ls[k].f.f = allW n := by
          rw [holdS, if_pos hE]
          exact sem_all hv hfm (by rw [← hn]; exact hE) (sound hF h4 k hlt)
        refine gK (gS (gR ?_))
        refine GoH.v (Vop.ldB rfl rfl rfl rfl Tryd.isAgg35 1 rfl Tryd.sizeOf35 rfl) ?_
        refine gFp Tryd.underlying40 Tryd.sizeOf23 0 ?_; refine gLo Tryd.isAgg23 0 ?_
        refine GoH.callM _ rfl rfl rfl rfl rfl (fun _ _ => Tryd.call24 _ _) (fun w _ hS => (by exact wHolds_c m n ls[k].f.a ls[k].f.c ls[k].f.f w (hm.ex0 hS.ext) hn (hfa.ex0 hS.ext) hla)) ?_
        rintro v w1 w2 Y' hS he rfl
        refine ⟨_, hS.later he, ?_⟩
        rw [hE, hS1]
        refine gMv ?_
        iterate 2 refine gEx ?_
        iterate 2 refine gAs ?_
        refine gE (gS (gR ?_)); refine gMv ?_
        refine GoH.v (Vop.bin rfl rfl rfl rfl (bNeV (v := false) rfl) rfl) ?_
        iterate 3 refine gMv ?_
        refine gBi bNeU ?_; refine gPf ?_; refine gE ?_
        refine GoH.cond rfl (fun hc => by exfalso; simp at hc) (fun _ => ?_)
        refine gK (gIb (gR ?_))
        refine GoH.v (Vop.bin rfl rfl rfl rfl (bAdd (by omega)) rfl) ?_
        refine gMv ?_; refine gE ?_
        exact IH (k + 1) _ _ hlt (by omega) ⟨rfl, rfl, rfl, rfl, rfl, trivial⟩ (.cons _ (List.Sublist.refl _))
      ·
       skip
       refine GoH.exit rfl (gS (gR ?_))
       refine GoH.callP rfl rfl rfl rfl rfl (fun _ _ => Tryd.call13 _ _) (fun w _ hS => (by exact awake49_c w (hT.ex hS.ext))) ?_
       refine gAs ?_; refine gE ?_
       refine GoH.ret Tryd.f5 Tryd.func5 rfl (fun w' hS => ?_)
       exact ⟨hS.ext, rfl⟩
set_option maxRecDepth 8000 in
theorem hilbertRefuses_c (l : Int) (A : Option Addr) (cA : Nat) (ls : List LV) (m : MV) (w : World) (hT : Axs w) (hA : LA w A ls) (hm : m.At w) :
    Cn Tryd.prog 7 [.int .i64 l, .slice A ls.length cA, m.v] w (fun v _ => v = .bool true) := by
  refine Cn.of Tryd.func7 rfl rfl ?_
  refine gS (gR ?_)
  refine GoH.bx rfl rfl rfl rfl (fun b5 => ?_)
  refine gAs ?_; refine gE (gS (gS (gR ?_))); refine gMv ?_
  refine GoH.callM _ rfl rfl rfl rfl rfl (fun _ _ => Tryd.call11 _ _) (fun w _ hS => (by exact gfewL_c A cA ls 12 w (by decide) (hA.ex0 hS.ext))) ?_
  rintro v w1 w2 Y' hS he ⟨b, rfl, hb⟩
  refine ⟨_, hS.later he, ?_⟩
  refine gUn uNot ?_; refine gMv ?_
  refine GoH.cases (d := 13) rfl (fun hc => ?_) (fun hc => ?_)
  ·
   have h1 : b = false := by simpa using hc
   iterate 3 refine gNo ?_
   refine gPt ?_; refine gMv ?_
   iterate 3 refine gNo ?_
   refine gPt ?_; refine gMv ?_
   iterate 4 refine gNo ?_
   refine gPt ?_; refine gE (GoH.condT rfl (gS (gR ?_)))
   refine GoH.callP rfl rfl rfl rfl rfl (fun _ _ => Tryd.call13 _ _) (fun w _ hS => (by exact awake49_c w (hT.ex hS.ext))) ?_
   refine gAs ?_; refine gE ?_
   refine GoH.ret Tryd.f7 Tryd.func7 rfl (fun w' hS => ?_)
   exact ⟨hS.ext, rfl⟩
  ·
   have h1 : b = true := by simpa using hc
   have hll := (hb h1).1
   refine gMv ?_; refine gBl Tryd.underlying22 ?_; refine gBi bEq ?_; refine gPf ?_; refine gMv ?_
   refine GoH.cases (d := 18) rfl (fun hc => ?_) (fun hc => ?_)
   ·
    have h2 : ls.length = 0 := by simpa using hc
    iterate 3 refine gNo ?_
    refine gPt ?_; refine gMv ?_
    iterate 4 refine gNo ?_
    refine gPt ?_; refine gE (GoH.condT rfl (gS (gR ?_)))
    refine GoH.callP rfl rfl rfl rfl rfl (fun _ _ => Tryd.call13 _ _) (fun w _ hS => (by exact awake49_c w (hT.ex hS.ext))) ?_
    refine gAs ?_; refine gE ?_
    refine GoH.ret Tryd.f7 Tryd.func7 rfl (fun w' hS => ?_)
    exact ⟨hS.ext, rfl⟩
   ·
    have h2 : ¬ ls.length = 0 := by simpa using hc
    refine GoH.v (Vop.ldB rfl rfl rfl rfl Tryd.isAgg35 0 rfl Tryd.sizeOf35 rfl) ?_
    refine GoH.callM _ rfl rfl rfl rfl rfl (fun _ _ => Tryd.call20 _ _) (fun w _ hS => (by exact few_c m 6 w (hm.ex0 hS.ext))) ?_
    rintro v w1 w2 Y' hS he ⟨b2, rfl⟩
    refine ⟨_, hS.later he, ?_⟩
    refine gUn uNot ?_; refine gPf ?_; refine gMv ?_
    refine GoH.cases (d := 23) rfl (fun hc => ?_) (fun hc => ?_)
    ·
     have h3 : b2 = false := by simpa using hc
     iterate 4 refine gNo ?_
     refine gPt ?_; refine gE (GoH.condT rfl (gS (gR ?_)))
     refine GoH.callP rfl rfl rfl rfl rfl (fun _ _ => Tryd.call13 _ _) (fun w _ hS => (by exact awake49_c w (hT.ex hS.ext))) ?_
     refine gAs ?_; refine gE ?_
     refine GoH.ret Tryd.f7 Tryd.func7 rfl (fun w' hS => ?_)
     exact ⟨hS.ext, rfl⟩
    ·
     have h3 : b2 = true := by simpa using hc
     refine GoH.v (Vop.ldB rfl rfl rfl rfl Tryd.isAgg35 0 rfl Tryd.sizeOf35 rfl) ?_
     refine gMv ?_
     refine GoH.callP rfl rfl rfl rfl rfl (fun _ _ => Tryd.call21 _ _) (fun w _ hS => (by exact rIn15_c m l w (hm.ex0 hS.ext))) ?_
     refine gUn uNot ?_; refine gPf ?_; refine gE ?_
     refine GoH.cond rfl (fun hc => ?_) (fun hc => ?_)
     ·
      have h4 : inM m.n m.val m.rel l = false := by simpa using hc
      refine gS (gR ?_)
      refine GoH.callP rfl rfl rfl rfl rfl (fun _ _ => Tryd.call13 _ _) (fun w _ hS => (by exact awake49_c w (hT.ex hS.ext))) ?_
      refine gAs ?_; refine gE ?_
      refine GoH.ret Tryd.f7 Tryd.func7 rfl (fun w' hS => ?_)
      exact ⟨hS.ext, rfl⟩
     ·
      have h4 : inM m.n m.val m.rel l = true := by simpa using hc
      have hvm : ValM m.n m.val m.rel := checkM_zero.1 (inM_true.1 h4).2.1
      obtain ⟨n, hn⟩ : ∃ n : Nat, m.n = n := ⟨m.n.toNat, by have := hvm.n1; omega⟩
      have hv : ValM (n : Int) m.val m.rel := hn ▸ hvm
      have hn64 : n ≤ 64 := by have := hv.n64; omega
      have hF : FrK (kmOf hv) l := frK_of hv (hn ▸ h4)
      have hlt : ls.length - 1 < ls.length := by omega
      obtain ⟨hfa, hla⟩ := hA.fs ls[ls.length - 1] (List.getElem_mem hlt)
      refine gK (gS (gR ?_))
      iterate 2 refine gMv ?_
      refine gBl Tryd.underlying22 ?_
      refine GoH.v (Vop.bin rfl rfl rfl rfl (bSubE (c := ((ls.length - 1 : Nat) : Int)) (by omega) (by omega)) rfl) ?_
      refine GoH.v (Vop.idxN rfl rfl rfl rfl rfl Tryd.underlying22 Tryd.sizeOf40 ⟨_, (hA).at_⟩ (flat_len (enc := LV.cells) (sz := 5) (fun _ => rfl)) (by decide) ((ls.length - 1)) ⟨rfl, hlt⟩) ?_
      refine GoH.v (Vop.fldA rfl rfl rfl rfl Tryd.underlying40 rfl Tryd.sizeOf23 (((ls.length - 1)) * 5 + 0) rfl) ?_
      refine GoH.v (Vop.ld rfl rfl rfl rfl Tryd.isAgg23 (fun w _ hS => Sl.fld (enc := LV.cells) (sz := 5) ((hA).ex0 hS.ext).at_ (fun _ => rfl) hlt rfl)) ?_
      refine gAs ?_; refine gE (gS (gR ?_))
      refine GoH.v (Vop.ldB rfl rfl rfl rfl Tryd.isAgg35 0 rfl Tryd.sizeOf35 rfl) ?_
      refine gMv ?_
      refine GoH.callP rfl rfl rfl rfl rfl (fun _ _ => Tryd.call24 _ _) (fun w _ hS => (by exact wHolds_c m n ls[ls.length - 1].f.a ls[ls.length - 1].f.c ls[ls.length - 1].f.f w (hm.ex0 hS.ext) hn (hfa.ex0 hS.ext) hla)) ?_
      refine gMv ?_
      iterate 2 refine gEx ?_
      iterate 2 refine gAs ?_
      refine gE (gS (gS (gR ?_))); refine gMv ?_; refine gBi bNe ?_; refine gMv ?_
      refine GoH.cases (d := 45) rfl (fun hc => ?_) (fun hc => ?_)
      ·
       have h5 : holdE m.n m.val m.rel ls[ls.length - 1].f.f ≠ 0 := by simpa using hc
       iterate 5 refine gNo ?_
       refine gPt ?_; refine gE (GoH.condT rfl (gS (gR ?_)))
       refine GoH.callP rfl rfl rfl rfl rfl (fun _ _ => Tryd.call13 _ _) (fun w _ hS => (by exact awake49_c w (hT.ex hS.ext))) ?_
       refine gAs ?_; refine gE ?_
       refine GoH.ret Tryd.f7 Tryd.func7 rfl (fun w' hS => ?_)
       exact ⟨hS.ext, rfl⟩
      ·
       have h5 : holdE m.n m.val m.rel ls[ls.length - 1].f.f = 0 := by simpa using hc
       refine gMv ?_; refine gFp Tryd.underlying35 Tryd.sizeOf3 0 ?_
       refine GoH.v (Vop.ldo (v := .int .i64 m.n) rfl rfl rfl rfl Tryd.isAgg3 0 rfl rfl) ?_
       refine GoH.callP rfl rfl rfl rfl rfl (fun _ _ => Tryd.call22 _ _) (fun w _ hS => (by have := rmAll_c n w hn64; rw [← hn] at this; exact this)) ?_
       refine gBi bEqU ?_; refine gPf ?_; refine gE ?_
       refine GoH.cond rfl (fun hc => ?_) (fun hc => ?_)
       ·
        have h6 : holdS m n ls[ls.length - 1].f.f = allW n := by simpa using hc
        refine gS (gR ?_)
        refine GoH.callP rfl rfl rfl rfl rfl (fun _ _ => Tryd.call13 _ _) (fun w _ hS => (by exact awake49_c w (hT.ex hS.ext))) ?_
        refine gAs ?_; refine gE ?_
        refine GoH.ret Tryd.f7 Tryd.func7 rfl (fun w' hS => ?_)
        exact ⟨hS.ext, rfl⟩
       ·
        have h6 : holdS m n ls[ls.length - 1].f.f ≠ allW n := by simpa using hc
        have h7 : ¬ checkH l ls = 0 := fun h => by
          refine h6 ?_
          rw [holdS, if_pos h5]
          exact sem_all hv (line_form h _ hlt) (by rw [← hn]; exact h5) (sound hF h _ hlt)
        refine gK (gS (gR ?_))
        iterate 3 refine gMv ?_
        refine GoH.callP rfl rfl rfl rfl rfl (fun _ _ => Tryd.call16 _ _) (fun w _ hS => (by exact hproves_c l A cA ls ls[ls.length - 1].f.a ls[ls.length - 1].f.c ls[ls.length - 1].f.f w (hA.ex0 hS.ext) (hT.ex hS.ext) (hfa.ex0 hS.ext) hla)) ?_
        rw [show (decide (checkH l ls = 0) && sameB ((ls.map (fun x => x.f.f)).getD (ls.length - 1) []) ls[ls.length - 1].f.f) = false from by rw [decide_eq_false h7]; rfl]
        refine gUn uNot ?_; refine gMv ?_
        refine GoH.callP rfl rfl rfl rfl rfl (fun _ _ => Tryd.call13 _ _) (fun w _ hS => (by exact awake49_c w (hT.ex hS.ext))) ?_
        refine gPt ?_; refine gAs ?_; refine gE ?_
        refine GoH.ret Tryd.f7 Tryd.func7 rfl (fun w' hS => ?_)
        exact ⟨hS.ext, rfl⟩
end Go.Proofs.YtlihcmknfdckdaaDoor
