/- What calls of the program return, under the conditions that each theorem states. -/
import Derived.Test.YtkoipdlkkchmiaaB28
import Derived.Test.YtkoipdlkkchmiaaB30
import Derived.Test.YtkoipdlkkchmiaaB31
import Derived.Test.YtkoipdlkkchmiaaB03
namespace Go.Proofs.Ytkoipdlkkchmiaa
open Go.RowKit Go.Proofs.Wit
/-! the reference's questions on formulas; the law RewriteClosed -/
set_option maxRecDepth 8000 in
theorem rsubs_c (a : Option Addr) (ca : Nat) (f : List NV) (w : World) (ha : FA w a f) (hl : f.length ≤ maxLen) : Cn Try.prog 24 [.slice a f.length ca] w (fun v w' => ∃ gs, OwnL 49 22 w w' v gs ∧ (chkF f = 0 → gs.map FV.f = (subT (topT f)).map bT)) := by
  obtain ⟨i1, hi1, hz1, hsz1, hby1⟩ := info_parts infoNs
  refine Cn.of Try.func24 rfl rfl ?_
  refine gS (gR ?_)
  refine gAs ?_
  refine gE (gS (gR ?_))
  refine gMv ?_
  refine GoH.callM _ rfl rfl rfl rfl rfl (fun _ _ => Try.call19 _ _) (fun w _ hS => (by exact rcompact_c a ca f w (ha.ex0 hS.ext) hl)) ?_
  rintro v w1 w2 Y' hS he ho
  rw [subF_top] at ho
  obtain ⟨qc, capc, spc, rfl, hqc, hcapc, hS'⟩ := gainN hS he ho
  refine ⟨_, hS', ?_⟩
  refine gAs ?_
  refine gE (gS (gR ?_))
  refine gAs ?_
  refine gE (gS (gS (gR ?_)))
  refine gAs ?_
  refine gE (gB ?_)
  have hcl := compF_le2 f
  have hNd := compF_nodes f
  refine GoH.addNone (ob FV.v 22 [] []) ?_
  refine GoH.pick (pre' := [(qc, obN 49 (compF f) spc), (none, ob FV.v 22 [] [])]) [1, 0] (by decide) rfl ?_
  refine GoH.loop (σ := Nat × Option Nat × Nat × List FV × List Value × Hl) (fun z => [(3, osv qc (compF f).length capc), (4, osv z.2.1 z.2.2.2.1.length z.2.2.1), (5, .int .i64 z.1)])
    (fun z => [(qc, obN 49 (compF f) spc), (z.2.1, ob FV.v 22 z.2.2.2.1 z.2.2.2.2.1)] ++ z.2.2.2.2.2)
    (fun z => z.1 ≤ (compF f).length ∧ z.2.2.2.1.length = z.1 ∧ (z.2.1 = none → z.2.2.2.1.length = 0 ∧ z.2.2.1 = 0) ∧ (z.2.2.2.1.map FV.v ++ z.2.2.2.2.1).length = z.2.2.1 ∧ (∀ g ∈ z.2.2.2.1, g.In 49 z.2.2.2.2.2) ∧ z.2.2.2.1.map FV.f = (List.range z.1).map (fun k : Nat => subF (compF f) k))
    (fun z => (compF f).length - z.1) (0, none, 0, [], [], []) ⟨Nat.zero_le _, rfl, fun _ => ⟨rfl, rfl⟩, rfl, (fun _ h => by cases h), rfl⟩ ⟨rfl, rfl, rfl, trivial⟩ (List.Sublist.refl _) (fun z hI IH => ?_)
  obtain ⟨i, q, cap, gs, sp, H⟩ := z
  obtain ⟨hi, hgl, hq, hcap, hin, hgs⟩ := hI
  dsimp only at hi hgl hq hcap hin hgs IH ⊢
  refine gS (gS (gR ?_))
  iterate 2 refine gMv ?_
  refine gBl Try.underlying22 ?_
  refine gBi bLt ?_
  refine gE ?_
  refine GoH.cond rfl (fun hc => ?_) (fun hc => ?_)
  ·
   have hm : i < (compF f).length := by simp at hc; omega
   refine gK (gS (gB (gR ?_)))
   iterate 3 refine gMv ?_
   refine GoH.callM _ rfl rfl rfl rfl rfl (fun _ _ => Try.call54 _ _) (fun w _ hS => (by exact rsub_c (qc.map (fun b => ⟨b, 0, none⟩)) capc (compF f) (i : Int) w (faAt hS 0 rfl (fun e => (hqc e).1)) (by unfold maxLen; omega))) ?_
   rintro v w1 w2 Y' hS he ho
   obtain ⟨qf, capf, spf, rfl, hqf, hcapf, hS'⟩ := gainN hS he ho
   refine ⟨_, hS', ?_⟩
   refine GoH.bsN (c := [_]) rfl rfl rfl rfl Try.underlying29 Try.sizeOf22 Try.zeroValue22 rfl rfl (fun b18 => ?_)
   refine GoH.appE FV.v (news := [⟨qf.map (fun b => ⟨b, 0, none⟩), capf, subF (compF f) i⟩]) (spn := []) (xs := gs) (sp := sp) (q := q) rfl rfl rfl rfl rfl Try.underlying29 hi1 hz1 hsz1 rfl hq 3 rfl 0 rfl hcap rfl (by decide) (fun _ => rfl) (by simp [maxLen]; omega) (by simp [hby1]; omega) (fun b' sp' cap' hlen => ?_)
   refine gAs ?_
   refine gE (gIb (gR ?_))
   refine gMv ?_
   refine GoH.v (Vop.bin rfl rfl rfl rfl (bAdd (by omega)) rfl) ?_
   refine gAs ?_
   refine gE ?_
   refine GoH.pickT (pre := [_, _, _, _]) (pre' := [_, _, _]) H [2, 3, 1] (by decide) rfl ?_
   refine IH (i + 1, some b', cap', gs ++ [⟨qf.map (fun b => ⟨b, 0, none⟩), capf, subF (compF f) i⟩], sp', (qf, obN 49 (subF (compF f) i) spf) :: H) _ _ ⟨hm, by simp [hgl], (fun e => by cases e), hlen, fun g hg => ?_, ?_⟩ (by dsimp only; omega) ⟨rfl, rfl, rfl, trivial⟩ (List.Sublist.refl _)
   · rcases List.mem_append.1 hg with hg | hg
     · exact (hin g hg).mono (List.subset_cons_self _ _)
     · rw [List.mem_singleton.1 hg]; exact ⟨qf, spf, List.mem_cons_self .., rfl, hqf, hcapf⟩
   · dsimp only; rw [List.map_append, hgs, List.range_succ, List.map_append]; rfl
  ·
   have hge : ¬ i < (compF f).length := by simp at hc; omega
   obtain rfl : i = (compF f).length := by omega
   refine GoH.exit rfl (gS (gR ?_))
   refine gMv ?_
   refine gAs ?_
   refine gE ?_
   refine GoH.ret Try.f24 Try.func24 rfl (fun w' hS => ?_)
   refine ⟨hS.ext, gs, OwnL.mk hS (.cons _ (List.Sublist.refl _)) hq hcap hin, fun h0 => ?_⟩
   have hT := (chkF_zero.1 h0).top
   have hck : chkF (compF f) = 0 := chkF_zero.2 (compF_ok h0)
   rw [hgs]
   have e1 : (List.range (compF f).length).map (fun k : Nat => subF (compF f) k) = (List.range (compF f).length).map (fun k => canT (treeAt (compF f) k)) := by
     refine List.map_congr_left (fun k hk => ?_)
     rw [List.mem_range] at hk
     rw [subF, if_neg (by simp [hck]; omega)]; rfl
   rw [e1, compF_eq h0]
   rw [compF_eq h0] at hcl
   exact subs_eq hT hcl
theorem rsame_c (a : Option Addr) (ca : Nat) (f : List NV) (b : Option Addr) (cb : Nat) (g : List NV) (w : World) (ha : FA w a f) (hb : FA w b g) (hl : f.length ≤ maxLen) (hl2 : g.length ≤ maxLen) : Cn Try.prog 22 [.slice a f.length ca, .slice b g.length cb] w (fun v _ => v = .bool (sameB f g)) := by
  refine Cn.of Try.func22 rfl rfl ?_
  refine gS (gR ?_)
  refine gAs ?_
  refine gE (gS (gR ?_))
  refine gMv ?_
  refine GoH.callP rfl rfl rfl rfl rfl (fun _ _ => Try.call17 _ _) (fun w _ hS => (by exact rchk_c a ca f w (ha.ex0 hS.ext) hl)) ?_
  refine gBi bEq ?_
  refine gMv ?_
  refine GoH.cases (d := 8) rfl (fun hc => ?_) (fun hc => ?_)
  ·
   have h1 : chkF f = 0 := by simpa using hc
   refine gMv ?_
   refine GoH.callP rfl rfl rfl rfl rfl (fun _ _ => Try.call17 _ _) (fun w _ hS => (by exact rchk_c b cb g w (hb.ex0 hS.ext) hl2)) ?_
   refine gBi bEq ?_
   refine gPt ?_
   refine gMv ?_
   refine GoH.cases (d := 13) rfl (fun hc => ?_) (fun hc => ?_)
   ·
    have h2 : chkF g = 0 := by simpa using hc
    refine gMv ?_
    refine GoH.callM _ rfl rfl rfl rfl rfl (fun _ _ => Try.call19 _ _) (fun w _ hS => (by exact rcompact_c a ca f w (ha.ex0 hS.ext) hl)) ?_
    rintro v w1 w2 Y' hS he ho
    rw [subF_top] at ho
    obtain ⟨q1, cap1, sp1, rfl, hq1, hcap1, hS'⟩ := gainN hS he ho
    refine ⟨_, hS', ?_⟩
    refine gMv ?_
    refine GoH.callM _ rfl rfl rfl rfl rfl (fun _ _ => Try.call19 _ _) (fun w _ hS => (by exact rcompact_c b cb g w (hb.ex0 hS.ext) hl2)) ?_
    rintro v w1 w2 Y' hS he ho
    rw [subF_top] at ho
    obtain ⟨q2, cap2, sp2, rfl, hq2, hcap2, hS'⟩ := gainN hS he ho
    refine ⟨_, hS', ?_⟩
    refine GoH.callP rfl rfl rfl rfl rfl (fun _ _ => Try.call14 _ _) (fun w _ hS => (by exact rEqual_c (q1.map (fun b => ⟨b, 0, none⟩)) cap1 (compF f) (q2.map (fun b => ⟨b, 0, none⟩)) cap2 (compF g) w (faAt hS 1 rfl (fun e => (hq1 e).1)) (faAt hS 0 rfl (fun e => (hq2 e).1)) (by have := compF_le2 f; unfold maxLen; omega))) ?_
    refine gPt ?_
    refine gAs ?_
    refine gE ?_
    refine GoH.ret Try.f22 Try.func22 rfl (fun w' hS => ?_)
    refine ⟨hS.ext, ?_⟩
    unfold sameB
    rw [decide_eq_decide.2 (show (compF f = compF g) ↔ (chkF f = 0 ∧ chkF g = 0 ∧ compF f = compF g) from ⟨fun h => ⟨h1, h2, h⟩, fun h => h.2.2⟩)]; rfl
   ·
    have h2 : chkF g ≠ 0 := by simpa using hc
    iterate 5 refine gNo ?_
    refine gPf ?_
    refine gAs ?_
    refine gE ?_
    refine GoH.ret Try.f22 Try.func22 rfl (fun w' hS => ?_)
    exact ⟨hS.ext, by rw [sameB, decide_eq_false (fun h => h2 h.2.1)]; rfl⟩
  ·
   have h1 : chkF f ≠ 0 := by simpa using hc
   iterate 3 refine gNo ?_
   refine gPf ?_
   refine gMv ?_
   iterate 5 refine gNo ?_
   refine gPf ?_
   refine gAs ?_
   refine gE ?_
   refine GoH.ret Try.f22 Try.func22 rfl (fun w' hS => ?_)
   exact ⟨hS.ext, by rw [sameB, decide_eq_false (fun h => h1 h.1)]; rfl⟩
/-- how often a formula stands in the list that a cell holds -/
theorem at_c (bL : Nat) (x : FV) (A : Option Addr) (cA : Nat) (gs : List FV) (w : World) (hb : w.heap[bL]? = some (.cells #[.slice A gs.length cA] 29 (0, 0))) (hA : SlG w A gs) (hfa : ∀ g ∈ gs, FA w g.a g.f) (hgl : ∀ g ∈ gs, g.f.length ≤ maxLen) (hGl : gs.length ≤ maxLen) (hx : FA w x.a x.f) (hxl : x.f.length ≤ maxLen) :
    Cn Try.prog 21 [x.v, .pointer (some ⟨bL, 0, none⟩)] w (fun v _ => v = .int .i64 (cntS x.f (gs.map FV.f) : Int)) := by
  unfold maxLen at hGl
  have HB : ∀ {w' : World} {j : Nat} {v : Value}, Ex [] w w' → (#[Value.slice A gs.length cA])[j]? = some v → w'.cell? ⟨bL, j, none⟩ = some v := fun e h => Ex.cellS e (by simp) hb h
  refine Cn.of Try.func21 rfl rfl ?_
  refine gS (gR ?_)
  refine gAs ?_
  refine gE (gS (gR ?_))
  refine gAs ?_
  refine gE (gS (gS (gR ?_)))
  refine GoH.v (Vop.ld (p := ⟨bL, 0, none⟩) rfl rfl rfl rfl Try.isAgg29 (fun w _ hS => HB hS.ext rfl)) ?_
  refine gBl Try.underlying29 ?_
  refine gMv ?_
  refine gE (gB ?_)
  refine GoH.loop (σ := Nat) (fun k => [(0, x.v), (4, .int .i64 (cntS x.f ((gs.map FV.f).take k) : Int)), (7, .slice A gs.length cA), (8, .int .i64 gs.length), (9, .int .i64 k)]) (fun _ => []) (fun k => k ≤ gs.length) (fun k => gs.length - k) 0 (Nat.zero_le _) ⟨rfl, rfl, rfl, rfl, rfl, trivial⟩ .slnil (fun k hk IH => ?_)
  refine gS (gR ?_)
  refine gBi bLt ?_
  refine gE (gS ?_)
  refine GoH.cond rfl (fun hc => ?_) (fun hc => ?_)
  ·
   have hlt : k < gs.length := by simpa using hc
   have hlm : k < (gs.map FV.f).length := by simpa using hlt
   have hmem : gs[k] ∈ gs := List.getElem_mem hlt
   have hgk : (gs.map FV.f)[k] = gs[k].f := by simp
   have hcs := cntS_snoc (f := x.f) hlm
   have hcl := cntS_le (f := x.f) (gs := (gs.map FV.f).take k)
   rw [List.length_take] at hcl
   rw [hgk] at hcs
   refine gK (gS (gB (gS (gR ?_))))
   refine GoH.v (Vop.idx rfl rfl rfl rfl rfl Try.underlying29 Try.sizeOf22 ⟨_, hA⟩ (by simp) (k) ⟨rfl, by simpa using hlt⟩) ?_
   refine GoH.v (Vop.ld rfl rfl rfl rfl Try.isAgg22 (fun w _ hS => (SlG.ex0 hA hS.ext).at (k) hlt)) ?_
   refine gAs ?_
   refine gE (gS (gR ?_))
   iterate 2 refine gMv ?_
   refine GoH.callP rfl rfl rfl rfl rfl (fun _ _ => Try.call22 _ _) (fun w _ hS => (by exact rsame_c x.a x.c x.f gs[k].a gs[k].c gs[k].f w (hx.ex0 hS.ext) ((hfa _ hmem).ex0 hS.ext) hxl (hgl _ hmem))) ?_
   refine gE ?_
   refine GoH.cond rfl (fun hc => ?_) (fun hc => ?_)
   ·
    have h1 : sameB x.f gs[k].f = true := hc
    rw [if_pos h1] at hcs
    refine gR ?_
    refine gMv ?_
    refine GoH.v (Vop.bin rfl rfl rfl rfl (bAdd (by omega)) rfl) ?_
    refine gAs ?_
    refine gE (gIb (gR ?_))
    refine GoH.v (Vop.bin rfl rfl rfl rfl (bAdd (by omega)) rfl) ?_
    refine gMv ?_
    refine gE ?_
    exact IH (k + 1) _ _ hlt (by omega) ⟨rfl, by rw [hcs]; rfl, rfl, rfl, rfl, trivial⟩ .slnil
   ·
    have h1 : ¬ sameB x.f gs[k].f = true := by rw [show sameB x.f gs[k].f = false from hc]; simp
    rw [if_neg h1] at hcs
    refine gK (gIb (gR ?_))
    refine GoH.v (Vop.bin rfl rfl rfl rfl (bAdd (by omega)) rfl) ?_
    refine gMv ?_
    refine gE ?_
    exact IH (k + 1) _ _ hlt (by omega) ⟨rfl, by rw [hcs]; rfl, rfl, rfl, rfl, trivial⟩ .slnil
  ·
   have hge : ¬ k < gs.length := by simpa using hc
   obtain rfl : k = gs.length := by omega
   have htk : (gs.map FV.f).take gs.length = gs.map FV.f := by rw [show gs.length = (gs.map FV.f).length from by simp, List.take_length]
   refine GoH.exit rfl (gS (gR ?_))
   refine gMv ?_
   refine gAs ?_
   refine gE ?_
   refine GoH.ret Try.f21 Try.func21 rfl (fun w' hS => ?_)
   exact ⟨hS.ext, by rw [htk]; rfl⟩
end Go.Proofs.Ytkoipdlkkchmiaa
namespace Go.Proofs.Ytkoipdlkkchmiaa
open Go.RowKit Go.Proofs.Wit
/-! the law RewriteClosed -/
set_option maxRecDepth 8000 in
theorem closed08_c (a : Option Addr) (ca : Nat) (f : List NV) (w : World) (ha : FA w a f) (hl : f.length ≤ maxLen) : Cn Try.prog 6 [.slice a f.length ca] w (fun v _ => v = .bool true) := by
  refine Cn.of Try.func6 rfl rfl ?_
  refine gS (gR ?_)
  refine gAs ?_
  refine gE (gS (gS (gR ?_)))
  refine gMv ?_
  refine GoH.callP rfl rfl rfl rfl rfl (fun _ _ => Try.call10 _ _) (fun w _ hS => (by exact rfew_c a ca f 16 w)) ?_
  refine gUn uNot ?_
  refine gMv ?_
  refine GoH.cases (d := 15) rfl (fun hc => ?_) (fun hc => ?_)
  ·
   iterate 3 refine gNo ?_
   refine gPt ?_
   refine gE (GoH.condT rfl (gS (gR ?_)))
   refine GoH.callP rfl rfl rfl rfl rfl (fun _ _ => Try.call11 _ _) (fun w _ hS => (by exact awake08_c w)) ?_
   refine gAs ?_
   refine gE ?_
   refine GoH.ret Try.f6 Try.func6 rfl (fun w' hS => ?_)
   exact ⟨hS.ext, rfl⟩
  ·
   have hfl : f.length ≤ 16 := by simp at hc; omega
   refine gMv ?_
   refine GoH.callP rfl rfl rfl rfl rfl (fun _ _ => Try.call17 _ _) (fun w _ hS => (by exact rchk_c a ca f w (ha.ex0 hS.ext) hl)) ?_
   refine gBi bNe ?_
   refine gPf ?_
   refine gE ?_
   refine GoH.cond rfl (fun hc => ?_) (fun hc => ?_)
   ·
    refine gS (gR ?_)
    refine GoH.callP rfl rfl rfl rfl rfl (fun _ _ => Try.call11 _ _) (fun w _ hS => (by exact awake08_c w)) ?_
    refine gAs ?_
    refine gE ?_
    refine GoH.ret Try.f6 Try.func6 rfl (fun w' hS => ?_)
    exact ⟨hS.ext, rfl⟩
   ·
    have h0 : chkF f = 0 := by simpa using hc
    have hT := (chkF_zero.1 h0).top
    have hcf := clos_cf h0 (by omega : f.length ≤ 100)
    refine gK (gS (gR ?_))
    refine gMv ?_
    refine GoH.callM _ rfl rfl rfl rfl rfl (fun _ _ => Try.call20 _ _) (fun w _ hS => (by exact closure_c a ca f w (ha.ex0 hS.ext) hl)) ?_
    rintro v w1 w2 Y' hS he ⟨sv, gs, e1, rfl, ⟨q, cap, sp, H, rfl, hq, hcap, hnew, hin⟩, hcl⟩
    obtain ⟨hge, rfl⟩ := hcl.get h0 (by omega)
    refine ⟨_, hS.gainPre (pre := [_]) he hnew, ?_⟩
    have hG : ClIs 49 H gs (clos (topT f)) := ⟨hge, fun u hu => ⟨(hcf u hu).1, (hcf u hu).2.1⟩, hin⟩
    have hnd := clos_nodup (topT f)
    have hgl : gs.length ≤ 400 := by
      rw [hG.len]
      have h1 : (clos (topT f)).length ≤ 2 * (subT (topT f)).length := by
        have key : ∀ (us l : List Tr), (clF us l).length ≤ l.length + 2 * us.length := by
          intro us
          induction us with
          | nil => intro l; simp [clF]
          | cons v us ih =>
            intro l
            rw [clF, List.foldl_cons]
            have h2 := ih (addU (addU l v) (negT v))
            have ha : ∀ (l : List Tr) (t : Tr), (addU l t).length ≤ l.length + 1 := fun l t => by unfold addU; split <;> simp
            have h3 := ha (addU l v) (negT v)
            have h4 := ha l v
            unfold clF at h2
            rw [List.length_cons]; omega
        have := key (subT (topT f)) []
        simpa [clos] using this
      have h2 := compF_len h0
      rw [compF_eq h0, canT_len] at h2
      omega
    have hmax : ∀ g ∈ gs, g.f.length ≤ maxLen := fun g hg => by
      obtain ⟨u, hu, hc⟩ := hG.mem hg
      have := hc.le; unfold maxLen; omega
    obtain ⟨bq, rfl⟩ : ∃ b, q = some b := by
      cases q with
      | none =>
        have h1 := (hq rfl).1
        rw [hG.len] at h1
        have h2 := clos_self (topT f)
        rw [List.eq_nil_of_length_eq_zero h1] at h2; cases h2
      | some b => exact ⟨b, rfl⟩
    have hcnt : ∀ {b3 : Nat} {w1 : World} {h2 : Hl} {Y2 : List (Nat × Obj)} (x : FV), St w [] w1 h2 Y2 → (some b3, .cells #[.slice (some ⟨bq, 0, none⟩) gs.length cap] 29 (0, 0)) ∈ h2 → (some bq, ob FV.v 22 gs sp) ∈ h2 → H ⊆ h2 → FA w1 x.a x.f → x.f.length ≤ maxLen → chkF x.f = 0 → topT x.f ∈ clos (topT f) →
        Cn Try.prog 21 ([] ++ [x.v] ++ [.pointer (some ⟨b3, 0, none⟩)]) w1 (fun v _ => v = .int .i64 1) := fun {b3 w1 h2 Y2} x s hb hg hH hx hxl hc0 hm => by
      have h1 := (s.own _ hb b3 rfl).1
      have := at_c b3 x (some ⟨bq, 0, none⟩) cap gs w1 h1 (Sl.blk (s.own _ hg bq rfl).1) (fun g hg2 => ((hin g hg2).mono hH).at s) hmax (by unfold maxLen; omega) hx hxl
      rw [hG.cnt hnd hc0 hm] at this
      exact this
    refine gMv ?_
    iterate 2 refine gEx ?_
    refine GoH.alc rfl rfl rfl (fun _ => Try.zeroValue29 _) (fun b3 => ?_)
    refine GoH.st rfl rfl rfl rfl Try.sizeOf29 rfl 0 rfl rfl ?_
    refine gAs ?_
    refine gE (gS (gS (gR ?_)))
    refine gMv ?_
    refine GoH.v (Vop.bin rfl rfl rfl rfl (bNeV (v := false) rfl) rfl) ?_
    refine gE (GoH.condF rfl (gK (gS (gR ?_))))
    refine GoH.v (Vop.mkFunc rfl rfl rfl rfl rfl) ?_
    refine gAs ?_
    refine gE (gS (gS (gR ?_)))
    iterate 2 refine gMv ?_
    refine GoH.callCP (fs := []) (cs := [.pointer (some ⟨b3, 0, none⟩)]) rfl rfl rfl rfl rfl (fun _ _ => Try.call21 _ _) (fun w _ hS => hcnt ⟨a, ca, f⟩ hS (List.mem_cons_self ..) (List.mem_cons_of_mem _ (List.mem_cons_self ..)) (fun _ h => List.mem_cons_of_mem _ (List.mem_cons_of_mem _ h)) (ha.ex0 hS.ext) hl h0 (clos_self _)) ?_
    refine GoH.v (Vop.bin rfl rfl rfl rfl (bNeV (v := false) rfl) rfl) ?_
    refine gE (GoH.condF rfl (gK (gS (gS (gR ?_)))))
    refine gLo Try.isAgg29 0 ?_
    refine gBl Try.underlying29 ?_
    refine gMv ?_
    refine gE (gB ?_)
    refine GoH.loop (σ := Nat) (fun k => [(3, .pointer (some ⟨b3, 0, none⟩)), (5, .func (.func 21) #[] #[.pointer (some ⟨b3, 0, none⟩)]), (33, osv (some bq) gs.length cap), (34, .int .i64 gs.length), (35, .int .i64 k)]) (fun _ => [(some b3, .cells #[.slice (some ⟨bq, 0, none⟩) gs.length cap] 29 (0, 0)), (some bq, ob FV.v 22 gs sp)] ++ H) (fun k => k ≤ gs.length) (fun k => gs.length - k) 0 (Nat.zero_le _) ⟨rfl, rfl, rfl, rfl, rfl, trivial⟩ (List.Sublist.refl _) (fun k hk IH => ?_)
    refine gS (gR ?_)
    refine gBi bLt ?_
    refine gE (gS ?_)
    refine GoH.cond rfl (fun hc => ?_) (fun hc => ?_)
    ·
     have hlt : k < gs.length := by simpa using hc
     obtain ⟨x, hx⟩ : ∃ x, x = gs.getD k FV.z := ⟨_, rfl⟩
     have hxm : x ∈ gs := by rw [hx]; exact getD_in hlt
     obtain ⟨u, hu, hxc⟩ := hG.mem hxm
     have hul := (hcf u hu).2.2
     have hxl := hmax x hxm
     have hxi := hin x hxm
     refine gK (gS (gB (gS (gR ?_))))
     refine GoH.v (Vop.idxS rfl rfl rfl rfl rfl Try.underlying29 Try.sizeOf22 (k) ⟨rfl, hlt⟩) ?_
     refine GoH.v (Vop.ldE FV.v FV.z rfl rfl rfl rfl Try.isAgg22 1 rfl hlt) ?_
     refine gAs ?_
     refine gE (gS (gR ?_))
     refine gMv ?_
     refine GoH.callM _ rfl rfl rfl rfl rfl (fun _ _ => Try.call23 _ _) (fun w _ hS => (by rw [← hx]; exact negateF_c x.a x.c x.f w ((hxi.mono (List.subset_append_right [_, _] H)).at hS) hxl)) ?_
     rw [← hx]
     rintro v w1 w2 Y' hS he ⟨sv, o, e, rfl, ho, hN⟩
     obtain ⟨qn, capn, spn, rfl, hqn, hcapn, hS'⟩ := gainN hS he ho
     obtain ⟨rfl, rfl, hnc⟩ := hN.get hxc (by omega)
     have hnm := neg_neg hT hu
     refine ⟨_, hS', ?_⟩
     refine gMv ?_
     iterate 2 refine gEx ?_
     iterate 2 refine gAs ?_
     refine gE (gS (gS (gR ?_)))
     refine gMv ?_
     refine GoH.v (Vop.bin rfl rfl rfl rfl (bNeV (v := false) rfl) rfl) ?_
     iterate 3 refine gMv ?_
     refine GoH.callCP (fs := []) (cs := [.pointer (some ⟨b3, 0, none⟩)]) rfl rfl rfl rfl rfl (fun _ _ => Try.call21 _ _) (fun w _ hS => hcnt x hS (List.mem_cons_of_mem _ (List.mem_cons_self ..)) (List.mem_cons_of_mem _ (List.mem_cons_of_mem _ (List.mem_cons_self ..))) (fun _ h => List.mem_cons_of_mem _ (List.mem_cons_of_mem _ (List.mem_cons_of_mem _ h))) ((hxi.mono (List.subset_append_right [_, _, _] H)).at hS) hxl hxc.chk (by rw [hxc.top]; exact hu)) ?_
     refine GoH.v (Vop.bin rfl rfl rfl rfl (bNeV (v := false) rfl) rfl) ?_
     refine gPf ?_
     iterate 3 refine gMv ?_
     refine GoH.callCP (fs := []) (cs := [.pointer (some ⟨b3, 0, none⟩)]) rfl rfl rfl rfl rfl (fun _ _ => Try.call21 _ _) (fun w _ hS => hcnt ⟨qn.map (fun b => ⟨b, 0, none⟩), capn, bT (negT u)⟩ hS (List.mem_cons_of_mem _ (List.mem_cons_self ..)) (List.mem_cons_of_mem _ (List.mem_cons_of_mem _ (List.mem_cons_self ..))) (fun _ h => List.mem_cons_of_mem _ (List.mem_cons_of_mem _ (List.mem_cons_of_mem _ h))) (faAt hS 0 rfl (fun e => (hqn e).1)) (bT_max rfl) hnc.chk (by rw [hnc.top]; exact hnm)) ?_
     refine GoH.v (Vop.bin rfl rfl rfl rfl (bNeV (v := false) rfl) rfl) ?_
     refine gPf ?_
     refine gE (GoH.condF rfl (gK (gS (gR ?_))))
     refine gMv ?_
     refine GoH.callM _ rfl rfl rfl rfl rfl (fun _ _ => Try.call24 _ _) (fun w _ hS => (by exact rsubs_c x.a x.c x.f w ((hxi.mono (List.subset_append_right [_, _, _] H)).at hS) hxl)) ?_
     rintro v w1 w2 Y' hS he ⟨ss, ⟨qs, caps, sps, Hs, rfl, hqs, hcaps, hnews, hins⟩, hse⟩
     have hse2 := hse hxc.chk
     rw [hxc.top] at hse2
     have hSs : ClIs 49 Hs ss (subT u) := ⟨hse2, subs_cf hxc.ok (by omega), hins⟩
     have hsl : ss.length ≤ 200 := by have := hSs.len; rw [← canT_len] at this; omega
     refine ⟨_, hS.gainPre (pre := [_]) he hnews, ?_⟩
     refine gBl Try.underlying29 ?_
     refine gMv ?_
     refine gE (gB ?_)
     refine GoH.loop (σ := Nat) (fun j => [(3, .pointer (some ⟨b3, 0, none⟩)), (5, .func (.func 21) #[] #[.pointer (some ⟨b3, 0, none⟩)]), (33, osv (some bq) gs.length cap), (34, .int .i64 gs.length), (35, .int .i64 k), (59, osv qs ss.length caps), (60, .int .i64 ss.length), (61, .int .i64 j)]) (fun _ => [(qs, ob FV.v 22 ss sps), (some b3, .cells #[.slice (some ⟨bq, 0, none⟩) gs.length cap] 29 (0, 0)), (some bq, ob FV.v 22 gs sp)] ++ (H ++ Hs)) (fun j => j ≤ ss.length) (fun j => ss.length - j) 0 (Nat.zero_le _) ⟨rfl, rfl, rfl, rfl, rfl, rfl, rfl, rfl, trivial⟩ (.cons_cons _ (.cons _ (List.Sublist.refl _))) (fun j hj IH2 => ?_)
     refine gS (gR ?_)
     refine gBi bLt ?_
     refine gE (gS ?_)
     refine GoH.cond rfl (fun hc => ?_) (fun hc => ?_)
     ·
      have hltj : j < ss.length := by simpa using hc
      obtain ⟨bs, rfl⟩ : ∃ b, qs = some b := by
        cases qs with
        | none => have := (hqs rfl).1; omega
        | some b => exact ⟨b, rfl⟩
      obtain ⟨y, hy⟩ : ∃ y, y = ss.getD j FV.z := ⟨_, rfl⟩
      have hym : y ∈ ss := by rw [hy]; exact getD_in hltj
      obtain ⟨z, hz, hyc⟩ := hSs.mem hym
      have hyi := hins y hym
      have hyl : y.f.length ≤ maxLen := by have := hyc.le; unfold maxLen; omega
      refine gK (gS (gB (gS (gR ?_))))
      refine GoH.v (Vop.idxS rfl rfl rfl rfl rfl Try.underlying29 Try.sizeOf22 (j) ⟨rfl, hltj⟩) ?_
      refine GoH.v (Vop.ldE FV.v FV.z rfl rfl rfl rfl Try.isAgg22 0 rfl hltj) ?_
      refine gAs ?_
      refine gE (gS (gR ?_))
      iterate 2 refine gMv ?_
      rw [← hy]
      refine GoH.callCP (fs := []) (cs := [.pointer (some ⟨b3, 0, none⟩)]) rfl rfl rfl rfl rfl (fun _ _ => Try.call21 _ _) (fun w _ hS => hcnt y hS (List.mem_cons_of_mem _ (List.mem_cons_self ..)) (List.mem_cons_of_mem _ (List.mem_cons_of_mem _ (List.mem_cons_self ..))) (fun _ h => List.mem_append_right [_, _, _] (List.mem_append_left Hs h)) ((hyi.mono (fun _ h => List.mem_append_right [_, _, _] (List.mem_append_right H h))).at hS) hyl hyc.chk (by rw [hyc.top]; exact clos_sub hu hz)) ?_
      refine GoH.v (Vop.bin rfl rfl rfl rfl (bNeV (v := false) rfl) rfl) ?_
      refine gE (GoH.condF rfl (gK (gIb (gR ?_))))
      refine GoH.v (Vop.bin rfl rfl rfl rfl (bAdd (by omega)) rfl) ?_
      refine gMv ?_
      refine gE ?_
      exact IH2 (j + 1) _ _ hltj (by omega) ⟨rfl, rfl, rfl, rfl, rfl, rfl, rfl, rfl, trivial⟩ (List.Sublist.refl _)
     ·
      have hgej : ¬ j < ss.length := by simpa using hc
      refine GoH.exit rfl (gIb (gR ?_))
      refine GoH.v (Vop.bin rfl rfl rfl rfl (bAdd (by omega)) rfl) ?_
      refine gMv ?_
      refine gE ?_
      exact IH (k + 1) _ _ hlt (by omega) ⟨rfl, rfl, rfl, rfl, rfl, trivial⟩ (.cons _ (.cons_cons _ (.cons_cons _ (List.sublist_append_left _ _))))
    ·
     refine GoH.exit rfl (gS (gR ?_))
     refine GoH.callP rfl rfl rfl rfl rfl (fun _ _ => Try.call11 _ _) (fun w _ hS => (by exact awake08_c w)) ?_
     refine gAs ?_
     refine gE ?_
     refine GoH.ret Try.f6 Try.func6 rfl (fun w' hS => ?_)
     exact ⟨hS.ext, rfl⟩
end Go.Proofs.Ytkoipdlkkchmiaa
