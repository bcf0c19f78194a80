/- What calls of the program return, under the conditions that each theorem states. -/
import Derived.Test.YtkoipdlkkchmiaaF22
import Derived.Test.YtkoipdlkkchmiaaF23
import Derived.Test.YtkoipdlkkchmiaaF03
namespace Go.Proofs.Ytkoipdlkkchmiaa
open Go.RowKit Go.Proofs.Wit
/-! lists of formulas: searches, subformulas, closures -/
theorem ixN_c {gf : FuncId} (cs : List Value) (p : FV → Bool) (hcf : ∀ args w, (callFunc gf args).run Try.prog w = .ok (.enter gf args) w) (a : Option Addr) (ca : Nat) (xs : List FV) (w : World) (ha : SlG w a xs) (hl : xs.length ≤ maxLen)
    (hf : ∀ w', Ex [] w w' → ∀ x ∈ xs, Cn Try.prog gf ([x.v] ++ cs) w' (fun v _ => v = .bool (p x))) :
    Cn Try.prog 111 [.slice a xs.length ca, .func (.func gf) ([] : List Value).toArray cs.toArray] w (fun v _ => ∃ j : Int, v = .int .i64 j ∧ ((j = -1 ∧ ∀ x ∈ xs, p x = false) ∨ ∃ (k : Nat) (x : FV), j = k ∧ xs[k]? = some x ∧ p x = true ∧ ∀ i y, i < k → xs[i]? = some y → p y = false)) := by
  have hl' := hl
  unfold maxLen at hl'
  refine Cn.of Try.func111 rfl rfl ?_
  refine gS (gR ?_)
  refine gAs ?_
  refine gE (gS (gS (gR ?_)))
  refine gMv ?_
  refine gBl Try.underlying29 ?_
  refine gMv ?_
  refine gE (gB ?_)
  refine GoH.loop (σ := Nat) (fun k => [(0, .slice a xs.length ca), (1, .func (.func gf) ([] : List Value).toArray cs.toArray), (7, .int .i64 xs.length), (8, .int .i64 k)]) (fun _ => [])
    (fun k => k ≤ xs.length ∧ ∀ i y, i < k → xs[i]? = some y → p y = false) (fun k => xs.length - k) 0 ⟨Nat.zero_le _, fun i y hi => by omega⟩ ⟨rfl, rfl, rfl, rfl, trivial⟩ .slnil (fun k hI IH => ?_)
  obtain ⟨hk, hno⟩ := hI
  refine gS (gR ?_)
  refine gBi bLt ?_
  refine gE (gS ?_)
  refine GoH.cond rfl (fun hc => ?_) (fun hc => ?_)
  ·
   have hlt : k < xs.length := by simpa using hc
   refine gK (gS (gB (gS (gR ?_))))
   refine gMv ?_
   refine gAs ?_
   refine gE (gS (gR ?_))
   iterate 3 refine gMv ?_
   refine GoH.v (Vop.idx rfl rfl rfl rfl rfl Try.underlying29 Try.sizeOf22 ⟨_, ha⟩ (by simp) (k) ⟨rfl, by simpa using hlt⟩) ?_
   refine GoH.v (Vop.ld rfl rfl rfl rfl Try.isAgg22 (fun w _ hS => (SlG.ex0 ha hS.ext).at (k) hlt)) ?_
   refine GoH.callCP (fs := []) rfl rfl rfl rfl rfl hcf (fun w _ hS => hf w hS.ext _ (List.getElem_mem hlt)) ?_
   refine gE ?_
   refine GoH.cond rfl (fun hc => ?_) (fun hc => ?_)
   ·
    refine gS (gR ?_)
    refine gMv ?_
    refine gAs ?_
    refine gE ?_
    refine GoH.ret Try.f111 Try.func111 rfl (fun w' hS => ?_)
    exact ⟨hS.ext, _, rfl, .inr ⟨k, xs[k], rfl, List.getElem?_eq_getElem hlt, hc, hno⟩⟩
   ·
    refine gK (gIb (gR ?_))
    refine GoH.v (Vop.bin rfl rfl rfl rfl (bAdd (by omega)) rfl) ?_
    refine gMv ?_
    refine gE ?_
    exact IH (k + 1) _ _ ⟨hlt, fun i y hi hy => by
    by_cases e : i = k
    · subst e; rw [List.getElem?_eq_getElem hlt] at hy; cases hy; exact hc
    · exact hno i y (by omega) hy⟩ (by omega) ⟨rfl, rfl, rfl, rfl, trivial⟩ .slnil
  ·
   have hge : ¬ k < xs.length := by simpa using hc
   obtain rfl : k = xs.length := by omega
   refine GoH.exit rfl (gS (gR ?_))
   refine gAs ?_
   refine gE ?_
   refine GoH.ret Try.f111 Try.func111 rfl (fun w' hS => ?_)
   exact ⟨hS.ext, _, rfl, .inl ⟨rfl, fun x hx => by
   obtain ⟨i, hi, e⟩ := List.mem_iff_getElem.1 hx
   exact hno i x hi (by rw [List.getElem?_eq_getElem hi, e])⟩⟩
theorem cfN_c {gf : FuncId} (cs : List Value) (p : FV → Bool) (hcf : ∀ args w, (callFunc gf args).run Try.prog w = .ok (.enter gf args) w) (a : Option Addr) (ca : Nat) (xs : List FV) (w : World) (ha : SlG w a xs) (hl : xs.length ≤ maxLen)
    (hf : ∀ w', Ex [] w w' → ∀ x ∈ xs, Cn Try.prog gf ([x.v] ++ cs) w' (fun v _ => v = .bool (p x))) :
    Cn Try.prog 56 [.slice a xs.length ca, .func (.func gf) ([] : List Value).toArray cs.toArray] w (fun v _ => v = .bool (xs.any p)) := by
  refine Cn.of Try.func56 rfl rfl ?_
  refine gS (gR ?_)
  refine gAs ?_
  refine gE (gS (gR ?_))
  iterate 2 refine gMv ?_
  refine GoH.callM _ rfl rfl rfl rfl rfl (fun _ _ => Try.call111 _ _) (fun w _ hS => ixN_c cs p hcf a ca xs w (ha.ex0 hS.ext) hl (fun w' he => hf w' (hS.ext.trans he (by simp)))) ?_
  rintro v w1 w2 Y' hS he ⟨j, rfl, hj⟩
  refine ⟨_, hS.later he, ?_⟩
  refine gBi bGe ?_
  refine gAs ?_
  refine gE ?_
  refine GoH.ret Try.f56 Try.func56 rfl (fun w' hS => ?_)
  exact ⟨hS.ext, by rw [any_of_ix hj]; rfl⟩
/-- whether a formula is the one that a cell holds -/
theorem same_c (bG : Nat) (x y : FV) (w : World) (hb : w.heap[bG]? = some (.cells #[x.v] 22 (0, 0))) (hx : FA w x.a x.f) (hy : FA w y.a y.f) (hl : x.f.length ≤ maxLen) : Cn Try.prog 57 [y.v, .pointer (some ⟨bG, 0, none⟩)] w (fun v _ => v = .bool (decide (x.f = y.f))) := by
  have HB : ∀ {w' : World} {j : Nat} {v : Value}, Ex [] w w' → (#[x.v])[j]? = some v → w'.cell? ⟨bG, j, none⟩ = some v := fun e h => Ex.cellS e (by simp) hb h
  refine Cn.of Try.func57 rfl rfl ?_
  refine gS (gR ?_)
  refine gAs ?_
  refine gE (gS (gR ?_))
  refine GoH.v (Vop.ld (p := ⟨bG, 0, none⟩) rfl rfl rfl rfl Try.isAgg22 (fun w _ hS => HB hS.ext rfl)) ?_
  refine gMv ?_
  refine GoH.callP rfl rfl rfl rfl rfl (fun _ _ => Try.call58 _ _) (fun w _ hS => (by exact sEqual_c x.a x.c x.f y.a y.c y.f w (hx.ex0 hS.ext) (hy.ex0 hS.ext) hl)) ?_
  refine gAs ?_
  refine gE ?_
  refine GoH.ret Try.f57 Try.func57 rfl (fun w' hS => ?_)
  exact ⟨hS.ext, rfl⟩
theorem add_cs (bL : Nat) (q : Option Nat) (cap : Nat) (gs : List FV) (sp : List Value) (x : FV) (w : World) (hh : HasH w (clH 29 22 bL q cap gs sp)) (hq : q = none → gs.length = 0 ∧ cap = 0) (hcap : (gs.map FV.v ++ sp).length = cap) (hgl : gs.length ≤ 1000) (hxl : x.f.length ≤ maxLen)
    (hx : FAS (blks (clH 29 22 bL q cap gs sp)) w x.a x.f) (hgs : ∀ g ∈ gs, FAS (blks (clH 29 22 bL q cap gs sp)) w g.a g.f) :
    CnS Try.prog 55 [x.v, .pointer (some ⟨bL, 0, none⟩)] w (clH 29 22 bL q cap gs sp) (fun _ h' => ∃ q' cap' sp', h' = clH 29 22 bL q' cap' (addG gs x) sp' ∧ (q' = none → (addG gs x).length = 0 ∧ cap' = 0) ∧ ((addG gs x).map FV.v ++ sp').length = cap') := by
  obtain ⟨i1, hi1, hz1, hsz1, hby1⟩ := info_parts infoNs
  refine CnS.of hh Try.func55 rfl rfl ?_
  refine gS (gR ?_)
  refine GoH.bx rfl rfl rfl rfl (fun b2 => ?_)
  refine gE (gS (gR ?_))
  refine gLo Try.isAgg29 1 ?_
  refine GoH.v (Vop.mkFunc rfl rfl rfl rfl rfl) ?_
  refine GoH.callP rfl rfl rfl rfl rfl (fun _ _ => Try.call56 _ _) (fun w _ hS => (by exact cfN_c [.pointer (some ⟨b2, 0, none⟩)] (fun y => decide (x.f = y.f)) (fun _ _ => Try.call57 _ _) (q.map (fun b => ⟨b, 0, none⟩)) cap gs w ((InS.at (fun e => (hq e).1) (List.mem_cons_of_mem _ (List.mem_cons_of_mem _ (List.mem_cons_self ..)))).sl hS) (by unfold maxLen; omega) (fun w' he y hy => same_c b2 x y w' (he.keep (hS.get (j := 0) rfl)) ((hx.ex0 hS.ext).fa.ex0 he) (((hgs y hy).ex0 hS.ext).fa.ex0 he) hxl))) ?_
  refine gUn uNot ?_
  refine gE ?_
  refine GoH.cond rfl (fun hc => ?_) (fun hc => ?_)
  ·
   have hn : gs.any (fun y => decide (x.f = y.f)) = false := by simpa using hc
   have ha : addG gs x = gs ++ [x] := if_neg (by rw [hn]; simp)
   refine gR ?_
   refine gLo Try.isAgg29 1 ?_
   refine gLo Try.isAgg22 0 ?_
   refine GoH.bsN (c := [_]) rfl rfl rfl rfl Try.underlying29 Try.sizeOf22 Try.zeroValue22 rfl rfl (fun b9 => ?_)
   refine GoH.appE FV.v (news := [x]) (spn := []) (xs := gs) (sp := sp) (q := q) rfl rfl rfl rfl rfl Try.underlying29 hi1 hz1 hsz1 rfl hq 3 rfl 0 rfl hcap rfl (by decide) (fun _ => rfl) (by simp [maxLen]; omega) (by simp [hby1]; omega) (fun b' sp' cap' hlen => ?_)
   refine GoH.st rfl rfl rfl rfl Try.sizeOf29 rfl 2 rfl rfl ?_
   refine gE ?_
   refine GoH.fin Try.f55 Try.func55 rfl (fun w' hS => ?_)
   refine ⟨_, ⟨some b', cap', sp', rfl, (fun e => by cases e), ?_⟩, ?_⟩
   · rw [ha]; exact hlen
   · rw [ha]; exact hS.subH (.cons _ (.cons _ (List.Sublist.refl _)))
  ·
   have hn : gs.any (fun y => decide (x.f = y.f)) = true := by simpa using hc
   have ha : addG gs x = gs := if_pos hn
   refine gK ?_
   refine GoH.fin Try.f55 Try.func55 rfl (fun w' hS => ?_)
   refine ⟨_, ⟨q, cap, sp, rfl, ?_, ?_⟩, ?_⟩
   · rw [ha]; exact hq
   · rw [ha]; exact hcap
   · rw [ha]; exact hS.subH (.cons _ (List.Sublist.refl _))
end Go.Proofs.Ytkoipdlkkchmiaa
namespace Go.Proofs.Ytkoipdlkkchmiaa
open Go.RowKit Go.Proofs.Wit
/-! subformulas, negations, closures -/
set_option maxRecDepth 8000 in
theorem subs_c (a : Option Addr) (ca : Nat) (f : List NV) (w : World) (ha : FA w a f) (hl : f.length ≤ maxLen) : Cn Try.prog 59 [.slice a f.length ca] w (fun v w' => ∃ gs, OwnL 49 22 w w' v gs ∧ (chkF f = 0 → gs.map FV.f = (subT (topT f)).map bT)) := by
  obtain ⟨i1, hi1, hz1, hsz1, hby1⟩ := info_parts infoNs
  refine Cn.of Try.func59 rfl rfl ?_
  refine gS (gR ?_)
  refine gAs ?_
  refine gE (gS (gR ?_))
  refine gAs ?_
  refine gE (gS (gR ?_))
  refine gMv ?_
  refine GoH.callM _ rfl rfl rfl rfl rfl (fun _ _ => Try.call50 _ _) (fun w _ hS => (by exact fcompact_c a ca f w (ha.ex0 hS.ext) hl)) ?_
  rintro v w1 w2 Y' hS he ho
  rw [subF_top] at ho
  obtain ⟨qc, capc, spc, rfl, hqc, hcapc, hS'⟩ := gainN hS he ho
  refine ⟨_, hS', ?_⟩
  refine gAs ?_
  refine gE (gS (gS (gR ?_)))
  refine gMv ?_
  refine gBl Try.underlying22 ?_
  refine gMv ?_
  refine gE (gB ?_)
  have hcl := compF_le2 f
  have hNd := compF_nodes f
  refine GoH.addNone (ob FV.v 22 [] []) ?_
  refine GoH.pick (pre' := [(qc, obN 49 (compF f) spc), (none, ob FV.v 22 [] [])]) [1, 0] (by decide) rfl ?_
  refine GoH.loop (σ := Nat × Option Nat × Nat × List FV × List Value × Hl) (fun z => [(3, osv z.2.1 z.2.2.2.1.length z.2.2.1), (4, osv qc (compF f).length capc), (9, .int .i64 (compF f).length), (10, .int .i64 z.1)])
    (fun z => [(qc, obN 49 (compF f) spc), (z.2.1, ob FV.v 22 z.2.2.2.1 z.2.2.2.2.1)] ++ z.2.2.2.2.2)
    (fun z => z.1 ≤ (compF f).length ∧ z.2.2.2.1.length = z.1 ∧ (z.2.1 = none → z.2.2.2.1.length = 0 ∧ z.2.2.1 = 0) ∧ (z.2.2.2.1.map FV.v ++ z.2.2.2.2.1).length = z.2.2.1 ∧ (∀ g ∈ z.2.2.2.1, g.In 49 z.2.2.2.2.2) ∧ z.2.2.2.1.map FV.f = (List.range z.1).map (fun k => canT (treeAt (compF f) k)))
    (fun z => (compF f).length - z.1) (0, none, 0, [], [], []) ⟨Nat.zero_le _, rfl, fun _ => ⟨rfl, rfl⟩, rfl, (fun _ h => by cases h), rfl⟩ ⟨rfl, rfl, rfl, rfl, trivial⟩ (List.Sublist.refl _) (fun z hI IH => ?_)
  obtain ⟨i, q, cap, gs, sp, H⟩ := z
  obtain ⟨hi, hgl, hq, hcap, hin, hgs⟩ := hI
  dsimp only at hi hgl hq hcap hin hgs IH ⊢
  refine gS (gR ?_)
  refine gBi bLt ?_
  refine gE (gS ?_)
  refine GoH.cond rfl (fun hc => ?_) (fun hc => ?_)
  ·
   have hm : i < (compF f).length := by simp at hc; omega
   refine gK (gS (gB (gS (gR ?_))))
   refine gMv ?_
   refine gAs ?_
   refine gE (gR ?_)
   iterate 3 refine gMv ?_
   refine GoH.callM _ rfl rfl rfl rfl rfl (fun _ _ => Try.call109 _ _) (fun w _ hS => (by exact fcomp_c (qc.map (fun b => ⟨b, 0, none⟩)) capc (compF f) i w (faAt hS 0 rfl (fun e => (hqc e).1)) hNd (by omega) hm)) ?_
   rintro v w1 w2 Y' hS he ho
   obtain ⟨qf, capf, spf, rfl, hqf, hcapf, hS'⟩ := gainN hS he ho
   refine ⟨_, hS', ?_⟩
   refine GoH.bsN (c := [_]) rfl rfl rfl rfl Try.underlying29 Try.sizeOf22 Try.zeroValue22 rfl rfl (fun b17 => ?_)
   refine GoH.appE FV.v (news := [⟨qf.map (fun b => ⟨b, 0, none⟩), capf, canT (treeAt (compF f) i)⟩]) (spn := []) (xs := gs) (sp := sp) (q := q) rfl rfl rfl rfl rfl Try.underlying29 hi1 hz1 hsz1 rfl hq 3 rfl 0 rfl hcap rfl (by decide) (fun _ => rfl) (by simp [maxLen]; omega) (by simp [hby1]; omega) (fun b' sp' cap' hlen => ?_)
   refine gAs ?_
   refine gE (gIb (gR ?_))
   refine GoH.v (Vop.bin rfl rfl rfl rfl (bAdd (by omega)) rfl) ?_
   refine gMv ?_
   refine gE ?_
   refine GoH.pickT (pre := [_, _, _, _]) (pre' := [_, _, _]) H [2, 3, 1] (by decide) rfl ?_
   refine IH (i + 1, some b', cap', gs ++ [⟨qf.map (fun b => ⟨b, 0, none⟩), capf, canT (treeAt (compF f) i)⟩], sp', (qf, obN 49 (canT (treeAt (compF f) i)) spf) :: H) _ _ ⟨hm, by simp [hgl], (fun e => by cases e), hlen, fun g hg => ?_, ?_⟩ (by dsimp only; omega) ⟨rfl, rfl, rfl, rfl, trivial⟩ (List.Sublist.refl _)
   · rcases List.mem_append.1 hg with hg | hg
     · exact (hin g hg).mono (List.subset_cons_self _ _)
     · rw [List.mem_singleton.1 hg]; exact ⟨qf, spf, List.mem_cons_self .., rfl, hqf, hcapf⟩
   · dsimp only; rw [List.map_append, hgs, List.range_succ, List.map_append]; rfl
  ·
   have hge : ¬ i < (compF f).length := by simp at hc; omega
   obtain rfl : i = (compF f).length := by omega
   refine GoH.exit rfl (gS (gR ?_))
   refine gMv ?_
   refine gAs ?_
   refine gE ?_
   refine GoH.ret Try.f59 Try.func59 rfl (fun w' hS => ?_)
   refine ⟨hS.ext, gs, OwnL.mk hS (.cons _ (List.Sublist.refl _)) hq hcap hin, fun h0 => ?_⟩
   have hT := (chkF_zero.1 h0).top
   rw [hgs, compF_eq h0]
   rw [compF_eq h0] at hcl
   exact subs_eq hT hcl
theorem negateF_c (a : Option Addr) (ca : Nat) (f : List NV) (w : World) (ha : FA w a f) (hl : f.length ≤ maxLen) : Cn Try.prog 23 [.slice a f.length ca] w (fun v w' => ∃ sv o e, v = .tuple #[sv, .int .i64 e] ∧ OwnN 49 w w' sv o ∧ NegP f o e) := by
  refine Cn.of Try.func23 rfl rfl ?_
  refine gS (gR ?_)
  iterate 2 refine gAs ?_
  refine gE (gS (gS (gR ?_)))
  refine gMv ?_
  refine GoH.callP rfl rfl rfl rfl rfl (fun _ _ => Try.call48 _ _) (fun w _ hS => (by exact fcheck_c a ca f w (ha.ex0 hS.ext) hl)) ?_
  refine gAs ?_
  refine gE (gS (gR ?_))
  refine gMv ?_
  refine gBi bNe ?_
  refine gE ?_
  refine GoH.cond rfl (fun hc => ?_) (fun hc => ?_)
  ·
   have h1 : chkF f ≠ 0 := by simpa using hc
   refine gS (gR ?_)
   refine gMv ?_
   iterate 2 refine gAs ?_
   refine gE ?_
   refine GoH.ret Try.f23 Try.func23 rfl (fun w' hS => ?_)
   exact ⟨hS.ext, _, [], _, rfl, OwnN.nil0, .inl ⟨h1, rfl, rfl⟩⟩
  ·
   have h0 : chkF f = 0 := by simpa using hc
   have hcf : Cf (compF f) (topT f) := ⟨comp_bT h0, fun e => by have := (compF_ok h0).pos; rw [e] at this; exact absurd this (by simp), (chkF_zero.1 h0).top⟩
   refine gK (gS (gR ?_))
   refine gMv ?_
   refine GoH.callM _ rfl rfl rfl rfl rfl (fun _ _ => Try.call50 _ _) (fun w _ hS => (by exact fcompact_c a ca f w (ha.ex0 hS.ext) hl)) ?_
   rintro v w1 w2 Y' hS he ho
   rw [subF_top] at ho
   obtain ⟨qc, capc, spc, rfl, hqc, hcapc, hS'⟩ := gainN hS he ho
   refine ⟨_, hS', ?_⟩
   refine GoH.callM _ rfl rfl rfl rfl rfl (fun _ _ => Try.call60 _ _) (fun w _ hS => (by exact negate_c (qc.map (fun b => ⟨b, 0, none⟩)) capc (compF f) (topT f) w (faAt hS 0 rfl (fun e => (hqc e).1)) hcf)) ?_
   rintro v w1 w2 Y' hS he ho
   obtain ⟨q, cap, sp, rfl, hq, hcap, hS'⟩ := gainN hS he ho
   refine ⟨_, hS', ?_⟩
   refine GoH.callP rfl rfl rfl rfl rfl (fun _ _ => Try.call61 _ _) (fun w _ hS => (by exact long_c (q.map (fun b => ⟨b, 0, none⟩)) cap (bT (negT (topT f))) w)) ?_
   iterate 2 refine gEx ?_
   iterate 2 refine gAs ?_
   refine gE ?_
   refine GoH.ret Try.f23 Try.func23 rfl (fun w' hS => ?_)
   by_cases h5 : bT (negT (topT f)) = []
   · rw [if_pos h5, if_pos h5]
     exact ⟨hS.ext, _, [], _, rfl, OwnN.nil0, .inr ⟨h0, h5.symm, rfl⟩⟩
   · rw [if_neg h5, if_neg h5]
     exact ⟨hS.ext, _, _, _, rfl, OwnN.mk hS 0 rfl rfl hq hcap, .inr ⟨h0, rfl, by rw [if_neg h5]⟩⟩
set_option maxRecDepth 8000 in
theorem closure_c (a : Option Addr) (ca : Nat) (f : List NV) (w : World) (ha : FA w a f) (hl : f.length ≤ maxLen) : Cn Try.prog 20 [.slice a f.length ca] w (fun v w' => ∃ sv gs e, v = .tuple #[sv, .int .i64 e] ∧ OwnL 49 22 w w' sv gs ∧ ClP f (gs.map FV.f) e) := by
  refine Cn.of Try.func20 rfl rfl ?_
  refine gS (gR ?_)
  iterate 2 refine gAs ?_
  refine gE (gS (gS (gR ?_)))
  refine gMv ?_
  refine GoH.callP rfl rfl rfl rfl rfl (fun _ _ => Try.call48 _ _) (fun w _ hS => (by exact fcheck_c a ca f w (ha.ex0 hS.ext) hl)) ?_
  refine gAs ?_
  refine gE (gS (gR ?_))
  refine gMv ?_
  refine gBi bNe ?_
  refine gE ?_
  refine GoH.cond rfl (fun hc => ?_) (fun hc => ?_)
  ·
   have h1 : chkF f ≠ 0 := by simpa using hc
   refine gS (gR ?_)
   refine gMv ?_
   iterate 2 refine gAs ?_
   refine gE ?_
   refine GoH.ret Try.f20 Try.func20 rfl (fun w' hS => ?_)
   exact ⟨hS.ext, _, [], _, rfl, OwnL.nil0, .inl ⟨h1, rfl, rfl⟩⟩
  ·
   have h0 : chkF f = 0 := by simpa using hc
   have hT := (chkF_zero.1 h0).top
   have hcl := (compF_ok h0).len
   rw [compF_eq h0] at hcl
   refine gK (gS (gR ?_))
   refine GoH.alc rfl rfl rfl (fun _ => Try.zeroValue29 _) (fun b5 => ?_)
   refine gE (gS (gR ?_))
   refine GoH.v (Vop.mkFunc rfl rfl rfl rfl rfl) ?_
   refine gAs ?_
   refine gE (gS (gS (gR ?_)))
   refine gMv ?_
   refine GoH.callM _ rfl rfl rfl rfl rfl (fun _ _ => Try.call59 _ _) (fun w _ hS => (by exact subs_c a ca f w (ha.ex0 hS.ext) hl)) ?_
   rintro v w1 w2 Y' hS he ⟨us, ⟨qs, caps, sps, Hs, rfl, hqs, hcaps, hnew, hus⟩, hue⟩
   refine ⟨_, hS.gainPre (pre := [_]) he hnew, ?_⟩
   refine gBl Try.underlying29 ?_
   refine gMv ?_
   refine gE (gB ?_)
   have hU : ClIs 49 Hs us (subT (topT f)) := ⟨hue h0, subs_cf hT hcl, hus⟩
   have hul : us.length ≤ 200 := by rw [hU.len, ← canT_len]; exact hcl
   refine GoH.addNone (ob FV.v 22 [] []) ?_
   refine GoH.pickT (pre := [_, _, _]) (pre' := clH 29 22 b5 none 0 [] [] ++ [(qs, ob FV.v 22 us sps)]) Hs [2, 0, 1] (by decide) rfl ?_
   refine GoH.loop (σ := Nat × Option Nat × Nat × List FV × List Value × Hl) (fun z => [(5, .pointer (some ⟨b5, 0, none⟩)), (6, .func (.func 55) #[] #[.pointer (some ⟨b5, 0, none⟩)]), (17, osv qs us.length caps), (18, .int .i64 us.length), (19, .int .i64 z.1)])
     (fun z => clH 29 22 b5 z.2.1 z.2.2.1 z.2.2.2.1 z.2.2.2.2.1 ++ ((qs, ob FV.v 22 us sps) :: z.2.2.2.2.2))
     (fun z => z.1 ≤ us.length ∧ z.2.2.2.1.length ≤ 2 * z.1 ∧ (z.2.1 = none → z.2.2.2.1.length = 0 ∧ z.2.2.1 = 0) ∧ (z.2.2.2.1.map FV.v ++ z.2.2.2.2.1).length = z.2.2.1 ∧ ClIs 49 z.2.2.2.2.2 us (subT (topT f)) ∧ ClIs 49 z.2.2.2.2.2 z.2.2.2.1 (clF ((subT (topT f)).take z.1) []) ∧ ∀ u ∈ (subT (topT f)).take z.1, bT (negT u) ≠ [])
     (fun z => us.length - z.1) (0, none, 0, [], [], Hs) ⟨Nat.zero_le _, Nat.le_refl _, fun _ => ⟨rfl, rfl⟩, rfl, hU, ClIs.nil, (fun _ h => by cases h)⟩ ⟨rfl, rfl, rfl, rfl, rfl, trivial⟩ (List.Sublist.refl _) (fun z hI IH => ?_)
   obtain ⟨i, q, cap, gs, sp, H⟩ := z
   obtain ⟨hi, hgl, hq, hcap, hU, hG, hno⟩ := hI
   dsimp only at hi hgl hq hcap hU hG hno IH ⊢
   refine gS (gR ?_)
   refine gBi bLt ?_
   refine gE (gS ?_)
   refine GoH.cond rfl (fun hc => ?_) (fun hc => ?_)
   ·
    have hm : i < us.length := by simp at hc; omega
    have hms : i < (subT (topT f)).length := by have := hU.len; omega
    obtain ⟨bs, rfl⟩ : ∃ b, qs = some b := by
      cases qs with
      | none => have := (hqs rfl).1; omega
      | some b => exact ⟨b, rfl⟩
    obtain ⟨x, hx⟩ : ∃ x, x = us.getD i FV.z := ⟨_, rfl⟩
    obtain ⟨u, hu⟩ : ∃ u, u = (subT (topT f))[i] := ⟨_, rfl⟩
    have hxi : x = us[i] := by rw [hx, getD_lt hm]
    have hxc : Cf x.f u := by rw [hxi, hu]; exact hU.at hm
    have hxin : x.In 49 H := by rw [hxi]; exact hU.in_ _ (List.getElem_mem hm)
    have hmem : u ∈ subT (topT f) := by rw [hu]; exact List.getElem_mem hms
    have htk : (subT (topT f)).take (i + 1) = (subT (topT f)).take i ++ [u] := by rw [List.take_succ_eq_append_getElem hms, hu]
    refine gK (gS (gB (gS (gR ?_))))
    refine GoH.v (Vop.idxS rfl rfl rfl rfl rfl Try.underlying29 Try.sizeOf22 (i) ⟨rfl, hm⟩) ?_
    refine GoH.v (Vop.ldE FV.v FV.z rfl rfl rfl rfl Try.isAgg22 2 rfl hm) ?_
    refine gAs ?_
    refine gE (gS (gR ?_))
    refine gMv ?_
    refine GoH.callM _ rfl rfl rfl rfl rfl (fun _ _ => Try.call60 _ _) (fun w _ hS => (by rw [← hx]; exact negate_c x.a x.c x.f u w ((hxin.mono (List.subset_append_right [_, _, _] H)).at hS) hxc)) ?_
    rw [← hx]
    rintro v w1 w2 Y' hS he ho
    obtain ⟨qn, capn, spn, rfl, hqn, hcapn, hS'⟩ := gainN hS he ho
    refine ⟨_, hS', ?_⟩
    refine gAs ?_
    refine gE (gS (gS (gR ?_)))
    refine gMv ?_
    refine gBl Try.underlying22 ?_
    refine gBi bEq ?_
    refine gE ?_
    refine GoH.cond rfl (fun hc => ?_) (fun hc => ?_)
    ·
     have hnil : bT (negT u) = [] := List.eq_nil_of_length_eq_zero (by simpa using hc)
     refine gS (gR ?_)
     iterate 2 refine gAs ?_
     refine gE ?_
     refine GoH.ret Try.f20 Try.func20 rfl (fun w' hS => ?_)
     exact ⟨hS.ext, _, [], _, rfl, OwnL.nil0, .inr (.inl ⟨h0, ⟨u, hmem, hnil⟩, rfl, rfl⟩)⟩
    ·
     have hnil : bT (negT u) ≠ [] := fun e => by rw [e] at hc; simp at hc
     obtain ⟨y, hy⟩ : ∃ y : FV, y = ⟨qn.map (fun b => ⟨b, 0, none⟩), capn, bT (negT u)⟩ := ⟨_, rfl⟩
     have hyc : Cf y.f (negT u) := by rw [hy]; exact ⟨rfl, hnil, negT_ok hxc.ok⟩
     have hyin : y.In 49 ((qn, obN 49 (bT (negT u)) spn) :: H) := by rw [hy]; exact ⟨qn, spn, List.mem_cons_self .., rfl, hqn, hcapn⟩
     refine gK (gS (gR ?_))
     iterate 2 refine gMv ?_
     refine GoH.pickT (pre := [_, _, _, _]) (pre' := [_, _, _, _]) H [1, 2, 3, 0] (by decide) rfl ?_
     refine GoH.subH (h' := clH 29 22 b5 q cap gs sp ++ ((some bs, ob FV.v 22 us sps) :: (qn, obN 49 (bT (negT u)) spn) :: H)) (List.Sublist.refl _) ?_
     refine GoH.callS (h := clH 29 22 b5 q cap gs sp) (hF := (some bs, ob FV.v 22 us sps) :: (qn, obN 49 (bT (negT u)) spn) :: H) (fs := []) (cs := [.pointer (some ⟨b5, 0, none⟩)]) (fun _ _ h' => ∃ q' cap' sp', h' = clH 29 22 b5 q' cap' (addG gs x) sp' ∧ (q' = none → (addG gs x).length = 0 ∧ cap' = 0) ∧ ((addG gs x).map FV.v ++ sp').length = cap') rfl rfl rfl rfl rfl (fun _ _ => Try.call55 _ _) (fun w1 Y' hS => ?_) (fun w1 u1 h1 hR => ?_)
     · exact add_cs b5 q cap gs sp x w1 (hS.subH (List.sublist_append_left _ _)).has hq hcap (by omega) (by have := hxc.le; unfold maxLen; omega) ((hxin.mono (fun _ h => List.mem_cons_of_mem _ (List.mem_cons_of_mem _ h))).sep hS) (fun g hg => ((hG.in_ g hg).mono (fun _ h => List.mem_cons_of_mem _ (List.mem_cons_of_mem _ h))).sep hS)
     obtain ⟨q1, cap1, sp1, rfl, hq1, hcap1⟩ := hR
     have hG1 := (hG.add hxc hxin).mono (H' := (qn, obN 49 (bT (negT u)) spn) :: H) (List.subset_cons_self _ _)
     have hl1 := addG_len gs x
     refine gE (gR ?_)
     iterate 2 refine gMv ?_
     refine GoH.callS (h := clH 29 22 b5 q1 cap1 (addG gs x) sp1) (hF := (some bs, ob FV.v 22 us sps) :: (qn, obN 49 (bT (negT u)) spn) :: H) (fs := []) (cs := [.pointer (some ⟨b5, 0, none⟩)]) (fun _ _ h' => ∃ q' cap' sp', h' = clH 29 22 b5 q' cap' (addG (addG gs x) y) sp' ∧ (q' = none → (addG (addG gs x) y).length = 0 ∧ cap' = 0) ∧ ((addG (addG gs x) y).map FV.v ++ sp').length = cap') rfl rfl rfl rfl rfl (fun _ _ => Try.call55 _ _) (fun w1 Y' hS => ?_) (fun w1 u1 h1 hR => ?_)
     · have := add_cs b5 q1 cap1 (addG gs x) sp1 y w1 (hS.subH (List.sublist_append_left _ _)).has hq1 hcap1 (by omega) (by have := hyc.le; unfold maxLen; omega) ((hyin.mono (fun _ h => List.mem_cons_of_mem _ h)).sep hS) (fun g hg => ((hG1.in_ g hg).mono (fun _ h => List.mem_cons_of_mem _ h)).sep hS)
       rw [hy] at this ⊢; exact this
     obtain ⟨q2, cap2, sp2, rfl, hq2, hcap2⟩ := hR
     have hG2 := hG1.add hyc hyin
     have hl2 := addG_len (addG gs x) y
     refine gE (gIb (gR ?_))
     refine GoH.v (Vop.bin rfl rfl rfl rfl (bAdd (by omega)) rfl) ?_
     refine gMv ?_
     refine gE ?_
     refine IH (i + 1, q2, cap2, addG (addG gs x) y, sp2, (qn, obN 49 (bT (negT u)) spn) :: H) _ _ ⟨hm, by dsimp only; omega, hq2, hcap2, hU.mono (List.subset_cons_self _ _), by dsimp only; rw [htk, clF_snoc]; exact hG2, fun v hv => ?_⟩ (by dsimp only; omega) ⟨rfl, rfl, rfl, rfl, rfl, trivial⟩ (List.Sublist.refl _)
     rw [htk] at hv
     rcases List.mem_append.1 hv with hv | hv
     · exact hno v hv
     · rw [List.mem_singleton.1 hv]; exact hnil
   ·
    have hge : ¬ i < us.length := by simp at hc; omega
    obtain rfl : i = us.length := by omega
    have htk : (subT (topT f)).take us.length = subT (topT f) := by rw [hU.len, List.take_length]
    rw [htk] at hG hno
    refine GoH.exit rfl (gS (gR ?_))
    refine gLo Try.isAgg29 0 ?_
    iterate 2 refine gAs ?_
    refine gE ?_
    refine GoH.ret Try.f20 Try.func20 rfl (fun w' hS => ?_)
    exact ⟨hS.ext, _, gs, 0, rfl, OwnL.mk hS (.cons _ (.cons_cons _ (.cons _ (List.Sublist.refl _)))) hq hcap hG.in_, .inr (.inr ⟨h0, hno, hG.eq, rfl⟩)⟩
end Go.Proofs.Ytkoipdlkkchmiaa
