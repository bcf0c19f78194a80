/- What calls of the program return, under the conditions that each theorem states. -/
import Derived.Test.YtkoipdlkkchmiaaA28
import Derived.Test.YtkoipdlkkchmiaaA29
import Derived.Test.YtkoipdlkkchmiaaRows
import Derived.Test.YtkoipdlkkchmiaaA03
import Derived.Test.YtkoipdlkkchmiaaA22
import Derived.Test.YtkoipdlkkchmiaaA26
import Derived.Test.YtkoipdlkkchmiaaA19
import Derived.Test.YtkoipdlkkchmiaaA14
namespace Go.Proofs.Ytkoipdlkkchmiaa
open Go Go.RowKit Go.ChangeShapes Go.WideShapes Go.ChangeAt Go.Proofs.Wit
/-! from the contracts to the rows -/
theorem ownK : ownKnob Try.prog.godebug = none := by kernel_rfl
theorem laidOk : laidOutB Try.prog = true := by kernel_rfl
end Go.Proofs.Ytkoipdlkkchmiaa
namespace Go.Proofs.Ytkoipdlkkchmiaa
open Go.RowKit Go.Proofs.Wit
/-! the reference's substitution -/
set_option maxRecDepth 8000 in
theorem rsubst_c (a : Option Addr) (ca : Nat) (f : List NV) (A : Option Addr) (cA : Nat) (gs0 : List FV) (w : World) (ha : FA w a f) (hl : f.length ≤ maxLen) (hA : SlG w A gs0) (hfa : ∀ g ∈ gs0, FA w g.a g.f) (hgl : ∀ g ∈ gs0, g.f.length ≤ maxLen) (hGl : gs0.length ≤ maxLen) :
    Cn Try.prog 16 [.slice a f.length ca, .slice A gs0.length cA] w (fun v w' => ∃ sv o e, v = .tuple #[sv, .int .i64 e] ∧ OwnN 49 w w' sv o ∧ SbQ f (gs0.map FV.f) o e) := by
  obtain ⟨i1, hi1, hz1, hsz1, hby1⟩ := info_parts infoNs
  unfold maxLen at hGl
  refine Cn.of Try.func16 rfl rfl ?_
  refine gS (gR ?_)
  iterate 2 refine gAs ?_
  refine gE (gS (gS (gR ?_)))
  refine gMv ?_
  refine GoH.callP rfl rfl rfl rfl rfl (fun _ _ => Try.call17 _ _) (fun w _ hS => (by exact rchk_c a ca f w (ha.ex0 hS.ext) hl)) ?_
  refine gAs ?_
  refine gE (gS (gR ?_))
  refine gMv ?_
  refine gBi bNe ?_
  refine gE ?_
  refine GoH.cond rfl (fun hc => ?_) (fun hc => ?_)
  ·
   have h1 : chkF f ≠ 0 := by simpa using hc
   refine gS (gR ?_)
   refine gMv ?_
   iterate 2 refine gAs ?_
   refine gE ?_
   refine GoH.ret Try.f16 Try.func16 rfl (fun w' hS => ?_)
   exact ⟨hS.ext, _, [], _, rfl, OwnN.nil0, .inl ⟨h1, rfl, rfl⟩⟩
  ·
   have h0 : chkF f = 0 := by simpa using hc
   refine gK (gS (gS (gR ?_)))
   refine gMv ?_
   refine gBl Try.underlying29 ?_
   refine gMv ?_
   refine gE (gB ?_)
   refine GoH.loop (σ := Nat) (fun k => [(0, .slice a f.length ca), (1, .slice A gs0.length cA), (22, .slice A gs0.length cA), (23, .int .i64 gs0.length), (24, .int .i64 k)]) (fun _ => []) (fun k => k ≤ gs0.length ∧ ∀ g ∈ (gs0.map FV.f).take k, chkF g = 0) (fun k => gs0.length - k) 0 ⟨Nat.zero_le _, fun g hg => by simp at hg⟩ ⟨rfl, rfl, rfl, rfl, rfl, trivial⟩ .slnil (fun k hI IH => ?_)
   obtain ⟨hk, hz⟩ := hI
   refine gS (gR ?_)
   refine gBi bLt ?_
   refine gE (gS ?_)
   refine GoH.cond rfl (fun hc => ?_) (fun hc => ?_)
   ·
    have hlt : k < gs0.length := by simpa using hc
    have hmem : gs0[k] ∈ gs0 := List.getElem_mem hlt
    have hlm : k < (gs0.map FV.f).length := by simpa using hlt
    have hgk : (gs0.map FV.f)[k] = gs0[k].f := by simp
    refine gK (gS (gB (gS (gR ?_))))
    refine GoH.v (Vop.idx rfl rfl rfl rfl rfl Try.underlying29 Try.sizeOf22 ⟨_, hA⟩ (by simp) (k) ⟨rfl, by simpa using hlt⟩) ?_
    refine GoH.v (Vop.ld rfl rfl rfl rfl Try.isAgg22 (fun w _ hS => (SlG.ex0 hA hS.ext).at (k) hlt)) ?_
    refine gAs ?_
    refine gE (gS (gR ?_))
    refine gMv ?_
    refine GoH.callP rfl rfl rfl rfl rfl (fun _ _ => Try.call17 _ _) (fun w _ hS => (by exact rchk_c gs0[k].a gs0[k].c gs0[k].f w ((hfa _ hmem).ex0 hS.ext) (hgl _ hmem))) ?_
    refine gAs ?_
    refine gE (gS (gR ?_))
    refine gMv ?_
    refine gBi bNe ?_
    refine gE ?_
    refine GoH.cond rfl (fun hc => ?_) (fun hc => ?_)
    ·
     have h1 : chkF gs0[k].f ≠ 0 := by simpa using hc
     refine gS (gR ?_)
     refine gMv ?_
     iterate 2 refine gAs ?_
     refine gE ?_
     refine GoH.ret Try.f16 Try.func16 rfl (fun w' hS => ?_)
     have he := frsE_at hlm hz (by rw [hgk]; exact h1)
     rw [hgk] at he
     exact ⟨hS.ext, _, [], _, rfl, OwnN.nil0, .inr (.inl ⟨h0, by rw [he]; exact h1, rfl, he.symm⟩)⟩
    ·
     have h1 : chkF gs0[k].f = 0 := by simpa using hc
     refine gK (gIb (gR ?_))
     refine GoH.v (Vop.bin rfl rfl rfl rfl (bAdd (by omega)) rfl) ?_
     refine gMv ?_
     refine gE ?_
     refine IH (k + 1) _ _ ⟨hlt, fun g hg => ?_⟩ (by omega) ⟨rfl, rfl, rfl, rfl, rfl, trivial⟩ .slnil
     rw [List.take_succ_eq_append_getElem hlm] at hg
     rcases List.mem_append.1 hg with hg | hg
     · exact hz g hg
     · rw [List.mem_singleton.1 hg, hgk]; exact h1
   ·
    have hge : ¬ k < gs0.length := by simpa using hc
    obtain rfl : k = gs0.length := by omega
    have hall : frsE (gs0.map FV.f) = 0 := frsE_zero.2 (by rw [show gs0.length = (gs0.map FV.f).length from by simp, List.take_length] at hz; exact hz)
    have hT := (chkF_zero.1 h0).top
    obtain ⟨t, ht⟩ : ∃ t, t = topT f := ⟨_, rfl⟩
    have hce := compF_eq h0
    have hcl := (compF_ok h0).len
    rw [← ht] at hT hce
    rw [hce] at hcl
    obtain ⟨r, hr⟩ : ∃ r, r = subR ((gs0.map FV.f).map topT) := ⟨_, rfl⟩
    have hr0 : RulOk r := by rw [hr]; exact subR_ok (tops_ok hall)
    refine GoH.exit rfl (gS (gR ?_))
    refine gMv ?_
    refine GoH.callM _ rfl rfl rfl rfl rfl (fun _ _ => Try.call19 _ _) (fun w _ hS => (by exact rcompact_c a ca f w (ha.ex0 hS.ext) hl)) ?_
    rintro v w1 w2 Y' hS he ho
    rw [subF_top, hce] at ho
    obtain ⟨qc, capc, spc, rfl, hqc, hcapc, hS'⟩ := gainN hS he ho
    refine ⟨_, hS', ?_⟩
    refine gAs ?_
    refine gE (gS (gR ?_))
    refine gAs ?_
    refine gE (gS (gS (gR ?_)))
    refine gMv ?_
    refine gBl Try.underlying22 ?_
    refine gMv ?_
    refine gE (gB ?_)
    have hcp := canT_pos t
    have hNd := canT_nodes hT
    obtain ⟨c, hct⟩ : ∃ c, c = canT t := ⟨_, rfl⟩
    rw [← hct] at hqc hcapc hcp hcl hNd ⊢
    obtain ⟨bc, rfl⟩ : ∃ bc, qc = some bc := by
      cases qc with
      | none => have := (hqc rfl).1; omega
      | some b => exact ⟨b, rfl⟩
    refine GoH.addNone (ob FV.v 22 [] []) ?_
    refine GoH.pick (pre' := [(some bc, obN 49 c spc), (none, ob FV.v 22 [] [])]) [1, 0] (by decide) rfl ?_
    refine GoH.loop (σ := Nat × Option Nat × Nat × List FV × List Value × Hl) (fun z => [(1, .slice A gs0.length cA), (11, osv z.2.1 z.2.2.2.1.length z.2.2.1), (36, osv (some bc) c.length capc), (37, .int .i64 c.length), (38, .int .i64 z.1)])
      (fun z => [(some bc, obN 49 c spc), (z.2.1, ob FV.v 22 z.2.2.2.1 z.2.2.2.2.1)] ++ z.2.2.2.2.2)
      (fun z => z.1 ≤ c.length ∧ z.2.2.2.1.length = z.1 ∧ (z.2.1 = none → z.2.2.2.1.length = 0 ∧ z.2.2.1 = 0) ∧ (z.2.2.2.1.map FV.v ++ z.2.2.2.2.1).length = z.2.2.1 ∧ (∀ g ∈ z.2.2.2.1, g.In 49 z.2.2.2.2.2) ∧ ∀ (k : Nat) (h : k < z.2.2.2.1.length), z.2.2.2.1[k].f = bT (upT r (treeAt c k)) ∧ (upT r (treeAt c k)).ok)
      (fun z => c.length - z.1) (0, none, 0, [], [], []) ⟨Nat.zero_le _, rfl, fun _ => ⟨rfl, rfl⟩, rfl, (fun _ h => by cases h), fun _ h => absurd h (Nat.not_lt_zero _)⟩ ⟨rfl, rfl, rfl, rfl, rfl, trivial⟩ (List.Sublist.refl _) (fun z hI IH => ?_)
    obtain ⟨i, q, cap, gs, sp, H⟩ := z
    obtain ⟨hi, hgl2, hq, hcap, hin, hgs⟩ := hI
    dsimp only at hi hgl2 hq hcap hin hgs IH ⊢
    refine gS (gR ?_)
    refine gBi bLt ?_
    refine gE (gS ?_)
    refine GoH.cond rfl (fun hc => ?_) (fun hc => ?_)
    ·
     have hm : i < c.length := by simp at hc; omega
     have hok := hNd i hm
     have hun := upT_node (r := r) hm hNd
     have hop := hok.op
     have hfl := hok.fld
     have huok := upT_kids hr0 hm hNd
     have hsub : ∀ {p : List (Option Nat × Obj)} {k : Nat}, k < gs.length → (gs.getD k FV.z).In 49 (p ++ H) := fun {p k} hk => (hin _ (getD_in hk)).mono (List.subset_append_right p H)
     have hgD : ∀ {k : Nat}, k < gs.length → (gs.getD k FV.z).f = bT (upT r (treeAt c k)) ∧ (upT r (treeAt c k)).ok := fun {k} hk => by rw [getD_lt hk]; exact hgs k hk
     refine gK (gS (gB (gS (gR ?_))))
     refine GoH.v (Vop.idxS rfl rfl rfl rfl rfl Try.underlying22 Try.sizeOf49 i ⟨rfl, hm⟩) ?_
     refine GoH.v (Vop.ldN (cs := NV.cells c[i]) rfl rfl rfl rfl Try.isAgg49 Try.sizeOf49 (fun w _ hS => Sl.many (enc := NV.cells) (sz := 6) (a := some ⟨bc, 0, none⟩) (Sl.blk (hS.get (j := 0) rfl)) (fun _ => rfl) hm)) ?_
     refine GoH.alc rfl rfl rfl (fun _ => Try.zeroValue49 _) (fun b13 => ?_)
     refine GoH.stB rfl rfl rfl rfl Try.sizeOf49 0 rfl rfl rfl rfl ?_
     refine gE (gS (gR ?_))
     iterate 2 refine gAs ?_
     refine gE (gS (gS (gR ?_)))
     refine gFp Try.underlying49 Try.sizeOf3 0 ?_
     refine gLo Try.isAgg3 0 ?_
     refine GoH.callP rfl rfl rfl rfl rfl (fun _ _ => Try.call42 _ _) (fun w _ hS => (by exact usesX_c c[i].op w)) ?_
     refine gE ?_
     refine GoH.cond rfl (fun hc => ?_) (fun hc => ?_)
     ·
      have hX : usX c[i].op = true := hc
      have hn3 : ¬ c[i].op = 3 := fun e => by rw [e] at hX; exact absurd hX (by decide)
      obtain ⟨bq, rfl⟩ : ∃ b, q = some b := by
        cases q with
        | none => have := (hq rfl).1; have := hok.x hX; omega
        | some b => exact ⟨b, rfl⟩
      have hrx := hok.x hX
      obtain ⟨kx, hkx⟩ : ∃ k : Nat, c[i].x = (k : Int) := ⟨c[i].x.toNat, by omega⟩
      have hlx : kx < gs.length := by omega
      have htx : c[i].x.toNat = kx := by omega
      rw [htx] at hun
      refine gR ?_
      refine gMv ?_
      refine gFp Try.underlying49 Try.sizeOf3 4 ?_
      refine gLo Try.isAgg3 0 ?_
      refine GoH.v (Vop.idxS rfl rfl rfl rfl rfl Try.underlying29 Try.sizeOf22 (kx) ⟨hkx, hlx⟩) ?_
      refine GoH.v (Vop.ldE FV.v FV.z rfl rfl rfl rfl Try.isAgg22 2 rfl hlx) ?_
      refine gAs ?_
      refine gE (gS (gS (gR ?_)))
      refine gFp Try.underlying49 Try.sizeOf3 0 ?_
      refine gLo Try.isAgg3 0 ?_
      refine GoH.callP rfl rfl rfl rfl rfl (fun _ _ => Try.call43 _ _) (fun w _ hS => (by exact usesY_c c[i].op w)) ?_
      refine gE ?_
      refine GoH.cond rfl (fun hc => ?_) (fun hc => ?_)
      ·
       have hY : usY c[i].op = true := hc
       have hry := hok.y hY
       obtain ⟨ky, hky⟩ : ∃ k : Nat, c[i].y = (k : Int) := ⟨c[i].y.toNat, by omega⟩
       have hly : ky < gs.length := by omega
       have hty : c[i].y.toNat = ky := by omega
       rw [hty] at hun
       refine gR ?_
       refine gMv ?_
       refine gFp Try.underlying49 Try.sizeOf3 5 ?_
       refine gLo Try.isAgg3 0 ?_
       refine GoH.v (Vop.idxS rfl rfl rfl rfl rfl Try.underlying29 Try.sizeOf22 (ky) ⟨hky, hly⟩) ?_
       refine GoH.v (Vop.ldE FV.v FV.z rfl rfl rfl rfl Try.isAgg22 2 rfl hly) ?_
       refine gAs ?_
       refine gE (gS (gR ?_))
       refine GoH.v (Vop.ldB rfl rfl rfl rfl Try.isAgg49 0 rfl Try.sizeOf49 rfl) ?_
       iterate 2 refine gMv ?_
       refine GoH.callM _ rfl rfl rfl rfl rfl (fun _ _ => Try.call46 _ _) (fun w _ hS => (by exact rrebuild_c c[i] (gs.getD kx FV.z) (gs.getD ky FV.z) (upT r (treeAt c kx)) (upT r (treeAt c ky)) w hop hfl (fun _ => ⟨(hsub (p := [_, _, _]) hlx).at hS, hgD hlx⟩) (fun _ => ⟨(hsub (p := [_, _, _]) hly).at hS, hgD hly⟩))) ?_
       rintro v w1 w2 Y' hS he ho
       obtain ⟨qf, capf, spf, rfl, hqf, hcapf, hS'⟩ := gainN hS he ho
       refine ⟨_, hS', ?_⟩
       refine gAs ?_
       refine gE (gS (gS (gR ?_)))
       refine gFp Try.underlying49 Try.sizeOf3 0 ?_
       refine gLo Try.isAgg3 1 ?_
       refine gBi bEq ?_
       refine gMv ?_
       refine GoH.cases (d := 65) rfl (fun hc => ?_) (fun hc => ?_)
       ·
        exact absurd (by simpa using hc) hn3
       ·
        have hres : (bT (mkQ c[i].op c[i].i c[i].e c[i].g (upT r (treeAt c kx)) (upT r (treeAt c ky)))) = bT (upT r (treeAt c i)) := by rw [hun, if_pos hX, if_pos hY, hr, sub_X hn3]
        iterate 5 refine gNo ?_
        refine gPf ?_
        refine gE (GoH.condF rfl (gK (gR ?_)))
        iterate 2 refine gMv ?_
        refine GoH.bsN (c := [_]) rfl rfl rfl rfl Try.underlying29 Try.sizeOf22 Try.zeroValue22 rfl rfl (fun b80 => ?_)
        refine GoH.appE FV.v (news := [⟨qf.map (fun b => ⟨b, 0, none⟩), capf, (bT (mkQ c[i].op c[i].i c[i].e c[i].g (upT r (treeAt c kx)) (upT r (treeAt c ky))))⟩]) (spn := []) (xs := gs) (sp := sp) (q := (some bq)) rfl rfl rfl rfl rfl Try.underlying29 hi1 hz1 hsz1 rfl hq 4 rfl 0 rfl hcap rfl (by decide) (fun _ => rfl) (by simp [maxLen]; omega) (by simp [hby1]; omega) (fun b' sp' cap' hlen => ?_)
        refine gAs ?_
        refine gE (gIb (gR ?_))
        refine GoH.v (Vop.bin rfl rfl rfl rfl (bAdd (by omega)) rfl) ?_
        refine gMv ?_
        refine gE ?_
        refine GoH.pickT (pre := [_, _, _, _, _]) (pre' := [_, _, _]) H [3, 4, 1] (by decide) rfl ?_
        refine IH (i + 1, some b', cap', gs ++ [⟨qf.map (fun b => ⟨b, 0, none⟩), capf, (bT (mkQ c[i].op c[i].i c[i].e c[i].g (upT r (treeAt c kx)) (upT r (treeAt c ky))))⟩], sp', (qf, obN 49 ((bT (mkQ c[i].op c[i].i c[i].e c[i].g (upT r (treeAt c kx)) (upT r (treeAt c ky))))) spf) :: H) _ _ ⟨hm, by simp [hgl2], (fun e => by cases e), hlen, fun g hg => ?_, fun k hk => ?_⟩ (by dsimp only; omega) ⟨rfl, rfl, rfl, rfl, rfl, trivial⟩ (List.Sublist.refl _)
        · rcases List.mem_append.1 hg with hg | hg
          · exact (hin g hg).mono (List.subset_cons_self _ _)
          · rw [List.mem_singleton.1 hg]; exact ⟨qf, spf, List.mem_cons_self .., rfl, hqf, hcapf⟩
        · by_cases hk2 : k < gs.length
          · dsimp only; rw [List.getElem_append_left hk2]; exact hgs k hk2
          · have e : k = gs.length := by simp at hk; omega
            subst e
            simp only [List.getElem_append_right (Nat.le_refl _), Nat.sub_self, List.getElem_cons_zero]
            rw [hgl2]; exact ⟨hres, huok⟩
      ·
       have hY : usY c[i].op = false := hc
       refine gK (gS (gR ?_))
       refine GoH.v (Vop.ldB rfl rfl rfl rfl Try.isAgg49 0 rfl Try.sizeOf49 rfl) ?_
       iterate 2 refine gMv ?_
       refine GoH.callM _ rfl rfl rfl rfl rfl (fun _ _ => Try.call46 _ _) (fun w _ hS => (by exact rrebuild_c c[i] (gs.getD kx FV.z) FV.z (upT r (treeAt c kx)) tr0 w hop hfl (fun _ => ⟨(hsub (p := [_, _, _]) hlx).at hS, hgD hlx⟩) (fun e => absurd (hY.symm.trans e) (by decide)))) ?_
       rintro v w1 w2 Y' hS he ho
       obtain ⟨qf, capf, spf, rfl, hqf, hcapf, hS'⟩ := gainN hS he ho
       refine ⟨_, hS', ?_⟩
       refine gAs ?_
       refine gE (gS (gS (gR ?_)))
       refine gFp Try.underlying49 Try.sizeOf3 0 ?_
       refine gLo Try.isAgg3 1 ?_
       refine gBi bEq ?_
       refine gMv ?_
       refine GoH.cases (d := 65) rfl (fun hc => ?_) (fun hc => ?_)
       ·
        exact absurd (by simpa using hc) hn3
       ·
        have hres : (bT (mkQ c[i].op c[i].i c[i].e c[i].g (upT r (treeAt c kx)) (tr0))) = bT (upT r (treeAt c i)) := by rw [hun, if_pos hX, if_neg (by rw [hY]; simp), hr, sub_X hn3]
        iterate 5 refine gNo ?_
        refine gPf ?_
        refine gE (GoH.condF rfl (gK (gR ?_)))
        iterate 2 refine gMv ?_
        refine GoH.bsN (c := [_]) rfl rfl rfl rfl Try.underlying29 Try.sizeOf22 Try.zeroValue22 rfl rfl (fun b80 => ?_)
        refine GoH.appE FV.v (news := [⟨qf.map (fun b => ⟨b, 0, none⟩), capf, (bT (mkQ c[i].op c[i].i c[i].e c[i].g (upT r (treeAt c kx)) (tr0)))⟩]) (spn := []) (xs := gs) (sp := sp) (q := (some bq)) rfl rfl rfl rfl rfl Try.underlying29 hi1 hz1 hsz1 rfl hq 4 rfl 0 rfl hcap rfl (by decide) (fun _ => rfl) (by simp [maxLen]; omega) (by simp [hby1]; omega) (fun b' sp' cap' hlen => ?_)
        refine gAs ?_
        refine gE (gIb (gR ?_))
        refine GoH.v (Vop.bin rfl rfl rfl rfl (bAdd (by omega)) rfl) ?_
        refine gMv ?_
        refine gE ?_
        refine GoH.pickT (pre := [_, _, _, _, _]) (pre' := [_, _, _]) H [3, 4, 1] (by decide) rfl ?_
        refine IH (i + 1, some b', cap', gs ++ [⟨qf.map (fun b => ⟨b, 0, none⟩), capf, (bT (mkQ c[i].op c[i].i c[i].e c[i].g (upT r (treeAt c kx)) (tr0)))⟩], sp', (qf, obN 49 ((bT (mkQ c[i].op c[i].i c[i].e c[i].g (upT r (treeAt c kx)) (tr0)))) spf) :: H) _ _ ⟨hm, by simp [hgl2], (fun e => by cases e), hlen, fun g hg => ?_, fun k hk => ?_⟩ (by dsimp only; omega) ⟨rfl, rfl, rfl, rfl, rfl, trivial⟩ (List.Sublist.refl _)
        · rcases List.mem_append.1 hg with hg | hg
          · exact (hin g hg).mono (List.subset_cons_self _ _)
          · rw [List.mem_singleton.1 hg]; exact ⟨qf, spf, List.mem_cons_self .., rfl, hqf, hcapf⟩
        · by_cases hk2 : k < gs.length
          · dsimp only; rw [List.getElem_append_left hk2]; exact hgs k hk2
          · have e : k = gs.length := by simp at hk; omega
            subst e
            simp only [List.getElem_append_right (Nat.le_refl _), Nat.sub_self, List.getElem_cons_zero]
            rw [hgl2]; exact ⟨hres, huok⟩
     ·
      have hX : usX c[i].op = false := hc
      have hY := usX_of_Y hX
      refine gK (gS (gS (gR ?_)))
      refine gFp Try.underlying49 Try.sizeOf3 0 ?_
      refine gLo Try.isAgg3 0 ?_
      refine GoH.callP rfl rfl rfl rfl rfl (fun _ _ => Try.call43 _ _) (fun w _ hS => (by exact usesY_c c[i].op w)) ?_
      refine gE ?_
      refine GoH.cond rfl (fun hc => ?_) (fun hc => ?_)
      ·
       exact absurd (hY.symm.trans hc) (by decide)
      ·
       refine gK (gS (gR ?_))
       refine GoH.v (Vop.ldB rfl rfl rfl rfl Try.isAgg49 0 rfl Try.sizeOf49 rfl) ?_
       iterate 2 refine gMv ?_
       refine GoH.callM _ rfl rfl rfl rfl rfl (fun _ _ => Try.call46 _ _) (fun w _ hS => (by exact rrebuild_c c[i] FV.z FV.z tr0 tr0 w hop hfl (fun e => absurd (hX.symm.trans e) (by decide)) (fun e => absurd (hY.symm.trans e) (by decide)))) ?_
       rintro v w1 w2 Y' hS he ho
       obtain ⟨qf, capf, spf, rfl, hqf, hcapf, hS'⟩ := gainN hS he ho
       refine ⟨_, hS', ?_⟩
       refine gAs ?_
       refine gE (gS (gS (gR ?_)))
       refine gFp Try.underlying49 Try.sizeOf3 0 ?_
       refine gLo Try.isAgg3 1 ?_
       refine gBi bEq ?_
       refine gMv ?_
       refine GoH.cases (d := 65) rfl (fun hc => ?_) (fun hc => ?_)
       ·
        have h3 : c[i].op = 3 := by simpa using hc
        have hFk := (fldOk_of hfl).fact h3
        obtain ⟨kf, hkf⟩ : ∃ k : Nat, c[i].i = (k : Int) := ⟨c[i].i.toNat, by omega⟩
        refine gFp Try.underlying49 Try.sizeOf3 1 ?_
        refine gLo Try.isAgg3 1 ?_
        refine gMv ?_
        refine gBl Try.underlying29 ?_
        refine GoH.v (Vop.bin rfl rfl rfl rfl (bLtV (v := decide (kf < gs0.length)) (by have : (NV.cells c[i])[1]'(by simp [NV.cells]) = .int .i64 c[i].i := rfl; rw [hkf]; simp)) rfl) ?_
        refine gPt ?_
        refine gE ?_
        refine GoH.cond rfl (fun hc => ?_) (fun hc => ?_)
        ·
         have hlt : kf < gs0.length := by simpa using hc
         have hmem : gs0[kf] ∈ gs0 := List.getElem_mem hlt
         have hck : chkF gs0[kf].f = 0 := frsE_zero.1 hall _ (List.mem_map_of_mem hmem)
         refine gR ?_
         refine gMv ?_
         refine gFp Try.underlying49 Try.sizeOf3 1 ?_
         refine gLo Try.isAgg3 1 ?_
         refine GoH.v (Vop.idx (xs := gs0.map FV.v) rfl rfl rfl rfl rfl Try.underlying29 Try.sizeOf22 ⟨_, hA⟩ (by simp) kf ⟨hkf, by simpa using hlt⟩) ?_
         refine GoH.v (Vop.ld rfl rfl rfl rfl Try.isAgg22 (fun w _ hS => (SlG.at (hA.ex0 hS.ext) kf hlt))) ?_
         refine GoH.callM _ rfl rfl rfl rfl rfl (fun _ _ => Try.call19 _ _) (fun w _ hS => (by exact rcompact_c gs0[kf].a gs0[kf].c gs0[kf].f w ((hfa _ hmem).ex0 hS.ext) (hgl _ hmem))) ?_
         rintro v w1 w2 Y' hS he ho
         rw [subF_top, comp_bT hck] at ho
         obtain ⟨qg, capg, spg, rfl, hqg, hcapg, hS'⟩ := gainN hS he ho
         refine ⟨_, hS', ?_⟩
         have hres : (bT (topT gs0[kf].f)) = bT (upT r (treeAt c i)) := by rw [hun, hr, subR, if_pos ⟨h3, by rw [hkf]; simpa using hlt⟩, hkf]; simp [List.getD_eq_getElem?_getD, hlt]
         refine gAs ?_
         refine gE (gR ?_)
         iterate 2 refine gMv ?_
         refine GoH.bsN (c := [_]) rfl rfl rfl rfl Try.underlying29 Try.sizeOf22 Try.zeroValue22 rfl rfl (fun b80 => ?_)
         refine GoH.appE FV.v (news := [⟨qg.map (fun b => ⟨b, 0, none⟩), capg, (bT (topT gs0[kf].f))⟩]) (spn := []) (xs := gs) (sp := sp) (q := q) rfl rfl rfl rfl rfl Try.underlying29 hi1 hz1 hsz1 rfl hq 5 rfl 0 rfl hcap rfl (by decide) (fun _ => rfl) (by simp [maxLen]; omega) (by simp [hby1]; omega) (fun b' sp' cap' hlen => ?_)
         refine gAs ?_
         refine gE (gIb (gR ?_))
         refine GoH.v (Vop.bin rfl rfl rfl rfl (bAdd (by omega)) rfl) ?_
         refine gMv ?_
         refine gE ?_
         refine GoH.pickT (pre := [_, _, _, _, _, _]) (pre' := [_, _, _]) H [4, 5, 1] (by decide) rfl ?_
         refine IH (i + 1, some b', cap', gs ++ [⟨qg.map (fun b => ⟨b, 0, none⟩), capg, (bT (topT gs0[kf].f))⟩], sp', (qg, obN 49 ((bT (topT gs0[kf].f))) spg) :: H) _ _ ⟨hm, by simp [hgl2], (fun e => by cases e), hlen, fun g hg => ?_, fun k hk => ?_⟩ (by dsimp only; omega) ⟨rfl, rfl, rfl, rfl, rfl, trivial⟩ (List.Sublist.refl _)
         · rcases List.mem_append.1 hg with hg | hg
           · exact (hin g hg).mono (List.subset_cons_self _ _)
           · rw [List.mem_singleton.1 hg]; exact ⟨qg, spg, List.mem_cons_self .., rfl, hqg, hcapg⟩
         · by_cases hk2 : k < gs.length
           · dsimp only; rw [List.getElem_append_left hk2]; exact hgs k hk2
           · have e : k = gs.length := by simp at hk; omega
             subst e
             simp only [List.getElem_append_right (Nat.le_refl _), Nat.sub_self, List.getElem_cons_zero]
             rw [hgl2]; exact ⟨hres, huok⟩
        ·
         have hlt : ¬ kf < gs0.length := by simpa using hc
         have hres : (bT (mkQ c[i].op c[i].i c[i].e c[i].g (tr0) (tr0))) = bT (upT r (treeAt c i)) := by rw [hun, if_neg (by rw [hX]; simp), if_neg (by rw [hY]; simp), hr, subR, if_neg (fun h => hlt (by have := h.2; rw [hkf] at this; simpa using this))]
         refine gK (gR ?_)
         iterate 2 refine gMv ?_
         refine GoH.bsN (c := [_]) rfl rfl rfl rfl Try.underlying29 Try.sizeOf22 Try.zeroValue22 rfl rfl (fun b80 => ?_)
         refine GoH.appE FV.v (news := [⟨qf.map (fun b => ⟨b, 0, none⟩), capf, (bT (mkQ c[i].op c[i].i c[i].e c[i].g (tr0) (tr0)))⟩]) (spn := []) (xs := gs) (sp := sp) (q := q) rfl rfl rfl rfl rfl Try.underlying29 hi1 hz1 hsz1 rfl hq 4 rfl 0 rfl hcap rfl (by decide) (fun _ => rfl) (by simp [maxLen]; omega) (by simp [hby1]; omega) (fun b' sp' cap' hlen => ?_)
         refine gAs ?_
         refine gE (gIb (gR ?_))
         refine GoH.v (Vop.bin rfl rfl rfl rfl (bAdd (by omega)) rfl) ?_
         refine gMv ?_
         refine gE ?_
         refine GoH.pickT (pre := [_, _, _, _, _]) (pre' := [_, _, _]) H [3, 4, 1] (by decide) rfl ?_
         refine IH (i + 1, some b', cap', gs ++ [⟨qf.map (fun b => ⟨b, 0, none⟩), capf, (bT (mkQ c[i].op c[i].i c[i].e c[i].g (tr0) (tr0)))⟩], sp', (qf, obN 49 ((bT (mkQ c[i].op c[i].i c[i].e c[i].g (tr0) (tr0)))) spf) :: H) _ _ ⟨hm, by simp [hgl2], (fun e => by cases e), hlen, fun g hg => ?_, fun k hk => ?_⟩ (by dsimp only; omega) ⟨rfl, rfl, rfl, rfl, rfl, trivial⟩ (List.Sublist.refl _)
         · rcases List.mem_append.1 hg with hg | hg
           · exact (hin g hg).mono (List.subset_cons_self _ _)
           · rw [List.mem_singleton.1 hg]; exact ⟨qf, spf, List.mem_cons_self .., rfl, hqf, hcapf⟩
         · by_cases hk2 : k < gs.length
           · dsimp only; rw [List.getElem_append_left hk2]; exact hgs k hk2
           · have e : k = gs.length := by simp at hk; omega
             subst e
             simp only [List.getElem_append_right (Nat.le_refl _), Nat.sub_self, List.getElem_cons_zero]
             rw [hgl2]; exact ⟨hres, huok⟩
       ·
        have hn3 : ¬ c[i].op = 3 := by simpa using hc
        have hres : (bT (mkQ c[i].op c[i].i c[i].e c[i].g (tr0) (tr0))) = bT (upT r (treeAt c i)) := by rw [hun, if_neg (by rw [hX]; simp), if_neg (by rw [hY]; simp), hr, subR, if_neg (fun h => hn3 h.1)]
        iterate 5 refine gNo ?_
        refine gPf ?_
        refine gE (GoH.condF rfl (gK (gR ?_)))
        iterate 2 refine gMv ?_
        refine GoH.bsN (c := [_]) rfl rfl rfl rfl Try.underlying29 Try.sizeOf22 Try.zeroValue22 rfl rfl (fun b80 => ?_)
        refine GoH.appE FV.v (news := [⟨qf.map (fun b => ⟨b, 0, none⟩), capf, (bT (mkQ c[i].op c[i].i c[i].e c[i].g (tr0) (tr0)))⟩]) (spn := []) (xs := gs) (sp := sp) (q := q) rfl rfl rfl rfl rfl Try.underlying29 hi1 hz1 hsz1 rfl hq 4 rfl 0 rfl hcap rfl (by decide) (fun _ => rfl) (by simp [maxLen]; omega) (by simp [hby1]; omega) (fun b' sp' cap' hlen => ?_)
        refine gAs ?_
        refine gE (gIb (gR ?_))
        refine GoH.v (Vop.bin rfl rfl rfl rfl (bAdd (by omega)) rfl) ?_
        refine gMv ?_
        refine gE ?_
        refine GoH.pickT (pre := [_, _, _, _, _]) (pre' := [_, _, _]) H [3, 4, 1] (by decide) rfl ?_
        refine IH (i + 1, some b', cap', gs ++ [⟨qf.map (fun b => ⟨b, 0, none⟩), capf, (bT (mkQ c[i].op c[i].i c[i].e c[i].g (tr0) (tr0)))⟩], sp', (qf, obN 49 ((bT (mkQ c[i].op c[i].i c[i].e c[i].g (tr0) (tr0)))) spf) :: H) _ _ ⟨hm, by simp [hgl2], (fun e => by cases e), hlen, fun g hg => ?_, fun k hk => ?_⟩ (by dsimp only; omega) ⟨rfl, rfl, rfl, rfl, rfl, trivial⟩ (List.Sublist.refl _)
        · rcases List.mem_append.1 hg with hg | hg
          · exact (hin g hg).mono (List.subset_cons_self _ _)
          · rw [List.mem_singleton.1 hg]; exact ⟨qf, spf, List.mem_cons_self .., rfl, hqf, hcapf⟩
        · by_cases hk2 : k < gs.length
          · dsimp only; rw [List.getElem_append_left hk2]; exact hgs k hk2
          · have e : k = gs.length := by simp at hk; omega
            subst e
            simp only [List.getElem_append_right (Nat.le_refl _), Nat.sub_self, List.getElem_cons_zero]
            rw [hgl2]; exact ⟨hres, huok⟩
    ·
     have hge : ¬ i < c.length := by simp at hc; omega
     obtain rfl : i = c.length := by omega
     obtain ⟨bq, rfl⟩ : ∃ b, q = some b := by
       cases q with
       | none => have := (hq rfl).1; omega
       | some b => exact ⟨b, rfl⟩
     have hlast : c.length - 1 < gs.length := by omega
     have htop : (gs.getD (c.length - 1) FV.z).f = bT (upT r (topT f)) := by
       rw [getD_lt hlast, (hgs _ hlast).1, hct, canAt_top hT, ht]
     obtain ⟨fv, hfv⟩ : ∃ fv, fv = gs.getD (c.length - 1) FV.z := ⟨_, rfl⟩
     have hfin : fv.In 49 H := by rw [hfv]; exact hin _ (getD_in hlast)
     rw [← hfv] at htop
     refine GoH.exit rfl (gS (gR ?_))
     iterate 2 refine gMv ?_
     refine gBl Try.underlying29 ?_
     refine GoH.v (Vop.bin rfl rfl rfl rfl (bSubE (c := ((c.length - 1 : Nat) : Int)) (by omega) (by omega)) rfl) ?_
     refine GoH.v (Vop.idxS rfl rfl rfl rfl rfl Try.underlying29 Try.sizeOf22 (c.length - 1) ⟨rfl, hlast⟩) ?_
     refine GoH.v (Vop.ldE FV.v FV.z rfl rfl rfl rfl Try.isAgg22 1 rfl hlast) ?_
     refine GoH.callP rfl rfl rfl rfl rfl (fun _ _ => Try.call47 _ _) (fun w _ hS => (by rw [← hfv]; exact rdone_c fv.a fv.c fv.f w)) ?_
     iterate 2 refine gEx ?_
     iterate 2 refine gAs ?_
     refine gE ?_
     refine GoH.ret Try.f16 Try.func16 rfl (fun w' hS => ?_)
     by_cases h5 : fv.f = []
     · rw [if_pos h5, if_pos h5]
       exact ⟨hS.ext, _, [], _, rfl, OwnN.nil0, .inr (.inr ⟨h0, hall, .inr ⟨h0, by rw [← hr, ← htop]; exact h5.symm, rfl⟩⟩)⟩
     · rw [if_neg h5, if_neg h5]
       exact ⟨hS.ext, _, _, _, rfl, (hfin.mono (fun _ h => List.mem_cons_of_mem _ (List.mem_cons_of_mem _ h))).own hS, .inr (.inr ⟨h0, hall, .inr ⟨h0, by rw [← hr]; exact htop, by rw [if_neg h5]⟩⟩)⟩
end Go.Proofs.Ytkoipdlkkchmiaa
namespace Go.Proofs.Ytkoipdlkkchmiaa
open Go.RowKit Go.Proofs.Wit
/-! the reference's masks, and which formulas fit -/
theorem rfew_c (a : Option Addr) (ca : Nat) (f : List NV) (x : Int) (w : World) : Cn Try.prog 10 [.slice a f.length ca, .int .i64 x] w (fun v _ => v = .bool (decide ((f.length : Int) ≤ x))) := by
  refine Cn.of Try.func10 rfl rfl ?_
  refine gS (gR ?_)
  refine gAs ?_
  refine gE (gS (gR ?_))
  refine gMv ?_
  refine gBl Try.underlying22 ?_
  refine gMv ?_
  refine gBi bLe ?_
  refine gAs ?_
  refine gE ?_
  refine GoH.ret Try.f10 Try.func10 rfl (fun w' hS => ?_)
  exact ⟨hS.ext, rfl⟩
theorem compF_nodes (f : List NV) : NodesOk (compF f) := by
  by_cases h : chkF f = 0
  · exact (compF_ok h).nodes
  · rw [compF, if_pos h]; intro i hi; exact absurd hi (Nat.not_lt_zero _)
end Go.Proofs.Ytkoipdlkkchmiaa
namespace Go.Proofs.Ytkoipdlkkchmiaa
open Go.RowKit Go.Proofs.Wit
/-! the law RewriteSubst -/
set_option maxRecDepth 4000 in
theorem subst08_c (a : Option Addr) (ca : Nat) (f : List NV) (A : Option Addr) (cA : Nat) (gs : List FV) (w : World) (ha : FA w a f) (hl : f.length ≤ maxLen) (hA : SlG w A gs) (hfa : ∀ g ∈ gs, FA w g.a g.f) (hgl : ∀ g ∈ gs, g.f.length ≤ maxLen) (hGl : gs.length ≤ maxLen) :
    Cn Try.prog 4 [.slice a f.length ca, .slice A gs.length cA] w (fun v _ => v = .bool true) := by
  have hGl' := hGl
  unfold maxLen at hGl'
  refine Cn.of Try.func4 rfl rfl ?_
  refine gS (gR ?_)
  refine gAs ?_
  refine gE (gS (gS (gR ?_)))
  refine gMv ?_
  refine GoH.callP rfl rfl rfl rfl rfl (fun _ _ => Try.call10 _ _) (fun w _ hS => (by exact rfew_c a ca f 60 w)) ?_
  refine gUn uNot ?_
  refine gMv ?_
  refine GoH.cases (d := 14) rfl (fun hc => ?_) (fun hc => ?_)
  ·
   refine gMv ?_
   refine gBl Try.underlying22 ?_
   refine gBi bLe ?_
   refine gPt ?_
   refine gMv ?_
   refine GoH.cases (d := 19) rfl (fun hc => ?_) (fun hc => ?_)
   ·
    iterate 3 refine gNo ?_
    refine gPt ?_
    refine gE (GoH.condT rfl (gS (gR ?_)))
    refine GoH.callP rfl rfl rfl rfl rfl (fun _ _ => Try.call11 _ _) (fun w _ hS => (by exact awake08_c w)) ?_
    refine gAs ?_
    refine gE ?_
    refine GoH.ret Try.f4 Try.func4 rfl (fun w' hS => ?_)
    exact ⟨hS.ext, rfl⟩
   ·
    refine gMv ?_
    refine gBl Try.underlying29 ?_
    refine gBi bGt ?_
    refine gPf ?_
    refine gE ?_
    refine GoH.cond rfl (fun hc => ?_) (fun hc => ?_)
    ·
     refine gS (gR ?_)
     refine GoH.callP rfl rfl rfl rfl rfl (fun _ _ => Try.call11 _ _) (fun w _ hS => (by exact awake08_c w)) ?_
     refine gAs ?_
     refine gE ?_
     refine GoH.ret Try.f4 Try.func4 rfl (fun w' hS => ?_)
     exact ⟨hS.ext, rfl⟩
    ·
     refine gK (gS (gS (gR ?_)))
     refine gMv ?_
     refine gBl Try.underlying29 ?_
     refine gMv ?_
     refine gE (gB ?_)
     refine GoH.loop (σ := Nat) (fun k => [(0, .slice a f.length ca), (1, .slice A gs.length cA), (25, .slice A gs.length cA), (26, .int .i64 gs.length), (27, .int .i64 k)]) (fun _ => []) (fun k => k ≤ gs.length) (fun k => gs.length - k) 0 (Nat.zero_le _) ⟨rfl, rfl, rfl, rfl, rfl, trivial⟩ .slnil (fun k hk IH => ?_)
     refine gS (gR ?_)
     refine gBi bLt ?_
     refine gE (gS ?_)
     refine GoH.cond rfl (fun hc => ?_) (fun hc => ?_)
     ·
      have hlt : k < gs.length := by simpa using hc
      have hmem : gs[k] ∈ gs := List.getElem_mem hlt
      refine gK (gS (gB (gS (gR ?_))))
      refine GoH.v (Vop.idx rfl rfl rfl rfl rfl Try.underlying29 Try.sizeOf22 ⟨_, hA⟩ (by simp) (k) ⟨rfl, by simpa using hlt⟩) ?_
      refine GoH.v (Vop.ld rfl rfl rfl rfl Try.isAgg22 (fun w _ hS => (SlG.ex0 hA hS.ext).at (k) hlt)) ?_
      refine gAs ?_
      refine gE (gS (gR ?_))
      refine gMv ?_
      refine GoH.callP rfl rfl rfl rfl rfl (fun _ _ => Try.call10 _ _) (fun w _ hS => (by exact rfew_c gs[k].a gs[k].c gs[k].f 60 w)) ?_
      refine gUn uNot ?_
      refine gMv ?_
      refine GoH.cases (d := 34) rfl (fun hc => ?_) (fun hc => ?_)
      ·
       refine gMv ?_
       refine gBl Try.underlying22 ?_
       refine gBi bLe ?_
       refine gPt ?_
       refine gE ?_
       refine GoH.cond rfl (fun hc => ?_) (fun hc => ?_)
       ·
        refine gS (gR ?_)
        refine GoH.callP rfl rfl rfl rfl rfl (fun _ _ => Try.call11 _ _) (fun w _ hS => (by exact awake08_c w)) ?_
        refine gAs ?_
        refine gE ?_
        refine GoH.ret Try.f4 Try.func4 rfl (fun w' hS => ?_)
        exact ⟨hS.ext, rfl⟩
       ·
        refine gK (gIb (gR ?_))
        refine GoH.v (Vop.bin rfl rfl rfl rfl (bAdd (by omega)) rfl) ?_
        refine gMv ?_
        refine gE ?_
        exact IH (k + 1) _ _ hlt (by omega) ⟨rfl, rfl, rfl, rfl, rfl, trivial⟩ .slnil
      ·
       iterate 3 refine gNo ?_
       refine gPf ?_
       refine gE (GoH.condF rfl (gK (gIb (gR ?_))))
       refine GoH.v (Vop.bin rfl rfl rfl rfl (bAdd (by omega)) rfl) ?_
       refine gMv ?_
       refine gE ?_
       exact IH (k + 1) _ _ hlt (by omega) ⟨rfl, rfl, rfl, rfl, rfl, trivial⟩ .slnil
     ·
      refine GoH.exit rfl (gS (gR ?_))
      iterate 2 refine gMv ?_
      refine GoH.callM _ rfl rfl rfl rfl rfl (fun _ _ => Try.call15 _ _) (fun w _ hS => (by exact subst_c a ca f A cA gs w (ha.ex0 hS.ext) hl (hA.ex0 hS.ext) (fun g hg => (hfa g hg).ex0 hS.ext) hgl hGl)) ?_
      rintro v w1 w2 Y' hS he ⟨sv, o1, e1, rfl, ho, hP⟩
      obtain ⟨q1, cap1, sp1, rfl, hq1, hcap1, hS'⟩ := gainN hS he ho
      refine ⟨_, hS', ?_⟩
      refine gMv ?_
      iterate 2 refine gEx ?_
      iterate 2 refine gAs ?_
      refine gE (gS (gR ?_))
      iterate 2 refine gMv ?_
      refine GoH.callM _ rfl rfl rfl rfl rfl (fun _ _ => Try.call16 _ _) (fun w _ hS => (by exact rsubst_c a ca f A cA gs w (ha.ex0 hS.ext) hl (hA.ex0 hS.ext) (fun g hg => (hfa g hg).ex0 hS.ext) hgl hGl)) ?_
      rintro v w1 w2 Y' hS he ⟨sv, o2, e2, rfl, ho, hQ⟩
      obtain ⟨q2, cap2, sp2, rfl, hq2, hcap2, hS'⟩ := gainN hS he ho
      obtain ⟨rfl, rfl⟩ := hP.q.eq hQ
      refine ⟨_, hS', ?_⟩
      refine gMv ?_
      iterate 2 refine gEx ?_
      iterate 2 refine gAs ?_
      refine gE (gS (gR ?_))
      iterate 2 refine gMv ?_
      refine GoH.callP rfl rfl rfl rfl rfl (fun _ _ => Try.call14 _ _) (fun w _ hS => (by exact eq_c (q1.map (fun b => ⟨b, 0, none⟩)) cap1 o1 (q2.map (fun b => ⟨b, 0, none⟩)) cap2 o1 w (faAt hS 1 rfl (fun e => (hq1 e).1)) (faAt hS 0 rfl (fun e => (hq2 e).1)) hQ.len rfl)) ?_
      iterate 3 refine gMv ?_
      refine GoH.v (Vop.bin rfl rfl rfl rfl (bEqV (v := true) (by simp)) rfl) ?_
      refine gPt ?_
      refine gMv ?_
      refine GoH.callP rfl rfl rfl rfl rfl (fun _ _ => Try.call11 _ _) (fun w _ hS => (by exact awake08_c w)) ?_
      refine gPt ?_
      refine gAs ?_
      refine gE ?_
      refine GoH.ret Try.f4 Try.func4 rfl (fun w' hS => ?_)
      exact ⟨hS.ext, rfl⟩
  ·
   iterate 3 refine gNo ?_
   refine gPf ?_
   iterate 2 refine gMv ?_
   refine gBl Try.underlying29 ?_
   refine gBi bGt ?_
   refine gPf ?_
   refine gE ?_
   refine GoH.cond rfl (fun hc => ?_) (fun hc => ?_)
   ·
    refine gS (gR ?_)
    refine GoH.callP rfl rfl rfl rfl rfl (fun _ _ => Try.call11 _ _) (fun w _ hS => (by exact awake08_c w)) ?_
    refine gAs ?_
    refine gE ?_
    refine GoH.ret Try.f4 Try.func4 rfl (fun w' hS => ?_)
    exact ⟨hS.ext, rfl⟩
   ·
    refine gK (gS (gS (gR ?_)))
    refine gMv ?_
    refine gBl Try.underlying29 ?_
    refine gMv ?_
    refine gE (gB ?_)
    refine GoH.loop (σ := Nat) (fun k => [(0, .slice a f.length ca), (1, .slice A gs.length cA), (25, .slice A gs.length cA), (26, .int .i64 gs.length), (27, .int .i64 k)]) (fun _ => []) (fun k => k ≤ gs.length) (fun k => gs.length - k) 0 (Nat.zero_le _) ⟨rfl, rfl, rfl, rfl, rfl, trivial⟩ .slnil (fun k hk IH => ?_)
    refine gS (gR ?_)
    refine gBi bLt ?_
    refine gE (gS ?_)
    refine GoH.cond rfl (fun hc => ?_) (fun hc => ?_)
    ·
     have hlt : k < gs.length := by simpa using hc
     have hmem : gs[k] ∈ gs := List.getElem_mem hlt
     refine gK (gS (gB (gS (gR ?_))))
     refine GoH.v (Vop.idx rfl rfl rfl rfl rfl Try.underlying29 Try.sizeOf22 ⟨_, hA⟩ (by simp) (k) ⟨rfl, by simpa using hlt⟩) ?_
     refine GoH.v (Vop.ld rfl rfl rfl rfl Try.isAgg22 (fun w _ hS => (SlG.ex0 hA hS.ext).at (k) hlt)) ?_
     refine gAs ?_
     refine gE (gS (gR ?_))
     refine gMv ?_
     refine GoH.callP rfl rfl rfl rfl rfl (fun _ _ => Try.call10 _ _) (fun w _ hS => (by exact rfew_c gs[k].a gs[k].c gs[k].f 60 w)) ?_
     refine gUn uNot ?_
     refine gMv ?_
     refine GoH.cases (d := 34) rfl (fun hc => ?_) (fun hc => ?_)
     ·
      refine gMv ?_
      refine gBl Try.underlying22 ?_
      refine gBi bLe ?_
      refine gPt ?_
      refine gE ?_
      refine GoH.cond rfl (fun hc => ?_) (fun hc => ?_)
      ·
       refine gS (gR ?_)
       refine GoH.callP rfl rfl rfl rfl rfl (fun _ _ => Try.call11 _ _) (fun w _ hS => (by exact awake08_c w)) ?_
       refine gAs ?_
       refine gE ?_
       refine GoH.ret Try.f4 Try.func4 rfl (fun w' hS => ?_)
       exact ⟨hS.ext, rfl⟩
      ·
       refine gK (gIb (gR ?_))
       refine GoH.v (Vop.bin rfl rfl rfl rfl (bAdd (by omega)) rfl) ?_
       refine gMv ?_
       refine gE ?_
       exact IH (k + 1) _ _ hlt (by omega) ⟨rfl, rfl, rfl, rfl, rfl, trivial⟩ .slnil
     ·
      iterate 3 refine gNo ?_
      refine gPf ?_
      refine gE (GoH.condF rfl (gK (gIb (gR ?_))))
      refine GoH.v (Vop.bin rfl rfl rfl rfl (bAdd (by omega)) rfl) ?_
      refine gMv ?_
      refine gE ?_
      exact IH (k + 1) _ _ hlt (by omega) ⟨rfl, rfl, rfl, rfl, rfl, trivial⟩ .slnil
    ·
     refine GoH.exit rfl (gS (gR ?_))
     iterate 2 refine gMv ?_
     refine GoH.callM _ rfl rfl rfl rfl rfl (fun _ _ => Try.call15 _ _) (fun w _ hS => (by exact subst_c a ca f A cA gs w (ha.ex0 hS.ext) hl (hA.ex0 hS.ext) (fun g hg => (hfa g hg).ex0 hS.ext) hgl hGl)) ?_
     rintro v w1 w2 Y' hS he ⟨sv, o1, e1, rfl, ho, hP⟩
     obtain ⟨q1, cap1, sp1, rfl, hq1, hcap1, hS'⟩ := gainN hS he ho
     refine ⟨_, hS', ?_⟩
     refine gMv ?_
     iterate 2 refine gEx ?_
     iterate 2 refine gAs ?_
     refine gE (gS (gR ?_))
     iterate 2 refine gMv ?_
     refine GoH.callM _ rfl rfl rfl rfl rfl (fun _ _ => Try.call16 _ _) (fun w _ hS => (by exact rsubst_c a ca f A cA gs w (ha.ex0 hS.ext) hl (hA.ex0 hS.ext) (fun g hg => (hfa g hg).ex0 hS.ext) hgl hGl)) ?_
     rintro v w1 w2 Y' hS he ⟨sv, o2, e2, rfl, ho, hQ⟩
     obtain ⟨q2, cap2, sp2, rfl, hq2, hcap2, hS'⟩ := gainN hS he ho
     obtain ⟨rfl, rfl⟩ := hP.q.eq hQ
     refine ⟨_, hS', ?_⟩
     refine gMv ?_
     iterate 2 refine gEx ?_
     iterate 2 refine gAs ?_
     refine gE (gS (gR ?_))
     iterate 2 refine gMv ?_
     refine GoH.callP rfl rfl rfl rfl rfl (fun _ _ => Try.call14 _ _) (fun w _ hS => (by exact eq_c (q1.map (fun b => ⟨b, 0, none⟩)) cap1 o1 (q2.map (fun b => ⟨b, 0, none⟩)) cap2 o1 w (faAt hS 1 rfl (fun e => (hq1 e).1)) (faAt hS 0 rfl (fun e => (hq2 e).1)) hQ.len rfl)) ?_
     iterate 3 refine gMv ?_
     refine GoH.v (Vop.bin rfl rfl rfl rfl (bEqV (v := true) (by simp)) rfl) ?_
     refine gPt ?_
     refine gMv ?_
     refine GoH.callP rfl rfl rfl rfl rfl (fun _ _ => Try.call11 _ _) (fun w _ hS => (by exact awake08_c w)) ?_
     refine gPt ?_
     refine gAs ?_
     refine gE ?_
     refine GoH.ret Try.f4 Try.func4 rfl (fun w' hS => ?_)
     exact ⟨hS.ext, rfl⟩
end Go.Proofs.Ytkoipdlkkchmiaa
