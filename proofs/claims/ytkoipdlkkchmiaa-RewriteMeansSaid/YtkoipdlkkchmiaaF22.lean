/- What calls of the program return, under the conditions that each theorem states. -/
import Derived.Test.YtkoipdlkkchmiaaF21
import Derived.Test.YtkoipdlkkchmiaaF03
namespace Go.Proofs.Ytkoipdlkkchmiaa
open Go.RowKit Go.Proofs.Wit
/-! rewriting from the parts up -/
theorem infoNs : (Try.prog.info? 22).map (fun i => (i.zero, i.size, i.bytes)) = some (some (Value.slice none 0 0), 1, 24) := by kernel_rfl
set_option maxRecDepth 8000 in
theorem upward_c (r : Rul) (gf : FuncId) (cs : List Value) (a : Option Addr) (ca : Nat) (f : List NV) (w : World) (hr0 : RulOk r) (ha : FA w a f) (hl : f.length ≤ maxLen) (hr : RulC Try.prog 49 r gf cs w) :
    Cn Try.prog 40 [.slice a f.length ca, .func (.func gf) #[] cs.toArray] w (fun v w' => ∃ sv o e, v = .tuple #[sv, .int .i64 e] ∧ OwnN 49 w w' sv o ∧ UpP r f o e) := by
  obtain ⟨i1, hi1, hz1, hsz1, hby1⟩ := info_parts infoNs
  refine Cn.of Try.func40 rfl rfl ?_
  refine gS (gR ?_)
  iterate 2 refine gAs ?_
  refine gE (gS (gS (gR ?_)))
  refine gMv ?_
  refine GoH.callP rfl rfl rfl rfl rfl (fun _ _ => Try.call48 _ _) (fun w _ hS => (by exact fcheck_c a ca f w (ha.ex0 hS.ext) hl)) ?_
  refine gAs ?_
  refine gE (gS (gR ?_))
  refine gMv ?_
  refine gBi bNe ?_
  refine gE ?_
  refine GoH.cond rfl (fun hc => ?_) (fun hc => ?_)
  ·
   have h1 : chkF f ≠ 0 := by simpa using hc
   refine gS (gR ?_)
   refine gMv ?_
   iterate 2 refine gAs ?_
   refine gE ?_
   refine GoH.ret Try.f40 Try.func40 rfl (fun w' hS => ?_)
   exact ⟨hS.ext, _, [], _, rfl, OwnN.nil0, .inl ⟨h1, rfl, rfl⟩⟩
  ·
   have h0 : chkF f = 0 := by simpa using hc
   have hT := (chkF_zero.1 h0).top
   obtain ⟨t, ht⟩ : ∃ t, t = topT f := ⟨_, rfl⟩
   have hce := compF_eq h0
   have hcl := (compF_ok h0).len
   rw [← ht] at hT hce
   rw [hce] at hcl
   refine gK (gS (gR ?_))
   refine gAs ?_
   refine gE (gS (gS (gR ?_)))
   refine gMv ?_
   refine GoH.callM _ rfl rfl rfl rfl rfl (fun _ _ => Try.call50 _ _) (fun w _ hS => (by exact fcompact_c a ca f w (ha.ex0 hS.ext) hl)) ?_
   rintro v w1 w2 Y' hS he ho
   rw [subF_top, hce] at ho
   obtain ⟨qc, capc, spc, rfl, hqc, hcapc, hS'⟩ := gainN hS he ho
   refine ⟨_, hS', ?_⟩
   refine gBl Try.underlying22 ?_
   refine gMv ?_
   refine gE (gB ?_)
   have hcp := canT_pos t
   have hNd := canT_nodes hT
   obtain ⟨c, hct⟩ : ∃ c, c = canT t := ⟨_, rfl⟩
   rw [← hct] at hqc hcapc hcp hcl hNd ⊢
   obtain ⟨bc, rfl⟩ : ∃ bc, qc = some bc := by
     cases qc with
     | none => have := (hqc rfl).1; omega
     | some b => exact ⟨b, rfl⟩
   refine GoH.addNone (ob FV.v 22 [] []) ?_
   refine GoH.pick (pre' := [(some bc, obN 49 c spc), (none, ob FV.v 22 [] [])]) [1, 0] (by decide) rfl ?_
   refine GoH.loop (σ := Nat × Option Nat × Nat × List FV × List Value × Hl) (fun z => [(1, .func (.func gf) #[] cs.toArray), (7, osv z.2.1 z.2.2.2.1.length z.2.2.1), (19, osv (some bc) c.length capc), (20, .int .i64 c.length), (21, .int .i64 z.1)])
     (fun z => [(some bc, obN 49 c spc), (z.2.1, ob FV.v 22 z.2.2.2.1 z.2.2.2.2.1)] ++ z.2.2.2.2.2)
     (fun z => z.1 ≤ c.length ∧ z.2.2.2.1.length = z.1 ∧ (z.2.1 = none → z.2.2.2.1.length = 0 ∧ z.2.2.1 = 0) ∧ (z.2.2.2.1.map FV.v ++ z.2.2.2.2.1).length = z.2.2.1 ∧ (∀ g ∈ z.2.2.2.1, g.In 49 z.2.2.2.2.2) ∧ ∀ (k : Nat) (h : k < z.2.2.2.1.length), z.2.2.2.1[k].f = bT (upT r (treeAt c k)) ∧ z.2.2.2.1[k].f ≠ [] ∧ (upT r (treeAt c k)).ok)
     (fun z => c.length - z.1) (0, none, 0, [], [], []) ⟨Nat.zero_le _, rfl, fun _ => ⟨rfl, rfl⟩, rfl, (fun _ h => by cases h), fun _ h => absurd h (Nat.not_lt_zero _)⟩ ⟨rfl, rfl, rfl, rfl, rfl, trivial⟩ (List.Sublist.refl _) (fun z hI IH => ?_)
   obtain ⟨i, q, cap, gs, sp, H⟩ := z
   obtain ⟨hi, hgl, hq, hcap, hin, hgs⟩ := hI
   dsimp only at hi hgl hq hcap hin hgs IH ⊢
   refine gS (gR ?_)
   refine gBi bLt ?_
   refine gE (gS ?_)
   refine GoH.cond rfl (fun hc => ?_) (fun hc => ?_)
   ·
    have hm : i < c.length := by simp at hc; omega
    have hok := hNd i hm
    have hun := upT_node (r := r) hm hNd
    have hop := hok.op
    have hfl := hok.fld
    have hmem : treeAt c i ∈ subT (topT f) := by rw [← ht, hct]; rw [hct] at hm; exact canAt_mem hT hm
    have huok := upT_kids hr0 hm hNd
    have hsub : ∀ {p : List (Option Nat × Obj)} {k : Nat}, k < gs.length → (gs.getD k FV.z).In 49 (p ++ H) := fun {p k} hk => (hin _ (getD_in hk)).mono (List.subset_append_right p H)
    refine gK (gS (gB (gS (gR ?_))))
    refine GoH.v (Vop.idxS rfl rfl rfl rfl rfl Try.underlying22 Try.sizeOf49 i ⟨rfl, hm⟩) ?_
    refine GoH.v (Vop.ldN (cs := NV.cells c[i]) rfl rfl rfl rfl Try.isAgg49 Try.sizeOf49 (fun w _ hS => Sl.many (enc := NV.cells) (sz := 6) (a := some ⟨bc, 0, none⟩) (Sl.blk (hS.get (j := 0) rfl)) (fun _ => rfl) hm)) ?_
    refine GoH.alc rfl rfl rfl (fun _ => Try.zeroValue49 _) (fun b9 => ?_)
    refine GoH.stB rfl rfl rfl rfl Try.sizeOf49 0 rfl rfl rfl rfl ?_
    refine gE (gS (gR ?_))
    iterate 2 refine gAs ?_
    refine gE (gS (gS (gR ?_)))
    refine gFp Try.underlying49 Try.sizeOf3 0 ?_
    refine gLo Try.isAgg3 0 ?_
    refine gBi bGe ?_
    refine gE ?_
    refine GoH.cond rfl (fun hc => ?_) (fun hc => ?_)
    ·
     have hX : usX c[i].op = true := by rw [usX_iff hop]; simpa using hc
     obtain ⟨bq, rfl⟩ : ∃ b, q = some b := by
       cases q with
       | none => have := (hq rfl).1; have := hok.x hX; omega
       | some b => exact ⟨b, rfl⟩
     have hgD : ∀ {k : Nat}, k < gs.length → (gs.getD k FV.z).f = bT (upT r (treeAt c k)) ∧ (gs.getD k FV.z).f ≠ [] ∧ (upT r (treeAt c k)).ok := fun {k} hk => by rw [getD_lt hk]; exact hgs k hk
     have hrx := hok.x hX
     obtain ⟨kx, hkx⟩ : ∃ k : Nat, c[i].x = (k : Int) := ⟨c[i].x.toNat, by omega⟩
     have hlx : kx < gs.length := by omega
     have htx : c[i].x.toNat = kx := by omega
     rw [htx] at hun
     refine gR ?_
     refine gMv ?_
     refine gFp Try.underlying49 Try.sizeOf3 4 ?_
     refine gLo Try.isAgg3 0 ?_
     refine GoH.v (Vop.idxS rfl rfl rfl rfl rfl Try.underlying29 Try.sizeOf22 (kx) ⟨hkx, hlx⟩) ?_
     refine GoH.v (Vop.ldE FV.v FV.z rfl rfl rfl rfl Try.isAgg22 2 rfl hlx) ?_
     refine gAs ?_
     refine gE (gS (gS (gR ?_)))
     refine gFp Try.underlying49 Try.sizeOf3 0 ?_
     refine gLo Try.isAgg3 0 ?_
     refine GoH.callP rfl rfl rfl rfl rfl (fun _ _ => Try.call80 _ _) (fun w _ hS => (by exact binary_c c[i].op w hop)) ?_
     refine gE ?_
     refine GoH.cond rfl (fun hc => ?_) (fun hc => ?_)
     ·
      have hY : usY c[i].op = true := hc
      have hry := hok.y hY
      obtain ⟨ky, hky⟩ : ∃ k : Nat, c[i].y = (k : Int) := ⟨c[i].y.toNat, by omega⟩
      have hly : ky < gs.length := by omega
      have hty : c[i].y.toNat = ky := by omega
      rw [hty] at hun
      refine gR ?_
      refine gMv ?_
      refine gFp Try.underlying49 Try.sizeOf3 5 ?_
      refine gLo Try.isAgg3 0 ?_
      refine GoH.v (Vop.idxS rfl rfl rfl rfl rfl Try.underlying29 Try.sizeOf22 (ky) ⟨hky, hly⟩) ?_
      refine GoH.v (Vop.ldE FV.v FV.z rfl rfl rfl rfl Try.isAgg22 2 rfl hly) ?_
      refine gAs ?_
      refine gE (gS (gR ?_))
      refine gMv ?_
      refine GoH.v (Vop.ldB rfl rfl rfl rfl Try.isAgg49 0 rfl Try.sizeOf49 rfl) ?_
      iterate 2 refine gMv ?_
      refine GoH.callC (fs := []) (cs := cs) (fun w v w' => RvP 49 w w' v (gs.getD kx FV.z) (gs.getD ky FV.z) (upT r (treeAt c i))) rfl rfl rfl rfl rfl hr.enter (fun w _ hS => ?_) ?_
      · rw [hun]
        exact hr.run w hS.ext c[i] (gs.getD kx FV.z) (gs.getD ky FV.z) _ _ hop hfl (fun _ => by rw [if_pos hX]; exact ⟨(hsub (p := [_, _, _]) hlx).at hS, (hgD hlx).1, (hgD hlx).2.2⟩) (fun _ => by rw [if_pos hY]; exact ⟨(hsub (p := [_, _, _]) hly).at hS, (hgD hly).1, (hgD hly).2.2⟩) (fun _ => (hgD hlx).2.1) (fun _ => (hgD hly).2.1)
      rintro v w1 w2 Y' hS he hR
      obtain ⟨fv, p, rfl, hfv, hS', hin2⟩ := hR.gain (H := H) hS he (.inl (hsub (p := []) hlx)) (.inl (hsub (p := []) hly))
      have hfok : (upT r (treeAt c i)).ok := huok
      refine ⟨_, hS', ?_⟩
      refine gAs ?_
      refine gE (gS (gS (gR ?_)))
      refine gMv ?_
      refine gBl Try.underlying22 ?_
      refine gBi bEq ?_
      refine gE ?_
      refine GoH.cond rfl (fun hc => ?_) (fun hc => ?_)
      ·
       have hnil : fv.f = [] := List.eq_nil_of_length_eq_zero (by simpa using hc)
       refine gS (gR ?_)
       iterate 2 refine gAs ?_
       refine gE ?_
       refine GoH.ret Try.f40 Try.func40 rfl (fun w' hS => ?_)
       exact ⟨hS.ext, _, [], _, rfl, OwnN.nil0, .inr (.inl ⟨h0, ⟨_, hmem, by rw [← hfv]; exact hnil⟩, rfl, rfl⟩)⟩
      ·
       have hnil : fv.f ≠ [] := fun e => by rw [e] at hc; simp at hc
       refine gK (gR ?_)
       iterate 2 refine gMv ?_
       refine GoH.bsN (c := [_]) rfl rfl rfl rfl Try.underlying29 Try.sizeOf22 Try.zeroValue22 rfl rfl (fun b51 => ?_)
       refine GoH.appE FV.v (news := [fv]) (spn := []) (xs := gs) (sp := sp) (q := (some bq)) rfl rfl rfl rfl rfl Try.underlying29 hi1 hz1 hsz1 rfl hq 4 rfl 0 rfl hcap rfl (by decide) (fun _ => rfl) (by simp [maxLen]; omega) (by simp [hby1]; omega) (fun b' sp' cap' hlen => ?_)
       refine gAs ?_
       refine gE (gIb (gR ?_))
       refine GoH.v (Vop.bin rfl rfl rfl rfl (bAdd (by omega)) rfl) ?_
       refine gMv ?_
       refine gE ?_
       refine GoH.pickT (pre := [_, _, _, _, _]) (pre' := [_, _, _]) H [3, 4, 1] (by decide) rfl ?_
       refine IH (i + 1, some b', cap', gs ++ [fv], sp', p :: H) _ _ ⟨hm, by simp [hgl], (fun e => by cases e), hlen, fun g hg => ?_, fun k hk => ?_⟩ (by dsimp only; omega) ⟨rfl, rfl, rfl, rfl, rfl, trivial⟩ (List.Sublist.refl _)
       · rcases List.mem_append.1 hg with hg | hg
         · exact (hin g hg).mono (List.subset_cons_self _ _)
         · rw [List.mem_singleton.1 hg]; exact hin2
       · by_cases hk2 : k < gs.length
         · dsimp only; rw [List.getElem_append_left hk2]; exact hgs k hk2
         · have e : k = gs.length := by simp at hk; omega
           subst e
           simp only [List.getElem_append_right (Nat.le_refl _), Nat.sub_self, List.getElem_cons_zero]
           rw [hgl]; exact ⟨hfv, hnil, hfok⟩
     ·
      have hY : usY c[i].op = false := hc
      refine gK (gS (gR ?_))
      refine gMv ?_
      refine GoH.v (Vop.ldB rfl rfl rfl rfl Try.isAgg49 0 rfl Try.sizeOf49 rfl) ?_
      iterate 2 refine gMv ?_
      refine GoH.callC (fs := []) (cs := cs) (fun w v w' => RvP 49 w w' v (gs.getD kx FV.z) FV.z (upT r (treeAt c i))) rfl rfl rfl rfl rfl hr.enter (fun w _ hS => ?_) ?_
      · rw [hun]
        exact hr.run w hS.ext c[i] (gs.getD kx FV.z) FV.z _ _ hop hfl (fun _ => by rw [if_pos hX]; exact ⟨(hsub (p := [_, _, _]) hlx).at hS, (hgD hlx).1, (hgD hlx).2.2⟩) (fun e => absurd (hY.symm.trans e) (by decide)) (fun _ => (hgD hlx).2.1) (fun e => absurd (hY.symm.trans e) (by decide))
      rintro v w1 w2 Y' hS he hR
      obtain ⟨fv, p, rfl, hfv, hS', hin2⟩ := hR.gain (H := H) hS he (.inl (hsub (p := []) hlx)) (.inr rfl)
      have hfok : (upT r (treeAt c i)).ok := huok
      refine ⟨_, hS', ?_⟩
      refine gAs ?_
      refine gE (gS (gS (gR ?_)))
      refine gMv ?_
      refine gBl Try.underlying22 ?_
      refine gBi bEq ?_
      refine gE ?_
      refine GoH.cond rfl (fun hc => ?_) (fun hc => ?_)
      ·
       have hnil : fv.f = [] := List.eq_nil_of_length_eq_zero (by simpa using hc)
       refine gS (gR ?_)
       iterate 2 refine gAs ?_
       refine gE ?_
       refine GoH.ret Try.f40 Try.func40 rfl (fun w' hS => ?_)
       exact ⟨hS.ext, _, [], _, rfl, OwnN.nil0, .inr (.inl ⟨h0, ⟨_, hmem, by rw [← hfv]; exact hnil⟩, rfl, rfl⟩)⟩
      ·
       have hnil : fv.f ≠ [] := fun e => by rw [e] at hc; simp at hc
       refine gK (gR ?_)
       iterate 2 refine gMv ?_
       refine GoH.bsN (c := [_]) rfl rfl rfl rfl Try.underlying29 Try.sizeOf22 Try.zeroValue22 rfl rfl (fun b51 => ?_)
       refine GoH.appE FV.v (news := [fv]) (spn := []) (xs := gs) (sp := sp) (q := (some bq)) rfl rfl rfl rfl rfl Try.underlying29 hi1 hz1 hsz1 rfl hq 4 rfl 0 rfl hcap rfl (by decide) (fun _ => rfl) (by simp [maxLen]; omega) (by simp [hby1]; omega) (fun b' sp' cap' hlen => ?_)
       refine gAs ?_
       refine gE (gIb (gR ?_))
       refine GoH.v (Vop.bin rfl rfl rfl rfl (bAdd (by omega)) rfl) ?_
       refine gMv ?_
       refine gE ?_
       refine GoH.pickT (pre := [_, _, _, _, _]) (pre' := [_, _, _]) H [3, 4, 1] (by decide) rfl ?_
       refine IH (i + 1, some b', cap', gs ++ [fv], sp', p :: H) _ _ ⟨hm, by simp [hgl], (fun e => by cases e), hlen, fun g hg => ?_, fun k hk => ?_⟩ (by dsimp only; omega) ⟨rfl, rfl, rfl, rfl, rfl, trivial⟩ (List.Sublist.refl _)
       · rcases List.mem_append.1 hg with hg | hg
         · exact (hin g hg).mono (List.subset_cons_self _ _)
         · rw [List.mem_singleton.1 hg]; exact hin2
       · by_cases hk2 : k < gs.length
         · dsimp only; rw [List.getElem_append_left hk2]; exact hgs k hk2
         · have e : k = gs.length := by simp at hk; omega
           subst e
           simp only [List.getElem_append_right (Nat.le_refl _), Nat.sub_self, List.getElem_cons_zero]
           rw [hgl]; exact ⟨hfv, hnil, hfok⟩
    ·
     have hX : usX c[i].op = false := by rw [usX_iff hop]; simpa using hc
     have hY := usX_of_Y hX
     refine gK (gS (gS (gR ?_)))
     refine gFp Try.underlying49 Try.sizeOf3 0 ?_
     refine gLo Try.isAgg3 0 ?_
     refine GoH.callP rfl rfl rfl rfl rfl (fun _ _ => Try.call80 _ _) (fun w _ hS => (by exact binary_c c[i].op w hop)) ?_
     refine gE ?_
     refine GoH.cond rfl (fun hc => ?_) (fun hc => ?_)
     ·
      exact absurd (hY.symm.trans hc) (by decide)
     ·
      refine gK (gS (gR ?_))
      refine gMv ?_
      refine GoH.v (Vop.ldB rfl rfl rfl rfl Try.isAgg49 0 rfl Try.sizeOf49 rfl) ?_
      iterate 2 refine gMv ?_
      refine GoH.callC (fs := []) (cs := cs) (fun w v w' => RvP 49 w w' v FV.z FV.z (upT r (treeAt c i))) rfl rfl rfl rfl rfl hr.enter (fun w _ hS => ?_) ?_
      · rw [hun]
        exact hr.run w hS.ext c[i] FV.z FV.z _ _ hop hfl (fun e => absurd (hX.symm.trans e) (by decide)) (fun e => absurd (hY.symm.trans e) (by decide)) (fun e => absurd (hX.symm.trans e) (by decide)) (fun e => absurd (hY.symm.trans e) (by decide))
      rintro v w1 w2 Y' hS he hR
      obtain ⟨fv, p, rfl, hfv, hS', hin2⟩ := hR.gain (H := H) hS he (.inr rfl) (.inr rfl)
      have hfok : (upT r (treeAt c i)).ok := huok
      refine ⟨_, hS', ?_⟩
      refine gAs ?_
      refine gE (gS (gS (gR ?_)))
      refine gMv ?_
      refine gBl Try.underlying22 ?_
      refine gBi bEq ?_
      refine gE ?_
      refine GoH.cond rfl (fun hc => ?_) (fun hc => ?_)
      ·
       have hnil : fv.f = [] := List.eq_nil_of_length_eq_zero (by simpa using hc)
       refine gS (gR ?_)
       iterate 2 refine gAs ?_
       refine gE ?_
       refine GoH.ret Try.f40 Try.func40 rfl (fun w' hS => ?_)
       exact ⟨hS.ext, _, [], _, rfl, OwnN.nil0, .inr (.inl ⟨h0, ⟨_, hmem, by rw [← hfv]; exact hnil⟩, rfl, rfl⟩)⟩
      ·
       have hnil : fv.f ≠ [] := fun e => by rw [e] at hc; simp at hc
       refine gK (gR ?_)
       iterate 2 refine gMv ?_
       refine GoH.bsN (c := [_]) rfl rfl rfl rfl Try.underlying29 Try.sizeOf22 Try.zeroValue22 rfl rfl (fun b51 => ?_)
       refine GoH.appE FV.v (news := [fv]) (spn := []) (xs := gs) (sp := sp) (q := q) rfl rfl rfl rfl rfl Try.underlying29 hi1 hz1 hsz1 rfl hq 4 rfl 0 rfl hcap rfl (by decide) (fun _ => rfl) (by simp [maxLen]; omega) (by simp [hby1]; omega) (fun b' sp' cap' hlen => ?_)
       refine gAs ?_
       refine gE (gIb (gR ?_))
       refine GoH.v (Vop.bin rfl rfl rfl rfl (bAdd (by omega)) rfl) ?_
       refine gMv ?_
       refine gE ?_
       refine GoH.pickT (pre := [_, _, _, _, _]) (pre' := [_, _, _]) H [3, 4, 1] (by decide) rfl ?_
       refine IH (i + 1, some b', cap', gs ++ [fv], sp', p :: H) _ _ ⟨hm, by simp [hgl], (fun e => by cases e), hlen, fun g hg => ?_, fun k hk => ?_⟩ (by dsimp only; omega) ⟨rfl, rfl, rfl, rfl, rfl, trivial⟩ (List.Sublist.refl _)
       · rcases List.mem_append.1 hg with hg | hg
         · exact (hin g hg).mono (List.subset_cons_self _ _)
         · rw [List.mem_singleton.1 hg]; exact hin2
       · by_cases hk2 : k < gs.length
         · dsimp only; rw [List.getElem_append_left hk2]; exact hgs k hk2
         · have e : k = gs.length := by simp at hk; omega
           subst e
           simp only [List.getElem_append_right (Nat.le_refl _), Nat.sub_self, List.getElem_cons_zero]
           rw [hgl]; exact ⟨hfv, hnil, hfok⟩
   ·
    have hge : ¬ i < c.length := by simp at hc; omega
    obtain rfl : i = c.length := by omega
    obtain ⟨bq, rfl⟩ : ∃ b, q = some b := by
      cases q with
      | none => have := (hq rfl).1; omega
      | some b => exact ⟨b, rfl⟩
    have hlast : c.length - 1 < gs.length := by omega
    have hall : ∀ u ∈ subT (topT f), bT (upT r u) ≠ [] := fun u hu => by
      rw [← ht] at hu
      obtain ⟨k, hk, rfl⟩ := mem_canAt hT hu
      rw [← hct] at hk ⊢
      have := hgs k (by omega)
      rw [← this.1]; exact this.2.1
    have htop : (gs.getD (c.length - 1) FV.z).f = bT (upT r (topT f)) := by
      rw [getD_lt hlast, (hgs _ hlast).1, hct, canAt_top hT, ht]
    refine GoH.exit rfl (gS (gR ?_))
    iterate 2 refine gMv ?_
    refine gBl Try.underlying29 ?_
    refine GoH.v (Vop.bin rfl rfl rfl rfl (bSubE (c := ((c.length - 1 : Nat) : Int)) (by omega) (by omega)) rfl) ?_
    refine GoH.v (Vop.idxS rfl rfl rfl rfl rfl Try.underlying29 Try.sizeOf22 (c.length - 1) ⟨rfl, hlast⟩) ?_
    refine GoH.v (Vop.ldE FV.v FV.z rfl rfl rfl rfl Try.isAgg22 1 rfl hlast) ?_
    iterate 2 refine gAs ?_
    refine gE ?_
    refine GoH.ret Try.f40 Try.func40 rfl (fun w' hS => ?_)
    exact ⟨hS.ext, _, _, 0, rfl, ((hin _ (getD_in hlast)).mono (fun _ h => List.mem_cons_of_mem _ (List.mem_cons_of_mem _ h))).own hS, .inr (.inr ⟨h0, hall, htop, rfl⟩)⟩
theorem simplify_c (a : Option Addr) (ca : Nat) (f : List NV) (w : World) (ha : FA w a f) (hl : f.length ≤ maxLen) : Cn Try.prog 12 [.slice a f.length ca] w (fun v w' => ∃ sv o e, v = .tuple #[sv, .int .i64 e] ∧ OwnN 49 w w' sv o ∧ UpP simT f o e) := by
  refine Cn.of Try.func12 rfl rfl ?_
  refine gS (gR ?_)
  iterate 2 refine gAs ?_
  refine gE (gS (gR ?_))
  refine gMv ?_
  refine GoH.callM _ rfl rfl rfl rfl rfl (fun _ _ => Try.call40 _ _) (fun w _ hS => (by exact upward_c simT _ [] a ca f w simT_ok (ha.ex0 hS.ext) hl (simple_r w))) ?_
  rintro v w1 w2 Y' hS he ⟨sv, o, e, rfl, ho, hup⟩
  obtain ⟨q, cap, sp, rfl, hq, hcap, hS'⟩ := gainN hS he ho
  refine ⟨_, hS', ?_⟩
  iterate 2 refine gEx ?_
  iterate 2 refine gAs ?_
  refine gE ?_
  refine GoH.ret Try.f12 Try.func12 rfl (fun w' hS => ?_)
  exact ⟨hS.ext, _, o, e, rfl, OwnN.mk hS 0 rfl rfl hq hcap, hup⟩
end Go.Proofs.Ytkoipdlkkchmiaa
namespace Go.Proofs.Ytkoipdlkkchmiaa
open Go.RowKit Go.Proofs.Wit
/-! substitution -/
theorem subst1_r (bT' : Nat) (A : Option Addr) (cA : Nat) (gs : List FV) (w : World) (hb : w.heap[bT']? = some (.cells #[.slice A gs.length cA] 29 (0, 0))) (hA : SlG w A gs) (hfa : ∀ g ∈ gs, FA w g.a g.f) (hgl : ∀ g ∈ gs, g.f.length ≤ maxLen) (h0 : frsE (gs.map FV.f) = 0) :
    RulC Try.prog 49 (subR ((gs.map FV.f).map topT)) 49 [.pointer (some ⟨bT', 0, none⟩)] w := by
  refine ⟨(fun _ _ => Try.call49 _ _), fun w1 hw n a b ta tb hop hf ha hb2 hna hnb => ?_⟩
  have hb := hw.keep hb
  have hA : SlG w1 A gs := hA.ex0 hw
  have hfa : ∀ g ∈ gs, FA w1 g.a g.f := fun g hg => (hfa g hg).ex0 hw
  clear hw
  obtain ⟨op, i, e, g, x, y⟩ := n
  dsimp only at hop hf ha hb2 hna hnb ⊢
  have HB : ∀ {w' : World} {j : Nat} {v : Value}, Ex [] w1 w' → (#[Value.slice A gs.length cA])[j]? = some v → w'.cell? ⟨bT', j, none⟩ = some v := fun e h => Ex.cellS e (by simp) hb h
  refine Cn.of Try.func49 rfl rfl ?_
  refine gS (gR ?_)
  refine GoH.bx rfl rfl rfl rfl (fun b4 => ?_)
  refine gAs ?_
  refine gE (gS (gS (gR ?_)))
  refine gFp Try.underlying49 Try.sizeOf3 0 ?_
  refine gLo Try.isAgg3 0 ?_
  refine gBi bEq ?_
  refine gMv ?_
  refine GoH.cases (d := 11) rfl (fun hc => ?_) (fun hc => ?_)
  ·
   obtain rfl : op = 3 := by simpa using hc
   have hF := fldOk_of hf
   have hi := hF.fact rfl
   obtain ⟨k, rfl⟩ : ∃ k : Nat, i = k := ⟨i.toNat, by omega⟩
   refine gFp Try.underlying49 Try.sizeOf3 1 ?_
   refine gLo Try.isAgg3 0 ?_
   refine GoH.v (Vop.ld (p := ⟨bT', 0, none⟩) rfl rfl rfl rfl Try.isAgg29 (fun w _ hS => HB hS.ext rfl)) ?_
   refine gBl Try.underlying29 ?_
   refine gBi bLt ?_
   refine gPt ?_
   refine gE ?_
   refine GoH.cond rfl (fun hc => ?_) (fun hc => ?_)
   ·
    have hlt : k < gs.length := by simpa using hc
    have hmem : gs[k] ∈ gs := List.getElem_mem hlt
    have hck : chkF gs[k].f = 0 := frsE_zero.1 h0 _ (List.mem_map_of_mem hmem)
    have hsr : subR ((gs.map FV.f).map topT) 3 (k : Int) e g ta tb = topT gs[k].f := by
      unfold subR
      rw [if_pos ⟨rfl, by simpa using hlt⟩]
      simp [List.getD_eq_getElem?_getD, hlt]
    refine gS (gR ?_)
    refine GoH.v (Vop.ld (p := ⟨bT', 0, none⟩) rfl rfl rfl rfl Try.isAgg29 (fun w _ hS => HB hS.ext rfl)) ?_
    refine gFp Try.underlying49 Try.sizeOf3 1 ?_
    refine gLo Try.isAgg3 0 ?_
    refine GoH.v (Vop.idx rfl rfl rfl rfl rfl Try.underlying29 Try.sizeOf22 ⟨_, hA⟩ (by simp) (k) ⟨rfl, by simpa using hlt⟩) ?_
    refine GoH.v (Vop.ld rfl rfl rfl rfl Try.isAgg22 (fun w _ hS => (SlG.ex0 hA hS.ext).at (k) hlt)) ?_
    refine GoH.callM _ rfl rfl rfl rfl rfl (fun _ _ => Try.call50 _ _) (fun w _ hS => (by exact fcompact_c gs[k].a gs[k].c gs[k].f w ((hfa _ hmem).ex0 hS.ext) (hgl _ hmem))) ?_
    rintro v w1 w2 Y' hS he ho
    rw [subF_top, comp_bT hck] at ho
    obtain ⟨q, cap, sp, rfl, hq, hcap, hS'⟩ := gainN hS he ho
    refine ⟨_, hS', ?_⟩
    refine gAs ?_
    refine gE ?_
    refine GoH.ret Try.f49 Try.func49 rfl (fun w' hS => ?_)
    exact ⟨hS.ext, by rw [hsr]; exact RvP.own (OwnN.mk hS 0 rfl rfl hq hcap)⟩
   ·
    have hlt : ¬ k < gs.length := by simpa using hc
    have hsr : subR ((gs.map FV.f).map topT) 3 (k : Int) e g ta tb = mkQ 3 k e g ta tb := if_neg (fun h => hlt (by simpa using h.2))
    refine gK (gS (gR ?_))
    refine GoH.v (Vop.ldB rfl rfl rfl rfl Try.isAgg49 0 rfl Try.sizeOf49 rfl) ?_
    iterate 2 refine gMv ?_
    refine GoH.callM _ rfl rfl rfl rfl rfl (fun _ _ => Try.call51 _ _) (fun w _ hS => (by exact rbuild0_c 3 k e g x y a b ta tb w hop hf (ha.ex0 hS.ext) (hb2.ex0 hS.ext))) ?_
    rintro v w1 w2 Y' hS he ho
    obtain ⟨q, cap, sp, rfl, hq, hcap, hS'⟩ := gainN hS he ho
    refine ⟨_, hS', ?_⟩
    refine gAs ?_
    refine gE ?_
    refine GoH.ret Try.f49 Try.func49 rfl (fun w' hS => ?_)
    exact ⟨hS.ext, by rw [hsr]; exact RvP.own (OwnN.mk hS 0 rfl rfl hq hcap)⟩
  ·
   have h3 : op ≠ 3 := by simpa using hc
   iterate 5 refine gNo ?_
   refine gPf ?_
   refine gE (GoH.condF rfl (gK (gS (gR ?_))))
   refine GoH.v (Vop.ldB rfl rfl rfl rfl Try.isAgg49 0 rfl Try.sizeOf49 rfl) ?_
   iterate 2 refine gMv ?_
   refine GoH.callM _ rfl rfl rfl rfl rfl (fun _ _ => Try.call51 _ _) (fun w _ hS => (by exact rbuild0_c op i e g x y a b ta tb w hop hf (ha.ex0 hS.ext) (hb2.ex0 hS.ext))) ?_
   rintro v w1 w2 Y' hS he ho
   obtain ⟨q, cap, sp, rfl, hq, hcap, hS'⟩ := gainN hS he ho
   refine ⟨_, hS', ?_⟩
   refine gAs ?_
   refine gE ?_
   refine GoH.ret Try.f49 Try.func49 rfl (fun w' hS => ?_)
   exact ⟨hS.ext, by rw [sub_X h3]; exact RvP.own (OwnN.mk hS 0 rfl rfl hq hcap)⟩
theorem subst_c (a : Option Addr) (ca : Nat) (f : List NV) (A : Option Addr) (cA : Nat) (gs : List FV) (w : World) (ha : FA w a f) (hl : f.length ≤ maxLen) (hA : SlG w A gs) (hfa : ∀ g ∈ gs, FA w g.a g.f) (hgl : ∀ g ∈ gs, g.f.length ≤ maxLen) (hGl : gs.length ≤ maxLen) :
    Cn Try.prog 15 [.slice a f.length ca, .slice A gs.length cA] w (fun v w' => ∃ sv o e, v = .tuple #[sv, .int .i64 e] ∧ OwnN 49 w w' sv o ∧ SbP f (gs.map FV.f) o e) := by
  unfold maxLen at hGl
  refine Cn.of Try.func15 rfl rfl ?_
  refine gS (gR ?_)
  refine GoH.bx rfl rfl rfl rfl (fun b3 => ?_)
  iterate 2 refine gAs ?_
  refine gE (gS (gS (gR ?_)))
  refine gMv ?_
  refine GoH.callP rfl rfl rfl rfl rfl (fun _ _ => Try.call48 _ _) (fun w _ hS => (by exact fcheck_c a ca f w (ha.ex0 hS.ext) hl)) ?_
  refine gAs ?_
  refine gE (gS (gR ?_))
  refine gMv ?_
  refine gBi bNe ?_
  refine gE ?_
  refine GoH.cond rfl (fun hc => ?_) (fun hc => ?_)
  ·
   have h1 : chkF f ≠ 0 := by simpa using hc
   refine gS (gR ?_)
   refine gMv ?_
   iterate 2 refine gAs ?_
   refine gE ?_
   refine GoH.ret Try.f15 Try.func15 rfl (fun w' hS => ?_)
   exact ⟨hS.ext, _, [], _, rfl, OwnN.nil0, .inl ⟨h1, rfl, rfl⟩⟩
  ·
   have h0 : chkF f = 0 := by simpa using hc
   refine gK (gS (gS (gR ?_)))
   refine gLo Try.isAgg29 0 ?_
   refine gBl Try.underlying29 ?_
   refine gMv ?_
   refine gE (gB ?_)
   refine GoH.loop (σ := Nat) (fun k => [(0, .slice a f.length ca), (3, .pointer (some ⟨b3, 0, none⟩)), (15, .slice A gs.length cA), (16, .int .i64 gs.length), (17, .int .i64 k)]) (fun _ => [(some b3, .cells #[.slice A gs.length cA] 29 (0, 0))]) (fun k => k ≤ gs.length ∧ ∀ g ∈ (gs.map FV.f).take k, chkF g = 0) (fun k => gs.length - k) 0 ⟨Nat.zero_le _, fun g hg => by simp at hg⟩ ⟨rfl, rfl, rfl, rfl, rfl, trivial⟩ (List.Sublist.refl _) (fun k hI IH => ?_)
   obtain ⟨hk, hz⟩ := hI
   refine gS (gR ?_)
   refine gBi bLt ?_
   refine gE (gS ?_)
   refine GoH.cond rfl (fun hc => ?_) (fun hc => ?_)
   ·
    have hlt : k < gs.length := by simpa using hc
    have hmem : gs[k] ∈ gs := List.getElem_mem hlt
    have hlm : k < (gs.map FV.f).length := by simpa using hlt
    have hgk : (gs.map FV.f)[k] = gs[k].f := by simp
    refine gK (gS (gB (gS (gR ?_))))
    refine GoH.v (Vop.idx rfl rfl rfl rfl rfl Try.underlying29 Try.sizeOf22 ⟨_, hA⟩ (by simp) (k) ⟨rfl, by simpa using hlt⟩) ?_
    refine GoH.v (Vop.ld rfl rfl rfl rfl Try.isAgg22 (fun w _ hS => (SlG.ex0 hA hS.ext).at (k) hlt)) ?_
    refine gAs ?_
    refine gE (gS (gR ?_))
    refine gMv ?_
    refine GoH.callP rfl rfl rfl rfl rfl (fun _ _ => Try.call48 _ _) (fun w _ hS => (by exact fcheck_c gs[k].a gs[k].c gs[k].f w ((hfa _ hmem).ex0 hS.ext) (hgl _ hmem))) ?_
    refine gAs ?_
    refine gE (gS (gR ?_))
    refine gMv ?_
    refine gBi bNe ?_
    refine gE ?_
    refine GoH.cond rfl (fun hc => ?_) (fun hc => ?_)
    ·
     have h1 : chkF gs[k].f ≠ 0 := by simpa using hc
     refine gS (gR ?_)
     refine gMv ?_
     iterate 2 refine gAs ?_
     refine gE ?_
     refine GoH.ret Try.f15 Try.func15 rfl (fun w' hS => ?_)
     have he := frsE_at hlm hz (by rw [hgk]; exact h1)
     rw [hgk] at he
     exact ⟨hS.ext, _, [], _, rfl, OwnN.nil0, .inr (.inl ⟨h0, by rw [he]; exact h1, rfl, he.symm⟩)⟩
    ·
     have h1 : chkF gs[k].f = 0 := by simpa using hc
     refine gK (gIb (gR ?_))
     refine GoH.v (Vop.bin rfl rfl rfl rfl (bAdd (by omega)) rfl) ?_
     refine gMv ?_
     refine gE ?_
     refine IH (k + 1) _ _ ⟨hlt, fun g hg => ?_⟩ (by omega) ⟨rfl, rfl, rfl, rfl, rfl, trivial⟩ (List.Sublist.refl _)
     rw [List.take_succ_eq_append_getElem hlm] at hg
     rcases List.mem_append.1 hg with hg | hg
     · exact hz g hg
     · rw [List.mem_singleton.1 hg, hgk]; exact h1
   ·
    have hge : ¬ k < gs.length := by simpa using hc
    obtain rfl : k = gs.length := by omega
    have hall : frsE (gs.map FV.f) = 0 := frsE_zero.2 (by rw [show gs.length = (gs.map FV.f).length from by simp, List.take_length] at hz; exact hz)
    refine GoH.exit rfl (gS (gR ?_))
    refine gMv ?_
    refine GoH.v (Vop.mkFunc rfl rfl rfl rfl rfl) ?_
    refine GoH.callM _ rfl rfl rfl rfl rfl (fun _ _ => Try.call40 _ _) (fun w _ hS => (by exact upward_c _ _ [.pointer (some ⟨b3, 0, none⟩)] a ca f w (subR_ok (tops_ok hall)) (ha.ex0 hS.ext) hl (subst1_r b3 A cA gs w (hS.get (j := 0) rfl) (hA.ex0 hS.ext) (fun g hg => (hfa g hg).ex0 hS.ext) hgl hall))) ?_
    rintro v w1 w2 Y' hS he ⟨sv, o, e, rfl, ho, hup⟩
    obtain ⟨q, cap, sp, rfl, hq, hcap, hS'⟩ := gainN hS he ho
    refine ⟨_, hS', ?_⟩
    iterate 2 refine gEx ?_
    iterate 2 refine gAs ?_
    refine gE ?_
    refine GoH.ret Try.f15 Try.func15 rfl (fun w' hS => ?_)
    exact ⟨hS.ext, _, o, e, rfl, OwnN.mk hS 0 rfl rfl hq hcap, .inr (.inr ⟨h0, hall, hup⟩)⟩
end Go.Proofs.Ytkoipdlkkchmiaa
