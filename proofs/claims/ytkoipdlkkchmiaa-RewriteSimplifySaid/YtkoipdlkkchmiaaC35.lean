/- What calls of the program return, under the conditions that each theorem states. -/
import Derived.Test.YtkoipdlkkchmiaaC22
import Derived.Test.YtkoipdlkkchmiaaC26
import Derived.Test.YtkoipdlkkchmiaaC34
import Derived.Test.YtkoipdlkkchmiaaC03
import Derived.Test.YtkoipdlkkchmiaaC28
import Derived.Test.YtkoipdlkkchmiaaC30
namespace Go.Proofs.Ytkoipdlkkchmiaa
open Go.RowKit Go.Proofs.Wit
/-! the reference's simplification -/
set_option maxRecDepth 8000 in
theorem rsimplify_c (a : Option Addr) (ca : Nat) (f : List NV) (w : World) (ha : FA w a f) (hl : f.length ≤ maxLen) (hl150 : chkF f = 0 → f.length ≤ 150) :
    Cn Try.prog 13 [.slice a f.length ca] w (fun v w' => ∃ sv o e, v = .tuple #[sv, .int .i64 e] ∧ OwnN 49 w w' sv o ∧ UpQ simT f o e) := by
  obtain ⟨i1, hi1, hz1, hsz1, hby1⟩ := info_parts infoNs
  refine Cn.of Try.func13 rfl rfl ?_
  refine gS (gR ?_)
  iterate 2 refine gAs ?_
  refine gE (gS (gS (gR ?_)))
  refine gMv ?_
  refine GoH.callP rfl rfl rfl rfl rfl (fun _ _ => Try.call17 _ _) (fun w _ hS => (by exact rchk_c a ca f w (ha.ex0 hS.ext) hl)) ?_
  refine gAs ?_
  refine gE (gS (gR ?_))
  refine gMv ?_
  refine gBi bNe ?_
  refine gE ?_
  refine GoH.cond rfl (fun hc => ?_) (fun hc => ?_)
  ·
   have h1 : chkF f ≠ 0 := by simpa using hc
   refine gS (gR ?_)
   refine gMv ?_
   iterate 2 refine gAs ?_
   refine gE ?_
   refine GoH.ret Try.f13 Try.func13 rfl (fun w' hS => ?_)
   exact ⟨hS.ext, _, [], _, rfl, OwnN.nil0, .inl ⟨h1, rfl, rfl⟩⟩
  ·
   have h0 : chkF f = 0 := by simpa using hc
   have hl2 := hl150 h0
   have hT := (chkF_zero.1 h0).top
   obtain ⟨t, ht⟩ : ∃ t, t = topT f := ⟨_, rfl⟩
   have hce := compF_eq h0
   have hcl := (compF_ok h0).len
   have hcq := compF_len h0
   rw [← ht] at hT hce
   rw [hce] at hcl hcq
   refine gK (gS (gR ?_))
   refine gAs ?_
   refine gE (gS (gS (gR ?_)))
   refine gMv ?_
   refine GoH.callM _ rfl rfl rfl rfl rfl (fun _ _ => Try.call19 _ _) (fun w _ hS => (by exact rcompact_c a ca f w (ha.ex0 hS.ext) hl)) ?_
   rintro v w1 w2 Y' hS he ho
   rw [subF_top, hce] at ho
   obtain ⟨qc, capc, spc, rfl, hqc, hcapc, hS'⟩ := gainN hS he ho
   refine ⟨_, hS', ?_⟩
   refine gBl Try.underlying22 ?_
   refine gMv ?_
   refine gE (gB ?_)
   have hcp := canT_pos t
   have hNd := canT_nodes hT
   have hsz : ∀ k, k < (canT t).length → (canT (upT simT (treeAt (canT t) k))).length ≤ 150 := fun k hk => by
     have := up_len simT_ok sim_small KC.nil hT _ (canAt_mem hT hk)
     simp only [List.length_nil] at this
     omega
   obtain ⟨c, hct⟩ : ∃ c, c = canT t := ⟨_, rfl⟩
   rw [← hct] at hqc hcapc hcp hcl hNd hsz ⊢
   obtain ⟨bc, rfl⟩ : ∃ bc, qc = some bc := by
     cases qc with
     | none => have := (hqc rfl).1; omega
     | some b => exact ⟨b, rfl⟩
   refine GoH.addNone (ob FV.v 22 [] []) ?_
   refine GoH.pick (pre' := [(some bc, obN 49 c spc), (none, ob FV.v 22 [] [])]) [1, 0] (by decide) rfl ?_
   refine GoH.loop (σ := Nat × Option Nat × Nat × List FV × List Value × Hl) (fun z => [(5, osv z.2.1 z.2.2.2.1.length z.2.2.1), (17, osv (some bc) c.length capc), (18, .int .i64 c.length), (19, .int .i64 z.1)])
     (fun z => [(some bc, obN 49 c spc), (z.2.1, ob FV.v 22 z.2.2.2.1 z.2.2.2.2.1)] ++ z.2.2.2.2.2)
     (fun z => z.1 ≤ c.length ∧ z.2.2.2.1.length = z.1 ∧ (z.2.1 = none → z.2.2.2.1.length = 0 ∧ z.2.2.1 = 0) ∧ (z.2.2.2.1.map FV.v ++ z.2.2.2.2.1).length = z.2.2.1 ∧ (∀ g ∈ z.2.2.2.1, g.In 49 z.2.2.2.2.2) ∧ ∀ (k : Nat) (h : k < z.2.2.2.1.length), z.2.2.2.1[k].f = bT (upT simT (treeAt c k)) ∧ (upT simT (treeAt c k)).ok)
     (fun z => c.length - z.1) (0, none, 0, [], [], []) ⟨Nat.zero_le _, rfl, fun _ => ⟨rfl, rfl⟩, rfl, (fun _ h => by cases h), fun _ h => absurd h (Nat.not_lt_zero _)⟩ ⟨rfl, rfl, rfl, rfl, trivial⟩ (List.Sublist.refl _) (fun z hI IH => ?_)
   obtain ⟨i, q, cap, gs, sp, H⟩ := z
   obtain ⟨hi, hgl2, hq, hcap, hin, hgs⟩ := hI
   dsimp only at hi hgl2 hq hcap hin hgs IH ⊢
   refine gS (gR ?_)
   refine gBi bLt ?_
   refine gE (gS ?_)
   refine GoH.cond rfl (fun hc => ?_) (fun hc => ?_)
   ·
    have hm : i < c.length := by simp at hc; omega
    have hok := hNd i hm
    have hun := upT_node (r := simT) hm hNd
    have hop := hok.op
    have hfl := hok.fld
    have huok := upT_kids simT_ok hm hNd
    have hsub : ∀ {p : List (Option Nat × Obj)} {k : Nat}, k < gs.length → (gs.getD k FV.z).In 49 (p ++ H) := fun {p k} hk => (hin _ (getD_in hk)).mono (List.subset_append_right p H)
    have hgD : ∀ {k : Nat}, k < gs.length → (gs.getD k FV.z).f = bT (upT simT (treeAt c k)) ∧ (upT simT (treeAt c k)).ok := fun {k} hk => by rw [getD_lt hk]; exact hgs k hk
    have hgC : ∀ {k : Nat}, k < gs.length → Cf (gs.getD k FV.z).f (upT simT (treeAt c k)) := fun {k} hk => ⟨(hgD hk).1, by rw [(hgD hk).1]; exact bT_ne.2 (by have := hsz k (by omega); omega), (hgD hk).2⟩
    have hgN : ∀ {k : Nat}, k < gs.length → (gs.getD k FV.z).f ≠ [] ∧ (canT (upT simT (treeAt c k))).length ≤ 150 := fun {k} hk => ⟨(hgC hk).ne, hsz k (by omega)⟩
    refine gK (gS (gB (gS (gR ?_))))
    refine GoH.v (Vop.idxS rfl rfl rfl rfl rfl Try.underlying22 Try.sizeOf49 i ⟨rfl, hm⟩) ?_
    refine GoH.v (Vop.ldN (cs := NV.cells c[i]) rfl rfl rfl rfl Try.isAgg49 Try.sizeOf49 (fun w _ hS => Sl.many (enc := NV.cells) (sz := 6) (a := some ⟨bc, 0, none⟩) (Sl.blk (hS.get (j := 0) rfl)) (fun _ => rfl) hm)) ?_
    refine GoH.alc rfl rfl rfl (fun _ => Try.zeroValue49 _) (fun b7 => ?_)
    refine GoH.stB rfl rfl rfl rfl Try.sizeOf49 0 rfl rfl rfl rfl ?_
    refine gE (gS (gR ?_))
    iterate 2 refine gAs ?_
    refine gE (gS (gS (gR ?_)))
    refine gFp Try.underlying49 Try.sizeOf3 0 ?_
    refine gLo Try.isAgg3 0 ?_
    refine GoH.callP rfl rfl rfl rfl rfl (fun _ _ => Try.call42 _ _) (fun w _ hS => (by exact usesX_c c[i].op w)) ?_
    refine gE ?_
    refine GoH.cond rfl (fun hc => ?_) (fun hc => ?_)
    ·
     have hX : usX c[i].op = true := hc
     obtain ⟨bq, rfl⟩ : ∃ b, q = some b := by
       cases q with
       | none => have := (hq rfl).1; have := hok.x hX; omega
       | some b => exact ⟨b, rfl⟩
     have hrx := hok.x hX
     obtain ⟨kx, hkx⟩ : ∃ k : Nat, c[i].x = (k : Int) := ⟨c[i].x.toNat, by omega⟩
     have hlx : kx < gs.length := by omega
     have htx : c[i].x.toNat = kx := by omega
     rw [htx] at hun
     refine gR ?_
     refine gMv ?_
     refine gFp Try.underlying49 Try.sizeOf3 4 ?_
     refine gLo Try.isAgg3 0 ?_
     refine GoH.v (Vop.idxS rfl rfl rfl rfl rfl Try.underlying29 Try.sizeOf22 (kx) ⟨hkx, hlx⟩) ?_
     refine GoH.v (Vop.ldE FV.v FV.z rfl rfl rfl rfl Try.isAgg22 2 rfl hlx) ?_
     refine gAs ?_
     refine gE (gS (gS (gR ?_)))
     refine gFp Try.underlying49 Try.sizeOf3 0 ?_
     refine gLo Try.isAgg3 0 ?_
     refine GoH.callP rfl rfl rfl rfl rfl (fun _ _ => Try.call43 _ _) (fun w _ hS => (by exact usesY_c c[i].op w)) ?_
     refine gE ?_
     refine GoH.cond rfl (fun hc => ?_) (fun hc => ?_)
     ·
      have hY : usY c[i].op = true := hc
      have hry := hok.y hY
      obtain ⟨ky, hky⟩ : ∃ k : Nat, c[i].y = (k : Int) := ⟨c[i].y.toNat, by omega⟩
      have hly : ky < gs.length := by omega
      have hty : c[i].y.toNat = ky := by omega
      rw [hty] at hun
      refine gR ?_
      refine gMv ?_
      refine gFp Try.underlying49 Try.sizeOf3 5 ?_
      refine gLo Try.isAgg3 0 ?_
      refine GoH.v (Vop.idxS rfl rfl rfl rfl rfl Try.underlying29 Try.sizeOf22 (ky) ⟨hky, hly⟩) ?_
      refine GoH.v (Vop.ldE FV.v FV.z rfl rfl rfl rfl Try.isAgg22 2 rfl hly) ?_
      refine gAs ?_
      refine gE (gS (gR ?_))
      refine gFp Try.underlying49 Try.sizeOf3 0 ?_
      refine gLo Try.isAgg3 0 ?_
      iterate 2 refine gMv ?_
      refine GoH.callM _ rfl rfl rfl rfl rfl (fun _ _ => Try.call44 _ _) (fun w _ hS => (by exact simpleModal_c c[i].op c[i].i c[i].e c[i].g (gs.getD kx FV.z) (gs.getD ky FV.z) (upT simT (treeAt c kx)) (upT simT (treeAt c ky)) w hop hfl (fun _ => ⟨(hsub (p := [_, _, _]) hlx).at hS, hgD hlx⟩) (fun _ => ⟨(hsub (p := [_, _, _]) hly).at hS, hgD hly⟩) (fun _ => hgN hlx) (fun _ => hgN hly))) ?_
      rintro v w1 w2 Y' hS he hr
      obtain ⟨fm, pm, rfl, hS', hmc⟩ := RvO.gainM (Q := 5 ≤ c[i].op ∧ c[i].op ≤ 8) (hr.imp_left and_assoc.2) hS he (.inl (hin _ (getD_in hlx))) (.inl (hin _ (getD_in hly)))
      refine ⟨_, hS', ?_⟩
      have hun' : upT simT (treeAt c i) = simT c[i].op c[i].i c[i].e c[i].g (upT simT (treeAt c kx)) (upT simT (treeAt c ky)) := by rw [hun, if_pos hX, if_pos hY]
      refine gAs ?_
      refine gE (gS (gS (gR ?_)))
      refine gFp Try.underlying49 Try.sizeOf3 0 ?_
      refine gLo Try.isAgg3 1 ?_
      refine gBi bGe ?_
      refine gMv ?_
      refine GoH.cases (d := 47) rfl (fun hc => ?_) (fun hc => ?_)
      ·
       have h5 : 5 ≤ c[i].op := by simpa using hc
       refine gFp Try.underlying49 Try.sizeOf3 0 ?_
       refine gLo Try.isAgg3 1 ?_
       refine gBi bLe ?_
       refine gPt ?_
       refine gE ?_
       refine GoH.cond rfl (fun hc => ?_) (fun hc => ?_)
       ·
        have h8 : c[i].op ≤ 8 := by simpa using hc
        refine gR ?_
        refine gFp Try.underlying49 Try.sizeOf3 0 ?_
        refine gLo Try.isAgg3 1 ?_
        iterate 2 refine gMv ?_
        refine GoH.callM _ rfl rfl rfl rfl rfl (fun _ _ => Try.call45 _ _) (fun w _ hS => (by exact simpleBool_c c[i].op c[i].i c[i].e c[i].g (gs.getD kx FV.z) (gs.getD ky FV.z) (upT simT (treeAt c kx)) (upT simT (treeAt c ky)) w ⟨h5, h8⟩ hfl ((hsub (p := [_, _, _, _]) hlx).at hS) ((hsub (p := [_, _, _, _]) hly).at hS) (hgC hlx) (hgC hly) (hgN hlx).2 (hgN hly).2)) ?_
        rintro v w1 w2 Y' hS he hr
        obtain ⟨fb, pb, rfl, hS', hbc⟩ := hr.gain hS he (.inl (hin _ (getD_in hlx))) (.inl (hin _ (getD_in hly)))
        refine ⟨_, hS', ?_⟩
        refine gAs ?_
        refine gE (gS (gS (gR ?_)))
        refine gMv ?_
        refine gBl Try.underlying22 ?_
        refine gBi bEq ?_
        refine gE ?_
        refine GoH.cond rfl (fun hc => ?_) (fun hc => ?_)
        ·
         have hlz : fb.f.length = 0 := by simpa using hc
         have hum := ((hbc).resolve_left (fun h => h.1 (List.eq_nil_of_length_eq_zero hlz))).2
         refine gR ?_
         refine GoH.v (Vop.ldB rfl rfl rfl rfl Try.isAgg49 2 rfl Try.sizeOf49 rfl) ?_
         iterate 2 refine gMv ?_
         refine GoH.callM _ rfl rfl rfl rfl rfl (fun _ _ => Try.call46 _ _) (fun w _ hS => (by exact rrebuild_c c[i] (gs.getD kx FV.z) (gs.getD ky FV.z) (upT simT (treeAt c kx)) (upT simT (treeAt c ky)) w hop hfl (fun _ => ⟨(hsub (p := [_, _, _, _, _]) hlx).at hS, hgD hlx⟩) (fun _ => ⟨(hsub (p := [_, _, _, _, _]) hly).at hS, hgD hly⟩))) ?_
         rintro v w1 w2 Y' hS he ho
         obtain ⟨qf, capf, spf, rfl, hqf, hcapf, hS'⟩ := gainN hS he ho
         refine ⟨_, hS', ?_⟩
         have hres : (bT (mkQ c[i].op c[i].i c[i].e c[i].g (upT simT (treeAt c kx)) (upT simT (treeAt c ky)))) = bT (upT simT (treeAt c i)) := by rw [hun', hum]
         refine gAs ?_
         refine gE (gR ?_)
         iterate 2 refine gMv ?_
         refine GoH.bsN (c := [_]) rfl rfl rfl rfl Try.underlying29 Try.sizeOf22 Try.zeroValue22 rfl rfl (fun b66 => ?_)
         refine GoH.appE FV.v (news := [⟨qf.map (fun b => ⟨b, 0, none⟩), capf, (bT (mkQ c[i].op c[i].i c[i].e c[i].g (upT simT (treeAt c kx)) (upT simT (treeAt c ky))))⟩]) (spn := []) (xs := gs) (sp := sp) (q := (some bq)) rfl rfl rfl rfl rfl Try.underlying29 hi1 hz1 hsz1 rfl hq 6 rfl 0 rfl hcap rfl (by decide) (fun _ => rfl) (by simp [maxLen]; omega) (by simp [hby1]; omega) (fun b' sp' cap' hlen => ?_)
         refine gAs ?_
         refine gE (gIb (gR ?_))
         refine GoH.v (Vop.bin rfl rfl rfl rfl (bAdd (by omega)) rfl) ?_
         refine gMv ?_
         refine gE ?_
         refine GoH.pickT (pre := [_, _, _, _, _, _, _]) (pre' := [_, _, _]) H [5, 6, 1] (by decide) rfl ?_
         refine IH (i + 1, some b', cap', gs ++ [⟨qf.map (fun b => ⟨b, 0, none⟩), capf, (bT (mkQ c[i].op c[i].i c[i].e c[i].g (upT simT (treeAt c kx)) (upT simT (treeAt c ky))))⟩], sp', (qf, obN 49 (bT (mkQ c[i].op c[i].i c[i].e c[i].g (upT simT (treeAt c kx)) (upT simT (treeAt c ky)))) spf) :: H) _ _ ⟨hm, by simp [hgl2], (fun e => by cases e), hlen, fun g hg => ?_, fun k hk => ?_⟩ (by dsimp only; omega) ⟨rfl, rfl, rfl, rfl, trivial⟩ (List.Sublist.refl _)
         · rcases List.mem_append.1 hg with hg | hg
           · exact (hin g hg).mono (List.subset_cons_self _ _)
           · rw [List.mem_singleton.1 hg]; exact ⟨qf, spf, List.mem_cons_self .., rfl, hqf, hcapf⟩
         · by_cases hk2 : k < gs.length
           · dsimp only; rw [List.getElem_append_left hk2]; exact hgs k hk2
           · have e : k = gs.length := by simp at hk; omega
             subst e
             simp only [List.getElem_append_right (Nat.le_refl _), Nat.sub_self, List.getElem_cons_zero]
             rw [hgl2]; exact ⟨hres, huok⟩
        ·
         have hlz : ¬ fb.f.length = 0 := by simpa using hc
         have hrr := (hbc).resolve_right (fun h => hlz (by rw [h.1]; rfl))
         have hres : fb.f = bT (upT simT (treeAt c i)) := by rw [hrr.2.1, hun']
         refine gK (gR ?_)
         iterate 2 refine gMv ?_
         refine GoH.bsN (c := [_]) rfl rfl rfl rfl Try.underlying29 Try.sizeOf22 Try.zeroValue22 rfl rfl (fun b66 => ?_)
         refine GoH.appE FV.v (news := [fb]) (spn := []) (xs := gs) (sp := sp) (q := (some bq)) rfl rfl rfl rfl rfl Try.underlying29 hi1 hz1 hsz1 rfl hq 5 rfl 0 rfl hcap rfl (by decide) (fun _ => rfl) (by simp [maxLen]; omega) (by simp [hby1]; omega) (fun b' sp' cap' hlen => ?_)
         refine gAs ?_
         refine gE (gIb (gR ?_))
         refine GoH.v (Vop.bin rfl rfl rfl rfl (bAdd (by omega)) rfl) ?_
         refine gMv ?_
         refine gE ?_
         refine GoH.pickT (pre := [_, _, _, _, _, _]) (pre' := [_, _, _]) H [4, 5, 1] (by decide) rfl ?_
         refine IH (i + 1, some b', cap', gs ++ [fb], sp', pb :: H) _ _ ⟨hm, by simp [hgl2], (fun e => by cases e), hlen, fun g hg => ?_, fun k hk => ?_⟩ (by dsimp only; omega) ⟨rfl, rfl, rfl, rfl, trivial⟩ (List.Sublist.refl _)
         · rcases List.mem_append.1 hg with hg | hg
           · exact (hin g hg).mono (List.subset_cons_self _ _)
           · rw [List.mem_singleton.1 hg]; exact hrr.2.2
         · by_cases hk2 : k < gs.length
           · dsimp only; rw [List.getElem_append_left hk2]; exact hgs k hk2
           · have e : k = gs.length := by simp at hk; omega
             subst e
             simp only [List.getElem_append_right (Nat.le_refl _), Nat.sub_self, List.getElem_cons_zero]
             rw [hgl2]; exact ⟨hres, huok⟩
       ·
        have h8 : ¬ c[i].op ≤ 8 := by simpa using hc
        refine gK (gS (gS (gR ?_)))
        refine gMv ?_
        refine gBl Try.underlying22 ?_
        refine gBi bEq ?_
        refine gE ?_
        refine GoH.cond rfl (fun hc => ?_) (fun hc => ?_)
        ·
         have hlz : fm.f.length = 0 := by simpa using hc
         have hum := ((hmc (by omega)).resolve_left (fun h => h.1 (List.eq_nil_of_length_eq_zero hlz))).2
         refine gR ?_
         refine GoH.v (Vop.ldB rfl rfl rfl rfl Try.isAgg49 1 rfl Try.sizeOf49 rfl) ?_
         iterate 2 refine gMv ?_
         refine GoH.callM _ rfl rfl rfl rfl rfl (fun _ _ => Try.call46 _ _) (fun w _ hS => (by exact rrebuild_c c[i] (gs.getD kx FV.z) (gs.getD ky FV.z) (upT simT (treeAt c kx)) (upT simT (treeAt c ky)) w hop hfl (fun _ => ⟨(hsub (p := [_, _, _, _]) hlx).at hS, hgD hlx⟩) (fun _ => ⟨(hsub (p := [_, _, _, _]) hly).at hS, hgD hly⟩))) ?_
         rintro v w1 w2 Y' hS he ho
         obtain ⟨qf, capf, spf, rfl, hqf, hcapf, hS'⟩ := gainN hS he ho
         refine ⟨_, hS', ?_⟩
         have hres : (bT (mkQ c[i].op c[i].i c[i].e c[i].g (upT simT (treeAt c kx)) (upT simT (treeAt c ky)))) = bT (upT simT (treeAt c i)) := by rw [hun', hum]
         refine gAs ?_
         refine gE (gR ?_)
         iterate 2 refine gMv ?_
         refine GoH.bsN (c := [_]) rfl rfl rfl rfl Try.underlying29 Try.sizeOf22 Try.zeroValue22 rfl rfl (fun b66 => ?_)
         refine GoH.appE FV.v (news := [⟨qf.map (fun b => ⟨b, 0, none⟩), capf, (bT (mkQ c[i].op c[i].i c[i].e c[i].g (upT simT (treeAt c kx)) (upT simT (treeAt c ky))))⟩]) (spn := []) (xs := gs) (sp := sp) (q := (some bq)) rfl rfl rfl rfl rfl Try.underlying29 hi1 hz1 hsz1 rfl hq 5 rfl 0 rfl hcap rfl (by decide) (fun _ => rfl) (by simp [maxLen]; omega) (by simp [hby1]; omega) (fun b' sp' cap' hlen => ?_)
         refine gAs ?_
         refine gE (gIb (gR ?_))
         refine GoH.v (Vop.bin rfl rfl rfl rfl (bAdd (by omega)) rfl) ?_
         refine gMv ?_
         refine gE ?_
         refine GoH.pickT (pre := [_, _, _, _, _, _]) (pre' := [_, _, _]) H [4, 5, 1] (by decide) rfl ?_
         refine IH (i + 1, some b', cap', gs ++ [⟨qf.map (fun b => ⟨b, 0, none⟩), capf, (bT (mkQ c[i].op c[i].i c[i].e c[i].g (upT simT (treeAt c kx)) (upT simT (treeAt c ky))))⟩], sp', (qf, obN 49 (bT (mkQ c[i].op c[i].i c[i].e c[i].g (upT simT (treeAt c kx)) (upT simT (treeAt c ky)))) spf) :: H) _ _ ⟨hm, by simp [hgl2], (fun e => by cases e), hlen, fun g hg => ?_, fun k hk => ?_⟩ (by dsimp only; omega) ⟨rfl, rfl, rfl, rfl, trivial⟩ (List.Sublist.refl _)
         · rcases List.mem_append.1 hg with hg | hg
           · exact (hin g hg).mono (List.subset_cons_self _ _)
           · rw [List.mem_singleton.1 hg]; exact ⟨qf, spf, List.mem_cons_self .., rfl, hqf, hcapf⟩
         · by_cases hk2 : k < gs.length
           · dsimp only; rw [List.getElem_append_left hk2]; exact hgs k hk2
           · have e : k = gs.length := by simp at hk; omega
             subst e
             simp only [List.getElem_append_right (Nat.le_refl _), Nat.sub_self, List.getElem_cons_zero]
             rw [hgl2]; exact ⟨hres, huok⟩
        ·
         have hlz : ¬ fm.f.length = 0 := by simpa using hc
         have hrr := (hmc (by omega)).resolve_right (fun h => hlz (by rw [h.1]; rfl))
         have hres : fm.f = bT (upT simT (treeAt c i)) := by rw [hrr.2.1, hun']
         refine gK (gR ?_)
         iterate 2 refine gMv ?_
         refine GoH.bsN (c := [_]) rfl rfl rfl rfl Try.underlying29 Try.sizeOf22 Try.zeroValue22 rfl rfl (fun b66 => ?_)
         refine GoH.appE FV.v (news := [fm]) (spn := []) (xs := gs) (sp := sp) (q := (some bq)) rfl rfl rfl rfl rfl Try.underlying29 hi1 hz1 hsz1 rfl hq 4 rfl 0 rfl hcap rfl (by decide) (fun _ => rfl) (by simp [maxLen]; omega) (by simp [hby1]; omega) (fun b' sp' cap' hlen => ?_)
         refine gAs ?_
         refine gE (gIb (gR ?_))
         refine GoH.v (Vop.bin rfl rfl rfl rfl (bAdd (by omega)) rfl) ?_
         refine gMv ?_
         refine gE ?_
         refine GoH.pickT (pre := [_, _, _, _, _]) (pre' := [_, _, _]) H [3, 4, 1] (by decide) rfl ?_
         refine IH (i + 1, some b', cap', gs ++ [fm], sp', pm :: H) _ _ ⟨hm, by simp [hgl2], (fun e => by cases e), hlen, fun g hg => ?_, fun k hk => ?_⟩ (by dsimp only; omega) ⟨rfl, rfl, rfl, rfl, trivial⟩ (List.Sublist.refl _)
         · rcases List.mem_append.1 hg with hg | hg
           · exact (hin g hg).mono (List.subset_cons_self _ _)
           · rw [List.mem_singleton.1 hg]; exact hrr.2.2
         · by_cases hk2 : k < gs.length
           · dsimp only; rw [List.getElem_append_left hk2]; exact hgs k hk2
           · have e : k = gs.length := by simp at hk; omega
             subst e
             simp only [List.getElem_append_right (Nat.le_refl _), Nat.sub_self, List.getElem_cons_zero]
             rw [hgl2]; exact ⟨hres, huok⟩
      ·
       have := bin_op hop hY
       have : ¬ 5 ≤ c[i].op := by simpa using hc
       omega
     ·
      have hY : usY c[i].op = false := hc
      refine gK (gS (gR ?_))
      refine gFp Try.underlying49 Try.sizeOf3 0 ?_
      refine gLo Try.isAgg3 0 ?_
      iterate 2 refine gMv ?_
      refine GoH.callM _ rfl rfl rfl rfl rfl (fun _ _ => Try.call44 _ _) (fun w _ hS => (by exact simpleModal_c c[i].op c[i].i c[i].e c[i].g (gs.getD kx FV.z) FV.z (upT simT (treeAt c kx)) tr0 w hop hfl (fun _ => ⟨(hsub (p := [_, _, _]) hlx).at hS, hgD hlx⟩) (fun e => absurd (hY.symm.trans e) (by decide)) (fun _ => hgN hlx) (fun e => absurd (hY.symm.trans e) (by decide)))) ?_
      rintro v w1 w2 Y' hS he hr
      obtain ⟨fm, pm, rfl, hS', hmc⟩ := RvO.gainM (Q := 5 ≤ c[i].op ∧ c[i].op ≤ 8) (hr.imp_left and_assoc.2) hS he (.inl (hin _ (getD_in hlx))) (.inr rfl)
      refine ⟨_, hS', ?_⟩
      have hun' : upT simT (treeAt c i) = simT c[i].op c[i].i c[i].e c[i].g (upT simT (treeAt c kx)) tr0 := by rw [hun, if_pos hX, if_neg (by rw [hY]; simp)]
      refine gAs ?_
      refine gE (gS (gS (gR ?_)))
      refine gFp Try.underlying49 Try.sizeOf3 0 ?_
      refine gLo Try.isAgg3 1 ?_
      refine gBi bGe ?_
      refine gMv ?_
      refine GoH.cases (d := 47) rfl (fun hc => ?_) (fun hc => ?_)
      ·
       have h5 : 5 ≤ c[i].op := by simpa using hc
       refine gFp Try.underlying49 Try.sizeOf3 0 ?_
       refine gLo Try.isAgg3 1 ?_
       refine gBi bLe ?_
       refine gPt ?_
       refine gE ?_
       refine GoH.cond rfl (fun hc => ?_) (fun hc => ?_)
       ·
        have h8 : c[i].op ≤ 8 := by simpa using hc
        have := un_op hop hX hY
        omega
       ·
        have h8 : ¬ c[i].op ≤ 8 := by simpa using hc
        refine gK (gS (gS (gR ?_)))
        refine gMv ?_
        refine gBl Try.underlying22 ?_
        refine gBi bEq ?_
        refine gE ?_
        refine GoH.cond rfl (fun hc => ?_) (fun hc => ?_)
        ·
         have hlz : fm.f.length = 0 := by simpa using hc
         have hum := ((hmc (by omega)).resolve_left (fun h => h.1 (List.eq_nil_of_length_eq_zero hlz))).2
         refine gR ?_
         refine GoH.v (Vop.ldB rfl rfl rfl rfl Try.isAgg49 1 rfl Try.sizeOf49 rfl) ?_
         iterate 2 refine gMv ?_
         refine GoH.callM _ rfl rfl rfl rfl rfl (fun _ _ => Try.call46 _ _) (fun w _ hS => (by exact rrebuild_c c[i] (gs.getD kx FV.z) FV.z (upT simT (treeAt c kx)) tr0 w hop hfl (fun _ => ⟨(hsub (p := [_, _, _, _]) hlx).at hS, hgD hlx⟩) (fun e => absurd (hY.symm.trans e) (by decide)))) ?_
         rintro v w1 w2 Y' hS he ho
         obtain ⟨qf, capf, spf, rfl, hqf, hcapf, hS'⟩ := gainN hS he ho
         refine ⟨_, hS', ?_⟩
         have hres : (bT (mkQ c[i].op c[i].i c[i].e c[i].g (upT simT (treeAt c kx)) tr0)) = bT (upT simT (treeAt c i)) := by rw [hun', hum]
         refine gAs ?_
         refine gE (gR ?_)
         iterate 2 refine gMv ?_
         refine GoH.bsN (c := [_]) rfl rfl rfl rfl Try.underlying29 Try.sizeOf22 Try.zeroValue22 rfl rfl (fun b66 => ?_)
         refine GoH.appE FV.v (news := [⟨qf.map (fun b => ⟨b, 0, none⟩), capf, (bT (mkQ c[i].op c[i].i c[i].e c[i].g (upT simT (treeAt c kx)) tr0))⟩]) (spn := []) (xs := gs) (sp := sp) (q := (some bq)) rfl rfl rfl rfl rfl Try.underlying29 hi1 hz1 hsz1 rfl hq 5 rfl 0 rfl hcap rfl (by decide) (fun _ => rfl) (by simp [maxLen]; omega) (by simp [hby1]; omega) (fun b' sp' cap' hlen => ?_)
         refine gAs ?_
         refine gE (gIb (gR ?_))
         refine GoH.v (Vop.bin rfl rfl rfl rfl (bAdd (by omega)) rfl) ?_
         refine gMv ?_
         refine gE ?_
         refine GoH.pickT (pre := [_, _, _, _, _, _]) (pre' := [_, _, _]) H [4, 5, 1] (by decide) rfl ?_
         refine IH (i + 1, some b', cap', gs ++ [⟨qf.map (fun b => ⟨b, 0, none⟩), capf, (bT (mkQ c[i].op c[i].i c[i].e c[i].g (upT simT (treeAt c kx)) tr0))⟩], sp', (qf, obN 49 (bT (mkQ c[i].op c[i].i c[i].e c[i].g (upT simT (treeAt c kx)) tr0)) spf) :: H) _ _ ⟨hm, by simp [hgl2], (fun e => by cases e), hlen, fun g hg => ?_, fun k hk => ?_⟩ (by dsimp only; omega) ⟨rfl, rfl, rfl, rfl, trivial⟩ (List.Sublist.refl _)
         · rcases List.mem_append.1 hg with hg | hg
           · exact (hin g hg).mono (List.subset_cons_self _ _)
           · rw [List.mem_singleton.1 hg]; exact ⟨qf, spf, List.mem_cons_self .., rfl, hqf, hcapf⟩
         · by_cases hk2 : k < gs.length
           · dsimp only; rw [List.getElem_append_left hk2]; exact hgs k hk2
           · have e : k = gs.length := by simp at hk; omega
             subst e
             simp only [List.getElem_append_right (Nat.le_refl _), Nat.sub_self, List.getElem_cons_zero]
             rw [hgl2]; exact ⟨hres, huok⟩
        ·
         have hlz : ¬ fm.f.length = 0 := by simpa using hc
         have hrr := (hmc (by omega)).resolve_right (fun h => hlz (by rw [h.1]; rfl))
         have hres : fm.f = bT (upT simT (treeAt c i)) := by rw [hrr.2.1, hun']
         refine gK (gR ?_)
         iterate 2 refine gMv ?_
         refine GoH.bsN (c := [_]) rfl rfl rfl rfl Try.underlying29 Try.sizeOf22 Try.zeroValue22 rfl rfl (fun b66 => ?_)
         refine GoH.appE FV.v (news := [fm]) (spn := []) (xs := gs) (sp := sp) (q := (some bq)) rfl rfl rfl rfl rfl Try.underlying29 hi1 hz1 hsz1 rfl hq 4 rfl 0 rfl hcap rfl (by decide) (fun _ => rfl) (by simp [maxLen]; omega) (by simp [hby1]; omega) (fun b' sp' cap' hlen => ?_)
         refine gAs ?_
         refine gE (gIb (gR ?_))
         refine GoH.v (Vop.bin rfl rfl rfl rfl (bAdd (by omega)) rfl) ?_
         refine gMv ?_
         refine gE ?_
         refine GoH.pickT (pre := [_, _, _, _, _]) (pre' := [_, _, _]) H [3, 4, 1] (by decide) rfl ?_
         refine IH (i + 1, some b', cap', gs ++ [fm], sp', pm :: H) _ _ ⟨hm, by simp [hgl2], (fun e => by cases e), hlen, fun g hg => ?_, fun k hk => ?_⟩ (by dsimp only; omega) ⟨rfl, rfl, rfl, rfl, trivial⟩ (List.Sublist.refl _)
         · rcases List.mem_append.1 hg with hg | hg
           · exact (hin g hg).mono (List.subset_cons_self _ _)
           · rw [List.mem_singleton.1 hg]; exact hrr.2.2
         · by_cases hk2 : k < gs.length
           · dsimp only; rw [List.getElem_append_left hk2]; exact hgs k hk2
           · have e : k = gs.length := by simp at hk; omega
             subst e
             simp only [List.getElem_append_right (Nat.le_refl _), Nat.sub_self, List.getElem_cons_zero]
             rw [hgl2]; exact ⟨hres, huok⟩
      ·
       have h5 : ¬ 5 ≤ c[i].op := by simpa using hc
       iterate 3 refine gNo ?_
       refine gPf ?_
       refine gE (GoH.condF rfl (gK (gS (gS (gR ?_)))))
       refine gMv ?_
       refine gBl Try.underlying22 ?_
       refine gBi bEq ?_
       refine gE ?_
       refine GoH.cond rfl (fun hc => ?_) (fun hc => ?_)
       ·
        have hlz : fm.f.length = 0 := by simpa using hc
        have hum := ((hmc (by omega)).resolve_left (fun h => h.1 (List.eq_nil_of_length_eq_zero hlz))).2
        refine gR ?_
        refine GoH.v (Vop.ldB rfl rfl rfl rfl Try.isAgg49 1 rfl Try.sizeOf49 rfl) ?_
        iterate 2 refine gMv ?_
        refine GoH.callM _ rfl rfl rfl rfl rfl (fun _ _ => Try.call46 _ _) (fun w _ hS => (by exact rrebuild_c c[i] (gs.getD kx FV.z) FV.z (upT simT (treeAt c kx)) tr0 w hop hfl (fun _ => ⟨(hsub (p := [_, _, _, _]) hlx).at hS, hgD hlx⟩) (fun e => absurd (hY.symm.trans e) (by decide)))) ?_
        rintro v w1 w2 Y' hS he ho
        obtain ⟨qf, capf, spf, rfl, hqf, hcapf, hS'⟩ := gainN hS he ho
        refine ⟨_, hS', ?_⟩
        have hres : (bT (mkQ c[i].op c[i].i c[i].e c[i].g (upT simT (treeAt c kx)) tr0)) = bT (upT simT (treeAt c i)) := by rw [hun', hum]
        refine gAs ?_
        refine gE (gR ?_)
        iterate 2 refine gMv ?_
        refine GoH.bsN (c := [_]) rfl rfl rfl rfl Try.underlying29 Try.sizeOf22 Try.zeroValue22 rfl rfl (fun b66 => ?_)
        refine GoH.appE FV.v (news := [⟨qf.map (fun b => ⟨b, 0, none⟩), capf, (bT (mkQ c[i].op c[i].i c[i].e c[i].g (upT simT (treeAt c kx)) tr0))⟩]) (spn := []) (xs := gs) (sp := sp) (q := (some bq)) rfl rfl rfl rfl rfl Try.underlying29 hi1 hz1 hsz1 rfl hq 5 rfl 0 rfl hcap rfl (by decide) (fun _ => rfl) (by simp [maxLen]; omega) (by simp [hby1]; omega) (fun b' sp' cap' hlen => ?_)
        refine gAs ?_
        refine gE (gIb (gR ?_))
        refine GoH.v (Vop.bin rfl rfl rfl rfl (bAdd (by omega)) rfl) ?_
        refine gMv ?_
        refine gE ?_
        refine GoH.pickT (pre := [_, _, _, _, _, _]) (pre' := [_, _, _]) H [4, 5, 1] (by decide) rfl ?_
        refine IH (i + 1, some b', cap', gs ++ [⟨qf.map (fun b => ⟨b, 0, none⟩), capf, (bT (mkQ c[i].op c[i].i c[i].e c[i].g (upT simT (treeAt c kx)) tr0))⟩], sp', (qf, obN 49 (bT (mkQ c[i].op c[i].i c[i].e c[i].g (upT simT (treeAt c kx)) tr0)) spf) :: H) _ _ ⟨hm, by simp [hgl2], (fun e => by cases e), hlen, fun g hg => ?_, fun k hk => ?_⟩ (by dsimp only; omega) ⟨rfl, rfl, rfl, rfl, trivial⟩ (List.Sublist.refl _)
        · rcases List.mem_append.1 hg with hg | hg
          · exact (hin g hg).mono (List.subset_cons_self _ _)
          · rw [List.mem_singleton.1 hg]; exact ⟨qf, spf, List.mem_cons_self .., rfl, hqf, hcapf⟩
        · by_cases hk2 : k < gs.length
          · dsimp only; rw [List.getElem_append_left hk2]; exact hgs k hk2
          · have e : k = gs.length := by simp at hk; omega
            subst e
            simp only [List.getElem_append_right (Nat.le_refl _), Nat.sub_self, List.getElem_cons_zero]
            rw [hgl2]; exact ⟨hres, huok⟩
       ·
        have hlz : ¬ fm.f.length = 0 := by simpa using hc
        have hrr := (hmc (by omega)).resolve_right (fun h => hlz (by rw [h.1]; rfl))
        have hres : fm.f = bT (upT simT (treeAt c i)) := by rw [hrr.2.1, hun']
        refine gK (gR ?_)
        iterate 2 refine gMv ?_
        refine GoH.bsN (c := [_]) rfl rfl rfl rfl Try.underlying29 Try.sizeOf22 Try.zeroValue22 rfl rfl (fun b66 => ?_)
        refine GoH.appE FV.v (news := [fm]) (spn := []) (xs := gs) (sp := sp) (q := (some bq)) rfl rfl rfl rfl rfl Try.underlying29 hi1 hz1 hsz1 rfl hq 4 rfl 0 rfl hcap rfl (by decide) (fun _ => rfl) (by simp [maxLen]; omega) (by simp [hby1]; omega) (fun b' sp' cap' hlen => ?_)
        refine gAs ?_
        refine gE (gIb (gR ?_))
        refine GoH.v (Vop.bin rfl rfl rfl rfl (bAdd (by omega)) rfl) ?_
        refine gMv ?_
        refine gE ?_
        refine GoH.pickT (pre := [_, _, _, _, _]) (pre' := [_, _, _]) H [3, 4, 1] (by decide) rfl ?_
        refine IH (i + 1, some b', cap', gs ++ [fm], sp', pm :: H) _ _ ⟨hm, by simp [hgl2], (fun e => by cases e), hlen, fun g hg => ?_, fun k hk => ?_⟩ (by dsimp only; omega) ⟨rfl, rfl, rfl, rfl, trivial⟩ (List.Sublist.refl _)
        · rcases List.mem_append.1 hg with hg | hg
          · exact (hin g hg).mono (List.subset_cons_self _ _)
          · rw [List.mem_singleton.1 hg]; exact hrr.2.2
        · by_cases hk2 : k < gs.length
          · dsimp only; rw [List.getElem_append_left hk2]; exact hgs k hk2
          · have e : k = gs.length := by simp at hk; omega
            subst e
            simp only [List.getElem_append_right (Nat.le_refl _), Nat.sub_self, List.getElem_cons_zero]
            rw [hgl2]; exact ⟨hres, huok⟩
    ·
     have hX : usX c[i].op = false := hc
     have hY := usX_of_Y hX
     refine gK (gS (gS (gR ?_)))
     refine gFp Try.underlying49 Try.sizeOf3 0 ?_
     refine gLo Try.isAgg3 0 ?_
     refine GoH.callP rfl rfl rfl rfl rfl (fun _ _ => Try.call43 _ _) (fun w _ hS => (by exact usesY_c c[i].op w)) ?_
     refine gE ?_
     refine GoH.cond rfl (fun hc => ?_) (fun hc => ?_)
     ·
      exact absurd (hY.symm.trans hc) (by decide)
     ·
      refine gK (gS (gR ?_))
      refine gFp Try.underlying49 Try.sizeOf3 0 ?_
      refine gLo Try.isAgg3 0 ?_
      iterate 2 refine gMv ?_
      refine GoH.callM _ rfl rfl rfl rfl rfl (fun _ _ => Try.call44 _ _) (fun w _ hS => (by exact simpleModal_c c[i].op c[i].i c[i].e c[i].g FV.z FV.z tr0 tr0 w hop hfl (fun e => absurd (hX.symm.trans e) (by decide)) (fun e => absurd (hY.symm.trans e) (by decide)) (fun e => absurd (hX.symm.trans e) (by decide)) (fun e => absurd (hY.symm.trans e) (by decide)))) ?_
      rintro v w1 w2 Y' hS he hr
      obtain ⟨fm, pm, rfl, hS', hmc⟩ := RvO.gainM (Q := 5 ≤ c[i].op ∧ c[i].op ≤ 8) (hr.imp_left and_assoc.2) hS he (.inr rfl) (.inr rfl)
      refine ⟨_, hS', ?_⟩
      have hun' : upT simT (treeAt c i) = simT c[i].op c[i].i c[i].e c[i].g tr0 tr0 := by rw [hun, if_neg (by rw [hX]; simp), if_neg (by rw [hY]; simp)]
      refine gAs ?_
      refine gE (gS (gS (gR ?_)))
      refine gFp Try.underlying49 Try.sizeOf3 0 ?_
      refine gLo Try.isAgg3 1 ?_
      refine gBi bGe ?_
      refine gMv ?_
      refine GoH.cases (d := 47) rfl (fun hc => ?_) (fun hc => ?_)
      ·
       have := leaf_op hop hX
       have : 5 ≤ c[i].op := by simpa using hc
       omega
      ·
       have h5 : ¬ 5 ≤ c[i].op := by simpa using hc
       iterate 3 refine gNo ?_
       refine gPf ?_
       refine gE (GoH.condF rfl (gK (gS (gS (gR ?_)))))
       refine gMv ?_
       refine gBl Try.underlying22 ?_
       refine gBi bEq ?_
       refine gE ?_
       refine GoH.cond rfl (fun hc => ?_) (fun hc => ?_)
       ·
        have hlz : fm.f.length = 0 := by simpa using hc
        have hum := ((hmc (by omega)).resolve_left (fun h => h.1 (List.eq_nil_of_length_eq_zero hlz))).2
        refine gR ?_
        refine GoH.v (Vop.ldB rfl rfl rfl rfl Try.isAgg49 1 rfl Try.sizeOf49 rfl) ?_
        iterate 2 refine gMv ?_
        refine GoH.callM _ rfl rfl rfl rfl rfl (fun _ _ => Try.call46 _ _) (fun w _ hS => (by exact rrebuild_c c[i] FV.z FV.z tr0 tr0 w hop hfl (fun e => absurd (hX.symm.trans e) (by decide)) (fun e => absurd (hY.symm.trans e) (by decide)))) ?_
        rintro v w1 w2 Y' hS he ho
        obtain ⟨qf, capf, spf, rfl, hqf, hcapf, hS'⟩ := gainN hS he ho
        refine ⟨_, hS', ?_⟩
        have hres : (bT (mkQ c[i].op c[i].i c[i].e c[i].g tr0 tr0)) = bT (upT simT (treeAt c i)) := by rw [hun', hum]
        refine gAs ?_
        refine gE (gR ?_)
        iterate 2 refine gMv ?_
        refine GoH.bsN (c := [_]) rfl rfl rfl rfl Try.underlying29 Try.sizeOf22 Try.zeroValue22 rfl rfl (fun b66 => ?_)
        refine GoH.appE FV.v (news := [⟨qf.map (fun b => ⟨b, 0, none⟩), capf, (bT (mkQ c[i].op c[i].i c[i].e c[i].g tr0 tr0))⟩]) (spn := []) (xs := gs) (sp := sp) (q := q) rfl rfl rfl rfl rfl Try.underlying29 hi1 hz1 hsz1 rfl hq 5 rfl 0 rfl hcap rfl (by decide) (fun _ => rfl) (by simp [maxLen]; omega) (by simp [hby1]; omega) (fun b' sp' cap' hlen => ?_)
        refine gAs ?_
        refine gE (gIb (gR ?_))
        refine GoH.v (Vop.bin rfl rfl rfl rfl (bAdd (by omega)) rfl) ?_
        refine gMv ?_
        refine gE ?_
        refine GoH.pickT (pre := [_, _, _, _, _, _]) (pre' := [_, _, _]) H [4, 5, 1] (by decide) rfl ?_
        refine IH (i + 1, some b', cap', gs ++ [⟨qf.map (fun b => ⟨b, 0, none⟩), capf, (bT (mkQ c[i].op c[i].i c[i].e c[i].g tr0 tr0))⟩], sp', (qf, obN 49 (bT (mkQ c[i].op c[i].i c[i].e c[i].g tr0 tr0)) spf) :: H) _ _ ⟨hm, by simp [hgl2], (fun e => by cases e), hlen, fun g hg => ?_, fun k hk => ?_⟩ (by dsimp only; omega) ⟨rfl, rfl, rfl, rfl, trivial⟩ (List.Sublist.refl _)
        · rcases List.mem_append.1 hg with hg | hg
          · exact (hin g hg).mono (List.subset_cons_self _ _)
          · rw [List.mem_singleton.1 hg]; exact ⟨qf, spf, List.mem_cons_self .., rfl, hqf, hcapf⟩
        · by_cases hk2 : k < gs.length
          · dsimp only; rw [List.getElem_append_left hk2]; exact hgs k hk2
          · have e : k = gs.length := by simp at hk; omega
            subst e
            simp only [List.getElem_append_right (Nat.le_refl _), Nat.sub_self, List.getElem_cons_zero]
            rw [hgl2]; exact ⟨hres, huok⟩
       ·
        have hlz : ¬ fm.f.length = 0 := by simpa using hc
        have hrr := (hmc (by omega)).resolve_right (fun h => hlz (by rw [h.1]; rfl))
        have hres : fm.f = bT (upT simT (treeAt c i)) := by rw [hrr.2.1, hun']
        refine gK (gR ?_)
        iterate 2 refine gMv ?_
        refine GoH.bsN (c := [_]) rfl rfl rfl rfl Try.underlying29 Try.sizeOf22 Try.zeroValue22 rfl rfl (fun b66 => ?_)
        refine GoH.appE FV.v (news := [fm]) (spn := []) (xs := gs) (sp := sp) (q := q) rfl rfl rfl rfl rfl Try.underlying29 hi1 hz1 hsz1 rfl hq 4 rfl 0 rfl hcap rfl (by decide) (fun _ => rfl) (by simp [maxLen]; omega) (by simp [hby1]; omega) (fun b' sp' cap' hlen => ?_)
        refine gAs ?_
        refine gE (gIb (gR ?_))
        refine GoH.v (Vop.bin rfl rfl rfl rfl (bAdd (by omega)) rfl) ?_
        refine gMv ?_
        refine gE ?_
        refine GoH.pickT (pre := [_, _, _, _, _]) (pre' := [_, _, _]) H [3, 4, 1] (by decide) rfl ?_
        refine IH (i + 1, some b', cap', gs ++ [fm], sp', pm :: H) _ _ ⟨hm, by simp [hgl2], (fun e => by cases e), hlen, fun g hg => ?_, fun k hk => ?_⟩ (by dsimp only; omega) ⟨rfl, rfl, rfl, rfl, trivial⟩ (List.Sublist.refl _)
        · rcases List.mem_append.1 hg with hg | hg
          · exact (hin g hg).mono (List.subset_cons_self _ _)
          · rw [List.mem_singleton.1 hg]; exact hrr.2.2
        · by_cases hk2 : k < gs.length
          · dsimp only; rw [List.getElem_append_left hk2]; exact hgs k hk2
          · have e : k = gs.length := by simp at hk; omega
            subst e
            simp only [List.getElem_append_right (Nat.le_refl _), Nat.sub_self, List.getElem_cons_zero]
            rw [hgl2]; exact ⟨hres, huok⟩
   ·
    have hge : ¬ i < c.length := by simp at hc; omega
    obtain rfl : i = c.length := by omega
    obtain ⟨bq, rfl⟩ : ∃ b, q = some b := by
      cases q with
      | none => have := (hq rfl).1; omega
      | some b => exact ⟨b, rfl⟩
    have hlast : c.length - 1 < gs.length := by omega
    have htop : (gs.getD (c.length - 1) FV.z).f = bT (upT simT (topT f)) := by
      rw [getD_lt hlast, (hgs _ hlast).1, hct, canAt_top hT, ht]
    obtain ⟨fv, hfv⟩ : ∃ fv, fv = gs.getD (c.length - 1) FV.z := ⟨_, rfl⟩
    have hfin : fv.In 49 H := by rw [hfv]; exact hin _ (getD_in hlast)
    rw [← hfv] at htop
    refine GoH.exit rfl (gS (gR ?_))
    iterate 2 refine gMv ?_
    refine gBl Try.underlying29 ?_
    refine GoH.v (Vop.bin rfl rfl rfl rfl (bSubE (c := ((c.length - 1 : Nat) : Int)) (by omega) (by omega)) rfl) ?_
    refine GoH.v (Vop.idxS rfl rfl rfl rfl rfl Try.underlying29 Try.sizeOf22 (c.length - 1) ⟨rfl, hlast⟩) ?_
    refine GoH.v (Vop.ldE FV.v FV.z rfl rfl rfl rfl Try.isAgg22 1 rfl hlast) ?_
    refine GoH.callP rfl rfl rfl rfl rfl (fun _ _ => Try.call47 _ _) (fun w _ hS => (by rw [← hfv]; exact rdone_c fv.a fv.c fv.f w)) ?_
    iterate 2 refine gEx ?_
    iterate 2 refine gAs ?_
    refine gE ?_
    refine GoH.ret Try.f13 Try.func13 rfl (fun w' hS => ?_)
    by_cases h5 : fv.f = []
    · rw [if_pos h5, if_pos h5]
      exact ⟨hS.ext, _, [], _, rfl, OwnN.nil0, .inr ⟨h0, by rw [← htop]; exact h5.symm, rfl⟩⟩
    · rw [if_neg h5, if_neg h5]
      exact ⟨hS.ext, _, _, _, rfl, (hfin.mono (fun _ h => List.mem_cons_of_mem _ (List.mem_cons_of_mem _ h))).own hS, .inr ⟨h0, htop, by rw [if_neg h5]⟩⟩
end Go.Proofs.Ytkoipdlkkchmiaa
namespace Go.Proofs.Ytkoipdlkkchmiaa
open Go.RowKit Go.Proofs.Wit
/-! the law RewriteSimplify -/
theorem simP_Q {f o : List NV} {e : Int} (h : UpP simT f o e) (hl : chkF f = 0 → f.length ≤ 150) : UpQ simT f o e := by
  by_cases h0 : chkF f = 0
  · rcases h.small simT_ok sim_small KC.nil (by have := hl h0; simp; omega) with h | ⟨_, _, _, _, h3, h4, h5⟩
    · exact absurd h0 h.1
    · exact .inr ⟨h0, h3.symm, by rw [if_neg h4]; exact h5⟩
  · rcases h with h | h | h
    · exact .inl h
    · exact absurd h.1 h0
    · exact absurd h.1 h0
set_option maxRecDepth 4000 in
theorem simple08_c (a : Option Addr) (ca : Nat) (f : List NV) (w : World) (ha : FA w a f) (hl : f.length ≤ maxLen) :
    Cn Try.prog 3 [.slice a f.length ca] w (fun v _ => v = .bool true) := by
  refine Cn.of Try.func3 rfl rfl ?_
  refine gS (gR ?_)
  refine gAs ?_
  refine gE (gS (gS (gR ?_)))
  refine gMv ?_
  refine GoH.callP rfl rfl rfl rfl rfl (fun _ _ => Try.call10 _ _) (fun w _ hS => (by exact rfew_c a ca f 60 w)) ?_
  refine gUn uNot ?_
  refine gMv ?_
  refine GoH.cases (d := 10) rfl (fun hc => ?_) (fun hc => ?_)
  ·
   refine gMv ?_
   refine gBl Try.underlying22 ?_
   refine gBi bLe ?_
   refine gPt ?_
   refine gE ?_
   refine GoH.cond rfl (fun hc => ?_) (fun hc => ?_)
   ·
    refine gS (gR ?_)
    refine GoH.callP rfl rfl rfl rfl rfl (fun _ _ => Try.call11 _ _) (fun w _ hS => (by exact awake08_c w)) ?_
    refine gAs ?_
    refine gE ?_
    refine GoH.ret Try.f3 Try.func3 rfl (fun w' hS => ?_)
    exact ⟨hS.ext, rfl⟩
   ·
    have hs : chkF f = 0 → f.length ≤ 150 := fun h => by
      have := (chkF_zero.1 h).len
      simp at hc; omega
    refine gK (gS (gR ?_))
    refine gMv ?_
    refine GoH.callM _ rfl rfl rfl rfl rfl (fun _ _ => Try.call12 _ _) (fun w _ hS => (by exact simplify_c a ca f w (ha.ex0 hS.ext) hl)) ?_
    rintro v w1 w2 Y' hS he ⟨sv, o1, e1, rfl, ho, hP⟩
    have hP := simP_Q hP hs
    obtain ⟨q1, cap1, sp1, rfl, hq1, hcap1, hS'⟩ := gainN hS he ho
    refine ⟨_, hS', ?_⟩
    refine gMv ?_
    iterate 2 refine gEx ?_
    iterate 2 refine gAs ?_
    refine gE (gS (gR ?_))
    refine gMv ?_
    refine GoH.callM _ rfl rfl rfl rfl rfl (fun _ _ => Try.call13 _ _) (fun w _ hS => (by exact rsimplify_c a ca f w (ha.ex0 hS.ext) hl hs)) ?_
    rintro v w1 w2 Y' hS he ⟨sv, o2, e2, rfl, ho, hQ⟩
    obtain ⟨q2, cap2, sp2, rfl, hq2, hcap2, hS'⟩ := gainN hS he ho
    obtain ⟨rfl, rfl⟩ := hP.eq hQ
    refine ⟨_, hS', ?_⟩
    refine gMv ?_
    iterate 2 refine gEx ?_
    iterate 2 refine gAs ?_
    refine gE (gS (gR ?_))
    iterate 2 refine gMv ?_
    refine GoH.callP rfl rfl rfl rfl rfl (fun _ _ => Try.call14 _ _) (fun w _ hS => (by exact eq_c (q1.map (fun b => ⟨b, 0, none⟩)) cap1 o1 (q2.map (fun b => ⟨b, 0, none⟩)) cap2 o1 w (faAt hS 1 rfl (fun e => (hq1 e).1)) (faAt hS 0 rfl (fun e => (hq2 e).1)) hQ.len rfl)) ?_
    iterate 3 refine gMv ?_
    refine GoH.v (Vop.bin rfl rfl rfl rfl (bEqV (v := true) (by simp)) rfl) ?_
    refine gPt ?_
    refine gMv ?_
    refine GoH.callP rfl rfl rfl rfl rfl (fun _ _ => Try.call11 _ _) (fun w _ hS => (by exact awake08_c w)) ?_
    refine gPt ?_
    refine gAs ?_
    refine gE ?_
    refine GoH.ret Try.f3 Try.func3 rfl (fun w' hS => ?_)
    exact ⟨hS.ext, rfl⟩
  ·
   have hs : chkF f = 0 → f.length ≤ 150 := fun h => by
     have := (chkF_zero.1 h).len
     simp at hc; omega
   iterate 3 refine gNo ?_
   refine gPf ?_
   refine gE (GoH.condF rfl (gK (gS (gR ?_))))
   refine gMv ?_
   refine GoH.callM _ rfl rfl rfl rfl rfl (fun _ _ => Try.call12 _ _) (fun w _ hS => (by exact simplify_c a ca f w (ha.ex0 hS.ext) hl)) ?_
   rintro v w1 w2 Y' hS he ⟨sv, o1, e1, rfl, ho, hP⟩
   have hP := simP_Q hP hs
   obtain ⟨q1, cap1, sp1, rfl, hq1, hcap1, hS'⟩ := gainN hS he ho
   refine ⟨_, hS', ?_⟩
   refine gMv ?_
   iterate 2 refine gEx ?_
   iterate 2 refine gAs ?_
   refine gE (gS (gR ?_))
   refine gMv ?_
   refine GoH.callM _ rfl rfl rfl rfl rfl (fun _ _ => Try.call13 _ _) (fun w _ hS => (by exact rsimplify_c a ca f w (ha.ex0 hS.ext) hl hs)) ?_
   rintro v w1 w2 Y' hS he ⟨sv, o2, e2, rfl, ho, hQ⟩
   obtain ⟨q2, cap2, sp2, rfl, hq2, hcap2, hS'⟩ := gainN hS he ho
   obtain ⟨rfl, rfl⟩ := hP.eq hQ
   refine ⟨_, hS', ?_⟩
   refine gMv ?_
   iterate 2 refine gEx ?_
   iterate 2 refine gAs ?_
   refine gE (gS (gR ?_))
   iterate 2 refine gMv ?_
   refine GoH.callP rfl rfl rfl rfl rfl (fun _ _ => Try.call14 _ _) (fun w _ hS => (by exact eq_c (q1.map (fun b => ⟨b, 0, none⟩)) cap1 o1 (q2.map (fun b => ⟨b, 0, none⟩)) cap2 o1 w (faAt hS 1 rfl (fun e => (hq1 e).1)) (faAt hS 0 rfl (fun e => (hq2 e).1)) hQ.len rfl)) ?_
   iterate 3 refine gMv ?_
   refine GoH.v (Vop.bin rfl rfl rfl rfl (bEqV (v := true) (by simp)) rfl) ?_
   refine gPt ?_
   refine gMv ?_
   refine GoH.callP rfl rfl rfl rfl rfl (fun _ _ => Try.call11 _ _) (fun w _ hS => (by exact awake08_c w)) ?_
   refine gPt ?_
   refine gAs ?_
   refine gE ?_
   refine GoH.ret Try.f3 Try.func3 rfl (fun w' hS => ?_)
   exact ⟨hS.ext, rfl⟩
end Go.Proofs.Ytkoipdlkkchmiaa
