/- What calls of the program return, under the conditions that each theorem states. -/
import Derived.Test.YthojdcaojjmoaaaDoorA36
import Derived.Test.YthojdcaojjmoaaaDoorA37
import Derived.Test.YthojdcaojjmoaaaDoorA24
import Derived.Test.YthojdcaojjmoaaaDoorA04
namespace Go.Proofs.YthojdcaojjmoaaaDoor
open Go.RowKit Go.Proofs.Wit
/-! the law TopFilterCoarser -/
theorem lookE_zero {m : MV} {f : List NV} (h : lookE m f = 0) : checkM m.n m.val m.rel = 0 ∧ chkF f = 0 ∧ andN (frgL (compF f)) 1 = 0 ∧ holdE m.n m.val m.rel (compF f) = 0 := by
  unfold lookE at h
  by_cases h1 : checkM m.n m.val m.rel = 0
  · rw [if_neg (by simp [h1])] at h
    by_cases h2 : chkF f = 0
    · rw [if_neg (by simp [h2])] at h
      by_cases h3 : andN (frgL (compF f)) 1 = 0
      · rw [if_neg (by simp [h3])] at h
        exact ⟨h1, h2, h3, h⟩
      · rw [if_pos h3] at h; exact absurd h (by decide)
    · rw [if_pos h2] at h; exact absurd h h2
  · rw [if_pos h1] at h; exact absurd h h1
theorem setsP_len {n : Nat} {val : List W64} {rel : List (List W64)} {f : List NV} : (setsP n val rel f).length = f.length := by simp [setsP]
set_option maxRecDepth 8000 in
theorem fclasses_c (m : MV) (a : Option Addr) (ca : Nat) (f : List NV) (w : World) (hm : m.At w) (ha : FA w a f) (hl : f.length ≤ maxLen) :
    Cn Tryd.prog 6 [m.v, .slice a f.length ca] w (fun v w' => ∃ pv, v = .tuple #[pv, .int .i64 (lookE m f)] ∧ (lookE m f = 0 → ∃ p b, pv = .slice (some ⟨b, 0, none⟩) m.n.toNat m.n.toNat ∧ ClsP (keyB (setsP m.n.toNat m.val m.rel (compF f))) m.n.toNat p ∧ w.heap.size ≤ b ∧ w'.heap[b]? = some (ob I64 3 p []))) := by
  have hcl := compF_le f
  refine Cn.of Tryd.func6 rfl rfl ?_
  refine gS (gR ?_)
  refine GoH.bx rfl rfl rfl rfl (fun b2 => ?_)
  iterate 2 refine gAs ?_
  refine gE (gS (gR ?_))
  refine GoH.v (Vop.ldB rfl rfl rfl rfl Tryd.isAgg25 0 rfl Tryd.sizeOf25 rfl) ?_
  refine gMv ?_
  refine GoH.callM _ rfl rfl rfl rfl rfl (fun _ _ => Tryd.call12 _ _) (fun w _ hS => (by exact look_c m a ca f w (hm.ex0 hS.ext) (ha.ex0 hS.ext) hl)) ?_
  rintro v w1 w2 Y' hS he ⟨pv, rfl, hV⟩
  obtain ⟨bo, sc, qo, cap, sp, hnew, hbo⟩ : ∃ bo sc qo cap sp, NewH w1 w2 [(bo, .cells (viewCs m sc (osv qo (setsP m.n.toNat m.val m.rel (compF f)).length cap)) 60 (0, 0)), (qo, ob U 37 (setsP m.n.toNat m.val m.rel (compF f)) sp)] ∧ (lookE m f = 0 → (qo = none → (setsP m.n.toNat m.val m.rel (compF f)).length = 0 ∧ cap = 0) ∧ ∃ bv, bo = some bv ∧ pv = .pointer (some ⟨bv, 0, none⟩)) := by
    by_cases h : lookE m f = 0
    · obtain ⟨bv, sc, q, cap, sp, h1, h2, h3⟩ := hV h
      exact ⟨some bv, sc, q, cap, sp, h3, fun _ => ⟨h2, bv, rfl, h1⟩⟩
    · exact ⟨none, .bool false, none, 0, [], NewH.none2, fun h0 => absurd h0 h⟩
  refine ⟨_, hS.gainL he hnew, ?_⟩
  refine gMv ?_
  iterate 2 refine gEx ?_
  iterate 2 refine gAs ?_
  refine gE (gS (gS (gR ?_)))
  refine gMv ?_
  refine gBi bNe ?_
  refine gE ?_
  refine GoH.cond rfl (fun hc => ?_) (fun hc => ?_)
  ·
   have h1 : lookE m f ≠ 0 := by simpa using hc
   refine gS (gR ?_)
   refine gMv ?_
   iterate 2 refine gAs ?_
   refine gE ?_
   refine GoH.ret Tryd.f6 Tryd.func6 rfl (fun w' hS => ?_)
   exact ⟨hS.ext, _, rfl, fun h => absurd h h1⟩
  ·
   have h1 : lookE m f = 0 := by simpa using hc
   obtain ⟨hq, bv, rfl, rfl⟩ := hbo h1
   obtain ⟨hck, _, _, _⟩ := lookE_zero h1
   have hv := checkM_zero.1 hck
   have hn1 := hv.n1
   have hn64 := hv.n64
   refine gK (gS (gR ?_))
   refine gMv ?_
   refine GoH.callM _ rfl rfl rfl rfl rfl (fun _ _ => Tryd.call13 _ _) (fun w _ hS => (by exact classes_c m m.n.toNat bv sc qo cap (setsP m.n.toNat m.val m.rel (compF f)) w (hS.get (j := 0) rfl) (sluAt hS 1 rfl hq) (by omega) (by omega) (by rw [setsP_len]; omega))) ?_
   rintro v w1 w2 Y' hS he ⟨p, b, rfl, hp, hsz, hh⟩
   refine ⟨_, hS.gain he hh rfl hsz, ?_⟩
   iterate 2 refine gAs ?_
   refine gE ?_
   refine GoH.ret Tryd.f6 Tryd.func6 rfl (fun w' hS => ?_)
   exact ⟨hS.ext, _, by rw [h1]; rfl, fun _ => ⟨p, b, rfl, hp, ((NewH.of hS).own _ (List.mem_cons_self ..) b rfl).2.2, hS.get (j := 0) rfl⟩⟩
abbrev d12M (b8 b7 b6 : Nat) : MV := ⟨2, some ⟨b8, 0, none⟩, 1, [⟨some ⟨b7, 0, none⟩, 2, [2#64, 2#64]⟩], some ⟨b6, 0, none⟩, 1, d12V⟩
theorem d12_in {H : Hl} {b8 b7 b6 : Nat} (h8 : (some b8, ob Row.v 22 [⟨some ⟨b7, 0, none⟩, 2, [2#64, 2#64]⟩] []) ∈ H) (h7 : (some b7, ob U 37 [2#64, 2#64] []) ∈ H) (h6 : (some b6, ob U 37 d12V []) ∈ H) : (d12M b8 b7 b6).In H :=
  ⟨.inr ⟨b8, _, [], rfl, h8⟩, fun r h => by
    obtain rfl := List.mem_singleton.1 h
    exact ⟨.inr ⟨b7, _, [], rfl, h7⟩, le_mx (Nat.le_of_ble_eq_true rfl), Nat.le_refl _⟩, .inr ⟨b6, _, [], rfl, h6⟩, le_mx (Nat.le_of_ble_eq_true rfl), le_mx (Nat.le_of_ble_eq_true rfl), Nat.le_refl _, Nat.le_refl _⟩
theorem d12_look {b8 b7 b6 : Nat} : lookE (d12M b8 b7 b6) d12F = 0 := by
  obtain ⟨h1, h2, h3⟩ := d12_F
  unfold lookE
  rw [if_neg (by rw [show checkM (d12M b8 b7 b6).n (d12M b8 b7 b6).val (d12M b8 b7 b6).rel = 0 from d12_chk]; simp), if_neg (by simp [h1]), if_neg (by simp [h2])]
  exact h3
set_option maxRecDepth 8000 in
theorem dawake12_c (w : World) (hT : Tab w) : Cn Tryd.prog 5 [] w (fun v _ => v = .bool true) := by
  refine Cn.of Tryd.func5 rfl rfl ?_
  refine gS (gR ?_)
  refine gAs ?_
  refine gE (gS (gR ?_))
  refine GoH.bsN (c := [_]) rfl rfl rfl rfl Tryd.underlying22 Tryd.sizeOf37 Tryd.zeroValue37 rfl rfl (fun b6 => ?_)
  refine GoH.bsN (c := [_, _]) rfl rfl rfl rfl Tryd.underlying22 Tryd.sizeOf37 Tryd.zeroValue37 rfl rfl (fun b7 => ?_)
  refine GoH.bsN (c := [_]) rfl rfl rfl rfl Tryd.underlying23 Tryd.sizeOf22 Tryd.zeroValue22 rfl rfl (fun b8 => ?_)
  refine GoH.v (Vop.bld rfl rfl rfl rfl (bld (c := [_, _, _]) Tryd.underlying25 (Szs.cons Tryd.sizeOf3 (Szs.cons Tryd.sizeOf22 (Szs.cons Tryd.sizeOf23 Szs.nil))) Tryd.zeroValue25 rfl)) ?_
  refine GoH.alc rfl rfl rfl (fun _ => Tryd.zeroValue25 _) (fun b1 => ?_)
  refine GoH.stB rfl rfl rfl rfl Tryd.sizeOf25 0 rfl rfl rfl rfl ?_
  refine gE (gS ?_)
  refine GoH.drawCh 9 mixed ?_
  refine RdC.v (i := 0) (Vop.ldB rfl rfl rfl rfl Tryd.isAgg25 0 rfl Tryd.sizeOf25 rfl) rfl rfl (by repeat (first | exact List.Sublist.refl _ | exact List.nil_sublist _ | refine List.Sublist.cons_cons _ ?_ | refine List.Sublist.cons _ ?_)) ?_
  refine RdC.call (i := 1) _ rfl rfl rfl rfl rfl rfl (fun _ _ => Tryd.call11 _ _) (fun w _ hS => (by exact fact_c 0 w)) ?_
  rintro v w1 w2 Y' hS he ho
  rw [fact0] at ho
  obtain ⟨qf, capf, spf, rfl, hqf, hcapf, hS'⟩ := gainN hS he ho
  refine ⟨_, hS', (by repeat (first | exact List.Sublist.refl _ | refine List.Sublist.cons _ ?_)), ?_⟩
  refine RdC.call (i := 2) _ rfl rfl rfl rfl rfl rfl (fun _ _ => Tryd.call6 _ _) (fun w _ hS => (by exact fclasses_c (d12M b8 b7 b6) (qf.map (fun b => ⟨b, 0, none⟩)) capf d12F w (MV.In.at (d12_in (List.mem_of_getElem? (i := 2) rfl) (List.mem_of_getElem? (i := 3) rfl) (List.mem_of_getElem? (i := 4) rfl)) hS) (faAt hS 0 rfl (fun e => (hqf e).1)) (le_mx (by decide +kernel)))) ?_
  rintro v w1 w2 Y' hS he ⟨pv, rfl, hP⟩
  obtain ⟨p, b, rfl, hp, hsz, hh⟩ := hP d12_look
  rw [show (setsP (d12M b8 b7 b6).n.toNat (d12M b8 b7 b6).val (d12M b8 b7 b6).rel (compF d12F)) = [1#64] from d12_S] at hp
  refine ⟨_, hS.gain he hh rfl hsz, (by repeat (first | exact List.Sublist.refl _ | refine List.Sublist.cons _ ?_)), ?_⟩
  rw [show lookE (d12M b8 b7 b6) d12F = 0 from d12_look]
  refine RdC.v (i := 3) (Vop.mv rfl rfl rfl rfl) rfl rfl (by repeat (first | exact List.Sublist.refl _ | exact List.nil_sublist _ | refine List.Sublist.cons_cons _ ?_ | refine List.Sublist.cons _ ?_)) ?_
  refine RdC.v (i := 4) (Vop.ext rfl rfl rfl rfl rfl) rfl rfl (by repeat (first | exact List.Sublist.refl _ | exact List.nil_sublist _ | refine List.Sublist.cons_cons _ ?_ | refine List.Sublist.cons _ ?_)) ?_
  refine RdC.v (i := 5) (Vop.ext rfl rfl rfl rfl rfl) rfl rfl (by repeat (first | exact List.Sublist.refl _ | exact List.nil_sublist _ | refine List.Sublist.cons_cons _ ?_ | refine List.Sublist.cons _ ?_)) ?_
  refine RdC.v (i := 6) (Vop.asg rfl rfl rfl rfl) rfl rfl (by repeat (first | exact List.Sublist.refl _ | exact List.nil_sublist _ | refine List.Sublist.cons_cons _ ?_ | refine List.Sublist.cons _ ?_)) ?_
  refine RdC.v (i := 7) (Vop.asg rfl rfl rfl rfl) rfl rfl (by repeat (first | exact List.Sublist.refl _ | exact List.nil_sublist _ | refine List.Sublist.cons_cons _ ?_ | refine List.Sublist.cons _ ?_)) ?_
  refine RdC.done rfl ?_
  refine gE (gS (gR ?_))
  refine GoH.v (Vop.ldB rfl rfl rfl rfl Tryd.isAgg25 2 rfl Tryd.sizeOf25 rfl) ?_
  refine GoH.callM _ rfl rfl rfl rfl rfl (fun _ _ => Tryd.call7 _ _) (fun w _ hS => (by exact coarsest_c (d12M b8 b7 b6) w (hT.ex hS.ext) (MV.In.at (d12_in (List.mem_of_getElem? (i := 3) rfl) (List.mem_of_getElem? (i := 4) rfl) (List.mem_of_getElem? (i := 5) rfl)) hS))) ?_
  rintro v w1 w2 Y' hS he ⟨sv, rfl, ho⟩
  have hv12 : ValM (d12M b8 b7 b6).n (d12M b8 b7 b6).val (d12M b8 b7 b6).rel := checkM_zero.1 d12_chk
  have hok := crs_okP hv12
  have hcl : (crs (d12M b8 b7 b6).n (d12M b8 b7 b6).val (d12M b8 b7 b6).rel).length = 2 := crs_len (checkM_zero.2 hv12)
  have hiv := setsP_crs (n := 2) hv12 rfl d12_F.1 d12_F.2.1
  rw [show setsP 2 (d12M b8 b7 b6).val (d12M b8 b7 b6).rel (compF d12F) = [1#64] from d12_S] at hiv
  obtain ⟨pp, hpp⟩ : ∃ pp, pp = crs (d12M b8 b7 b6).n (d12M b8 b7 b6).val (d12M b8 b7 b6).rel := ⟨_, rfl⟩
  rw [← hpp] at ho hok hcl hiv
  obtain ⟨qp, capp, spp, rfl, hqp, hcapp, hS'⟩ := gainS hS he ho
  have hp2 : ClsP (keyB [1#64]) 2 p := hp
  have hpl := hp2.len
  have hpk := hp2.ok (by decide)
  have hp1 : p.getD 1 0 = 1 := by
    obtain ⟨v, h1, h2, h3, _⟩ := hp2.low 1 (by decide)
    have : v ≠ 0 := fun e => by rw [e] at h3; exact absurd h3 (by decide)
    rw [h1]; omega
  have hrf := hp2.refine hok hcl hiv
  refine ⟨_, hS', ?_⟩
  rw [show checkM (d12M b8 b7 b6).n (d12M b8 b7 b6).val (d12M b8 b7 b6).rel = 0 from d12_chk]
  refine gMv ?_
  iterate 2 refine gEx ?_
  iterate 2 refine gAs ?_
  refine gE (gS (gR ?_))
  refine gMv ?_
  refine GoH.v (Vop.bin rfl rfl rfl rfl (bEqV (v := true) rfl) rfl) ?_
  iterate 2 refine gMv ?_
  refine GoH.v (Vop.bin rfl rfl rfl rfl (bEqV (v := true) rfl) rfl) ?_
  refine gPt ?_
  iterate 2 refine gMv ?_
  refine gBl Tryd.underlying29 ?_
  refine GoH.v (Vop.bin rfl rfl rfl rfl (bEqV (v := true) rfl) rfl) ?_
  refine gPt ?_
  iterate 2 refine gMv ?_
  refine gBl Tryd.underlying29 ?_
  refine GoH.v (Vop.bin rfl rfl rfl rfl (bEqV (v := true) (by rw [hcl]; rfl)) rfl) ?_
  refine gPt ?_
  iterate 2 refine gMv ?_
  refine GoH.v (Vop.idxS rfl rfl rfl rfl rfl Tryd.underlying29 Tryd.sizeOf3 (1) ⟨rfl, (Nat.le_of_ble_eq_true rfl)⟩) ?_
  refine GoH.v (Vop.ldE I64 0 rfl rfl rfl rfl Tryd.isAgg3 1 rfl (by rw [hpl]; decide)) ?_
  refine GoH.v (Vop.bin rfl rfl rfl rfl (bEqV (v := true) (by rw [hp1]; rfl)) rfl) ?_
  refine gPt ?_
  iterate 3 refine gMv ?_
  refine GoH.callP rfl rfl rfl rfl rfl (fun _ _ => Tryd.call10 _ _) (fun w _ hS => (by have := refines_c (qp.map (fun b => ⟨b, 0, none⟩)) capp pp (some ⟨b, 0, none⟩) 2 p w (sliAt hS 0 rfl (fun e => (hqp e).1)) (sliAt hS 1 (q := some b) rfl (fun e => by cases e)) hok hpk (by rw [hcl, hpl]) hrf; rw [hpl] at this; exact this)) ?_
  refine gPt ?_
  refine gAs ?_
  refine gE ?_
  refine GoH.ret Tryd.f5 Tryd.func5 rfl (fun w' hS => ?_)
  exact ⟨hS.ext, rfl⟩
set_option maxRecDepth 8000 in
theorem coarser_c (m : MV) (a : Option Addr) (ca : Nat) (f : List NV) (w : World) (hT : Tab w) (hm : m.At w) (ha : FA w a f) (hl : f.length ≤ maxLen) : Cn Tryd.prog 3 [m.v, .slice a f.length ca] w (fun u _ => u = .bool true) := by
  refine Cn.of Tryd.func3 rfl rfl ?_
  refine gS (gR ?_)
  refine GoH.bx rfl rfl rfl rfl (fun b2 => ?_)
  refine gAs ?_
  refine gE (gS (gS (gR ?_)))
  refine GoH.v (Vop.ldB rfl rfl rfl rfl Tryd.isAgg25 0 rfl Tryd.sizeOf25 rfl) ?_
  refine GoH.callM _ rfl rfl rfl rfl rfl (fun _ _ => Tryd.call4 _ _) (fun w _ hS => few_c m 10 w (hm.ex0 hS.ext)) ?_
  rintro u w1 w2 Y' hS he ⟨y1, rfl⟩
  refine ⟨_, hS.later he, ?_⟩
  refine gUn uNot ?_
  refine gMv ?_
  refine GoH.cases (d := 14) rfl (fun hc => ?_) (fun hc => ?_)
  ·
   iterate 3 refine gNo ?_
   refine gPt ?_
   refine gE (GoH.condT rfl (gS (gR ?_)))
   refine GoH.callP rfl rfl rfl rfl rfl (fun _ _ => Tryd.call5 _ _) (fun w _ hS => dawake12_c w (hT.ex hS.ext)) ?_
   refine gAs ?_
   refine gE ?_
   refine GoH.ret Tryd.f3 Tryd.func3 rfl (fun w' hS => ?_)
   exact ⟨hS.ext, rfl⟩
  ·
   refine gMv ?_
   refine gBl Tryd.underlying26 ?_
   refine gBi bGt ?_
   refine gPf ?_
   refine gE ?_
   refine GoH.cond rfl (fun hc => ?_) (fun hc => ?_)
   ·
    refine gS (gR ?_)
    refine GoH.callP rfl rfl rfl rfl rfl (fun _ _ => Tryd.call5 _ _) (fun w _ hS => dawake12_c w (hT.ex hS.ext)) ?_
    refine gAs ?_
    refine gE ?_
    refine GoH.ret Tryd.f3 Tryd.func3 rfl (fun w' hS => ?_)
    exact ⟨hS.ext, rfl⟩
   ·
    refine gK (gS (gR ?_))
    refine GoH.v (Vop.ldB rfl rfl rfl rfl Tryd.isAgg25 0 rfl Tryd.sizeOf25 rfl) ?_
    refine gMv ?_
    refine GoH.callM _ rfl rfl rfl rfl rfl (fun _ _ => Tryd.call6 _ _) (fun w _ hS => (by exact fclasses_c m a ca f w (hm.ex0 hS.ext) (ha.ex0 hS.ext) hl)) ?_
    rintro v w1 w2 Y' hS he ⟨pv, rfl, hP⟩
    obtain ⟨bo, p, hnew, hbo⟩ : ∃ (bo : Option Nat) (p : List Int), NewH w1 w2 [(bo, ob I64 3 p []), (none, ob I64 3 [] [])] ∧ (lookE m f = 0 → ClsP (keyB (setsP m.n.toNat m.val m.rel (compF f))) m.n.toNat p ∧ ∃ b, bo = some b ∧ pv = .slice (some ⟨b, 0, none⟩) m.n.toNat m.n.toNat) := by
      by_cases h : lookE m f = 0
      · obtain ⟨p, b, h1, h2, h3, h4⟩ := hP h
        exact ⟨some b, p, NewH.one2 h3 h4 rfl, fun _ => ⟨h2, b, rfl, h1⟩⟩
      · exact ⟨none, [], NewH.none2, fun h0 => absurd h0 h⟩
    refine ⟨_, hS.gainL he hnew, ?_⟩
    refine gMv ?_
    iterate 2 refine gEx ?_
    iterate 2 refine gAs ?_
    refine gE (gS (gS (gR ?_)))
    refine gMv ?_
    refine gBi bNe ?_
    refine gE ?_
    refine GoH.cond rfl (fun hc => ?_) (fun hc => ?_)
    ·
     refine gS (gR ?_)
     refine GoH.callP rfl rfl rfl rfl rfl (fun _ _ => Tryd.call5 _ _) (fun w _ hS => dawake12_c w (hT.ex hS.ext)) ?_
     refine gAs ?_
     refine gE ?_
     refine GoH.ret Tryd.f3 Tryd.func3 rfl (fun w' hS => ?_)
     exact ⟨hS.ext, rfl⟩
    ·
     have h1 : lookE m f = 0 := by simpa using hc
     obtain ⟨hp, b, rfl, rfl⟩ := hbo h1
     obtain ⟨hck, hcf, hfr, _⟩ := lookE_zero h1
     have hv := checkM_zero.1 hck
     have hn1 := hv.n1
     have hn64 := hv.n64
     have hnn : m.n = (m.n.toNat : Int) := by omega
     have hpl := hp.len
     have hpk := hp.ok (by omega)
     have hcok := crs_okP hv
     have hccl := crs_len hck
     have hcr := hp.refine hcok hccl (setsP_crs hv hnn hcf hfr)
     have hrE : rndsE m.n m.val m.rel (depF f) = 0 := by rw [rndsE, if_neg (by simp [hck]), depF, if_pos hcf, if_neg (by omega)]
     have hrok := rnds_okP hv hrE
     have hrl := rnds_len hrE
     have hrr := hp.refine hrok hrl (setsP_rnds hv hnn hcf hfr)
     obtain ⟨pc, hpc⟩ : ∃ pc, pc = crs m.n m.val m.rel := ⟨_, rfl⟩
     obtain ⟨pr, hpr⟩ : ∃ pr, pr = rnds m.n m.val m.rel (depF f) := ⟨_, rfl⟩
     rw [← hpc] at hcok hccl hcr
     rw [← hpr] at hrok hrl hrr
     refine gK (gS (gR ?_))
     refine GoH.v (Vop.ldB rfl rfl rfl rfl Tryd.isAgg25 2 rfl Tryd.sizeOf25 rfl) ?_
     refine GoH.callM _ rfl rfl rfl rfl rfl (fun _ _ => Tryd.call7 _ _) (fun w _ hS => (by exact coarsest_c m w (hT.ex hS.ext) (hm.ex0 hS.ext))) ?_
     rintro v w1 w2 Y' hS he ⟨sv, rfl, ho⟩
     rw [← hpc] at ho
     obtain ⟨qc, capc, spc, rfl, hqc, hcapc, hS'⟩ := gainS hS he ho
     refine ⟨_, hS', ?_⟩
     rw [hck]
     refine gMv ?_
     iterate 2 refine gEx ?_
     iterate 2 refine gAs ?_
     refine gE (gS ?_)
     refine GoH.drawCh 10 mixed ?_
     refine RdC.v (i := 0) (Vop.ldB rfl rfl rfl rfl Tryd.isAgg25 3 rfl Tryd.sizeOf25 rfl) rfl rfl (by repeat (first | exact List.Sublist.refl _ | exact List.nil_sublist _ | refine List.Sublist.cons_cons _ ?_ | refine List.Sublist.cons _ ?_)) ?_
     refine RdC.v (i := 1) (Vop.mv rfl rfl rfl rfl) rfl rfl (by repeat (first | exact List.Sublist.refl _ | exact List.nil_sublist _ | refine List.Sublist.cons_cons _ ?_ | refine List.Sublist.cons _ ?_)) ?_
     refine RdC.callP (i := 2) rfl rfl rfl rfl rfl rfl (fun _ _ => Tryd.call9 _ _) (fun w _ hS => (by exact fdepth_c a ca f w (ha.ex0 hS.ext) hl)) (by repeat (first | exact List.Sublist.refl _ | exact List.nil_sublist _ | refine List.Sublist.cons_cons _ ?_ | refine List.Sublist.cons _ ?_)) ?_
     refine RdC.call (i := 3) _ rfl rfl rfl rfl rfl rfl (fun _ _ => Tryd.call8 _ _) (fun w _ hS => (by exact roundsX_c m (depF f) w (hT.ex hS.ext) (hm.ex0 hS.ext))) ?_
     rintro u w1 w2 Y' hS he ⟨sv, rfl, ho⟩
     rw [← hpr] at ho
     obtain ⟨qr, capr, spr, rfl, hqr, hcapr, hS'⟩ := gainS hS he ho
     refine ⟨_, hS', (by repeat (first | exact List.Sublist.refl _ | refine List.Sublist.cons _ ?_)), ?_⟩
     rw [hrE]
     refine RdC.v (i := 4) (Vop.mv rfl rfl rfl rfl) rfl rfl (by repeat (first | exact List.Sublist.refl _ | exact List.nil_sublist _ | refine List.Sublist.cons_cons _ ?_ | refine List.Sublist.cons _ ?_)) ?_
     refine RdC.v (i := 5) (Vop.ext rfl rfl rfl rfl rfl) rfl rfl (by repeat (first | exact List.Sublist.refl _ | exact List.nil_sublist _ | refine List.Sublist.cons_cons _ ?_ | refine List.Sublist.cons _ ?_)) ?_
     refine RdC.v (i := 6) (Vop.ext rfl rfl rfl rfl rfl) rfl rfl (by repeat (first | exact List.Sublist.refl _ | exact List.nil_sublist _ | refine List.Sublist.cons_cons _ ?_ | refine List.Sublist.cons _ ?_)) ?_
     refine RdC.v (i := 7) (Vop.asg rfl rfl rfl rfl) rfl rfl (by repeat (first | exact List.Sublist.refl _ | exact List.nil_sublist _ | refine List.Sublist.cons_cons _ ?_ | refine List.Sublist.cons _ ?_)) ?_
     refine RdC.v (i := 8) (Vop.asg rfl rfl rfl rfl) rfl rfl (by repeat (first | exact List.Sublist.refl _ | exact List.nil_sublist _ | refine List.Sublist.cons_cons _ ?_ | refine List.Sublist.cons _ ?_)) ?_
     refine RdC.done rfl ?_
     refine gE (gS (gR ?_))
     refine gMv ?_
     refine GoH.v (Vop.bin rfl rfl rfl rfl (bEqV (v := true) rfl) rfl) ?_
     iterate 2 refine gMv ?_
     refine GoH.v (Vop.bin rfl rfl rfl rfl (bEqV (v := true) rfl) rfl) ?_
     refine gPt ?_
     iterate 3 refine gMv ?_
     refine GoH.callP rfl rfl rfl rfl rfl (fun _ _ => Tryd.call10 _ _) (fun w _ hS => (by have := refines_c (qc.map (fun b => ⟨b, 0, none⟩)) capc pc (some ⟨b, 0, none⟩) m.n.toNat p w (sliAt hS 1 rfl (fun e => (hqc e).1)) (sliAt hS 2 (q := some b) rfl (fun e => by cases e)) hcok hpk (by rw [hccl, hpl]) hcr; rw [hpl] at this; exact this)) ?_
     refine gPt ?_
     iterate 3 refine gMv ?_
     refine GoH.callP rfl rfl rfl rfl rfl (fun _ _ => Tryd.call10 _ _) (fun w _ hS => (by have := refines_c (qr.map (fun b => ⟨b, 0, none⟩)) capr pr (some ⟨b, 0, none⟩) m.n.toNat p w (sliAt hS 0 rfl (fun e => (hqr e).1)) (sliAt hS 2 (q := some b) rfl (fun e => by cases e)) hrok hpk (by rw [hrl, hpl]) hrr; rw [hpl] at this; exact this)) ?_
     refine gPt ?_
     refine gMv ?_
     refine GoH.callP rfl rfl rfl rfl rfl (fun _ _ => Tryd.call5 _ _) (fun w _ hS => dawake12_c w (hT.ex hS.ext)) ?_
     refine gPt ?_
     refine gAs ?_
     refine gE ?_
     refine GoH.ret Tryd.f3 Tryd.func3 rfl (fun w' hS => ?_)
     exact ⟨hS.ext, rfl⟩
end Go.Proofs.YthojdcaojjmoaaaDoor
