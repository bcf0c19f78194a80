/- What calls of the program return, under the conditions that each theorem states. -/
import Derived.Test.YthojdcaojjmoaaaGreatDoorA39
import Derived.Test.YthojdcaojjmoaaaGreatDoorA11
import Derived.Test.YthojdcaojjmoaaaGreatDoorA12
import Derived.Test.YthojdcaojjmoaaaGreatDoorA40
import Derived.Test.YthojdcaojjmoaaaGreatDoorA04
namespace Go.Proofs.YthojdcaojjmoaaaGreatDoor
open Go.RowKit Go.Proofs.Wit
/-! the law DistinguishLeast -/
theorem plB_tree {m : MV} {f : List NV} (hv : ValM m.n m.val m.rel) (h : plB f m.rel.length m.val.length = true) : (topT f).ok ∧ Pln m.rel.length m.val.length (topT f) ∧ chkF f = 0 ∧ holdE m.n m.val m.rel f = 0 := by
  simp only [plB, Bool.and_eq_true, beq_iff_eq] at h
  obtain ⟨h1, h2, h3⟩ := h
  have hok := (chkF_zero.1 h1).top
  obtain ⟨_, hfit⟩ := fitB_iff.1 h2
  have h3' : andN (frgL (compF f)) 1 = 0 := by omega
  rw [compF_eq h1] at h3'
  have h10 := (frg_has hok frO_1).1 h3'
  have hst := allL_and (allL_and (h10.mono (q' := fun op _ _ => op ≤ 13) (fun _ _ _ h => by omega)) hfit) h10
  have hp : Pln m.rel.length m.val.length (topT f) := hst.mono (fun _ _ _ h => ⟨⟨h.1.1, h.1.2⟩, h.2⟩)
  exact ⟨hok, hp, h1, holdE_zero.2 ⟨hv, h1, hp.mono (fun _ _ _ h => h.1)⟩⟩
end Go.Proofs.YthojdcaojjmoaaaGreatDoor
namespace Go.Proofs.YthojdcaojjmoaaaGreatDoor
open Go.RowKit Go.Proofs.Wit
/-! the law TopDepthLeast -/
set_option maxRecDepth 8000 in
theorem depthLeast_c (m : MV) (a : Option Addr) (ca : Nat) (f : List NV) (w : World) (hT : Tab w) (hm : m.At w) (ha : FA w a f) (hl : f.length ≤ maxLen) : Cn Tryz.prog 3 [m.v, .slice a f.length ca] w (fun u _ => u = .bool true) := by
  have hrl : m.rel.length = m.rows.length := by simp [MV.rel]
  refine Cn.of Tryz.func3 rfl rfl ?_
  refine gS (gR ?_)
  refine GoH.bx rfl rfl rfl rfl (fun b2 => ?_)
  refine gAs ?_
  refine gE (gS (gS ?_))
  refine GoH.regionK (α := {b : Bool // b = false → ValM m.n m.val m.rel ∧ m.n ≤ 5 ∧ plB f m.rel.length m.val.length = true}) [] (fun b => [(1, .slice a f.length ca), (2, .pointer (some ⟨b2, 0, none⟩)), (42, .bool b.1)]) (fun _ => [(some b2, .cells m.v.cells 25 (0, 0))]) (fun b => ?_) (fun K => ?_)
  · -- what comes behind the region
   refine gE ?_
   refine GoH.cond rfl (fun hc => ?_) (fun hc => ?_)
   ·
    refine gS (gR ?_)
    refine GoH.callP rfl rfl rfl rfl rfl (fun _ _ => Tryz.call10 _ _) (fun w _ hS => aawake11_c w (hT.ex hS.ext)) ?_
    refine gAs ?_
    refine gE ?_
    refine GoH.ret Tryz.f3 Tryz.func3 rfl (fun w' hS => ?_)
    exact ⟨hS.ext, rfl⟩
   ·
    obtain ⟨hv, hn5, hpl⟩ := b.2 hc
    have hn1 := hv.n1
    have hn64 := hv.n64
    obtain ⟨n, hn⟩ : ∃ n : Nat, m.n = (n : Int) := ⟨m.n.toNat, by omega⟩
    have hvN : ValM (n : Int) m.val m.rel := by rw [← hn]; exact hv
    obtain ⟨hok, hp, hck, hE⟩ := plB_tree hv hpl
    have hHS : holdS m n f = semT n m.val m.rel (topT f) := if_pos hE
    have hdf : depF f = (depT (topT f) : Int) := if_pos hck
    have hrE : rndsE m.n m.val m.rel (depT (topT f)) = 0 := by rw [rndsE, if_neg (by simp [checkM_zero.2 hv]), if_neg (by omega)]
    have hpn : (rnds m.n m.val m.rel (depT (topT f))).length = n := by rw [rnds_len hrE, hn]; rfl
    have hagr := agr_rnds hv hn hok.wf hp
    obtain ⟨s, hs⟩ : ∃ s, s = semT n m.val m.rel (topT f) := ⟨_, rfl⟩
    obtain ⟨pp, hpp⟩ : ∃ pp, pp = rnds m.n m.val m.rel (depT (topT f)) := ⟨_, rfl⟩
    rw [← hpp, ← hs] at hagr
    rw [← hpp] at hpn
    rw [← hs] at hHS
    refine gK (gS (gR ?_))
    refine GoH.v (Vop.ldB rfl rfl rfl rfl Tryz.isAgg25 0 rfl Tryz.sizeOf25 rfl) ?_
    refine gMv ?_
    refine GoH.callP rfl rfl rfl rfl rfl (fun _ _ => Tryz.call11 _ _) (fun w _ hS => (by have := pholds_c m n a ca f w (hm.ex0 hS.ext) hn (ha.ex0 hS.ext) hl; rw [hHS, hE] at this; exact this)) ?_
    refine gMv ?_
    iterate 2 refine gEx ?_
    iterate 2 refine gAs ?_
    refine gE (gS ?_)
    refine GoH.drawCh 10 mixed ?_
    refine RdC.v (i := 0) (Vop.ldB rfl rfl rfl rfl Tryz.isAgg25 0 rfl Tryz.sizeOf25 rfl) rfl rfl (by repeat (first | exact List.Sublist.refl _ | exact List.nil_sublist _ | refine List.Sublist.cons_cons _ ?_ | refine List.Sublist.cons _ ?_)) ?_
    refine RdC.v (i := 1) (Vop.mv rfl rfl rfl rfl) rfl rfl (by repeat (first | exact List.Sublist.refl _ | exact List.nil_sublist _ | refine List.Sublist.cons_cons _ ?_ | refine List.Sublist.cons _ ?_)) ?_
    refine RdC.callP (i := 2) rfl rfl rfl rfl rfl rfl (fun _ _ => Tryz.call13 _ _) (fun w _ hS => (by have := rdepth05_c a ca f w (ha.ex0 hS.ext) hl; rw [hdf] at this; exact this)) (by repeat (first | exact List.Sublist.refl _ | exact List.nil_sublist _ | refine List.Sublist.cons_cons _ ?_ | refine List.Sublist.cons _ ?_)) ?_
    refine RdC.call (i := 3) _ rfl rfl rfl rfl rfl rfl (fun _ _ => Tryz.call12 _ _) (fun w _ hS => (by exact roundsX_c m (depT (topT f)) w (hT.ex hS.ext) (hm.ex0 hS.ext))) ?_
    rintro u w1 w2 Y' hS he ⟨sv, rfl, ho⟩
    rw [← hpp] at ho
    obtain ⟨qp, capp, spp, rfl, hqp, hcapp, hS'⟩ := gainS hS he ho
    refine ⟨_, hS', (by repeat (first | exact List.Sublist.refl _ | refine List.Sublist.cons _ ?_)), ?_⟩
    rw [hrE]
    refine RdC.v (i := 4) (Vop.mv rfl rfl rfl rfl) rfl rfl (by repeat (first | exact List.Sublist.refl _ | exact List.nil_sublist _ | refine List.Sublist.cons_cons _ ?_ | refine List.Sublist.cons _ ?_)) ?_
    refine RdC.v (i := 5) (Vop.ext rfl rfl rfl rfl rfl) rfl rfl (by repeat (first | exact List.Sublist.refl _ | exact List.nil_sublist _ | refine List.Sublist.cons_cons _ ?_ | refine List.Sublist.cons _ ?_)) ?_
    refine RdC.v (i := 6) (Vop.ext rfl rfl rfl rfl rfl) rfl rfl (by repeat (first | exact List.Sublist.refl _ | exact List.nil_sublist _ | refine List.Sublist.cons_cons _ ?_ | refine List.Sublist.cons _ ?_)) ?_
    refine RdC.v (i := 7) (Vop.asg rfl rfl rfl rfl) rfl rfl (by repeat (first | exact List.Sublist.refl _ | exact List.nil_sublist _ | refine List.Sublist.cons_cons _ ?_ | refine List.Sublist.cons _ ?_)) ?_
    refine RdC.v (i := 8) (Vop.asg rfl rfl rfl rfl) rfl rfl (by repeat (first | exact List.Sublist.refl _ | exact List.nil_sublist _ | refine List.Sublist.cons_cons _ ?_ | refine List.Sublist.cons _ ?_)) ?_
    refine RdC.done rfl ?_
    refine gE (gS (gS (gR ?_)))
    refine gMv ?_
    refine GoH.v (Vop.bin rfl rfl rfl rfl (bNeV (v := false) rfl) rfl) ?_
    iterate 2 refine gMv ?_
    refine GoH.v (Vop.bin rfl rfl rfl rfl (bNeV (v := false) rfl) rfl) ?_
    refine gPf ?_
    iterate 2 refine gMv ?_
    refine gBl Tryz.underlying36 ?_
    refine gFp Tryz.underlying25 Tryz.sizeOf3 0 ?_
    refine GoH.v (Vop.ldo (v := .int .i64 m.n) rfl rfl rfl rfl Tryz.isAgg3 1 rfl rfl) ?_
    refine GoH.v (Vop.bin rfl rfl rfl rfl (bNeV (v := false) (by rw [bne_eq_false_iff_eq]; show ((pp.length : Nat) : Int) = m.n; omega)) rfl) ?_
    refine gPf ?_
    refine gE (GoH.condF rfl (gK (gS (gS (gR ?_)))))
    refine gFp Tryz.underlying25 Tryz.sizeOf3 0 ?_
    refine GoH.v (Vop.ldo (v := .int .i64 m.n) rfl rfl rfl rfl Tryz.isAgg3 1 rfl rfl) ?_
    refine gMv ?_
    refine gE (gB ?_)
    obtain ⟨bp, rfl⟩ : ∃ b, qp = some b := by
      cases qp with
      | none => have := (hqp rfl).1; omega
      | some b => exact ⟨b, rfl⟩
    refine GoH.loop (σ := Nat) (fun k => [(1, .slice a f.length ca), (2, .pointer (some ⟨b2, 0, none⟩)), (5, U s), (7, osv (some bp) pp.length capp), (71, .int .i64 n), (72, .int .i64 k)]) (fun _ => [(some bp, ob I64 3 pp spp), (some b2, .cells m.v.cells 25 (0, 0))]) (fun k => k ≤ n) (fun k => n - k) 0 (Nat.zero_le _) ⟨rfl, rfl, rfl, rfl, by show some (Value.int IntKind.i64 m.n) = _; rw [hn], rfl, trivial⟩ (List.Sublist.refl _) (fun v hv0 IH => ?_)
    refine gS (gR ?_)
    refine gBi bLt ?_
    refine gE (gS ?_)
    refine GoH.cond rfl (fun hc => ?_) (fun hc => ?_)
    ·
     have hlv : v < n := by simpa using hc
     refine gK (gS (gB (gS (gR ?_))))
     refine gMv ?_
     refine gAs ?_
     refine gE (gS (gR ?_))
     refine gFp Tryz.underlying25 Tryz.sizeOf3 0 ?_
     refine GoH.v (Vop.ldo (v := .int .i64 m.n) rfl rfl rfl rfl Tryz.isAgg3 1 rfl rfl) ?_
     refine gMv ?_
     refine gE (gB ?_)
     refine GoH.loop (σ := Nat) (fun k => [(1, .slice a f.length ca), (2, .pointer (some ⟨b2, 0, none⟩)), (5, U s), (7, osv (some bp) pp.length capp), (9, .int .i64 v), (71, .int .i64 n), (72, .int .i64 v), (76, .int .i64 n), (77, .int .i64 k)]) (fun _ => [(some bp, ob I64 3 pp spp), (some b2, .cells m.v.cells 25 (0, 0))]) (fun k => k ≤ n) (fun k => n - k) 0 (Nat.zero_le _) ⟨rfl, rfl, rfl, rfl, rfl, rfl, rfl, by show some (Value.int IntKind.i64 m.n) = _; rw [hn], rfl, trivial⟩ (List.Sublist.refl _) (fun x hx0 IHx => ?_)
     refine gS (gR ?_)
     refine gBi bLt ?_
     refine gE (gS ?_)
     refine GoH.cond rfl (fun hc => ?_) (fun hc => ?_)
     ·
      have hlx : x < n := by simpa using hc
      refine gK (gS (gB (gS (gR ?_))))
      refine gMv ?_
      refine gAs ?_
      refine gE (gS (gS ?_))
      refine GoH.draw 9 mixed rfl ?_
      iterate 2 refine rMv ?_
      refine RdGo.v (Vop.bin rfl rfl rfl rfl (bShr v rfl) rfl) ?_
      refine RdGo.v (Vop.bin (b := U 1#64) rfl rfl rfl rfl bAnd rfl) ?_
      iterate 2 refine rMv ?_
      refine RdGo.v (Vop.bin rfl rfl rfl rfl (bShr x rfl) rfl) ?_
      refine RdGo.v (Vop.bin (b := U 1#64) rfl rfl rfl rfl bAnd rfl) ?_
      refine rBi bEqU ?_
      refine RdGo.nil ?_
      refine gE ?_
      refine GoH.cond rfl (fun hc => ?_) (fun hc => ?_)
      ·
       refine GoH.exit rfl (gR ?_)
       refine GoH.v (Vop.bin rfl rfl rfl rfl (bAdd (by omega)) rfl) ?_
       refine gMv ?_
       refine gE ?_
       exact IHx (x + 1) _ _ hlx (by omega) ⟨rfl, rfl, rfl, rfl, rfl, rfl, rfl, rfl, rfl, trivial⟩ (List.Sublist.refl _)
      ·
       have hne : s.getLsbD v ≠ s.getLsbD x := by
         have h1 : ((s >>> v) &&& 1#64 != (s >>> x) &&& 1#64) = true := by
           rw [bne, show ((s >>> v) &&& 1#64 == (s >>> x) &&& 1#64) = false from hc]; rfl
         rw [shr1_ne] at h1
         exact bne_iff_ne.1 h1
       obtain ⟨k, hd, hkt⟩ : ∃ k, dst n m.val m.rel v x = some k ∧ k ≤ depT (topT f) := Classical.byContradiction (fun hno => hne (by
         rw [hs]
         exact dep_least hvN hok hp hlv hlx (fun k hk => Classical.byContradiction (fun h2 => hno ⟨k, hk, by omega⟩))))
       have hpne : pp.getD v 0 ≠ pp.getD x 0 := fun e => hne (by
         have h1 := (hagr.at hlv).2.2
         have h2 := (hagr.at hlx).2.2
         rw [← e, ← h1] at h2
         have h3 : ((s >>> v) &&& 1#64 != (s >>> x) &&& 1#64) = false := by rw [h2]; simp
         rw [shr1_ne] at h3
         simpa using h3)
       refine gK (gS (gR ?_))
       refine GoH.v (Vop.ldB rfl rfl rfl rfl Tryz.isAgg25 1 rfl Tryz.sizeOf25 rfl) ?_
       iterate 2 refine gMv ?_
       refine GoH.callM _ rfl rfl rfl rfl rfl (fun _ _ => Tryz.call14 _ _) (fun w _ hS => (by exact dFormula_c m v x w (hT.ex hS.ext) (hm.ex0 hS.ext))) ?_
       rintro u w1 w2 Y' hS he ⟨sv, d, e, rfl, ho, hF⟩
       obtain ⟨q, cap, sp, rfl, hq, hcap, hS'⟩ := gainN hS he ho
       obtain ⟨rfl, hdl, td, hpd, hTd⟩ := form_get (n := n) (k := k) hF hn (by omega) hv ⟨by omega, by omega⟩ ⟨by omega, by omega⟩ hd
       have hdd : depF d = (depT td : Int) := by rw [depF, if_pos hpd.chk, hpd.top]
       have hdk := hTd.dp
       refine ⟨_, hS', ?_⟩
       refine gMv ?_
       iterate 2 refine gEx ?_
       iterate 2 refine gAs ?_
       refine gE (gS ?_)
       refine GoH.drawCh 21 mixed ?_
       refine RdC.v (i := 0) (Vop.mv rfl rfl rfl rfl) rfl rfl (by repeat (first | exact List.Sublist.refl _ | exact List.nil_sublist _ | refine List.Sublist.cons_cons _ ?_ | refine List.Sublist.cons _ ?_)) ?_
       refine RdC.v (i := 1) (Vop.mv rfl rfl rfl rfl) rfl rfl (by repeat (first | exact List.Sublist.refl _ | exact List.nil_sublist _ | refine List.Sublist.cons_cons _ ?_ | refine List.Sublist.cons _ ?_)) ?_
       refine RdC.v (i := 2) (Vop.idxS rfl rfl rfl rfl rfl Tryz.underlying36 Tryz.sizeOf3 (v) ⟨rfl, (by omega)⟩) rfl rfl (by repeat (first | exact List.Sublist.refl _ | exact List.nil_sublist _ | refine List.Sublist.cons_cons _ ?_ | refine List.Sublist.cons _ ?_)) ?_
       refine RdC.v (i := 3) (Vop.ldE I64 0 rfl rfl rfl rfl Tryz.isAgg3 1 rfl (by omega)) rfl rfl (by repeat (first | exact List.Sublist.refl _ | exact List.nil_sublist _ | refine List.Sublist.cons_cons _ ?_ | refine List.Sublist.cons _ ?_)) ?_
       refine RdC.v (i := 4) (Vop.mv rfl rfl rfl rfl) rfl rfl (by repeat (first | exact List.Sublist.refl _ | exact List.nil_sublist _ | refine List.Sublist.cons_cons _ ?_ | refine List.Sublist.cons _ ?_)) ?_
       refine RdC.v (i := 5) (Vop.mv rfl rfl rfl rfl) rfl rfl (by repeat (first | exact List.Sublist.refl _ | exact List.nil_sublist _ | refine List.Sublist.cons_cons _ ?_ | refine List.Sublist.cons _ ?_)) ?_
       refine RdC.v (i := 6) (Vop.idxS rfl rfl rfl rfl rfl Tryz.underlying36 Tryz.sizeOf3 (x) ⟨rfl, (by omega)⟩) rfl rfl (by repeat (first | exact List.Sublist.refl _ | exact List.nil_sublist _ | refine List.Sublist.cons_cons _ ?_ | refine List.Sublist.cons _ ?_)) ?_
       refine RdC.v (i := 7) (Vop.ldE I64 0 rfl rfl rfl rfl Tryz.isAgg3 1 rfl (by omega)) rfl rfl (by repeat (first | exact List.Sublist.refl _ | exact List.nil_sublist _ | refine List.Sublist.cons_cons _ ?_ | refine List.Sublist.cons _ ?_)) ?_
       refine RdC.v (i := 8) (Vop.bin rfl rfl rfl rfl (bEqV (v := false) (beq_eq_false_iff_ne.2 hpne)) rfl) rfl rfl (by repeat (first | exact List.Sublist.refl _ | exact List.nil_sublist _ | refine List.Sublist.cons_cons _ ?_ | refine List.Sublist.cons _ ?_)) ?_
       refine RdC.v (i := 9) (Vop.mv rfl rfl rfl rfl) rfl rfl (by repeat (first | exact List.Sublist.refl _ | exact List.nil_sublist _ | refine List.Sublist.cons_cons _ ?_ | refine List.Sublist.cons _ ?_)) ?_
       refine RdC.v (i := 10) (Vop.mv rfl rfl rfl rfl) rfl rfl (by repeat (first | exact List.Sublist.refl _ | exact List.nil_sublist _ | refine List.Sublist.cons_cons _ ?_ | refine List.Sublist.cons _ ?_)) ?_
       refine RdC.v (i := 11) (Vop.bin rfl rfl rfl rfl (bNeV (v := false) rfl) rfl) rfl rfl (by repeat (first | exact List.Sublist.refl _ | exact List.nil_sublist _ | refine List.Sublist.cons_cons _ ?_ | refine List.Sublist.cons _ ?_)) ?_
       refine RdC.v (i := 12) (Vop.pickF rfl rfl rfl rfl rfl) rfl rfl (by repeat (first | exact List.Sublist.refl _ | exact List.nil_sublist _ | refine List.Sublist.cons_cons _ ?_ | refine List.Sublist.cons _ ?_)) ?_
       refine RdC.v (i := 13) (Vop.mv rfl rfl rfl rfl) rfl rfl (by repeat (first | exact List.Sublist.refl _ | exact List.nil_sublist _ | refine List.Sublist.cons_cons _ ?_ | refine List.Sublist.cons _ ?_)) ?_
       refine RdC.v (i := 14) (Vop.mv rfl rfl rfl rfl) rfl rfl (by repeat (first | exact List.Sublist.refl _ | exact List.nil_sublist _ | refine List.Sublist.cons_cons _ ?_ | refine List.Sublist.cons _ ?_)) ?_
       refine RdC.v (i := 16) (Vop.mv rfl rfl rfl rfl) rfl rfl (by repeat (first | exact List.Sublist.refl _ | exact List.nil_sublist _ | refine List.Sublist.cons_cons _ ?_ | refine List.Sublist.cons _ ?_)) ?_
       refine RdC.callP (i := 15) rfl rfl rfl rfl rfl rfl (fun _ _ => Tryz.call13 _ _) (fun w _ hS => (by have := rdepth05_c (q.map (fun b => ⟨b, 0, none⟩)) cap d w (faAt hS 0 rfl (fun e => (hq e).1)) (by unfold maxLen; omega); rw [hdd] at this; exact this)) (by repeat (first | exact List.Sublist.refl _ | exact List.nil_sublist _ | refine List.Sublist.cons_cons _ ?_ | refine List.Sublist.cons _ ?_)) ?_
       refine RdC.callP (i := 17) rfl rfl rfl rfl rfl rfl (fun _ _ => Tryz.call13 _ _) (fun w _ hS => (by have := rdepth05_c a ca f w (ha.ex0 hS.ext) hl; rw [hdf] at this; exact this)) (by repeat (first | exact List.Sublist.refl _ | exact List.nil_sublist _ | refine List.Sublist.cons_cons _ ?_ | refine List.Sublist.cons _ ?_)) ?_
       refine RdC.v (i := 18) (Vop.bin rfl rfl rfl rfl (bGtV (v := false) (decide_eq_false (by omega))) rfl) rfl rfl (by repeat (first | exact List.Sublist.refl _ | exact List.nil_sublist _ | refine List.Sublist.cons_cons _ ?_ | refine List.Sublist.cons _ ?_)) ?_
       refine RdC.v (i := 19) (Vop.pickF rfl rfl rfl rfl rfl) rfl rfl (by repeat (first | exact List.Sublist.refl _ | exact List.nil_sublist _ | refine List.Sublist.cons_cons _ ?_ | refine List.Sublist.cons _ ?_)) ?_
       refine RdC.done rfl ?_
       refine gE (GoH.condF rfl (gK (gIb (gR ?_))))
       refine GoH.v (Vop.bin rfl rfl rfl rfl (bAdd (by omega)) rfl) ?_
       refine gMv ?_
       refine gE ?_
       exact IHx (x + 1) _ _ hlx (by omega) ⟨rfl, rfl, rfl, rfl, rfl, rfl, rfl, rfl, rfl, trivial⟩ (.cons _ (List.Sublist.refl _))
     ·
      refine GoH.exit rfl (gIb (gR ?_))
      refine GoH.v (Vop.bin rfl rfl rfl rfl (bAdd (by omega)) rfl) ?_
      refine gMv ?_
      refine gE ?_
      exact IH (v + 1) _ _ hlv (by omega) ⟨rfl, rfl, rfl, rfl, rfl, rfl, trivial⟩ (List.Sublist.refl _)
    ·
     refine GoH.exit rfl (gS (gR ?_))
     refine GoH.callP rfl rfl rfl rfl rfl (fun _ _ => Tryz.call10 _ _) (fun w _ hS => aawake11_c w (hT.ex hS.ext)) ?_
     refine gAs ?_
     refine gE ?_
     refine GoH.ret Tryz.f3 Tryz.func3 rfl (fun w' hS => ?_)
     exact ⟨hS.ext, rfl⟩
  · -- the region
   refine gR ?_
   refine GoH.v (Vop.ldB rfl rfl rfl rfl Tryz.isAgg25 0 rfl Tryz.sizeOf25 rfl) ?_
   refine GoH.callM _ rfl rfl rfl rfl rfl (fun _ _ => Tryz.call5 _ _) (fun w _ hS => few2_c m 5 w (hm.ex0 hS.ext)) ?_
   rintro u w1 w2 Y' hS he ⟨y1, rfl, hfew⟩
   refine ⟨_, hS.later he, ?_⟩
   refine gUn uNot ?_
   refine gMv ?_
   refine GoH.cases (d := 16) rfl (fun hc => ?_) (fun hc => ?_)
   ·
    iterate 3 refine gNo ?_
    refine gPt ?_
    refine gMv ?_
    iterate 3 refine gNo ?_
    refine gPt ?_
    refine gMv ?_
    iterate 9 refine gNo ?_
    refine gPt ?_
    refine gMv ?_
    iterate 4 refine gNo ?_
    refine gPt ?_
    exact K ⟨true, fun h => by cases h⟩ _ _ (by repeat (first | exact SubF.nil | refine SubF.cons rfl ?_)) (fun _ _ hS => hS)
   ·
    have hf1 : m.n ≤ 5 ∨ 64 < m.n := hfew (by simpa using hc)
    refine GoH.v (Vop.ldB rfl rfl rfl rfl Tryz.isAgg25 0 rfl Tryz.sizeOf25 rfl) ?_
    refine GoH.callP rfl rfl rfl rfl rfl (fun _ _ => Tryz.call6 _ _) (fun w _ hS => (by exact rmCheck_c m w (hm.ex0 hS.ext))) ?_
    refine gBi bNe ?_
    refine gPf ?_
    refine gMv ?_
    refine GoH.cases (d := 21) rfl (fun hc => ?_) (fun hc => ?_)
    ·
     iterate 3 refine gNo ?_
     refine gPt ?_
     refine gMv ?_
     iterate 9 refine gNo ?_
     refine gPt ?_
     refine gMv ?_
     iterate 4 refine gNo ?_
     refine gPt ?_
     exact K ⟨true, fun h => by cases h⟩ _ _ (by repeat (first | exact SubF.nil | refine SubF.cons rfl ?_)) (fun _ _ hS => hS)
    ·
     have h1 : checkM m.n m.val m.rel = 0 := by simpa using hc
     have hv := checkM_zero.1 h1
     have hn64 := hv.n64
     refine gMv ?_
     refine GoH.callP rfl rfl rfl rfl rfl (fun _ _ => Tryz.call7 _ _) (fun w _ hS => (by exact rfew_c a ca f 20 w)) ?_
     refine gUn uNot ?_
     refine gPf ?_
     refine gMv ?_
     refine GoH.cases (d := 26) rfl (fun hc => ?_) (fun hc => ?_)
     ·
      iterate 9 refine gNo ?_
      refine gPt ?_
      refine gMv ?_
      iterate 4 refine gNo ?_
      refine gPt ?_
      exact K ⟨true, fun h => by cases h⟩ _ _ (by repeat (first | exact SubF.nil | refine SubF.cons rfl ?_)) (fun _ _ hS => hS)
     ·
      refine gMv ?_
      refine gFp Tryz.underlying25 Tryz.sizeOf23 2 ?_
      refine GoH.v (Vop.ldo (v := .slice m.ra m.rows.length m.rc) rfl rfl rfl rfl Tryz.isAgg23 0 rfl rfl) ?_
      refine gBl Tryz.underlying23 ?_
      refine gFp Tryz.underlying25 Tryz.sizeOf22 1 ?_
      refine GoH.v (Vop.ldo (v := .slice m.va m.val.length m.vc) rfl rfl rfl rfl Tryz.isAgg22 0 rfl rfl) ?_
      refine gBl Tryz.underlying22 ?_
      refine GoH.callP rfl rfl rfl rfl rfl (fun _ _ => Tryz.call8 _ _) (fun w _ hS => (by exact rfitsF_c a ca f m.rows.length m.val.length w (ha.ex0 hS.ext) hl)) ?_
      refine gUn uNot ?_
      refine gPf ?_
      refine gMv ?_
      refine GoH.cases (d := 37) rfl (fun hc => ?_) (fun hc => ?_)
      ·
       iterate 4 refine gNo ?_
       refine gPt ?_
       exact K ⟨true, fun h => by cases h⟩ _ _ (by repeat (first | exact SubF.nil | refine SubF.cons rfl ?_)) (fun _ _ hS => hS)
      ·
       have hfit : fitB f m.rel.length m.val.length = true := by rw [hrl]; simpa using hc
       refine gMv ?_
       refine GoH.callP rfl rfl rfl rfl rfl (fun _ _ => Tryz.call9 _ _) (fun w _ hS => (by exact rfrags_c a ca f w (ha.ex0 hS.ext) hl)) ?_
       refine GoH.v (Vop.bin rfl rfl rfl rfl (bAndNotI (frgL_lt _) (by omega : (1 : Nat) < 512)) rfl) ?_
       refine gBi bNe ?_
       refine gPf ?_
       exact K ⟨((andN (frgL (compF f)) 1 : Nat) : Int) != 0, fun h => ⟨hv, by omega, by rw [plB, (fitB_iff.1 hfit).1, hfit, Bool.true_and]; simpa using h⟩⟩ _ _ (by repeat (first | exact SubF.nil | refine SubF.cons rfl ?_)) (fun _ _ hS => hS)
end Go.Proofs.YthojdcaojjmoaaaGreatDoor
