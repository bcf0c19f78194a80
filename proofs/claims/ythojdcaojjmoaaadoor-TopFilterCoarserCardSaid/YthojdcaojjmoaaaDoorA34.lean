/- What calls of the program return, under the conditions that each theorem states. -/
import Derived.Test.YthojdcaojjmoaaaDoorA30
import Derived.Test.YthojdcaojjmoaaaDoorA31
import Derived.Test.YthojdcaojjmoaaaDoorA28
import Derived.Test.YthojdcaojjmoaaaDoorA32
import Derived.Test.YthojdcaojjmoaaaDoorA33
import Derived.Test.YthojdcaojjmoaaaDoorA27
import Derived.Test.YthojdcaojjmoaaaDoorA04
namespace Go.Proofs.YthojdcaojjmoaaaDoor
open Go.RowKit Go.Proofs.Wit
/-! the program's checker: sets, holds, at -/
theorem infoBo : (Tryd.prog.info? 4).map (fun i => (i.zero, i.size, i.bytes)) = some (some (Value.bool false), 1, 1) := by kernel_rfl
set_option maxRecDepth 8000 in
theorem psets_c (m : MV) (n : Nat) (a : Option Addr) (ca : Nat) (f : List NV) (w : World) (hm : m.At w) (hn : m.n = (n : Int)) (ha : FA w a f) (hl : f.length ≤ maxLen) :
    Cn Tryd.prog 23 [m.v, .slice a f.length ca] w (fun v w' => ∃ sv, v = .tuple #[sv, .int .i64 (holdE m.n m.val m.rel f)] ∧ Own w w' sv (if holdE m.n m.val m.rel f = 0 then setsP n m.val m.rel f else [])) := by
  obtain ⟨i1, hi1, hz1, hsz1, hby1⟩ := info_parts infoU
  obtain ⟨i2, hi2, hz2, hsz2, hby2⟩ := info_parts infoBo
  refine Cn.of Tryd.func23 rfl rfl ?_
  refine gS (gR ?_)
  refine GoH.bx rfl rfl rfl rfl (fun b2 => ?_)
  iterate 2 refine gAs ?_
  refine gE (gS (gS (gR ?_)))
  refine GoH.v (Vop.ldB rfl rfl rfl rfl Tryd.isAgg25 0 rfl Tryd.sizeOf25 rfl) ?_
  refine gMv ?_
  refine GoH.callP rfl rfl rfl rfl rfl (fun _ _ => Tryd.call39 _ _) (fun w _ hS => (by exact request_c m a ca f w (hm.ex0 hS.ext) (ha.ex0 hS.ext) hl)) ?_
  refine gAs ?_
  refine gE (gS (gR ?_))
  refine gMv ?_
  refine gBi bNe ?_
  refine gE ?_
  refine GoH.cond rfl (fun hc => ?_) (fun hc => ?_)
  ·
   have h0 : holdE m.n m.val m.rel f ≠ 0 := by simpa using hc
   refine gS (gR ?_)
   refine gMv ?_
   iterate 2 refine gAs ?_
   refine gE ?_
   refine GoH.ret Tryd.f23 Tryd.func23 rfl (fun w' hS => ?_)
   exact ⟨hS.ext, _, rfl, by rw [if_neg h0]; exact OwnS.nil0⟩
  ·
   have h0 : holdE m.n m.val m.rel f = 0 := by simpa using hc
   obtain ⟨hv, hck, hstat⟩ := holdE_zero.1 h0
   have hO : NodesOk f := fun i hi => nodeE_zero.1 ((chkF_zero.1 hck).node i hi)
   have hpos := (chkF_zero.1 hck).pos
   have hlen := (chkF_zero.1 hck).len
   obtain ⟨L, hL⟩ : ∃ L, L = f.length := ⟨_, rfl⟩
   refine gK (gS (gR ?_))
   refine gMv ?_
   refine gBl Tryd.underlying26 ?_
   refine GoH.mkE U 0#64 rfl rfl rfl rfl rfl Tryd.underlying22 hi1 hz1 rfl hsz1 (by rw [hby1]; omega) hl (fun b20 => ?_)
   refine gAs ?_
   refine gE (gS (gR ?_))
   refine gMv ?_
   refine gBl Tryd.underlying26 ?_
   refine GoH.mkE Value.bool false rfl rfl rfl rfl rfl Tryd.underlying79 hi2 hz2 rfl hsz2 (by rw [hby2]; omega) hl (fun b23 => ?_)
   refine gAs ?_
   refine gE (gS (gS (gR ?_)))
   refine gMv ?_
   refine gBl Tryd.underlying26 ?_
   refine gMv ?_
   refine gE (gB ?_)
   obtain ⟨PS, hPS⟩ : ∃ PS, PS = setV n m.val m.rel f := ⟨_, rfl⟩
   obtain ⟨PF, hPF⟩ : ∃ PF : Nat → Bool, PF = fun k => finB m.rel.length m.val.length (treeAt f k) := ⟨_, rfl⟩
   refine GoH.loop (σ := Nat) (fun k => [(1, .slice a f.length ca), (2, .pointer (some ⟨b2, 0, none⟩)), (7, .slice (some ⟨b20, 0, none⟩) (prt f.length PS 0#64 k).length f.length), (8, .slice (some ⟨b23, 0, none⟩) (prt f.length PF false k).length f.length), (24, .slice a f.length ca), (25, .int .i64 f.length), (26, .int .i64 k)])
     (fun k => [(some b23, ob Value.bool 4 (prt f.length PF false k) []), (some b20, ob U 37 (prt f.length PS 0#64 k) []), (some b2, .cells m.v.cells 25 (0, 0))]) (fun k => k ≤ f.length) (fun k => f.length - k) 0 (Nat.zero_le _) ⟨rfl, rfl, by rw [prt_len]; rfl, by rw [prt_len]; rfl, rfl, rfl, rfl, trivial⟩ (by rw [prt_zero, prt_zero]; exact List.Sublist.refl _) (fun k hk IH => ?_)
   refine gS (gR ?_)
   refine gBi bLt ?_
   refine gE (gS ?_)
   refine GoH.cond rfl (fun hc => ?_) (fun hc => ?_)
   ·
    have hlt : k < f.length := by simpa using hc
    have hok := hO k hlt
    have hop := hok.op
    have hF := fldOk_of hok.fld
    have hXi := usX_ge hop
    obtain ⟨kx, hkx⟩ : ∃ j : Nat, f[k].x = (j : Int) := ⟨f[k].x.toNat, by
      cases hX : usX f[k].op with
      | false => have := hok.x0 hX; omega
      | true => have := hok.x hX; omega⟩
    obtain ⟨ky, hky⟩ : ∃ j : Nat, f[k].y = (j : Int) := ⟨f[k].y.toNat, by
      cases hY : usY f[k].op with
      | false => have := hok.y0 hY; omega
      | true => have := hok.y hY; omega⟩
    have hlx : kx < f.length := by
      cases hX : usX f[k].op with
      | false => have := hok.x0 hX; omega
      | true => have := hok.x hX; omega
    have hly : ky < f.length := by
      cases hY : usY f[k].op with
      | false => have := hok.y0 hY; omega
      | true => have := hok.y hY; omega
    have hsx : usX f[k].op = true → (prt f.length PS 0#64 k).getD kx 0#64 = PS kx ∧ (prt f.length PF false k).getD kx false = PF kx := fun hX => by have := hok.x hX; exact ⟨prt_get (by omega) hlx, prt_get (by omega) hlx⟩
    have hsy : usY f[k].op = true → (prt f.length PS 0#64 k).getD ky 0#64 = PS ky ∧ (prt f.length PF false k).getD ky false = PF ky := fun hY => by have := hok.y hY; exact ⟨prt_get (by omega) hly, prt_get (by omega) hly⟩
    have etx : f[k].x.toNat = kx := by omega
    have ety : f[k].y.toNat = ky := by omega
    have hlsx : kx < (prt f.length PS 0#64 k).length := by rw [prt_len]; exact hlx
    have hlsy : ky < (prt f.length PS 0#64 k).length := by rw [prt_len]; exact hly
    have hlfx : kx < (prt f.length PF false k).length := by rw [prt_len]; exact hlx
    have hlfy : ky < (prt f.length PF false k).length := by rw [prt_len]; exact hly
    have hlsk : k < (prt f.length PS 0#64 k).length := by rw [prt_len]; exact hlt
    have hlfk : k < (prt f.length PF false k).length := by rw [prt_len]; exact hlt
    refine gK (gS (gB (gS (gR ?_))))
    refine gMv ?_
    refine GoH.v (Vop.idxN rfl rfl rfl rfl rfl Tryd.underlying26 Tryd.sizeOf50 ⟨_, (ha).at_⟩ (flat_len (enc := NV.cells) (sz := 6) (fun _ => rfl)) (by decide) (k) ⟨rfl, hlt⟩) ?_
    refine GoH.v (Vop.ldN (cs := NV.cells f[k]) rfl rfl rfl rfl Tryd.isAgg50 Tryd.sizeOf50 (fun w _ hS => Sl.many (enc := NV.cells) (sz := 6) (ha.ex0 hS.ext).at_ (fun _ => rfl) hlt)) ?_
    refine GoH.alc rfl rfl rfl (fun _ => Tryd.zeroValue50 _) (fun b10 => ?_)
    refine gAs ?_
    refine GoH.stB rfl rfl rfl rfl Tryd.sizeOf50 0 rfl rfl rfl rfl ?_
    refine gE (gS (gR ?_))
    refine gAs ?_
    refine gE (gS (gS (gR ?_)))
    refine gFp Tryd.underlying50 Tryd.sizeOf3 0 ?_
    refine gLo Tryd.isAgg3 0 ?_
    refine gBi bGe ?_
    refine gE ?_
    refine GoH.cond rfl (fun hc => ?_) (fun hc => ?_)
    ·
     have h4 : 4 ≤ f[k].op := by simpa using hc
     have hX : usX f[k].op = true := by rw [hXi]; simpa using h4
     have hfxv := (hsx hX).2
     refine gR ?_
     refine gMv ?_
     refine gFp Tryd.underlying50 Tryd.sizeOf3 4 ?_
     refine gLo Tryd.isAgg3 0 ?_
     refine GoH.v (Vop.idxS rfl rfl rfl rfl rfl Tryd.underlying79 Tryd.sizeOf4 (kx) ⟨hkx, hlfx⟩) ?_
     refine GoH.v (Vop.ldE Value.bool false rfl rfl rfl rfl Tryd.isAgg4 1 rfl hlfx) ?_
     refine gAs ?_
     refine gE (gS (gS (gR ?_)))
     refine gFp Tryd.underlying50 Tryd.sizeOf3 0 ?_
     refine gLo Tryd.isAgg3 0 ?_
     refine gBi bGe ?_
     refine gMv ?_
     refine GoH.cases (d := 42) rfl (fun hc => ?_) (fun hc => ?_)
     ·
      have h5 : 5 ≤ f[k].op := by simpa using hc
      refine gFp Tryd.underlying50 Tryd.sizeOf3 0 ?_
      refine gLo Tryd.isAgg3 0 ?_
      refine gBi bLe ?_
      refine gPt ?_
      refine gMv ?_
      refine GoH.cases (d := 47) rfl (fun hc => ?_) (fun hc => ?_)
      ·
       have h8 : f[k].op ≤ 8 := by simpa using hc
       have hY : usY f[k].op = true := by
         have : f[k].op = 5 ∨ f[k].op = 6 ∨ f[k].op = 7 ∨ f[k].op = 8 := by omega
         rcases this with h | h | h | h <;> rw [h] <;> rfl
       iterate 3 refine gNo ?_
       refine gPt ?_
       refine gE (GoH.condT rfl (gR ?_))
       iterate 2 refine gMv ?_
       refine GoH.cases (d := 53) rfl (fun hc => ?_) (fun hc => ?_)
       ·
        have hfx1 : PF kx = true := by rw [← hfxv]; exact hc
        refine gMv ?_
        refine gFp Tryd.underlying50 Tryd.sizeOf3 5 ?_
        refine gLo Tryd.isAgg3 0 ?_
        refine GoH.v (Vop.idxS rfl rfl rfl rfl rfl Tryd.underlying79 Tryd.sizeOf4 (ky) ⟨hky, hlfy⟩) ?_
        refine GoH.v (Vop.ldE Value.bool false rfl rfl rfl rfl Tryd.isAgg4 1 rfl hlfy) ?_
        refine gPt ?_
        refine gAs ?_
        refine gE (gS (gR ?_))
        refine gMv ?_
        refine gE ?_
        refine GoH.cond rfl (fun hc => ?_) (fun hc => ?_)
        ·
         have hfy1 : PF ky = true := by rw [← (hsy hY).2]; exact hc
         obtain ⟨hst1, hst2⟩ := set_step (n := n) (val := m.val) (rel := m.rel) (x := (prt f.length PS 0#64 k).getD kx 0#64) (y := (prt f.length PS 0#64 k).getD ky 0#64) hlt hO (fun hX => by rw [etx]; rw [hPF] at hfx1; exact hfx1) (fun hY h13 => by rw [ety]; rw [hPF] at hfy1; exact hfy1) (fun hX => by rw [(hsx hX).1, hPS, etx]) (fun hY => by rw [(hsy hY).1, hPS, ety])
         refine GoH.drawQ 25 21 [] mixed ?_
         refine RdQ.v (i := 0) (Vop.mv rfl rfl rfl rfl) (List.nil_sublist _) rfl rfl rfl rfl (by repeat (first | exact List.Sublist.refl _ | exact List.nil_sublist _ | refine List.Sublist.cons_cons _ ?_ | refine List.Sublist.cons _ ?_)) ?_
         refine RdQ.v (i := 1) (Vop.mv rfl rfl rfl rfl) (List.nil_sublist _) rfl rfl rfl rfl (by repeat (first | exact List.Sublist.refl _ | exact List.nil_sublist _ | refine List.Sublist.cons_cons _ ?_ | refine List.Sublist.cons _ ?_)) ?_
         refine RdQ.u (i := 2) (Vop.mv rfl rfl rfl rfl) (List.nil_sublist _) rfl rfl rfl (by rw [cur_before rfl]; repeat (first | exact List.Sublist.refl _ | exact List.nil_sublist _ | refine List.Sublist.cons_cons _ ?_ | refine List.Sublist.cons _ ?_)) ?_
         refine RdQ.u (i := 3) (Vop.mv rfl rfl rfl rfl) (List.nil_sublist _) rfl rfl rfl (by rw [cur_before rfl]; repeat (first | exact List.Sublist.refl _ | exact List.nil_sublist _ | refine List.Sublist.cons_cons _ ?_ | refine List.Sublist.cons _ ?_)) ?_
         refine RdQ.v (i := 4) (Vop.ldB rfl rfl rfl rfl Tryd.isAgg25 3 rfl Tryd.sizeOf25 rfl) (List.nil_sublist _) rfl rfl rfl rfl (by repeat (first | exact List.Sublist.refl _ | exact List.nil_sublist _ | refine List.Sublist.cons_cons _ ?_ | refine List.Sublist.cons _ ?_)) ?_
         refine RdQ.v (i := 5) (Vop.ldB rfl rfl rfl rfl Tryd.isAgg50 0 rfl Tryd.sizeOf50 rfl) (List.nil_sublist _) rfl rfl rfl rfl (by repeat (first | exact List.Sublist.refl _ | exact List.nil_sublist _ | refine List.Sublist.cons_cons _ ?_ | refine List.Sublist.cons _ ?_)) ?_
         refine RdQ.v (i := 6) (Vop.mv rfl rfl rfl rfl) (List.nil_sublist _) rfl rfl rfl rfl (by repeat (first | exact List.Sublist.refl _ | exact List.nil_sublist _ | refine List.Sublist.cons_cons _ ?_ | refine List.Sublist.cons _ ?_)) ?_
         refine RdQ.v (i := 7) (Vop.fldP rfl rfl rfl rfl Tryd.underlying50 rfl (by exact Tryd.sizeOf3) 4 rfl) (List.nil_sublist _) rfl rfl rfl rfl (by repeat (first | exact List.Sublist.refl _ | exact List.nil_sublist _ | refine List.Sublist.cons_cons _ ?_ | refine List.Sublist.cons _ ?_)) ?_
         refine RdQ.v (i := 8) (Vop.ldo rfl rfl rfl rfl Tryd.isAgg3 0 rfl rfl) (List.nil_sublist _) rfl rfl rfl rfl (by repeat (first | exact List.Sublist.refl _ | exact List.nil_sublist _ | refine List.Sublist.cons_cons _ ?_ | refine List.Sublist.cons _ ?_)) ?_
         refine RdQ.v (i := 9) (Vop.idxS rfl rfl rfl rfl rfl Tryd.underlying22 Tryd.sizeOf37 (kx) ⟨hkx, hlsx⟩) (List.nil_sublist _) rfl rfl rfl rfl (by repeat (first | exact List.Sublist.refl _ | exact List.nil_sublist _ | refine List.Sublist.cons_cons _ ?_ | refine List.Sublist.cons _ ?_)) ?_
         refine RdQ.v (i := 10) (Vop.ldE U 0#64 rfl rfl rfl rfl Tryd.isAgg37 2 rfl hlsx) (List.nil_sublist _) rfl rfl rfl rfl (by repeat (first | exact List.Sublist.refl _ | exact List.nil_sublist _ | refine List.Sublist.cons_cons _ ?_ | refine List.Sublist.cons _ ?_)) ?_
         refine RdQ.v (i := 11) (Vop.mv rfl rfl rfl rfl) (List.nil_sublist _) rfl rfl rfl rfl (by repeat (first | exact List.Sublist.refl _ | exact List.nil_sublist _ | refine List.Sublist.cons_cons _ ?_ | refine List.Sublist.cons _ ?_)) ?_
         refine RdQ.v (i := 12) (Vop.fldP rfl rfl rfl rfl Tryd.underlying50 rfl (by exact Tryd.sizeOf3) 5 rfl) (List.nil_sublist _) rfl rfl rfl rfl (by repeat (first | exact List.Sublist.refl _ | exact List.nil_sublist _ | refine List.Sublist.cons_cons _ ?_ | refine List.Sublist.cons _ ?_)) ?_
         refine RdQ.v (i := 13) (Vop.ldo rfl rfl rfl rfl Tryd.isAgg3 0 rfl rfl) (List.nil_sublist _) rfl rfl rfl rfl (by repeat (first | exact List.Sublist.refl _ | exact List.nil_sublist _ | refine List.Sublist.cons_cons _ ?_ | refine List.Sublist.cons _ ?_)) ?_
         refine RdQ.v (i := 14) (Vop.idxS rfl rfl rfl rfl rfl Tryd.underlying22 Tryd.sizeOf37 (ky) ⟨hky, hlsy⟩) (List.nil_sublist _) rfl rfl rfl rfl (by repeat (first | exact List.Sublist.refl _ | exact List.nil_sublist _ | refine List.Sublist.cons_cons _ ?_ | refine List.Sublist.cons _ ?_)) ?_
         refine RdQ.v (i := 15) (Vop.ldE U 0#64 rfl rfl rfl rfl Tryd.isAgg37 2 rfl hlsy) (List.nil_sublist _) rfl rfl rfl rfl (by repeat (first | exact List.Sublist.refl _ | exact List.nil_sublist _ | refine List.Sublist.cons_cons _ ?_ | refine List.Sublist.cons _ ?_)) ?_
         refine RdQ.callP (i := 16) rfl rfl rfl rfl rfl rfl (fun _ _ => Tryd.call40 _ _) (fun w _ hS => (by exact pvalue_c m n f[k] _ _ w (hm.ex0 hS.ext) hv hn hop hF)) (by rw [cur_before rfl]; repeat (first | exact List.Sublist.refl _ | exact List.nil_sublist _ | refine List.Sublist.cons_cons _ ?_ | refine List.Sublist.cons _ ?_)) ?_
         refine RdQ.v (i := 17) (Vop.mv rfl rfl rfl rfl) (List.nil_sublist _) rfl rfl rfl rfl (by repeat (first | exact List.Sublist.refl _ | exact List.nil_sublist _ | refine List.Sublist.cons_cons _ ?_ | refine List.Sublist.cons _ ?_)) ?_
         refine RdQ.v (i := 18) (Vop.ext rfl rfl rfl rfl rfl) (List.nil_sublist _) rfl rfl rfl rfl (by repeat (first | exact List.Sublist.refl _ | exact List.nil_sublist _ | refine List.Sublist.cons_cons _ ?_ | refine List.Sublist.cons _ ?_)) ?_
         refine RdQ.u (i := 19) (Vop.ext rfl rfl rfl rfl rfl) (List.nil_sublist _) rfl rfl rfl (by rw [cur_before rfl]; repeat (first | exact List.Sublist.refl _ | exact List.nil_sublist _ | refine List.Sublist.cons_cons _ ?_ | refine List.Sublist.cons _ ?_)) ?_
         refine RdQ.v (i := 20) (Vop.idxS rfl rfl rfl rfl rfl Tryd.underlying22 Tryd.sizeOf37 (k) ⟨rfl, hlsk⟩) (List.nil_sublist _) rfl rfl rfl rfl (by repeat (first | exact List.Sublist.refl _ | exact List.nil_sublist _ | refine List.Sublist.cons_cons _ ?_ | refine List.Sublist.cons _ ?_)) ?_
         refine RdQ.stE (i := 21) U _ rfl rfl rfl rfl rfl Tryd.sizeOf37 rfl 2 rfl hlsk (by rw [cur_after rfl]; exact List.nil_sublist _) ?_
         refine RdQ.u (i := 22) (Vop.idxS rfl rfl rfl rfl rfl Tryd.underlying79 Tryd.sizeOf4 (k) ⟨rfl, hlfk⟩) (List.nil_sublist _) rfl rfl rfl (by rw [cur_after rfl]; exact List.nil_sublist _) ?_
         refine RdQ.stE (i := 23) Value.bool _ rfl rfl rfl rfl rfl Tryd.sizeOf4 rfl 1 rfl hlfk (by rw [cur_after rfl]; exact List.nil_sublist _) ?_
         refine RdQ.done rfl ?_
         refine gE (gIb (gR ?_))
         refine GoH.v (Vop.bin rfl rfl rfl rfl (bAdd (by omega)) rfl) ?_
         refine gMv ?_
         refine gE ?_
         refine IH (k + 1) _ _ hlt (by omega) ⟨rfl, rfl, by simp only [prt_len]; rfl, by simp only [prt_len]; rfl, rfl, rfl, rfl, trivial⟩ ?_
         rw [hst2, hst1, show finB m.rel.length m.val.length (treeAt f k) = PF k from by rw [hPF], show setV n m.val m.rel f k = PS k from by rw [hPS], prt_set hlt, prt_set hlt]
         exact .cons _ (List.Sublist.refl _)
        ·
         have hfy1 : PF ky = false := by rw [← (hsy hY).2]; exact hc
         have hno := fin_noY (A := m.rel.length) (B := m.val.length) hlt hO hY (by rw [ety]; rw [hPF] at hfy1; exact hfy1)
         refine gK (gIb (gR ?_))
         refine GoH.v (Vop.bin rfl rfl rfl rfl (bAdd (by omega)) rfl) ?_
         refine gMv ?_
         refine gE ?_
         refine IH (k + 1) _ _ hlt (by omega) ⟨rfl, rfl, by simp only [prt_len]; rfl, by simp only [prt_len]; rfl, rfl, rfl, rfl, trivial⟩ ?_
         rw [prt_skip (P := PS) (k := k) (d := 0#64) (by rw [hPS]; exact setV_no hno), prt_skip (P := PF) (k := k) (d := false) (by rw [hPF]; exact hno)]
         exact .cons _ (List.Sublist.refl _)
       ·
        have hfx1 : PF kx = false := by rw [← hfxv]; exact hc
        have hno := fin_noX (A := m.rel.length) (B := m.val.length) hlt hO hX (by rw [etx]; rw [hPF] at hfx1; exact hfx1)
        iterate 5 refine gNo ?_
        refine gPf ?_
        refine gAs ?_
        refine gE (gS (gR ?_))
        refine gMv ?_
        refine gE (GoH.condF rfl (gK (gIb (gR ?_))))
        refine GoH.v (Vop.bin rfl rfl rfl rfl (bAdd (by omega)) rfl) ?_
        refine gMv ?_
        refine gE ?_
        refine IH (k + 1) _ _ hlt (by omega) ⟨rfl, rfl, by simp only [prt_len]; rfl, by simp only [prt_len]; rfl, rfl, rfl, rfl, trivial⟩ ?_
        rw [prt_skip (P := PS) (k := k) (d := 0#64) (by rw [hPS]; exact setV_no hno), prt_skip (P := PF) (k := k) (d := false) (by rw [hPF]; exact hno)]
        exact .cons _ (List.Sublist.refl _)
      ·
       have h8 : ¬ f[k].op ≤ 8 := by simpa using hc
       refine gFp Tryd.underlying50 Tryd.sizeOf3 0 ?_
       refine gLo Tryd.isAgg3 0 ?_
       refine gBi bEq ?_
       refine gPf ?_
       refine gE ?_
       refine GoH.cond rfl (fun hc => ?_) (fun hc => ?_)
       ·
        have h13 : f[k].op = 13 := by simpa using hc
        have hY : usY f[k].op = true := by rw [h13]; rfl
        refine gR ?_
        iterate 2 refine gMv ?_
        refine GoH.cases (d := 53) rfl (fun hc => ?_) (fun hc => ?_)
        ·
         have hfx1 : PF kx = true := by rw [← hfxv]; exact hc
         refine gMv ?_
         refine gFp Tryd.underlying50 Tryd.sizeOf3 5 ?_
         refine gLo Tryd.isAgg3 0 ?_
         refine GoH.v (Vop.idxS rfl rfl rfl rfl rfl Tryd.underlying79 Tryd.sizeOf4 (ky) ⟨hky, hlfy⟩) ?_
         refine GoH.v (Vop.ldE Value.bool false rfl rfl rfl rfl Tryd.isAgg4 1 rfl hlfy) ?_
         refine gPt ?_
         refine gAs ?_
         refine gE (gS (gR ?_))
         refine gMv ?_
         refine gE ?_
         refine GoH.cond rfl (fun hc => ?_) (fun hc => ?_)
         ·
          have hfy1 : PF ky = true := by rw [← (hsy hY).2]; exact hc
          obtain ⟨hst1, hst2⟩ := set_step (n := n) (val := m.val) (rel := m.rel) (x := (prt f.length PS 0#64 k).getD kx 0#64) (y := (prt f.length PS 0#64 k).getD ky 0#64) hlt hO (fun hX => by rw [etx]; rw [hPF] at hfx1; exact hfx1) (fun hY h13 => by rw [ety]; rw [hPF] at hfy1; exact hfy1) (fun hX => by rw [(hsx hX).1, hPS, etx]) (fun hY => by rw [(hsy hY).1, hPS, ety])
          refine GoH.drawQ 25 21 [] mixed ?_
          refine RdQ.v (i := 0) (Vop.mv rfl rfl rfl rfl) (List.nil_sublist _) rfl rfl rfl rfl (by repeat (first | exact List.Sublist.refl _ | exact List.nil_sublist _ | refine List.Sublist.cons_cons _ ?_ | refine List.Sublist.cons _ ?_)) ?_
          refine RdQ.v (i := 1) (Vop.mv rfl rfl rfl rfl) (List.nil_sublist _) rfl rfl rfl rfl (by repeat (first | exact List.Sublist.refl _ | exact List.nil_sublist _ | refine List.Sublist.cons_cons _ ?_ | refine List.Sublist.cons _ ?_)) ?_
          refine RdQ.u (i := 2) (Vop.mv rfl rfl rfl rfl) (List.nil_sublist _) rfl rfl rfl (by rw [cur_before rfl]; repeat (first | exact List.Sublist.refl _ | exact List.nil_sublist _ | refine List.Sublist.cons_cons _ ?_ | refine List.Sublist.cons _ ?_)) ?_
          refine RdQ.u (i := 3) (Vop.mv rfl rfl rfl rfl) (List.nil_sublist _) rfl rfl rfl (by rw [cur_before rfl]; repeat (first | exact List.Sublist.refl _ | exact List.nil_sublist _ | refine List.Sublist.cons_cons _ ?_ | refine List.Sublist.cons _ ?_)) ?_
          refine RdQ.v (i := 4) (Vop.ldB rfl rfl rfl rfl Tryd.isAgg25 3 rfl Tryd.sizeOf25 rfl) (List.nil_sublist _) rfl rfl rfl rfl (by repeat (first | exact List.Sublist.refl _ | exact List.nil_sublist _ | refine List.Sublist.cons_cons _ ?_ | refine List.Sublist.cons _ ?_)) ?_
          refine RdQ.v (i := 5) (Vop.ldB rfl rfl rfl rfl Tryd.isAgg50 0 rfl Tryd.sizeOf50 rfl) (List.nil_sublist _) rfl rfl rfl rfl (by repeat (first | exact List.Sublist.refl _ | exact List.nil_sublist _ | refine List.Sublist.cons_cons _ ?_ | refine List.Sublist.cons _ ?_)) ?_
          refine RdQ.v (i := 6) (Vop.mv rfl rfl rfl rfl) (List.nil_sublist _) rfl rfl rfl rfl (by repeat (first | exact List.Sublist.refl _ | exact List.nil_sublist _ | refine List.Sublist.cons_cons _ ?_ | refine List.Sublist.cons _ ?_)) ?_
          refine RdQ.v (i := 7) (Vop.fldP rfl rfl rfl rfl Tryd.underlying50 rfl (by exact Tryd.sizeOf3) 4 rfl) (List.nil_sublist _) rfl rfl rfl rfl (by repeat (first | exact List.Sublist.refl _ | exact List.nil_sublist _ | refine List.Sublist.cons_cons _ ?_ | refine List.Sublist.cons _ ?_)) ?_
          refine RdQ.v (i := 8) (Vop.ldo rfl rfl rfl rfl Tryd.isAgg3 0 rfl rfl) (List.nil_sublist _) rfl rfl rfl rfl (by repeat (first | exact List.Sublist.refl _ | exact List.nil_sublist _ | refine List.Sublist.cons_cons _ ?_ | refine List.Sublist.cons _ ?_)) ?_
          refine RdQ.v (i := 9) (Vop.idxS rfl rfl rfl rfl rfl Tryd.underlying22 Tryd.sizeOf37 (kx) ⟨hkx, hlsx⟩) (List.nil_sublist _) rfl rfl rfl rfl (by repeat (first | exact List.Sublist.refl _ | exact List.nil_sublist _ | refine List.Sublist.cons_cons _ ?_ | refine List.Sublist.cons _ ?_)) ?_
          refine RdQ.v (i := 10) (Vop.ldE U 0#64 rfl rfl rfl rfl Tryd.isAgg37 2 rfl hlsx) (List.nil_sublist _) rfl rfl rfl rfl (by repeat (first | exact List.Sublist.refl _ | exact List.nil_sublist _ | refine List.Sublist.cons_cons _ ?_ | refine List.Sublist.cons _ ?_)) ?_
          refine RdQ.v (i := 11) (Vop.mv rfl rfl rfl rfl) (List.nil_sublist _) rfl rfl rfl rfl (by repeat (first | exact List.Sublist.refl _ | exact List.nil_sublist _ | refine List.Sublist.cons_cons _ ?_ | refine List.Sublist.cons _ ?_)) ?_
          refine RdQ.v (i := 12) (Vop.fldP rfl rfl rfl rfl Tryd.underlying50 rfl (by exact Tryd.sizeOf3) 5 rfl) (List.nil_sublist _) rfl rfl rfl rfl (by repeat (first | exact List.Sublist.refl _ | exact List.nil_sublist _ | refine List.Sublist.cons_cons _ ?_ | refine List.Sublist.cons _ ?_)) ?_
          refine RdQ.v (i := 13) (Vop.ldo rfl rfl rfl rfl Tryd.isAgg3 0 rfl rfl) (List.nil_sublist _) rfl rfl rfl rfl (by repeat (first | exact List.Sublist.refl _ | exact List.nil_sublist _ | refine List.Sublist.cons_cons _ ?_ | refine List.Sublist.cons _ ?_)) ?_
          refine RdQ.v (i := 14) (Vop.idxS rfl rfl rfl rfl rfl Tryd.underlying22 Tryd.sizeOf37 (ky) ⟨hky, hlsy⟩) (List.nil_sublist _) rfl rfl rfl rfl (by repeat (first | exact List.Sublist.refl _ | exact List.nil_sublist _ | refine List.Sublist.cons_cons _ ?_ | refine List.Sublist.cons _ ?_)) ?_
          refine RdQ.v (i := 15) (Vop.ldE U 0#64 rfl rfl rfl rfl Tryd.isAgg37 2 rfl hlsy) (List.nil_sublist _) rfl rfl rfl rfl (by repeat (first | exact List.Sublist.refl _ | exact List.nil_sublist _ | refine List.Sublist.cons_cons _ ?_ | refine List.Sublist.cons _ ?_)) ?_
          refine RdQ.callP (i := 16) rfl rfl rfl rfl rfl rfl (fun _ _ => Tryd.call40 _ _) (fun w _ hS => (by exact pvalue_c m n f[k] _ _ w (hm.ex0 hS.ext) hv hn hop hF)) (by rw [cur_before rfl]; repeat (first | exact List.Sublist.refl _ | exact List.nil_sublist _ | refine List.Sublist.cons_cons _ ?_ | refine List.Sublist.cons _ ?_)) ?_
          refine RdQ.v (i := 17) (Vop.mv rfl rfl rfl rfl) (List.nil_sublist _) rfl rfl rfl rfl (by repeat (first | exact List.Sublist.refl _ | exact List.nil_sublist _ | refine List.Sublist.cons_cons _ ?_ | refine List.Sublist.cons _ ?_)) ?_
          refine RdQ.v (i := 18) (Vop.ext rfl rfl rfl rfl rfl) (List.nil_sublist _) rfl rfl rfl rfl (by repeat (first | exact List.Sublist.refl _ | exact List.nil_sublist _ | refine List.Sublist.cons_cons _ ?_ | refine List.Sublist.cons _ ?_)) ?_
          refine RdQ.u (i := 19) (Vop.ext rfl rfl rfl rfl rfl) (List.nil_sublist _) rfl rfl rfl (by rw [cur_before rfl]; repeat (first | exact List.Sublist.refl _ | exact List.nil_sublist _ | refine List.Sublist.cons_cons _ ?_ | refine List.Sublist.cons _ ?_)) ?_
          refine RdQ.v (i := 20) (Vop.idxS rfl rfl rfl rfl rfl Tryd.underlying22 Tryd.sizeOf37 (k) ⟨rfl, hlsk⟩) (List.nil_sublist _) rfl rfl rfl rfl (by repeat (first | exact List.Sublist.refl _ | exact List.nil_sublist _ | refine List.Sublist.cons_cons _ ?_ | refine List.Sublist.cons _ ?_)) ?_
          refine RdQ.stE (i := 21) U _ rfl rfl rfl rfl rfl Tryd.sizeOf37 rfl 2 rfl hlsk (by rw [cur_after rfl]; exact List.nil_sublist _) ?_
          refine RdQ.u (i := 22) (Vop.idxS rfl rfl rfl rfl rfl Tryd.underlying79 Tryd.sizeOf4 (k) ⟨rfl, hlfk⟩) (List.nil_sublist _) rfl rfl rfl (by rw [cur_after rfl]; exact List.nil_sublist _) ?_
          refine RdQ.stE (i := 23) Value.bool _ rfl rfl rfl rfl rfl Tryd.sizeOf4 rfl 1 rfl hlfk (by rw [cur_after rfl]; exact List.nil_sublist _) ?_
          refine RdQ.done rfl ?_
          refine gE (gIb (gR ?_))
          refine GoH.v (Vop.bin rfl rfl rfl rfl (bAdd (by omega)) rfl) ?_
          refine gMv ?_
          refine gE ?_
          refine IH (k + 1) _ _ hlt (by omega) ⟨rfl, rfl, by simp only [prt_len]; rfl, by simp only [prt_len]; rfl, rfl, rfl, rfl, trivial⟩ ?_
          rw [hst2, hst1, show finB m.rel.length m.val.length (treeAt f k) = PF k from by rw [hPF], show setV n m.val m.rel f k = PS k from by rw [hPS], prt_set hlt, prt_set hlt]
          exact .cons _ (List.Sublist.refl _)
         ·
          have hfy1 : PF ky = false := by rw [← (hsy hY).2]; exact hc
          have hno := fin_noY (A := m.rel.length) (B := m.val.length) hlt hO hY (by rw [ety]; rw [hPF] at hfy1; exact hfy1)
          refine gK (gIb (gR ?_))
          refine GoH.v (Vop.bin rfl rfl rfl rfl (bAdd (by omega)) rfl) ?_
          refine gMv ?_
          refine gE ?_
          refine IH (k + 1) _ _ hlt (by omega) ⟨rfl, rfl, by simp only [prt_len]; rfl, by simp only [prt_len]; rfl, rfl, rfl, rfl, trivial⟩ ?_
          rw [prt_skip (P := PS) (k := k) (d := 0#64) (by rw [hPS]; exact setV_no hno), prt_skip (P := PF) (k := k) (d := false) (by rw [hPF]; exact hno)]
          exact .cons _ (List.Sublist.refl _)
        ·
         have hfx1 : PF kx = false := by rw [← hfxv]; exact hc
         have hno := fin_noX (A := m.rel.length) (B := m.val.length) hlt hO hX (by rw [etx]; rw [hPF] at hfx1; exact hfx1)
         iterate 5 refine gNo ?_
         refine gPf ?_
         refine gAs ?_
         refine gE (gS (gR ?_))
         refine gMv ?_
         refine gE (GoH.condF rfl (gK (gIb (gR ?_))))
         refine GoH.v (Vop.bin rfl rfl rfl rfl (bAdd (by omega)) rfl) ?_
         refine gMv ?_
         refine gE ?_
         refine IH (k + 1) _ _ hlt (by omega) ⟨rfl, rfl, by simp only [prt_len]; rfl, by simp only [prt_len]; rfl, rfl, rfl, rfl, trivial⟩ ?_
         rw [prt_skip (P := PS) (k := k) (d := 0#64) (by rw [hPS]; exact setV_no hno), prt_skip (P := PF) (k := k) (d := false) (by rw [hPF]; exact hno)]
         exact .cons _ (List.Sublist.refl _)
       ·
        have hn13 : ¬ f[k].op = 13 := by simpa using hc
        have noY : f[k].op ≤ 13 → ¬ usY f[k].op = true := fun h => by
          have : f[k].op = 9 ∨ f[k].op = 10 ∨ f[k].op = 11 ∨ f[k].op = 12 := by omega
          rcases this with h | h | h | h <;> rw [h] <;> decide
        refine gK (gS (gR ?_))
        refine gMv ?_
        refine gE ?_
        refine GoH.cond rfl (fun hc => ?_) (fun hc => ?_)
        ·
         have hfx1 : PF kx = true := by rw [← hfxv]; exact hc
         obtain ⟨hst1, hst2⟩ := set_step (n := n) (val := m.val) (rel := m.rel) (x := (prt f.length PS 0#64 k).getD kx 0#64) (y := (prt f.length PS 0#64 k).getD ky 0#64) hlt hO (fun hX => by rw [etx]; rw [hPF] at hfx1; exact hfx1) (fun hY h13 => by rw [ety]; exact absurd hY (noY h13)) (fun hX => by rw [(hsx hX).1, hPS, etx]) (fun hY => by rw [(hsy hY).1, hPS, ety])
         refine GoH.drawQ 25 21 [] mixed ?_
         refine RdQ.v (i := 0) (Vop.mv rfl rfl rfl rfl) (List.nil_sublist _) rfl rfl rfl rfl (by repeat (first | exact List.Sublist.refl _ | exact List.nil_sublist _ | refine List.Sublist.cons_cons _ ?_ | refine List.Sublist.cons _ ?_)) ?_
         refine RdQ.v (i := 1) (Vop.mv rfl rfl rfl rfl) (List.nil_sublist _) rfl rfl rfl rfl (by repeat (first | exact List.Sublist.refl _ | exact List.nil_sublist _ | refine List.Sublist.cons_cons _ ?_ | refine List.Sublist.cons _ ?_)) ?_
         refine RdQ.u (i := 2) (Vop.mv rfl rfl rfl rfl) (List.nil_sublist _) rfl rfl rfl (by rw [cur_before rfl]; repeat (first | exact List.Sublist.refl _ | exact List.nil_sublist _ | refine List.Sublist.cons_cons _ ?_ | refine List.Sublist.cons _ ?_)) ?_
         refine RdQ.u (i := 3) (Vop.mv rfl rfl rfl rfl) (List.nil_sublist _) rfl rfl rfl (by rw [cur_before rfl]; repeat (first | exact List.Sublist.refl _ | exact List.nil_sublist _ | refine List.Sublist.cons_cons _ ?_ | refine List.Sublist.cons _ ?_)) ?_
         refine RdQ.v (i := 4) (Vop.ldB rfl rfl rfl rfl Tryd.isAgg25 3 rfl Tryd.sizeOf25 rfl) (List.nil_sublist _) rfl rfl rfl rfl (by repeat (first | exact List.Sublist.refl _ | exact List.nil_sublist _ | refine List.Sublist.cons_cons _ ?_ | refine List.Sublist.cons _ ?_)) ?_
         refine RdQ.v (i := 5) (Vop.ldB rfl rfl rfl rfl Tryd.isAgg50 0 rfl Tryd.sizeOf50 rfl) (List.nil_sublist _) rfl rfl rfl rfl (by repeat (first | exact List.Sublist.refl _ | exact List.nil_sublist _ | refine List.Sublist.cons_cons _ ?_ | refine List.Sublist.cons _ ?_)) ?_
         refine RdQ.v (i := 6) (Vop.mv rfl rfl rfl rfl) (List.nil_sublist _) rfl rfl rfl rfl (by repeat (first | exact List.Sublist.refl _ | exact List.nil_sublist _ | refine List.Sublist.cons_cons _ ?_ | refine List.Sublist.cons _ ?_)) ?_
         refine RdQ.v (i := 7) (Vop.fldP rfl rfl rfl rfl Tryd.underlying50 rfl (by exact Tryd.sizeOf3) 4 rfl) (List.nil_sublist _) rfl rfl rfl rfl (by repeat (first | exact List.Sublist.refl _ | exact List.nil_sublist _ | refine List.Sublist.cons_cons _ ?_ | refine List.Sublist.cons _ ?_)) ?_
         refine RdQ.v (i := 8) (Vop.ldo rfl rfl rfl rfl Tryd.isAgg3 0 rfl rfl) (List.nil_sublist _) rfl rfl rfl rfl (by repeat (first | exact List.Sublist.refl _ | exact List.nil_sublist _ | refine List.Sublist.cons_cons _ ?_ | refine List.Sublist.cons _ ?_)) ?_
         refine RdQ.v (i := 9) (Vop.idxS rfl rfl rfl rfl rfl Tryd.underlying22 Tryd.sizeOf37 (kx) ⟨hkx, hlsx⟩) (List.nil_sublist _) rfl rfl rfl rfl (by repeat (first | exact List.Sublist.refl _ | exact List.nil_sublist _ | refine List.Sublist.cons_cons _ ?_ | refine List.Sublist.cons _ ?_)) ?_
         refine RdQ.v (i := 10) (Vop.ldE U 0#64 rfl rfl rfl rfl Tryd.isAgg37 2 rfl hlsx) (List.nil_sublist _) rfl rfl rfl rfl (by repeat (first | exact List.Sublist.refl _ | exact List.nil_sublist _ | refine List.Sublist.cons_cons _ ?_ | refine List.Sublist.cons _ ?_)) ?_
         refine RdQ.v (i := 11) (Vop.mv rfl rfl rfl rfl) (List.nil_sublist _) rfl rfl rfl rfl (by repeat (first | exact List.Sublist.refl _ | exact List.nil_sublist _ | refine List.Sublist.cons_cons _ ?_ | refine List.Sublist.cons _ ?_)) ?_
         refine RdQ.v (i := 12) (Vop.fldP rfl rfl rfl rfl Tryd.underlying50 rfl (by exact Tryd.sizeOf3) 5 rfl) (List.nil_sublist _) rfl rfl rfl rfl (by repeat (first | exact List.Sublist.refl _ | exact List.nil_sublist _ | refine List.Sublist.cons_cons _ ?_ | refine List.Sublist.cons _ ?_)) ?_
         refine RdQ.v (i := 13) (Vop.ldo rfl rfl rfl rfl Tryd.isAgg3 0 rfl rfl) (List.nil_sublist _) rfl rfl rfl rfl (by repeat (first | exact List.Sublist.refl _ | exact List.nil_sublist _ | refine List.Sublist.cons_cons _ ?_ | refine List.Sublist.cons _ ?_)) ?_
         refine RdQ.v (i := 14) (Vop.idxS rfl rfl rfl rfl rfl Tryd.underlying22 Tryd.sizeOf37 (ky) ⟨hky, hlsy⟩) (List.nil_sublist _) rfl rfl rfl rfl (by repeat (first | exact List.Sublist.refl _ | exact List.nil_sublist _ | refine List.Sublist.cons_cons _ ?_ | refine List.Sublist.cons _ ?_)) ?_
         refine RdQ.v (i := 15) (Vop.ldE U 0#64 rfl rfl rfl rfl Tryd.isAgg37 2 rfl hlsy) (List.nil_sublist _) rfl rfl rfl rfl (by repeat (first | exact List.Sublist.refl _ | exact List.nil_sublist _ | refine List.Sublist.cons_cons _ ?_ | refine List.Sublist.cons _ ?_)) ?_
         refine RdQ.callP (i := 16) rfl rfl rfl rfl rfl rfl (fun _ _ => Tryd.call40 _ _) (fun w _ hS => (by exact pvalue_c m n f[k] _ _ w (hm.ex0 hS.ext) hv hn hop hF)) (by rw [cur_before rfl]; repeat (first | exact List.Sublist.refl _ | exact List.nil_sublist _ | refine List.Sublist.cons_cons _ ?_ | refine List.Sublist.cons _ ?_)) ?_
         refine RdQ.v (i := 17) (Vop.mv rfl rfl rfl rfl) (List.nil_sublist _) rfl rfl rfl rfl (by repeat (first | exact List.Sublist.refl _ | exact List.nil_sublist _ | refine List.Sublist.cons_cons _ ?_ | refine List.Sublist.cons _ ?_)) ?_
         refine RdQ.v (i := 18) (Vop.ext rfl rfl rfl rfl rfl) (List.nil_sublist _) rfl rfl rfl rfl (by repeat (first | exact List.Sublist.refl _ | exact List.nil_sublist _ | refine List.Sublist.cons_cons _ ?_ | refine List.Sublist.cons _ ?_)) ?_
         refine RdQ.u (i := 19) (Vop.ext rfl rfl rfl rfl rfl) (List.nil_sublist _) rfl rfl rfl (by rw [cur_before rfl]; repeat (first | exact List.Sublist.refl _ | exact List.nil_sublist _ | refine List.Sublist.cons_cons _ ?_ | refine List.Sublist.cons _ ?_)) ?_
         refine RdQ.v (i := 20) (Vop.idxS rfl rfl rfl rfl rfl Tryd.underlying22 Tryd.sizeOf37 (k) ⟨rfl, hlsk⟩) (List.nil_sublist _) rfl rfl rfl rfl (by repeat (first | exact List.Sublist.refl _ | exact List.nil_sublist _ | refine List.Sublist.cons_cons _ ?_ | refine List.Sublist.cons _ ?_)) ?_
         refine RdQ.stE (i := 21) U _ rfl rfl rfl rfl rfl Tryd.sizeOf37 rfl 2 rfl hlsk (by rw [cur_after rfl]; exact List.nil_sublist _) ?_
         refine RdQ.u (i := 22) (Vop.idxS rfl rfl rfl rfl rfl Tryd.underlying79 Tryd.sizeOf4 (k) ⟨rfl, hlfk⟩) (List.nil_sublist _) rfl rfl rfl (by rw [cur_after rfl]; exact List.nil_sublist _) ?_
         refine RdQ.stE (i := 23) Value.bool _ rfl rfl rfl rfl rfl Tryd.sizeOf4 rfl 1 rfl hlfk (by rw [cur_after rfl]; exact List.nil_sublist _) ?_
         refine RdQ.done rfl ?_
         refine gE (gIb (gR ?_))
         refine GoH.v (Vop.bin rfl rfl rfl rfl (bAdd (by omega)) rfl) ?_
         refine gMv ?_
         refine gE ?_
         refine IH (k + 1) _ _ hlt (by omega) ⟨rfl, rfl, by simp only [prt_len]; rfl, by simp only [prt_len]; rfl, rfl, rfl, rfl, trivial⟩ ?_
         rw [hst2, hst1, show finB m.rel.length m.val.length (treeAt f k) = PF k from by rw [hPF], show setV n m.val m.rel f k = PS k from by rw [hPS], prt_set hlt, prt_set hlt]
         exact .cons _ (List.Sublist.refl _)
        ·
         have hfx1 : PF kx = false := by rw [← hfxv]; exact hc
         have hno := fin_noX (A := m.rel.length) (B := m.val.length) hlt hO hX (by rw [etx]; rw [hPF] at hfx1; exact hfx1)
         refine gK (gIb (gR ?_))
         refine GoH.v (Vop.bin rfl rfl rfl rfl (bAdd (by omega)) rfl) ?_
         refine gMv ?_
         refine gE ?_
         refine IH (k + 1) _ _ hlt (by omega) ⟨rfl, rfl, by simp only [prt_len]; rfl, by simp only [prt_len]; rfl, rfl, rfl, rfl, trivial⟩ ?_
         rw [prt_skip (P := PS) (k := k) (d := 0#64) (by rw [hPS]; exact setV_no hno), prt_skip (P := PF) (k := k) (d := false) (by rw [hPF]; exact hno)]
         exact .cons _ (List.Sublist.refl _)
     ·
      have h5 : ¬ 5 ≤ f[k].op := by simpa using hc
      iterate 3 refine gNo ?_
      refine gPf ?_
      refine gMv ?_
      refine gFp Tryd.underlying50 Tryd.sizeOf3 0 ?_
      refine gLo Tryd.isAgg3 0 ?_
      refine GoH.v (Vop.bin rfl rfl rfl rfl (bEqV (v := false) (by rw [beq_eq_false_iff_ne]; show f[k].op ≠ 13; omega)) rfl) ?_
      have noY : f[k].op ≤ 13 → ¬ usY f[k].op = true := fun h => by
        have : f[k].op = 4 := by omega
        rw [this]; decide
      refine gPf ?_
      refine gE (GoH.condF rfl (gK (gS (gR ?_))))
      refine gMv ?_
      refine gE ?_
      refine GoH.cond rfl (fun hc => ?_) (fun hc => ?_)
      ·
       have hfx1 : PF kx = true := by rw [← hfxv]; exact hc
       obtain ⟨hst1, hst2⟩ := set_step (n := n) (val := m.val) (rel := m.rel) (x := (prt f.length PS 0#64 k).getD kx 0#64) (y := (prt f.length PS 0#64 k).getD ky 0#64) hlt hO (fun hX => by rw [etx]; rw [hPF] at hfx1; exact hfx1) (fun hY h13 => by rw [ety]; exact absurd hY (noY h13)) (fun hX => by rw [(hsx hX).1, hPS, etx]) (fun hY => by rw [(hsy hY).1, hPS, ety])
       refine GoH.drawQ 25 21 [] mixed ?_
       refine RdQ.v (i := 0) (Vop.mv rfl rfl rfl rfl) (List.nil_sublist _) rfl rfl rfl rfl (by repeat (first | exact List.Sublist.refl _ | exact List.nil_sublist _ | refine List.Sublist.cons_cons _ ?_ | refine List.Sublist.cons _ ?_)) ?_
       refine RdQ.v (i := 1) (Vop.mv rfl rfl rfl rfl) (List.nil_sublist _) rfl rfl rfl rfl (by repeat (first | exact List.Sublist.refl _ | exact List.nil_sublist _ | refine List.Sublist.cons_cons _ ?_ | refine List.Sublist.cons _ ?_)) ?_
       refine RdQ.u (i := 2) (Vop.mv rfl rfl rfl rfl) (List.nil_sublist _) rfl rfl rfl (by rw [cur_before rfl]; repeat (first | exact List.Sublist.refl _ | exact List.nil_sublist _ | refine List.Sublist.cons_cons _ ?_ | refine List.Sublist.cons _ ?_)) ?_
       refine RdQ.u (i := 3) (Vop.mv rfl rfl rfl rfl) (List.nil_sublist _) rfl rfl rfl (by rw [cur_before rfl]; repeat (first | exact List.Sublist.refl _ | exact List.nil_sublist _ | refine List.Sublist.cons_cons _ ?_ | refine List.Sublist.cons _ ?_)) ?_
       refine RdQ.v (i := 4) (Vop.ldB rfl rfl rfl rfl Tryd.isAgg25 3 rfl Tryd.sizeOf25 rfl) (List.nil_sublist _) rfl rfl rfl rfl (by repeat (first | exact List.Sublist.refl _ | exact List.nil_sublist _ | refine List.Sublist.cons_cons _ ?_ | refine List.Sublist.cons _ ?_)) ?_
       refine RdQ.v (i := 5) (Vop.ldB rfl rfl rfl rfl Tryd.isAgg50 0 rfl Tryd.sizeOf50 rfl) (List.nil_sublist _) rfl rfl rfl rfl (by repeat (first | exact List.Sublist.refl _ | exact List.nil_sublist _ | refine List.Sublist.cons_cons _ ?_ | refine List.Sublist.cons _ ?_)) ?_
       refine RdQ.v (i := 6) (Vop.mv rfl rfl rfl rfl) (List.nil_sublist _) rfl rfl rfl rfl (by repeat (first | exact List.Sublist.refl _ | exact List.nil_sublist _ | refine List.Sublist.cons_cons _ ?_ | refine List.Sublist.cons _ ?_)) ?_
       refine RdQ.v (i := 7) (Vop.fldP rfl rfl rfl rfl Tryd.underlying50 rfl (by exact Tryd.sizeOf3) 4 rfl) (List.nil_sublist _) rfl rfl rfl rfl (by repeat (first | exact List.Sublist.refl _ | exact List.nil_sublist _ | refine List.Sublist.cons_cons _ ?_ | refine List.Sublist.cons _ ?_)) ?_
       refine RdQ.v (i := 8) (Vop.ldo rfl rfl rfl rfl Tryd.isAgg3 0 rfl rfl) (List.nil_sublist _) rfl rfl rfl rfl (by repeat (first | exact List.Sublist.refl _ | exact List.nil_sublist _ | refine List.Sublist.cons_cons _ ?_ | refine List.Sublist.cons _ ?_)) ?_
       refine RdQ.v (i := 9) (Vop.idxS rfl rfl rfl rfl rfl Tryd.underlying22 Tryd.sizeOf37 (kx) ⟨hkx, hlsx⟩) (List.nil_sublist _) rfl rfl rfl rfl (by repeat (first | exact List.Sublist.refl _ | exact List.nil_sublist _ | refine List.Sublist.cons_cons _ ?_ | refine List.Sublist.cons _ ?_)) ?_
       refine RdQ.v (i := 10) (Vop.ldE U 0#64 rfl rfl rfl rfl Tryd.isAgg37 2 rfl hlsx) (List.nil_sublist _) rfl rfl rfl rfl (by repeat (first | exact List.Sublist.refl _ | exact List.nil_sublist _ | refine List.Sublist.cons_cons _ ?_ | refine List.Sublist.cons _ ?_)) ?_
       refine RdQ.v (i := 11) (Vop.mv rfl rfl rfl rfl) (List.nil_sublist _) rfl rfl rfl rfl (by repeat (first | exact List.Sublist.refl _ | exact List.nil_sublist _ | refine List.Sublist.cons_cons _ ?_ | refine List.Sublist.cons _ ?_)) ?_
       refine RdQ.v (i := 12) (Vop.fldP rfl rfl rfl rfl Tryd.underlying50 rfl (by exact Tryd.sizeOf3) 5 rfl) (List.nil_sublist _) rfl rfl rfl rfl (by repeat (first | exact List.Sublist.refl _ | exact List.nil_sublist _ | refine List.Sublist.cons_cons _ ?_ | refine List.Sublist.cons _ ?_)) ?_
       refine RdQ.v (i := 13) (Vop.ldo rfl rfl rfl rfl Tryd.isAgg3 0 rfl rfl) (List.nil_sublist _) rfl rfl rfl rfl (by repeat (first | exact List.Sublist.refl _ | exact List.nil_sublist _ | refine List.Sublist.cons_cons _ ?_ | refine List.Sublist.cons _ ?_)) ?_
       refine RdQ.v (i := 14) (Vop.idxS rfl rfl rfl rfl rfl Tryd.underlying22 Tryd.sizeOf37 (ky) ⟨hky, hlsy⟩) (List.nil_sublist _) rfl rfl rfl rfl (by repeat (first | exact List.Sublist.refl _ | exact List.nil_sublist _ | refine List.Sublist.cons_cons _ ?_ | refine List.Sublist.cons _ ?_)) ?_
       refine RdQ.v (i := 15) (Vop.ldE U 0#64 rfl rfl rfl rfl Tryd.isAgg37 2 rfl hlsy) (List.nil_sublist _) rfl rfl rfl rfl (by repeat (first | exact List.Sublist.refl _ | exact List.nil_sublist _ | refine List.Sublist.cons_cons _ ?_ | refine List.Sublist.cons _ ?_)) ?_
       refine RdQ.callP (i := 16) rfl rfl rfl rfl rfl rfl (fun _ _ => Tryd.call40 _ _) (fun w _ hS => (by exact pvalue_c m n f[k] _ _ w (hm.ex0 hS.ext) hv hn hop hF)) (by rw [cur_before rfl]; repeat (first | exact List.Sublist.refl _ | exact List.nil_sublist _ | refine List.Sublist.cons_cons _ ?_ | refine List.Sublist.cons _ ?_)) ?_
       refine RdQ.v (i := 17) (Vop.mv rfl rfl rfl rfl) (List.nil_sublist _) rfl rfl rfl rfl (by repeat (first | exact List.Sublist.refl _ | exact List.nil_sublist _ | refine List.Sublist.cons_cons _ ?_ | refine List.Sublist.cons _ ?_)) ?_
       refine RdQ.v (i := 18) (Vop.ext rfl rfl rfl rfl rfl) (List.nil_sublist _) rfl rfl rfl rfl (by repeat (first | exact List.Sublist.refl _ | exact List.nil_sublist _ | refine List.Sublist.cons_cons _ ?_ | refine List.Sublist.cons _ ?_)) ?_
       refine RdQ.u (i := 19) (Vop.ext rfl rfl rfl rfl rfl) (List.nil_sublist _) rfl rfl rfl (by rw [cur_before rfl]; repeat (first | exact List.Sublist.refl _ | exact List.nil_sublist _ | refine List.Sublist.cons_cons _ ?_ | refine List.Sublist.cons _ ?_)) ?_
       refine RdQ.v (i := 20) (Vop.idxS rfl rfl rfl rfl rfl Tryd.underlying22 Tryd.sizeOf37 (k) ⟨rfl, hlsk⟩) (List.nil_sublist _) rfl rfl rfl rfl (by repeat (first | exact List.Sublist.refl _ | exact List.nil_sublist _ | refine List.Sublist.cons_cons _ ?_ | refine List.Sublist.cons _ ?_)) ?_
       refine RdQ.stE (i := 21) U _ rfl rfl rfl rfl rfl Tryd.sizeOf37 rfl 2 rfl hlsk (by rw [cur_after rfl]; exact List.nil_sublist _) ?_
       refine RdQ.u (i := 22) (Vop.idxS rfl rfl rfl rfl rfl Tryd.underlying79 Tryd.sizeOf4 (k) ⟨rfl, hlfk⟩) (List.nil_sublist _) rfl rfl rfl (by rw [cur_after rfl]; exact List.nil_sublist _) ?_
       refine RdQ.stE (i := 23) Value.bool _ rfl rfl rfl rfl rfl Tryd.sizeOf4 rfl 1 rfl hlfk (by rw [cur_after rfl]; exact List.nil_sublist _) ?_
       refine RdQ.done rfl ?_
       refine gE (gIb (gR ?_))
       refine GoH.v (Vop.bin rfl rfl rfl rfl (bAdd (by omega)) rfl) ?_
       refine gMv ?_
       refine gE ?_
       refine IH (k + 1) _ _ hlt (by omega) ⟨rfl, rfl, by simp only [prt_len]; rfl, by simp only [prt_len]; rfl, rfl, rfl, rfl, trivial⟩ ?_
       rw [hst2, hst1, show finB m.rel.length m.val.length (treeAt f k) = PF k from by rw [hPF], show setV n m.val m.rel f k = PS k from by rw [hPS], prt_set hlt, prt_set hlt]
       exact .cons _ (List.Sublist.refl _)
      ·
       have hfx1 : PF kx = false := by rw [← hfxv]; exact hc
       have hno := fin_noX (A := m.rel.length) (B := m.val.length) hlt hO hX (by rw [etx]; rw [hPF] at hfx1; exact hfx1)
       refine gK (gIb (gR ?_))
       refine GoH.v (Vop.bin rfl rfl rfl rfl (bAdd (by omega)) rfl) ?_
       refine gMv ?_
       refine gE ?_
       refine IH (k + 1) _ _ hlt (by omega) ⟨rfl, rfl, by simp only [prt_len]; rfl, by simp only [prt_len]; rfl, rfl, rfl, rfl, trivial⟩ ?_
       rw [prt_skip (P := PS) (k := k) (d := 0#64) (by rw [hPS]; exact setV_no hno), prt_skip (P := PF) (k := k) (d := false) (by rw [hPF]; exact hno)]
       exact .cons _ (List.Sublist.refl _)
    ·
     have h4 : ¬ 4 ≤ f[k].op := by simpa using hc
     have noX : ¬ usX f[k].op = true := by rw [hXi]; simpa using h4
     refine gK (gS (gS (gR ?_)))
     refine gFp Tryd.underlying50 Tryd.sizeOf3 0 ?_
     refine gLo Tryd.isAgg3 0 ?_
     refine GoH.v (Vop.bin rfl rfl rfl rfl (bGeV (v := false) (decide_eq_false (by show ¬ f[k].op ≥ 5; omega))) rfl) ?_
     refine gMv ?_
     iterate 3 refine gNo ?_
     refine gPf ?_
     refine gMv ?_
     refine gFp Tryd.underlying50 Tryd.sizeOf3 0 ?_
     refine gLo Tryd.isAgg3 0 ?_
     refine GoH.v (Vop.bin rfl rfl rfl rfl (bEqV (v := false) (by rw [beq_eq_false_iff_ne]; show f[k].op ≠ 13; omega)) rfl) ?_
     obtain ⟨hst1, hst2⟩ := set_step (n := n) (val := m.val) (rel := m.rel) (x := (prt f.length PS 0#64 k).getD kx 0#64) (y := (prt f.length PS 0#64 k).getD ky 0#64) hlt hO (fun hX => by rw [etx]; exact absurd hX noX) (fun hY h13 => by rw [ety]; exact absurd (usY_X hY) noX) (fun hX => by rw [(hsx hX).1, hPS, etx]) (fun hY => by rw [(hsy hY).1, hPS, ety])
     refine gPf ?_
     refine gE (GoH.condF rfl (gK (gS (gR ?_))))
     refine gMv ?_
     refine gE (GoH.condT rfl ?_)
     refine GoH.drawQ 25 21 [] mixed ?_
     refine RdQ.v (i := 0) (Vop.mv rfl rfl rfl rfl) (List.nil_sublist _) rfl rfl rfl rfl (by repeat (first | exact List.Sublist.refl _ | exact List.nil_sublist _ | refine List.Sublist.cons_cons _ ?_ | refine List.Sublist.cons _ ?_)) ?_
     refine RdQ.v (i := 1) (Vop.mv rfl rfl rfl rfl) (List.nil_sublist _) rfl rfl rfl rfl (by repeat (first | exact List.Sublist.refl _ | exact List.nil_sublist _ | refine List.Sublist.cons_cons _ ?_ | refine List.Sublist.cons _ ?_)) ?_
     refine RdQ.u (i := 2) (Vop.mv rfl rfl rfl rfl) (List.nil_sublist _) rfl rfl rfl (by rw [cur_before rfl]; repeat (first | exact List.Sublist.refl _ | exact List.nil_sublist _ | refine List.Sublist.cons_cons _ ?_ | refine List.Sublist.cons _ ?_)) ?_
     refine RdQ.u (i := 3) (Vop.mv rfl rfl rfl rfl) (List.nil_sublist _) rfl rfl rfl (by rw [cur_before rfl]; repeat (first | exact List.Sublist.refl _ | exact List.nil_sublist _ | refine List.Sublist.cons_cons _ ?_ | refine List.Sublist.cons _ ?_)) ?_
     refine RdQ.v (i := 4) (Vop.ldB rfl rfl rfl rfl Tryd.isAgg25 3 rfl Tryd.sizeOf25 rfl) (List.nil_sublist _) rfl rfl rfl rfl (by repeat (first | exact List.Sublist.refl _ | exact List.nil_sublist _ | refine List.Sublist.cons_cons _ ?_ | refine List.Sublist.cons _ ?_)) ?_
     refine RdQ.v (i := 5) (Vop.ldB rfl rfl rfl rfl Tryd.isAgg50 0 rfl Tryd.sizeOf50 rfl) (List.nil_sublist _) rfl rfl rfl rfl (by repeat (first | exact List.Sublist.refl _ | exact List.nil_sublist _ | refine List.Sublist.cons_cons _ ?_ | refine List.Sublist.cons _ ?_)) ?_
     refine RdQ.v (i := 6) (Vop.mv rfl rfl rfl rfl) (List.nil_sublist _) rfl rfl rfl rfl (by repeat (first | exact List.Sublist.refl _ | exact List.nil_sublist _ | refine List.Sublist.cons_cons _ ?_ | refine List.Sublist.cons _ ?_)) ?_
     refine RdQ.v (i := 7) (Vop.fldP rfl rfl rfl rfl Tryd.underlying50 rfl (by exact Tryd.sizeOf3) 4 rfl) (List.nil_sublist _) rfl rfl rfl rfl (by repeat (first | exact List.Sublist.refl _ | exact List.nil_sublist _ | refine List.Sublist.cons_cons _ ?_ | refine List.Sublist.cons _ ?_)) ?_
     refine RdQ.v (i := 8) (Vop.ldo rfl rfl rfl rfl Tryd.isAgg3 0 rfl rfl) (List.nil_sublist _) rfl rfl rfl rfl (by repeat (first | exact List.Sublist.refl _ | exact List.nil_sublist _ | refine List.Sublist.cons_cons _ ?_ | refine List.Sublist.cons _ ?_)) ?_
     refine RdQ.v (i := 9) (Vop.idxS rfl rfl rfl rfl rfl Tryd.underlying22 Tryd.sizeOf37 (kx) ⟨hkx, hlsx⟩) (List.nil_sublist _) rfl rfl rfl rfl (by repeat (first | exact List.Sublist.refl _ | exact List.nil_sublist _ | refine List.Sublist.cons_cons _ ?_ | refine List.Sublist.cons _ ?_)) ?_
     refine RdQ.v (i := 10) (Vop.ldE U 0#64 rfl rfl rfl rfl Tryd.isAgg37 2 rfl hlsx) (List.nil_sublist _) rfl rfl rfl rfl (by repeat (first | exact List.Sublist.refl _ | exact List.nil_sublist _ | refine List.Sublist.cons_cons _ ?_ | refine List.Sublist.cons _ ?_)) ?_
     refine RdQ.v (i := 11) (Vop.mv rfl rfl rfl rfl) (List.nil_sublist _) rfl rfl rfl rfl (by repeat (first | exact List.Sublist.refl _ | exact List.nil_sublist _ | refine List.Sublist.cons_cons _ ?_ | refine List.Sublist.cons _ ?_)) ?_
     refine RdQ.v (i := 12) (Vop.fldP rfl rfl rfl rfl Tryd.underlying50 rfl (by exact Tryd.sizeOf3) 5 rfl) (List.nil_sublist _) rfl rfl rfl rfl (by repeat (first | exact List.Sublist.refl _ | exact List.nil_sublist _ | refine List.Sublist.cons_cons _ ?_ | refine List.Sublist.cons _ ?_)) ?_
     refine RdQ.v (i := 13) (Vop.ldo rfl rfl rfl rfl Tryd.isAgg3 0 rfl rfl) (List.nil_sublist _) rfl rfl rfl rfl (by repeat (first | exact List.Sublist.refl _ | exact List.nil_sublist _ | refine List.Sublist.cons_cons _ ?_ | refine List.Sublist.cons _ ?_)) ?_
     refine RdQ.v (i := 14) (Vop.idxS rfl rfl rfl rfl rfl Tryd.underlying22 Tryd.sizeOf37 (ky) ⟨hky, hlsy⟩) (List.nil_sublist _) rfl rfl rfl rfl (by repeat (first | exact List.Sublist.refl _ | exact List.nil_sublist _ | refine List.Sublist.cons_cons _ ?_ | refine List.Sublist.cons _ ?_)) ?_
     refine RdQ.v (i := 15) (Vop.ldE U 0#64 rfl rfl rfl rfl Tryd.isAgg37 2 rfl hlsy) (List.nil_sublist _) rfl rfl rfl rfl (by repeat (first | exact List.Sublist.refl _ | exact List.nil_sublist _ | refine List.Sublist.cons_cons _ ?_ | refine List.Sublist.cons _ ?_)) ?_
     refine RdQ.callP (i := 16) rfl rfl rfl rfl rfl rfl (fun _ _ => Tryd.call40 _ _) (fun w _ hS => (by exact pvalue_c m n f[k] _ _ w (hm.ex0 hS.ext) hv hn hop hF)) (by rw [cur_before rfl]; repeat (first | exact List.Sublist.refl _ | exact List.nil_sublist _ | refine List.Sublist.cons_cons _ ?_ | refine List.Sublist.cons _ ?_)) ?_
     refine RdQ.v (i := 17) (Vop.mv rfl rfl rfl rfl) (List.nil_sublist _) rfl rfl rfl rfl (by repeat (first | exact List.Sublist.refl _ | exact List.nil_sublist _ | refine List.Sublist.cons_cons _ ?_ | refine List.Sublist.cons _ ?_)) ?_
     refine RdQ.v (i := 18) (Vop.ext rfl rfl rfl rfl rfl) (List.nil_sublist _) rfl rfl rfl rfl (by repeat (first | exact List.Sublist.refl _ | exact List.nil_sublist _ | refine List.Sublist.cons_cons _ ?_ | refine List.Sublist.cons _ ?_)) ?_
     refine RdQ.u (i := 19) (Vop.ext rfl rfl rfl rfl rfl) (List.nil_sublist _) rfl rfl rfl (by rw [cur_before rfl]; repeat (first | exact List.Sublist.refl _ | exact List.nil_sublist _ | refine List.Sublist.cons_cons _ ?_ | refine List.Sublist.cons _ ?_)) ?_
     refine RdQ.v (i := 20) (Vop.idxS rfl rfl rfl rfl rfl Tryd.underlying22 Tryd.sizeOf37 (k) ⟨rfl, hlsk⟩) (List.nil_sublist _) rfl rfl rfl rfl (by repeat (first | exact List.Sublist.refl _ | exact List.nil_sublist _ | refine List.Sublist.cons_cons _ ?_ | refine List.Sublist.cons _ ?_)) ?_
     refine RdQ.stE (i := 21) U _ rfl rfl rfl rfl rfl Tryd.sizeOf37 rfl 2 rfl hlsk (by rw [cur_after rfl]; exact List.nil_sublist _) ?_
     refine RdQ.u (i := 22) (Vop.idxS rfl rfl rfl rfl rfl Tryd.underlying79 Tryd.sizeOf4 (k) ⟨rfl, hlfk⟩) (List.nil_sublist _) rfl rfl rfl (by rw [cur_after rfl]; exact List.nil_sublist _) ?_
     refine RdQ.stE (i := 23) Value.bool _ rfl rfl rfl rfl rfl Tryd.sizeOf4 rfl 1 rfl hlfk (by rw [cur_after rfl]; exact List.nil_sublist _) ?_
     refine RdQ.done rfl ?_
     refine gE (gIb (gR ?_))
     refine GoH.v (Vop.bin rfl rfl rfl rfl (bAdd (by omega)) rfl) ?_
     refine gMv ?_
     refine gE ?_
     refine IH (k + 1) _ _ hlt (by omega) ⟨rfl, rfl, by simp only [prt_len]; rfl, by simp only [prt_len]; rfl, rfl, rfl, rfl, trivial⟩ ?_
     rw [hst2, hst1, show finB m.rel.length m.val.length (treeAt f k) = PF k from by rw [hPF], show setV n m.val m.rel f k = PS k from by rw [hPS], prt_set hlt, prt_set hlt]
     exact .cons _ (List.Sublist.refl _)
   ·
    have hge : ¬ k < f.length := by simpa using hc
    obtain rfl : k = f.length := by omega
    refine GoH.exit rfl (gS (gR ?_))
    refine gMv ?_
    iterate 2 refine gAs ?_
    refine gE ?_
    refine GoH.ret Tryd.f23 Tryd.func23 rfl (fun w' hS => ?_)
    refine ⟨hS.ext, _, by rw [h0]; rfl, ?_⟩
    rw [if_pos h0, show setsP n m.val m.rel f = prt f.length PS 0#64 f.length from by rw [prt_all, hPS]; rfl]
    exact ⟨some b20, f.length, [], by rw [prt_len]; rfl, (fun e => by cases e), by simp [prt_len], fun b' hb => by cases hb; exact ⟨hS.fresh (j := 1) rfl, hS.get (j := 1) rfl⟩⟩
end Go.Proofs.YthojdcaojjmoaaaDoor
