/- What calls of the program return, under the conditions that each theorem states. -/
import Derived.Test.YthojdcaojjmoaaaGreatDoorB29
import Derived.Test.YthojdcaojjmoaaaGreatDoorB33
import Derived.Test.YthojdcaojjmoaaaGreatDoorB34
import Derived.Test.YthojdcaojjmoaaaGreatDoorB27
import Derived.Test.YthojdcaojjmoaaaGreatDoorB04
import Derived.Test.YthojdcaojjmoaaaGreatDoorB31
import Derived.Test.YthojdcaojjmoaaaGreatDoorB32
import Derived.Test.YthojdcaojjmoaaaGreatDoorB24
namespace Go.Proofs.YthojdcaojjmoaaaGreatDoor
open Go.RowKit Go.Proofs.Wit
/-- the worlds in which a formula holds, or none -/
def holdS (m : MV) (n : Nat) (f : List NV) : W64 := if holdE m.n m.val m.rel f = 0 then semT n m.val m.rel (topT f) else 0#64
end Go.Proofs.YthojdcaojjmoaaaGreatDoor
namespace Go.Proofs.YthojdcaojjmoaaaGreatDoor
open Go.RowKit Go.Proofs.Wit
/-! the program's checker: sets, holds, at -/
theorem infoBo : (Tryz.prog.info? 4).map (fun i => (i.zero, i.size, i.bytes)) = some (some (Value.bool false), 1, 1) := by kernel_rfl
set_option maxRecDepth 8000 in
theorem psets_c (m : MV) (n : Nat) (a : Option Addr) (ca : Nat) (f : List NV) (w : World) (hm : m.At w) (hn : m.n = (n : Int)) (ha : FA w a f) (hl : f.length ≤ maxLen) :
    Cn Tryz.prog 26 [m.v, .slice a f.length ca] w (fun v w' => ∃ sv, v = .tuple #[sv, .int .i64 (holdE m.n m.val m.rel f)] ∧ Own w w' sv (if holdE m.n m.val m.rel f = 0 then setsP n m.val m.rel f else [])) := by
  obtain ⟨i1, hi1, hz1, hsz1, hby1⟩ := info_parts infoU
  obtain ⟨i2, hi2, hz2, hsz2, hby2⟩ := info_parts infoBo
  refine Cn.of Tryz.func26 rfl rfl ?_
  refine gS (gR ?_)
  refine GoH.bx rfl rfl rfl rfl (fun b2 => ?_)
  iterate 2 refine gAs ?_
  refine gE (gS (gS (gR ?_)))
  refine GoH.v (Vop.ldB rfl rfl rfl rfl Tryz.isAgg25 0 rfl Tryz.sizeOf25 rfl) ?_
  refine gMv ?_
  refine GoH.callP rfl rfl rfl rfl rfl (fun _ _ => Tryz.call42 _ _) (fun w _ hS => (by exact request_c m a ca f w (hm.ex0 hS.ext) (ha.ex0 hS.ext) hl)) ?_
  refine gAs ?_
  refine gE (gS (gR ?_))
  refine gMv ?_
  refine gBi bNe ?_
  refine gE ?_
  refine GoH.cond rfl (fun hc => ?_) (fun hc => ?_)
  ·
   have h0 : holdE m.n m.val m.rel f ≠ 0 := by simpa using hc
   refine gS (gR ?_)
   refine gMv ?_
   iterate 2 refine gAs ?_
   refine gE ?_
   refine GoH.ret Tryz.f26 Tryz.func26 rfl (fun w' hS => ?_)
   exact ⟨hS.ext, _, rfl, by rw [if_neg h0]; exact OwnS.nil0⟩
  ·
   have h0 : holdE m.n m.val m.rel f = 0 := by simpa using hc
   obtain ⟨hv, hck, hstat⟩ := holdE_zero.1 h0
   have hO : NodesOk f := fun i hi => nodeE_zero.1 ((chkF_zero.1 hck).node i hi)
   have hpos := (chkF_zero.1 hck).pos
   have hlen := (chkF_zero.1 hck).len
   obtain ⟨L, hL⟩ : ∃ L, L = f.length := ⟨_, rfl⟩
   refine gK (gS (gR ?_))
   refine gMv ?_
   refine gBl Tryz.underlying26 ?_
   refine GoH.mkE U 0#64 rfl rfl rfl rfl rfl Tryz.underlying22 hi1 hz1 rfl hsz1 (by rw [hby1]; omega) hl (fun b20 => ?_)
   refine gAs ?_
   refine gE (gS (gR ?_))
   refine gMv ?_
   refine gBl Tryz.underlying26 ?_
   refine GoH.mkE Value.bool false rfl rfl rfl rfl rfl Tryz.underlying76 hi2 hz2 rfl hsz2 (by rw [hby2]; omega) hl (fun b23 => ?_)
   refine gAs ?_
   refine gE (gS (gS (gR ?_)))
   refine gMv ?_
   refine gBl Tryz.underlying26 ?_
   refine gMv ?_
   refine gE (gB ?_)
   obtain ⟨PS, hPS⟩ : ∃ PS, PS = setV n m.val m.rel f := ⟨_, rfl⟩
   obtain ⟨PF, hPF⟩ : ∃ PF : Nat → Bool, PF = fun k => finB m.rel.length m.val.length (treeAt f k) := ⟨_, rfl⟩
   refine GoH.loop (σ := Nat) (fun k => [(1, .slice a f.length ca), (2, .pointer (some ⟨b2, 0, none⟩)), (7, .slice (some ⟨b20, 0, none⟩) (prt f.length PS 0#64 k).length f.length), (8, .slice (some ⟨b23, 0, none⟩) (prt f.length PF false k).length f.length), (24, .slice a f.length ca), (25, .int .i64 f.length), (26, .int .i64 k)])
     (fun k => [(some b23, ob Value.bool 4 (prt f.length PF false k) []), (some b20, ob U 33 (prt f.length PS 0#64 k) []), (some b2, .cells m.v.cells 25 (0, 0))]) (fun k => k ≤ f.length) (fun k => f.length - k) 0 (Nat.zero_le _) ⟨rfl, rfl, by rw [prt_len]; rfl, by rw [prt_len]; rfl, rfl, rfl, rfl, trivial⟩ (by rw [prt_zero, prt_zero]; exact List.Sublist.refl _) (fun k hk IH => ?_)
   refine gS (gR ?_)
   refine gBi bLt ?_
   refine gE (gS ?_)
   refine GoH.cond rfl (fun hc => ?_) (fun hc => ?_)
   ·
    have hlt : k < f.length := by simpa using hc
    have hok := hO k hlt
    have hop := hok.op
    have hF := fldOk_of hok.fld
    have hXi := usX_ge hop
    obtain ⟨kx, hkx⟩ : ∃ j : Nat, f[k].x = (j : Int) := ⟨f[k].x.toNat, by
      cases hX : usX f[k].op with
      | false => have := hok.x0 hX; omega
      | true => have := hok.x hX; omega⟩
    obtain ⟨ky, hky⟩ : ∃ j : Nat, f[k].y = (j : Int) := ⟨f[k].y.toNat, by
      cases hY : usY f[k].op with
      | false => have := hok.y0 hY; omega
      | true => have := hok.y hY; omega⟩
    have hlx : kx < f.length := by
      cases hX : usX f[k].op with
      | false => have := hok.x0 hX; omega
      | true => have := hok.x hX; omega
    have hly : ky < f.length := by
      cases hY : usY f[k].op with
      | false => have := hok.y0 hY; omega
      | true => have := hok.y hY; omega
    have hsx : usX f[k].op = true → (prt f.length PS 0#64 k).getD kx 0#64 = PS kx ∧ (prt f.length PF false k).getD kx false = PF kx := fun hX => by have := hok.x hX; exact ⟨prt_get (by omega) hlx, prt_get (by omega) hlx⟩
    have hsy : usY f[k].op = true → (prt f.length PS 0#64 k).getD ky 0#64 = PS ky ∧ (prt f.length PF false k).getD ky false = PF ky := fun hY => by have := hok.y hY; exact ⟨prt_get (by omega) hly, prt_get (by omega) hly⟩
    have etx : f[k].x.toNat = kx := by omega
    have ety : f[k].y.toNat = ky := by omega
    have hlsx : kx < (prt f.length PS 0#64 k).length := by rw [prt_len]; exact hlx
    have hlsy : ky < (prt f.length PS 0#64 k).length := by rw [prt_len]; exact hly
    have hlfx : kx < (prt f.length PF false k).length := by rw [prt_len]; exact hlx
    have hlfy : ky < (prt f.length PF false k).length := by rw [prt_len]; exact hly
    have hlsk : k < (prt f.length PS 0#64 k).length := by rw [prt_len]; exact hlt
    have hlfk : k < (prt f.length PF false k).length := by rw [prt_len]; exact hlt
    refine gK (gS (gB (gS (gR ?_))))
    refine gMv ?_
    refine GoH.v (Vop.idxN rfl rfl rfl rfl rfl Tryz.underlying26 Tryz.sizeOf54 ⟨_, (ha).at_⟩ (flat_len (enc := NV.cells) (sz := 6) (fun _ => rfl)) (by decide) (k) ⟨rfl, hlt⟩) ?_
    refine GoH.v (Vop.ldN (cs := NV.cells f[k]) rfl rfl rfl rfl Tryz.isAgg54 Tryz.sizeOf54 (fun w _ hS => Sl.many (enc := NV.cells) (sz := 6) (ha.ex0 hS.ext).at_ (fun _ => rfl) hlt)) ?_
    refine GoH.alc rfl rfl rfl (fun _ => Tryz.zeroValue54 _) (fun b10 => ?_)
    refine gAs ?_
    refine GoH.stB rfl rfl rfl rfl Tryz.sizeOf54 0 rfl rfl rfl rfl ?_
    refine gE (gS (gR ?_))
    refine gAs ?_
    refine gE (gS (gS (gR ?_)))
    refine gFp Tryz.underlying54 Tryz.sizeOf3 0 ?_
    refine gLo Tryz.isAgg3 0 ?_
    refine gBi bGe ?_
    refine gE ?_
    refine GoH.cond rfl (fun hc => ?_) (fun hc => ?_)
    ·
     have h4 : 4 ≤ f[k].op := by simpa using hc
     have hX : usX f[k].op = true := by rw [hXi]; simpa using h4
     have hfxv := (hsx hX).2
     refine gR ?_
     refine gMv ?_
     refine gFp Tryz.underlying54 Tryz.sizeOf3 4 ?_
     refine gLo Tryz.isAgg3 0 ?_
     refine GoH.v (Vop.idxS rfl rfl rfl rfl rfl Tryz.underlying76 Tryz.sizeOf4 (kx) ⟨hkx, hlfx⟩) ?_
     refine GoH.v (Vop.ldE Value.bool false rfl rfl rfl rfl Tryz.isAgg4 1 rfl hlfx) ?_
     refine gAs ?_
     refine gE (gS (gS (gR ?_)))
     refine gFp Tryz.underlying54 Tryz.sizeOf3 0 ?_
     refine gLo Tryz.isAgg3 0 ?_
     refine gBi bGe ?_
     refine gMv ?_
     refine GoH.cases (d := 42) rfl (fun hc => ?_) (fun hc => ?_)
     ·
      have h5 : 5 ≤ f[k].op := by simpa using hc
      refine gFp Tryz.underlying54 Tryz.sizeOf3 0 ?_
      refine gLo Tryz.isAgg3 0 ?_
      refine gBi bLe ?_
      refine gPt ?_
      refine gMv ?_
      refine GoH.cases (d := 47) rfl (fun hc => ?_) (fun hc => ?_)
      ·
       have h8 : f[k].op ≤ 8 := by simpa using hc
       have hY : usY f[k].op = true := by
         have : f[k].op = 5 ∨ f[k].op = 6 ∨ f[k].op = 7 ∨ f[k].op = 8 := by omega
         rcases this with h | h | h | h <;> rw [h] <;> rfl
       iterate 3 refine gNo ?_
       refine gPt ?_
       refine gE (GoH.condT rfl (gR ?_))
       iterate 2 refine gMv ?_
       refine GoH.cases (d := 53) rfl (fun hc => ?_) (fun hc => ?_)
       ·
        have hfx1 : PF kx = true := by rw [← hfxv]; exact hc
        refine gMv ?_
        refine gFp Tryz.underlying54 Tryz.sizeOf3 5 ?_
        refine gLo Tryz.isAgg3 0 ?_
        refine GoH.v (Vop.idxS rfl rfl rfl rfl rfl Tryz.underlying76 Tryz.sizeOf4 (ky) ⟨hky, hlfy⟩) ?_
        refine GoH.v (Vop.ldE Value.bool false rfl rfl rfl rfl Tryz.isAgg4 1 rfl hlfy) ?_
        refine gPt ?_
        refine gAs ?_
        refine gE (gS (gR ?_))
        refine gMv ?_
        refine gE ?_
        refine GoH.cond rfl (fun hc => ?_) (fun hc => ?_)
        ·
         have hfy1 : PF ky = true := by rw [← (hsy hY).2]; exact hc
         obtain ⟨hst1, hst2⟩ := set_step (n := n) (val := m.val) (rel := m.rel) (x := (prt f.length PS 0#64 k).getD kx 0#64) (y := (prt f.length PS 0#64 k).getD ky 0#64) hlt hO (fun hX => by rw [etx]; rw [hPF] at hfx1; exact hfx1) (fun hY h13 => by rw [ety]; rw [hPF] at hfy1; exact hfy1) (fun hX => by rw [(hsx hX).1, hPS, etx]) (fun hY => by rw [(hsy hY).1, hPS, ety])
         refine GoH.drawQ 25 21 [] mixed ?_
         refine RdQ.v (i := 0) (Vop.mv rfl rfl rfl rfl) (List.nil_sublist _) rfl rfl rfl rfl (by repeat (first | exact List.Sublist.refl _ | exact List.nil_sublist _ | refine List.Sublist.cons_cons _ ?_ | refine List.Sublist.cons _ ?_)) ?_
         refine RdQ.v (i := 1) (Vop.mv rfl rfl rfl rfl) (List.nil_sublist _) rfl rfl rfl rfl (by repeat (first | exact List.Sublist.refl _ | exact List.nil_sublist _ | refine List.Sublist.cons_cons _ ?_ | refine List.Sublist.cons _ ?_)) ?_
         refine RdQ.u (i := 2) (Vop.mv rfl rfl rfl rfl) (List.nil_sublist _) rfl rfl rfl (by rw [cur_before rfl]; repeat (first | exact List.Sublist.refl _ | exact List.nil_sublist _ | refine List.Sublist.cons_cons _ ?_ | refine List.Sublist.cons _ ?_)) ?_
         refine RdQ.u (i := 3) (Vop.mv rfl rfl rfl rfl) (List.nil_sublist _) rfl rfl rfl (by rw [cur_before rfl]; repeat (first | exact List.Sublist.refl _ | exact List.nil_sublist _ | refine List.Sublist.cons_cons _ ?_ | refine List.Sublist.cons _ ?_)) ?_
         refine RdQ.v (i := 4) (Vop.ldB rfl rfl rfl rfl Tryz.isAgg25 3 rfl Tryz.sizeOf25 rfl) (List.nil_sublist _) rfl rfl rfl rfl (by repeat (first | exact List.Sublist.refl _ | exact List.nil_sublist _ | refine List.Sublist.cons_cons _ ?_ | refine List.Sublist.cons _ ?_)) ?_
         refine RdQ.v (i := 5) (Vop.ldB rfl rfl rfl rfl Tryz.isAgg54 0 rfl Tryz.sizeOf54 rfl) (List.nil_sublist _) rfl rfl rfl rfl (by repeat (first | exact List.Sublist.refl _ | exact List.nil_sublist _ | refine List.Sublist.cons_cons _ ?_ | refine List.Sublist.cons _ ?_)) ?_
         refine RdQ.v (i := 6) (Vop.mv rfl rfl rfl rfl) (List.nil_sublist _) rfl rfl rfl rfl (by repeat (first | exact List.Sublist.refl _ | exact List.nil_sublist _ | refine List.Sublist.cons_cons _ ?_ | refine List.Sublist.cons _ ?_)) ?_
         refine RdQ.v (i := 7) (Vop.fldP rfl rfl rfl rfl Tryz.underlying54 rfl (by exact Tryz.sizeOf3) 4 rfl) (List.nil_sublist _) rfl rfl rfl rfl (by repeat (first | exact List.Sublist.refl _ | exact List.nil_sublist _ | refine List.Sublist.cons_cons _ ?_ | refine List.Sublist.cons _ ?_)) ?_
         refine RdQ.v (i := 8) (Vop.ldo rfl rfl rfl rfl Tryz.isAgg3 0 rfl rfl) (List.nil_sublist _) rfl rfl rfl rfl (by repeat (first | exact List.Sublist.refl _ | exact List.nil_sublist _ | refine List.Sublist.cons_cons _ ?_ | refine List.Sublist.cons _ ?_)) ?_
         refine RdQ.v (i := 9) (Vop.idxS rfl rfl rfl rfl rfl Tryz.underlying22 Tryz.sizeOf33 (kx) ⟨hkx, hlsx⟩) (List.nil_sublist _) rfl rfl rfl rfl (by repeat (first | exact List.Sublist.refl _ | exact List.nil_sublist _ | refine List.Sublist.cons_cons _ ?_ | refine List.Sublist.cons _ ?_)) ?_
         refine RdQ.v (i := 10) (Vop.ldE U 0#64 rfl rfl rfl rfl Tryz.isAgg33 2 rfl hlsx) (List.nil_sublist _) rfl rfl rfl rfl (by repeat (first | exact List.Sublist.refl _ | exact List.nil_sublist _ | refine List.Sublist.cons_cons _ ?_ | refine List.Sublist.cons _ ?_)) ?_
         refine RdQ.v (i := 11) (Vop.mv rfl rfl rfl rfl) (List.nil_sublist _) rfl rfl rfl rfl (by repeat (first | exact List.Sublist.refl _ | exact List.nil_sublist _ | refine List.Sublist.cons_cons _ ?_ | refine List.Sublist.cons _ ?_)) ?_
         refine RdQ.v (i := 12) (Vop.fldP rfl rfl rfl rfl Tryz.underlying54 rfl (by exact Tryz.sizeOf3) 5 rfl) (List.nil_sublist _) rfl rfl rfl rfl (by repeat (first | exact List.Sublist.refl _ | exact List.nil_sublist _ | refine List.Sublist.cons_cons _ ?_ | refine List.Sublist.cons _ ?_)) ?_
         refine RdQ.v (i := 13) (Vop.ldo rfl rfl rfl rfl Tryz.isAgg3 0 rfl rfl) (List.nil_sublist _) rfl rfl rfl rfl (by repeat (first | exact List.Sublist.refl _ | exact List.nil_sublist _ | refine List.Sublist.cons_cons _ ?_ | refine List.Sublist.cons _ ?_)) ?_
         refine RdQ.v (i := 14) (Vop.idxS rfl rfl rfl rfl rfl Tryz.underlying22 Tryz.sizeOf33 (ky) ⟨hky, hlsy⟩) (List.nil_sublist _) rfl rfl rfl rfl (by repeat (first | exact List.Sublist.refl _ | exact List.nil_sublist _ | refine List.Sublist.cons_cons _ ?_ | refine List.Sublist.cons _ ?_)) ?_
         refine RdQ.v (i := 15) (Vop.ldE U 0#64 rfl rfl rfl rfl Tryz.isAgg33 2 rfl hlsy) (List.nil_sublist _) rfl rfl rfl rfl (by repeat (first | exact List.Sublist.refl _ | exact List.nil_sublist _ | refine List.Sublist.cons_cons _ ?_ | refine List.Sublist.cons _ ?_)) ?_
         refine RdQ.callP (i := 16) rfl rfl rfl rfl rfl rfl (fun _ _ => Tryz.call43 _ _) (fun w _ hS => (by exact pvalue_c m n f[k] _ _ w (hm.ex0 hS.ext) hv hn hop hF)) (by rw [cur_before rfl]; repeat (first | exact List.Sublist.refl _ | exact List.nil_sublist _ | refine List.Sublist.cons_cons _ ?_ | refine List.Sublist.cons _ ?_)) ?_
         refine RdQ.v (i := 17) (Vop.mv rfl rfl rfl rfl) (List.nil_sublist _) rfl rfl rfl rfl (by repeat (first | exact List.Sublist.refl _ | exact List.nil_sublist _ | refine List.Sublist.cons_cons _ ?_ | refine List.Sublist.cons _ ?_)) ?_
         refine RdQ.v (i := 18) (Vop.ext rfl rfl rfl rfl rfl) (List.nil_sublist _) rfl rfl rfl rfl (by repeat (first | exact List.Sublist.refl _ | exact List.nil_sublist _ | refine List.Sublist.cons_cons _ ?_ | refine List.Sublist.cons _ ?_)) ?_
         refine RdQ.u (i := 19) (Vop.ext rfl rfl rfl rfl rfl) (List.nil_sublist _) rfl rfl rfl (by rw [cur_before rfl]; repeat (first | exact List.Sublist.refl _ | exact List.nil_sublist _ | refine List.Sublist.cons_cons _ ?_ | refine List.Sublist.cons _ ?_)) ?_
         refine RdQ.v (i := 20) (Vop.idxS rfl rfl rfl rfl rfl Tryz.underlying22 Tryz.sizeOf33 (k) ⟨rfl, hlsk⟩) (List.nil_sublist _) rfl rfl rfl rfl (by repeat (first | exact List.Sublist.refl _ | exact List.nil_sublist _ | refine List.Sublist.cons_cons _ ?_ | refine List.Sublist.cons _ ?_)) ?_
         refine RdQ.stE (i := 21) U _ rfl rfl rfl rfl rfl Tryz.sizeOf33 rfl 2 rfl hlsk (by rw [cur_after rfl]; exact List.nil_sublist _) ?_
         refine RdQ.u (i := 22) (Vop.idxS rfl rfl rfl rfl rfl Tryz.underlying76 Tryz.sizeOf4 (k) ⟨rfl, hlfk⟩) (List.nil_sublist _) rfl rfl rfl (by rw [cur_after rfl]; exact List.nil_sublist _) ?_
         refine RdQ.stE (i := 23) Value.bool _ rfl rfl rfl rfl rfl Tryz.sizeOf4 rfl 1 rfl hlfk (by rw [cur_after rfl]; exact List.nil_sublist _) ?_
         refine RdQ.done rfl ?_
         refine gE (gIb (gR ?_))
         refine GoH.v (Vop.bin rfl rfl rfl rfl (bAdd (by omega)) rfl) ?_
         refine gMv ?_
         refine gE ?_
         refine IH (k + 1) _ _ hlt (by omega) ⟨rfl, rfl, by simp only [prt_len]; rfl, by simp only [prt_len]; rfl, rfl, rfl, rfl, trivial⟩ ?_
         rw [hst2, hst1, show finB m.rel.length m.val.length (treeAt f k) = PF k from by rw [hPF], show setV n m.val m.rel f k = PS k from by rw [hPS], prt_set hlt, prt_set hlt]
         exact .cons _ (List.Sublist.refl _)
        ·
         have hfy1 : PF ky = false := by rw [← (hsy hY).2]; exact hc
         have hno := fin_noY (A := m.rel.length) (B := m.val.length) hlt hO hY (by rw [ety]; rw [hPF] at hfy1; exact hfy1)
         refine gK (gIb (gR ?_))
         refine GoH.v (Vop.bin rfl rfl rfl rfl (bAdd (by omega)) rfl) ?_
         refine gMv ?_
         refine gE ?_
         refine IH (k + 1) _ _ hlt (by omega) ⟨rfl, rfl, by simp only [prt_len]; rfl, by simp only [prt_len]; rfl, rfl, rfl, rfl, trivial⟩ ?_
         rw [prt_skip (P := PS) (k := k) (d := 0#64) (by rw [hPS]; exact setV_no hno), prt_skip (P := PF) (k := k) (d := false) (by rw [hPF]; exact hno)]
         exact .cons _ (List.Sublist.refl _)
       ·
        have hfx1 : PF kx = false := by rw [← hfxv]; exact hc
        have hno := fin_noX (A := m.rel.length) (B := m.val.length) hlt hO hX (by rw [etx]; rw [hPF] at hfx1; exact hfx1)
        iterate 5 refine gNo ?_
        refine gPf ?_
        refine gAs ?_
        refine gE (gS (gR ?_))
        refine gMv ?_
        refine gE (GoH.condF rfl (gK (gIb (gR ?_))))
        refine GoH.v (Vop.bin rfl rfl rfl rfl (bAdd (by omega)) rfl) ?_
        refine gMv ?_
        refine gE ?_
        refine IH (k + 1) _ _ hlt (by omega) ⟨rfl, rfl, by simp only [prt_len]; rfl, by simp only [prt_len]; rfl, rfl, rfl, rfl, trivial⟩ ?_
        rw [prt_skip (P := PS) (k := k) (d := 0#64) (by rw [hPS]; exact setV_no hno), prt_skip (P := PF) (k := k) (d := false) (by rw [hPF]; exact hno)]
        exact .cons _ (List.Sublist.refl _)
      ·
       have h8 : ¬ f[k].op ≤ 8 := by simpa using hc
       refine gFp Tryz.underlying54 Tryz.sizeOf3 0 ?_
       refine gLo Tryz.isAgg3 0 ?_
       refine gBi bEq ?_
       refine gPf ?_
       refine gE ?_
       refine GoH.cond rfl (fun hc => ?_) (fun hc => ?_)
       ·
        have h13 : f[k].op = 13 := by simpa using hc
        have hY : usY f[k].op = true := by rw [h13]; rfl
        refine gR ?_
        iterate 2 refine gMv ?_
        refine GoH.cases (d := 53) rfl (fun hc => ?_) (fun hc => ?_)
        ·
         have hfx1 : PF kx = true := by rw [← hfxv]; exact hc
         refine gMv ?_
         refine gFp Tryz.underlying54 Tryz.sizeOf3 5 ?_
         refine gLo Tryz.isAgg3 0 ?_
         refine GoH.v (Vop.idxS rfl rfl rfl rfl rfl Tryz.underlying76 Tryz.sizeOf4 (ky) ⟨hky, hlfy⟩) ?_
         refine GoH.v (Vop.ldE Value.bool false rfl rfl rfl rfl Tryz.isAgg4 1 rfl hlfy) ?_
         refine gPt ?_
         refine gAs ?_
         refine gE (gS (gR ?_))
         refine gMv ?_
         refine gE ?_
         refine GoH.cond rfl (fun hc => ?_) (fun hc => ?_)
         ·
          have hfy1 : PF ky = true := by rw [← (hsy hY).2]; exact hc
          obtain ⟨hst1, hst2⟩ := set_step (n := n) (val := m.val) (rel := m.rel) (x := (prt f.length PS 0#64 k).getD kx 0#64) (y := (prt f.length PS 0#64 k).getD ky 0#64) hlt hO (fun hX => by rw [etx]; rw [hPF] at hfx1; exact hfx1) (fun hY h13 => by rw [ety]; rw [hPF] at hfy1; exact hfy1) (fun hX => by rw [(hsx hX).1, hPS, etx]) (fun hY => by rw [(hsy hY).1, hPS, ety])
          refine GoH.drawQ 25 21 [] mixed ?_
          refine RdQ.v (i := 0) (Vop.mv rfl rfl rfl rfl) (List.nil_sublist _) rfl rfl rfl rfl (by repeat (first | exact List.Sublist.refl _ | exact List.nil_sublist _ | refine List.Sublist.cons_cons _ ?_ | refine List.Sublist.cons _ ?_)) ?_
          refine RdQ.v (i := 1) (Vop.mv rfl rfl rfl rfl) (List.nil_sublist _) rfl rfl rfl rfl (by repeat (first | exact List.Sublist.refl _ | exact List.nil_sublist _ | refine List.Sublist.cons_cons _ ?_ | refine List.Sublist.cons _ ?_)) ?_
          refine RdQ.u (i := 2) (Vop.mv rfl rfl rfl rfl) (List.nil_sublist _) rfl rfl rfl (by rw [cur_before rfl]; repeat (first | exact List.Sublist.refl _ | exact List.nil_sublist _ | refine List.Sublist.cons_cons _ ?_ | refine List.Sublist.cons _ ?_)) ?_
          refine RdQ.u (i := 3) (Vop.mv rfl rfl rfl rfl) (List.nil_sublist _) rfl rfl rfl (by rw [cur_before rfl]; repeat (first | exact List.Sublist.refl _ | exact List.nil_sublist _ | refine List.Sublist.cons_cons _ ?_ | refine List.Sublist.cons _ ?_)) ?_
          refine RdQ.v (i := 4) (Vop.ldB rfl rfl rfl rfl Tryz.isAgg25 3 rfl Tryz.sizeOf25 rfl) (List.nil_sublist _) rfl rfl rfl rfl (by repeat (first | exact List.Sublist.refl _ | exact List.nil_sublist _ | refine List.Sublist.cons_cons _ ?_ | refine List.Sublist.cons _ ?_)) ?_
          refine RdQ.v (i := 5) (Vop.ldB rfl rfl rfl rfl Tryz.isAgg54 0 rfl Tryz.sizeOf54 rfl) (List.nil_sublist _) rfl rfl rfl rfl (by repeat (first | exact List.Sublist.refl _ | exact List.nil_sublist _ | refine List.Sublist.cons_cons _ ?_ | refine List.Sublist.cons _ ?_)) ?_
          refine RdQ.v (i := 6) (Vop.mv rfl rfl rfl rfl) (List.nil_sublist _) rfl rfl rfl rfl (by repeat (first | exact List.Sublist.refl _ | exact List.nil_sublist _ | refine List.Sublist.cons_cons _ ?_ | refine List.Sublist.cons _ ?_)) ?_
          refine RdQ.v (i := 7) (Vop.fldP rfl rfl rfl rfl Tryz.underlying54 rfl (by exact Tryz.sizeOf3) 4 rfl) (List.nil_sublist _) rfl rfl rfl rfl (by repeat (first | exact List.Sublist.refl _ | exact List.nil_sublist _ | refine List.Sublist.cons_cons _ ?_ | refine List.Sublist.cons _ ?_)) ?_
          refine RdQ.v (i := 8) (Vop.ldo rfl rfl rfl rfl Tryz.isAgg3 0 rfl rfl) (List.nil_sublist _) rfl rfl rfl rfl (by repeat (first | exact List.Sublist.refl _ | exact List.nil_sublist _ | refine List.Sublist.cons_cons _ ?_ | refine List.Sublist.cons _ ?_)) ?_
          refine RdQ.v (i := 9) (Vop.idxS rfl rfl rfl rfl rfl Tryz.underlying22 Tryz.sizeOf33 (kx) ⟨hkx, hlsx⟩) (List.nil_sublist _) rfl rfl rfl rfl (by repeat (first | exact List.Sublist.refl _ | exact List.nil_sublist _ | refine List.Sublist.cons_cons _ ?_ | refine List.Sublist.cons _ ?_)) ?_
          refine RdQ.v (i := 10) (Vop.ldE U 0#64 rfl rfl rfl rfl Tryz.isAgg33 2 rfl hlsx) (List.nil_sublist _) rfl rfl rfl rfl (by repeat (first | exact List.Sublist.refl _ | exact List.nil_sublist _ | refine List.Sublist.cons_cons _ ?_ | refine List.Sublist.cons _ ?_)) ?_
          refine RdQ.v (i := 11) (Vop.mv rfl rfl rfl rfl) (List.nil_sublist _) rfl rfl rfl rfl (by repeat (first | exact List.Sublist.refl _ | exact List.nil_sublist _ | refine List.Sublist.cons_cons _ ?_ | refine List.Sublist.cons _ ?_)) ?_
          refine RdQ.v (i := 12) (Vop.fldP rfl rfl rfl rfl Tryz.underlying54 rfl (by exact Tryz.sizeOf3) 5 rfl) (List.nil_sublist _) rfl rfl rfl rfl (by repeat (first | exact List.Sublist.refl _ | exact List.nil_sublist _ | refine List.Sublist.cons_cons _ ?_ | refine List.Sublist.cons _ ?_)) ?_
          refine RdQ.v (i := 13) (Vop.ldo rfl rfl rfl rfl Tryz.isAgg3 0 rfl rfl) (List.nil_sublist _) rfl rfl rfl rfl (by repeat (first | exact List.Sublist.refl _ | exact List.nil_sublist _ | refine List.Sublist.cons_cons _ ?_ | refine List.Sublist.cons _ ?_)) ?_
          refine RdQ.v (i := 14) (Vop.idxS rfl rfl rfl rfl rfl Tryz.underlying22 Tryz.sizeOf33 (ky) ⟨hky, hlsy⟩) (List.nil_sublist _) rfl rfl rfl rfl (by repeat (first | exact List.Sublist.refl _ | exact List.nil_sublist _ | refine List.Sublist.cons_cons _ ?_ | refine List.Sublist.cons _ ?_)) ?_
          refine RdQ.v (i := 15) (Vop.ldE U 0#64 rfl rfl rfl rfl Tryz.isAgg33 2 rfl hlsy) (List.nil_sublist _) rfl rfl rfl rfl (by repeat (first | exact List.Sublist.refl _ | exact List.nil_sublist _ | refine List.Sublist.cons_cons _ ?_ | refine List.Sublist.cons _ ?_)) ?_
          refine RdQ.callP (i := 16) rfl rfl rfl rfl rfl rfl (fun _ _ => Tryz.call43 _ _) (fun w _ hS => (by exact pvalue_c m n f[k] _ _ w (hm.ex0 hS.ext) hv hn hop hF)) (by rw [cur_before rfl]; repeat (first | exact List.Sublist.refl _ | exact List.nil_sublist _ | refine List.Sublist.cons_cons _ ?_ | refine List.Sublist.cons _ ?_)) ?_
          refine RdQ.v (i := 17) (Vop.mv rfl rfl rfl rfl) (List.nil_sublist _) rfl rfl rfl rfl (by repeat (first | exact List.Sublist.refl _ | exact List.nil_sublist _ | refine List.Sublist.cons_cons _ ?_ | refine List.Sublist.cons _ ?_)) ?_
          refine RdQ.v (i := 18) (Vop.ext rfl rfl rfl rfl rfl) (List.nil_sublist _) rfl rfl rfl rfl (by repeat (first | exact List.Sublist.refl _ | exact List.nil_sublist _ | refine List.Sublist.cons_cons _ ?_ | refine List.Sublist.cons _ ?_)) ?_
          refine RdQ.u (i := 19) (Vop.ext rfl rfl rfl rfl rfl) (List.nil_sublist _) rfl rfl rfl (by rw [cur_before rfl]; repeat (first | exact List.Sublist.refl _ | exact List.nil_sublist _ | refine List.Sublist.cons_cons _ ?_ | refine List.Sublist.cons _ ?_)) ?_
          refine RdQ.v (i := 20) (Vop.idxS rfl rfl rfl rfl rfl Tryz.underlying22 Tryz.sizeOf33 (k) ⟨rfl, hlsk⟩) (List.nil_sublist _) rfl rfl rfl rfl (by repeat (first | exact List.Sublist.refl _ | exact List.nil_sublist _ | refine List.Sublist.cons_cons _ ?_ | refine List.Sublist.cons _ ?_)) ?_
          refine RdQ.stE (i := 21) U _ rfl rfl rfl rfl rfl Tryz.sizeOf33 rfl 2 rfl hlsk (by rw [cur_after rfl]; exact List.nil_sublist _) ?_
          refine RdQ.u (i := 22) (Vop.idxS rfl rfl rfl rfl rfl Tryz.underlying76 Tryz.sizeOf4 (k) ⟨rfl, hlfk⟩) (List.nil_sublist _) rfl rfl rfl (by rw [cur_after rfl]; exact List.nil_sublist _) ?_
          refine RdQ.stE (i := 23) Value.bool _ rfl rfl rfl rfl rfl Tryz.sizeOf4 rfl 1 rfl hlfk (by rw [cur_after rfl]; exact List.nil_sublist _) ?_
          refine RdQ.done rfl ?_
          refine gE (gIb (gR ?_))
          refine GoH.v (Vop.bin rfl rfl rfl rfl (bAdd (by omega)) rfl) ?_
          refine gMv ?_
          refine gE ?_
          refine IH (k + 1) _ _ hlt (by omega) ⟨rfl, rfl, by simp only [prt_len]; rfl, by simp only [prt_len]; rfl, rfl, rfl, rfl, trivial⟩ ?_
          rw [hst2, hst1, show finB m.rel.length m.val.length (treeAt f k) = PF k from by rw [hPF], show setV n m.val m.rel f k = PS k from by rw [hPS], prt_set hlt, prt_set hlt]
          exact .cons _ (List.Sublist.refl _)
         ·
          have hfy1 : PF ky = false := by rw [← (hsy hY).2]; exact hc
          have hno := fin_noY (A := m.rel.length) (B := m.val.length) hlt hO hY (by rw [ety]; rw [hPF] at hfy1; exact hfy1)
          refine gK (gIb (gR ?_))
          refine GoH.v (Vop.bin rfl rfl rfl rfl (bAdd (by omega)) rfl) ?_
          refine gMv ?_
          refine gE ?_
          refine IH (k + 1) _ _ hlt (by omega) ⟨rfl, rfl, by simp only [prt_len]; rfl, by simp only [prt_len]; rfl, rfl, rfl, rfl, trivial⟩ ?_
          rw [prt_skip (P := PS) (k := k) (d := 0#64) (by rw [hPS]; exact setV_no hno), prt_skip (P := PF) (k := k) (d := false) (by rw [hPF]; exact hno)]
          exact .cons _ (List.Sublist.refl _)
        ·
         have hfx1 : PF kx = false := by rw [← hfxv]; exact hc
         have hno := fin_noX (A := m.rel.length) (B := m.val.length) hlt hO hX (by rw [etx]; rw [hPF] at hfx1; exact hfx1)
         iterate 5 refine gNo ?_
         refine gPf ?_
         refine gAs ?_
         refine gE (gS (gR ?_))
         refine gMv ?_
         refine gE (GoH.condF rfl (gK (gIb (gR ?_))))
         refine GoH.v (Vop.bin rfl rfl rfl rfl (bAdd (by omega)) rfl) ?_
         refine gMv ?_
         refine gE ?_
         refine IH (k + 1) _ _ hlt (by omega) ⟨rfl, rfl, by simp only [prt_len]; rfl, by simp only [prt_len]; rfl, rfl, rfl, rfl, trivial⟩ ?_
         rw [prt_skip (P := PS) (k := k) (d := 0#64) (by rw [hPS]; exact setV_no hno), prt_skip (P := PF) (k := k) (d := false) (by rw [hPF]; exact hno)]
         exact .cons _ (List.Sublist.refl _)
       ·
        have hn13 : ¬ f[k].op = 13 := by simpa using hc
        have noY : f[k].op ≤ 13 → ¬ usY f[k].op = true := fun h => by
          have : f[k].op = 9 ∨ f[k].op = 10 ∨ f[k].op = 11 ∨ f[k].op = 12 := by omega
          rcases this with h | h | h | h <;> rw [h] <;> decide
        refine gK (gS (gR ?_))
        refine gMv ?_
        refine gE ?_
        refine GoH.cond rfl (fun hc => ?_) (fun hc => ?_)
        ·
         have hfx1 : PF kx = true := by rw [← hfxv]; exact hc
         obtain ⟨hst1, hst2⟩ := set_step (n := n) (val := m.val) (rel := m.rel) (x := (prt f.length PS 0#64 k).getD kx 0#64) (y := (prt f.length PS 0#64 k).getD ky 0#64) hlt hO (fun hX => by rw [etx]; rw [hPF] at hfx1; exact hfx1) (fun hY h13 => by rw [ety]; exact absurd hY (noY h13)) (fun hX => by rw [(hsx hX).1, hPS, etx]) (fun hY => by rw [(hsy hY).1, hPS, ety])
         refine GoH.drawQ 25 21 [] mixed ?_
         refine RdQ.v (i := 0) (Vop.mv rfl rfl rfl rfl) (List.nil_sublist _) rfl rfl rfl rfl (by repeat (first | exact List.Sublist.refl _ | exact List.nil_sublist _ | refine List.Sublist.cons_cons _ ?_ | refine List.Sublist.cons _ ?_)) ?_
         refine RdQ.v (i := 1) (Vop.mv rfl rfl rfl rfl) (List.nil_sublist _) rfl rfl rfl rfl (by repeat (first | exact List.Sublist.refl _ | exact List.nil_sublist _ | refine List.Sublist.cons_cons _ ?_ | refine List.Sublist.cons _ ?_)) ?_
         refine RdQ.u (i := 2) (Vop.mv rfl rfl rfl rfl) (List.nil_sublist _) rfl rfl rfl (by rw [cur_before rfl]; repeat (first | exact List.Sublist.refl _ | exact List.nil_sublist _ | refine List.Sublist.cons_cons _ ?_ | refine List.Sublist.cons _ ?_)) ?_
         refine RdQ.u (i := 3) (Vop.mv rfl rfl rfl rfl) (List.nil_sublist _) rfl rfl rfl (by rw [cur_before rfl]; repeat (first | exact List.Sublist.refl _ | exact List.nil_sublist _ | refine List.Sublist.cons_cons _ ?_ | refine List.Sublist.cons _ ?_)) ?_
         refine RdQ.v (i := 4) (Vop.ldB rfl rfl rfl rfl Tryz.isAgg25 3 rfl Tryz.sizeOf25 rfl) (List.nil_sublist _) rfl rfl rfl rfl (by repeat (first | exact List.Sublist.refl _ | exact List.nil_sublist _ | refine List.Sublist.cons_cons _ ?_ | refine List.Sublist.cons _ ?_)) ?_
         refine RdQ.v (i := 5) (Vop.ldB rfl rfl rfl rfl Tryz.isAgg54 0 rfl Tryz.sizeOf54 rfl) (List.nil_sublist _) rfl rfl rfl rfl (by repeat (first | exact List.Sublist.refl _ | exact List.nil_sublist _ | refine List.Sublist.cons_cons _ ?_ | refine List.Sublist.cons _ ?_)) ?_
         refine RdQ.v (i := 6) (Vop.mv rfl rfl rfl rfl) (List.nil_sublist _) rfl rfl rfl rfl (by repeat (first | exact List.Sublist.refl _ | exact List.nil_sublist _ | refine List.Sublist.cons_cons _ ?_ | refine List.Sublist.cons _ ?_)) ?_
         refine RdQ.v (i := 7) (Vop.fldP rfl rfl rfl rfl Tryz.underlying54 rfl (by exact Tryz.sizeOf3) 4 rfl) (List.nil_sublist _) rfl rfl rfl rfl (by repeat (first | exact List.Sublist.refl _ | exact List.nil_sublist _ | refine List.Sublist.cons_cons _ ?_ | refine List.Sublist.cons _ ?_)) ?_
         refine RdQ.v (i := 8) (Vop.ldo rfl rfl rfl rfl Tryz.isAgg3 0 rfl rfl) (List.nil_sublist _) rfl rfl rfl rfl (by repeat (first | exact List.Sublist.refl _ | exact List.nil_sublist _ | refine List.Sublist.cons_cons _ ?_ | refine List.Sublist.cons _ ?_)) ?_
         refine RdQ.v (i := 9) (Vop.idxS rfl rfl rfl rfl rfl Tryz.underlying22 Tryz.sizeOf33 (kx) ⟨hkx, hlsx⟩) (List.nil_sublist _) rfl rfl rfl rfl (by repeat (first | exact List.Sublist.refl _ | exact List.nil_sublist _ | refine List.Sublist.cons_cons _ ?_ | refine List.Sublist.cons _ ?_)) ?_
         refine RdQ.v (i := 10) (Vop.ldE U 0#64 rfl rfl rfl rfl Tryz.isAgg33 2 rfl hlsx) (List.nil_sublist _) rfl rfl rfl rfl (by repeat (first | exact List.Sublist.refl _ | exact List.nil_sublist _ | refine List.Sublist.cons_cons _ ?_ | refine List.Sublist.cons _ ?_)) ?_
         refine RdQ.v (i := 11) (Vop.mv rfl rfl rfl rfl) (List.nil_sublist _) rfl rfl rfl rfl (by repeat (first | exact List.Sublist.refl _ | exact List.nil_sublist _ | refine List.Sublist.cons_cons _ ?_ | refine List.Sublist.cons _ ?_)) ?_
         refine RdQ.v (i := 12) (Vop.fldP rfl rfl rfl rfl Tryz.underlying54 rfl (by exact Tryz.sizeOf3) 5 rfl) (List.nil_sublist _) rfl rfl rfl rfl (by repeat (first | exact List.Sublist.refl _ | exact List.nil_sublist _ | refine List.Sublist.cons_cons _ ?_ | refine List.Sublist.cons _ ?_)) ?_
         refine RdQ.v (i := 13) (Vop.ldo rfl rfl rfl rfl Tryz.isAgg3 0 rfl rfl) (List.nil_sublist _) rfl rfl rfl rfl (by repeat (first | exact List.Sublist.refl _ | exact List.nil_sublist _ | refine List.Sublist.cons_cons _ ?_ | refine List.Sublist.cons _ ?_)) ?_
         refine RdQ.v (i := 14) (Vop.idxS rfl rfl rfl rfl rfl Tryz.underlying22 Tryz.sizeOf33 (ky) ⟨hky, hlsy⟩) (List.nil_sublist _) rfl rfl rfl rfl (by repeat (first | exact List.Sublist.refl _ | exact List.nil_sublist _ | refine List.Sublist.cons_cons _ ?_ | refine List.Sublist.cons _ ?_)) ?_
         refine RdQ.v (i := 15) (Vop.ldE U 0#64 rfl rfl rfl rfl Tryz.isAgg33 2 rfl hlsy) (List.nil_sublist _) rfl rfl rfl rfl (by repeat (first | exact List.Sublist.refl _ | exact List.nil_sublist _ | refine List.Sublist.cons_cons _ ?_ | refine List.Sublist.cons _ ?_)) ?_
         refine RdQ.callP (i := 16) rfl rfl rfl rfl rfl rfl (fun _ _ => Tryz.call43 _ _) (fun w _ hS => (by exact pvalue_c m n f[k] _ _ w (hm.ex0 hS.ext) hv hn hop hF)) (by rw [cur_before rfl]; repeat (first | exact List.Sublist.refl _ | exact List.nil_sublist _ | refine List.Sublist.cons_cons _ ?_ | refine List.Sublist.cons _ ?_)) ?_
         refine RdQ.v (i := 17) (Vop.mv rfl rfl rfl rfl) (List.nil_sublist _) rfl rfl rfl rfl (by repeat (first | exact List.Sublist.refl _ | exact List.nil_sublist _ | refine List.Sublist.cons_cons _ ?_ | refine List.Sublist.cons _ ?_)) ?_
         refine RdQ.v (i := 18) (Vop.ext rfl rfl rfl rfl rfl) (List.nil_sublist _) rfl rfl rfl rfl (by repeat (first | exact List.Sublist.refl _ | exact List.nil_sublist _ | refine List.Sublist.cons_cons _ ?_ | refine List.Sublist.cons _ ?_)) ?_
         refine RdQ.u (i := 19) (Vop.ext rfl rfl rfl rfl rfl) (List.nil_sublist _) rfl rfl rfl (by rw [cur_before rfl]; repeat (first | exact List.Sublist.refl _ | exact List.nil_sublist _ | refine List.Sublist.cons_cons _ ?_ | refine List.Sublist.cons _ ?_)) ?_
         refine RdQ.v (i := 20) (Vop.idxS rfl rfl rfl rfl rfl Tryz.underlying22 Tryz.sizeOf33 (k) ⟨rfl, hlsk⟩) (List.nil_sublist _) rfl rfl rfl rfl (by repeat (first | exact List.Sublist.refl _ | exact List.nil_sublist _ | refine List.Sublist.cons_cons _ ?_ | refine List.Sublist.cons _ ?_)) ?_
         refine RdQ.stE (i := 21) U _ rfl rfl rfl rfl rfl Tryz.sizeOf33 rfl 2 rfl hlsk (by rw [cur_after rfl]; exact List.nil_sublist _) ?_
         refine RdQ.u (i := 22) (Vop.idxS rfl rfl rfl rfl rfl Tryz.underlying76 Tryz.sizeOf4 (k) ⟨rfl, hlfk⟩) (List.nil_sublist _) rfl rfl rfl (by rw [cur_after rfl]; exact List.nil_sublist _) ?_
         refine RdQ.stE (i := 23) Value.bool _ rfl rfl rfl rfl rfl Tryz.sizeOf4 rfl 1 rfl hlfk (by rw [cur_after rfl]; exact List.nil_sublist _) ?_
         refine RdQ.done rfl ?_
         refine gE (gIb (gR ?_))
         refine GoH.v (Vop.bin rfl rfl rfl rfl (bAdd (by omega)) rfl) ?_
         refine gMv ?_
         refine gE ?_
         refine IH (k + 1) _ _ hlt (by omega) ⟨rfl, rfl, by simp only [prt_len]; rfl, by simp only [prt_len]; rfl, rfl, rfl, rfl, trivial⟩ ?_
         rw [hst2, hst1, show finB m.rel.length m.val.length (treeAt f k) = PF k from by rw [hPF], show setV n m.val m.rel f k = PS k from by rw [hPS], prt_set hlt, prt_set hlt]
         exact .cons _ (List.Sublist.refl _)
        ·
         have hfx1 : PF kx = false := by rw [← hfxv]; exact hc
         have hno := fin_noX (A := m.rel.length) (B := m.val.length) hlt hO hX (by rw [etx]; rw [hPF] at hfx1; exact hfx1)
         refine gK (gIb (gR ?_))
         refine GoH.v (Vop.bin rfl rfl rfl rfl (bAdd (by omega)) rfl) ?_
         refine gMv ?_
         refine gE ?_
         refine IH (k + 1) _ _ hlt (by omega) ⟨rfl, rfl, by simp only [prt_len]; rfl, by simp only [prt_len]; rfl, rfl, rfl, rfl, trivial⟩ ?_
         rw [prt_skip (P := PS) (k := k) (d := 0#64) (by rw [hPS]; exact setV_no hno), prt_skip (P := PF) (k := k) (d := false) (by rw [hPF]; exact hno)]
         exact .cons _ (List.Sublist.refl _)
     ·
      have h5 : ¬ 5 ≤ f[k].op := by simpa using hc
      iterate 3 refine gNo ?_
      refine gPf ?_
      refine gMv ?_
      refine gFp Tryz.underlying54 Tryz.sizeOf3 0 ?_
      refine gLo Tryz.isAgg3 0 ?_
      refine GoH.v (Vop.bin rfl rfl rfl rfl (bEqV (v := false) (by rw [beq_eq_false_iff_ne]; show f[k].op ≠ 13; omega)) rfl) ?_
      have noY : f[k].op ≤ 13 → ¬ usY f[k].op = true := fun h => by
        have : f[k].op = 4 := by omega
        rw [this]; decide
      refine gPf ?_
      refine gE (GoH.condF rfl (gK (gS (gR ?_))))
      refine gMv ?_
      refine gE ?_
      refine GoH.cond rfl (fun hc => ?_) (fun hc => ?_)
      ·
       have hfx1 : PF kx = true := by rw [← hfxv]; exact hc
       obtain ⟨hst1, hst2⟩ := set_step (n := n) (val := m.val) (rel := m.rel) (x := (prt f.length PS 0#64 k).getD kx 0#64) (y := (prt f.length PS 0#64 k).getD ky 0#64) hlt hO (fun hX => by rw [etx]; rw [hPF] at hfx1; exact hfx1) (fun hY h13 => by rw [ety]; exact absurd hY (noY h13)) (fun hX => by rw [(hsx hX).1, hPS, etx]) (fun hY => by rw [(hsy hY).1, hPS, ety])
       refine GoH.drawQ 25 21 [] mixed ?_
       refine RdQ.v (i := 0) (Vop.mv rfl rfl rfl rfl) (List.nil_sublist _) rfl rfl rfl rfl (by repeat (first | exact List.Sublist.refl _ | exact List.nil_sublist _ | refine List.Sublist.cons_cons _ ?_ | refine List.Sublist.cons _ ?_)) ?_
       refine RdQ.v (i := 1) (Vop.mv rfl rfl rfl rfl) (List.nil_sublist _) rfl rfl rfl rfl (by repeat (first | exact List.Sublist.refl _ | exact List.nil_sublist _ | refine List.Sublist.cons_cons _ ?_ | refine List.Sublist.cons _ ?_)) ?_
       refine RdQ.u (i := 2) (Vop.mv rfl rfl rfl rfl) (List.nil_sublist _) rfl rfl rfl (by rw [cur_before rfl]; repeat (first | exact List.Sublist.refl _ | exact List.nil_sublist _ | refine List.Sublist.cons_cons _ ?_ | refine List.Sublist.cons _ ?_)) ?_
       refine RdQ.u (i := 3) (Vop.mv rfl rfl rfl rfl) (List.nil_sublist _) rfl rfl rfl (by rw [cur_before rfl]; repeat (first | exact List.Sublist.refl _ | exact List.nil_sublist _ | refine List.Sublist.cons_cons _ ?_ | refine List.Sublist.cons _ ?_)) ?_
       refine RdQ.v (i := 4) (Vop.ldB rfl rfl rfl rfl Tryz.isAgg25 3 rfl Tryz.sizeOf25 rfl) (List.nil_sublist _) rfl rfl rfl rfl (by repeat (first | exact List.Sublist.refl _ | exact List.nil_sublist _ | refine List.Sublist.cons_cons _ ?_ | refine List.Sublist.cons _ ?_)) ?_
       refine RdQ.v (i := 5) (Vop.ldB rfl rfl rfl rfl Tryz.isAgg54 0 rfl Tryz.sizeOf54 rfl) (List.nil_sublist _) rfl rfl rfl rfl (by repeat (first | exact List.Sublist.refl _ | exact List.nil_sublist _ | refine List.Sublist.cons_cons _ ?_ | refine List.Sublist.cons _ ?_)) ?_
       refine RdQ.v (i := 6) (Vop.mv rfl rfl rfl rfl) (List.nil_sublist _) rfl rfl rfl rfl (by repeat (first | exact List.Sublist.refl _ | exact List.nil_sublist _ | refine List.Sublist.cons_cons _ ?_ | refine List.Sublist.cons _ ?_)) ?_
       refine RdQ.v (i := 7) (Vop.fldP rfl rfl rfl rfl Tryz.underlying54 rfl (by exact Tryz.sizeOf3) 4 rfl) (List.nil_sublist _) rfl rfl rfl rfl (by repeat (first | exact List.Sublist.refl _ | exact List.nil_sublist _ | refine List.Sublist.cons_cons _ ?_ | refine List.Sublist.cons _ ?_)) ?_
       refine RdQ.v (i := 8) (Vop.ldo rfl rfl rfl rfl Tryz.isAgg3 0 rfl rfl) (List.nil_sublist _) rfl rfl rfl rfl (by repeat (first | exact List.Sublist.refl _ | exact List.nil_sublist _ | refine List.Sublist.cons_cons _ ?_ | refine List.Sublist.cons _ ?_)) ?_
       refine RdQ.v (i := 9) (Vop.idxS rfl rfl rfl rfl rfl Tryz.underlying22 Tryz.sizeOf33 (kx) ⟨hkx, hlsx⟩) (List.nil_sublist _) rfl rfl rfl rfl (by repeat (first | exact List.Sublist.refl _ | exact List.nil_sublist _ | refine List.Sublist.cons_cons _ ?_ | refine List.Sublist.cons _ ?_)) ?_
       refine RdQ.v (i := 10) (Vop.ldE U 0#64 rfl rfl rfl rfl Tryz.isAgg33 2 rfl hlsx) (List.nil_sublist _) rfl rfl rfl rfl (by repeat (first | exact List.Sublist.refl _ | exact List.nil_sublist _ | refine List.Sublist.cons_cons _ ?_ | refine List.Sublist.cons _ ?_)) ?_
       refine RdQ.v (i := 11) (Vop.mv rfl rfl rfl rfl) (List.nil_sublist _) rfl rfl rfl rfl (by repeat (first | exact List.Sublist.refl _ | exact List.nil_sublist _ | refine List.Sublist.cons_cons _ ?_ | refine List.Sublist.cons _ ?_)) ?_
       refine RdQ.v (i := 12) (Vop.fldP rfl rfl rfl rfl Tryz.underlying54 rfl (by exact Tryz.sizeOf3) 5 rfl) (List.nil_sublist _) rfl rfl rfl rfl (by repeat (first | exact List.Sublist.refl _ | exact List.nil_sublist _ | refine List.Sublist.cons_cons _ ?_ | refine List.Sublist.cons _ ?_)) ?_
       refine RdQ.v (i := 13) (Vop.ldo rfl rfl rfl rfl Tryz.isAgg3 0 rfl rfl) (List.nil_sublist _) rfl rfl rfl rfl (by repeat (first | exact List.Sublist.refl _ | exact List.nil_sublist _ | refine List.Sublist.cons_cons _ ?_ | refine List.Sublist.cons _ ?_)) ?_
       refine RdQ.v (i := 14) (Vop.idxS rfl rfl rfl rfl rfl Tryz.underlying22 Tryz.sizeOf33 (ky) ⟨hky, hlsy⟩) (List.nil_sublist _) rfl rfl rfl rfl (by repeat (first | exact List.Sublist.refl _ | exact List.nil_sublist _ | refine List.Sublist.cons_cons _ ?_ | refine List.Sublist.cons _ ?_)) ?_
       refine RdQ.v (i := 15) (Vop.ldE U 0#64 rfl rfl rfl rfl Tryz.isAgg33 2 rfl hlsy) (List.nil_sublist _) rfl rfl rfl rfl (by repeat (first | exact List.Sublist.refl _ | exact List.nil_sublist _ | refine List.Sublist.cons_cons _ ?_ | refine List.Sublist.cons _ ?_)) ?_
       refine RdQ.callP (i := 16) rfl rfl rfl rfl rfl rfl (fun _ _ => Tryz.call43 _ _) (fun w _ hS => (by exact pvalue_c m n f[k] _ _ w (hm.ex0 hS.ext) hv hn hop hF)) (by rw [cur_before rfl]; repeat (first | exact List.Sublist.refl _ | exact List.nil_sublist _ | refine List.Sublist.cons_cons _ ?_ | refine List.Sublist.cons _ ?_)) ?_
       refine RdQ.v (i := 17) (Vop.mv rfl rfl rfl rfl) (List.nil_sublist _) rfl rfl rfl rfl (by repeat (first | exact List.Sublist.refl _ | exact List.nil_sublist _ | refine List.Sublist.cons_cons _ ?_ | refine List.Sublist.cons _ ?_)) ?_
       refine RdQ.v (i := 18) (Vop.ext rfl rfl rfl rfl rfl) (List.nil_sublist _) rfl rfl rfl rfl (by repeat (first | exact List.Sublist.refl _ | exact List.nil_sublist _ | refine List.Sublist.cons_cons _ ?_ | refine List.Sublist.cons _ ?_)) ?_
       refine RdQ.u (i := 19) (Vop.ext rfl rfl rfl rfl rfl) (List.nil_sublist _) rfl rfl rfl (by rw [cur_before rfl]; repeat (first | exact List.Sublist.refl _ | exact List.nil_sublist _ | refine List.Sublist.cons_cons _ ?_ | refine List.Sublist.cons _ ?_)) ?_
       refine RdQ.v (i := 20) (Vop.idxS rfl rfl rfl rfl rfl Tryz.underlying22 Tryz.sizeOf33 (k) ⟨rfl, hlsk⟩) (List.nil_sublist _) rfl rfl rfl rfl (by repeat (first | exact List.Sublist.refl _ | exact List.nil_sublist _ | refine List.Sublist.cons_cons _ ?_ | refine List.Sublist.cons _ ?_)) ?_
       refine RdQ.stE (i := 21) U _ rfl rfl rfl rfl rfl Tryz.sizeOf33 rfl 2 rfl hlsk (by rw [cur_after rfl]; exact List.nil_sublist _) ?_
       refine RdQ.u (i := 22) (Vop.idxS rfl rfl rfl rfl rfl Tryz.underlying76 Tryz.sizeOf4 (k) ⟨rfl, hlfk⟩) (List.nil_sublist _) rfl rfl rfl (by rw [cur_after rfl]; exact List.nil_sublist _) ?_
       refine RdQ.stE (i := 23) Value.bool _ rfl rfl rfl rfl rfl Tryz.sizeOf4 rfl 1 rfl hlfk (by rw [cur_after rfl]; exact List.nil_sublist _) ?_
       refine RdQ.done rfl ?_
       refine gE (gIb (gR ?_))
       refine GoH.v (Vop.bin rfl rfl rfl rfl (bAdd (by omega)) rfl) ?_
       refine gMv ?_
       refine gE ?_
       refine IH (k + 1) _ _ hlt (by omega) ⟨rfl, rfl, by simp only [prt_len]; rfl, by simp only [prt_len]; rfl, rfl, rfl, rfl, trivial⟩ ?_
       rw [hst2, hst1, show finB m.rel.length m.val.length (treeAt f k) = PF k from by rw [hPF], show setV n m.val m.rel f k = PS k from by rw [hPS], prt_set hlt, prt_set hlt]
       exact .cons _ (List.Sublist.refl _)
      ·
       have hfx1 : PF kx = false := by rw [← hfxv]; exact hc
       have hno := fin_noX (A := m.rel.length) (B := m.val.length) hlt hO hX (by rw [etx]; rw [hPF] at hfx1; exact hfx1)
       refine gK (gIb (gR ?_))
       refine GoH.v (Vop.bin rfl rfl rfl rfl (bAdd (by omega)) rfl) ?_
       refine gMv ?_
       refine gE ?_
       refine IH (k + 1) _ _ hlt (by omega) ⟨rfl, rfl, by simp only [prt_len]; rfl, by simp only [prt_len]; rfl, rfl, rfl, rfl, trivial⟩ ?_
       rw [prt_skip (P := PS) (k := k) (d := 0#64) (by rw [hPS]; exact setV_no hno), prt_skip (P := PF) (k := k) (d := false) (by rw [hPF]; exact hno)]
       exact .cons _ (List.Sublist.refl _)
    ·
     have h4 : ¬ 4 ≤ f[k].op := by simpa using hc
     have noX : ¬ usX f[k].op = true := by rw [hXi]; simpa using h4
     refine gK (gS (gS (gR ?_)))
     refine gFp Tryz.underlying54 Tryz.sizeOf3 0 ?_
     refine gLo Tryz.isAgg3 0 ?_
     refine GoH.v (Vop.bin rfl rfl rfl rfl (bGeV (v := false) (decide_eq_false (by show ¬ f[k].op ≥ 5; omega))) rfl) ?_
     refine gMv ?_
     iterate 3 refine gNo ?_
     refine gPf ?_
     refine gMv ?_
     refine gFp Tryz.underlying54 Tryz.sizeOf3 0 ?_
     refine gLo Tryz.isAgg3 0 ?_
     refine GoH.v (Vop.bin rfl rfl rfl rfl (bEqV (v := false) (by rw [beq_eq_false_iff_ne]; show f[k].op ≠ 13; omega)) rfl) ?_
     obtain ⟨hst1, hst2⟩ := set_step (n := n) (val := m.val) (rel := m.rel) (x := (prt f.length PS 0#64 k).getD kx 0#64) (y := (prt f.length PS 0#64 k).getD ky 0#64) hlt hO (fun hX => by rw [etx]; exact absurd hX noX) (fun hY h13 => by rw [ety]; exact absurd (usY_X hY) noX) (fun hX => by rw [(hsx hX).1, hPS, etx]) (fun hY => by rw [(hsy hY).1, hPS, ety])
     refine gPf ?_
     refine gE (GoH.condF rfl (gK (gS (gR ?_))))
     refine gMv ?_
     refine gE (GoH.condT rfl ?_)
     refine GoH.drawQ 25 21 [] mixed ?_
     refine RdQ.v (i := 0) (Vop.mv rfl rfl rfl rfl) (List.nil_sublist _) rfl rfl rfl rfl (by repeat (first | exact List.Sublist.refl _ | exact List.nil_sublist _ | refine List.Sublist.cons_cons _ ?_ | refine List.Sublist.cons _ ?_)) ?_
     refine RdQ.v (i := 1) (Vop.mv rfl rfl rfl rfl) (List.nil_sublist _) rfl rfl rfl rfl (by repeat (first | exact List.Sublist.refl _ | exact List.nil_sublist _ | refine List.Sublist.cons_cons _ ?_ | refine List.Sublist.cons _ ?_)) ?_
     refine RdQ.u (i := 2) (Vop.mv rfl rfl rfl rfl) (List.nil_sublist _) rfl rfl rfl (by rw [cur_before rfl]; repeat (first | exact List.Sublist.refl _ | exact List.nil_sublist _ | refine List.Sublist.cons_cons _ ?_ | refine List.Sublist.cons _ ?_)) ?_
     refine RdQ.u (i := 3) (Vop.mv rfl rfl rfl rfl) (List.nil_sublist _) rfl rfl rfl (by rw [cur_before rfl]; repeat (first | exact List.Sublist.refl _ | exact List.nil_sublist _ | refine List.Sublist.cons_cons _ ?_ | refine List.Sublist.cons _ ?_)) ?_
     refine RdQ.v (i := 4) (Vop.ldB rfl rfl rfl rfl Tryz.isAgg25 3 rfl Tryz.sizeOf25 rfl) (List.nil_sublist _) rfl rfl rfl rfl (by repeat (first | exact List.Sublist.refl _ | exact List.nil_sublist _ | refine List.Sublist.cons_cons _ ?_ | refine List.Sublist.cons _ ?_)) ?_
     refine RdQ.v (i := 5) (Vop.ldB rfl rfl rfl rfl Tryz.isAgg54 0 rfl Tryz.sizeOf54 rfl) (List.nil_sublist _) rfl rfl rfl rfl (by repeat (first | exact List.Sublist.refl _ | exact List.nil_sublist _ | refine List.Sublist.cons_cons _ ?_ | refine List.Sublist.cons _ ?_)) ?_
     refine RdQ.v (i := 6) (Vop.mv rfl rfl rfl rfl) (List.nil_sublist _) rfl rfl rfl rfl (by repeat (first | exact List.Sublist.refl _ | exact List.nil_sublist _ | refine List.Sublist.cons_cons _ ?_ | refine List.Sublist.cons _ ?_)) ?_
     refine RdQ.v (i := 7) (Vop.fldP rfl rfl rfl rfl Tryz.underlying54 rfl (by exact Tryz.sizeOf3) 4 rfl) (List.nil_sublist _) rfl rfl rfl rfl (by repeat (first | exact List.Sublist.refl _ | exact List.nil_sublist _ | refine List.Sublist.cons_cons _ ?_ | refine List.Sublist.cons _ ?_)) ?_
     refine RdQ.v (i := 8) (Vop.ldo rfl rfl rfl rfl Tryz.isAgg3 0 rfl rfl) (List.nil_sublist _) rfl rfl rfl rfl (by repeat (first | exact List.Sublist.refl _ | exact List.nil_sublist _ | refine List.Sublist.cons_cons _ ?_ | refine List.Sublist.cons _ ?_)) ?_
     refine RdQ.v (i := 9) (Vop.idxS rfl rfl rfl rfl rfl Tryz.underlying22 Tryz.sizeOf33 (kx) ⟨hkx, hlsx⟩) (List.nil_sublist _) rfl rfl rfl rfl (by repeat (first | exact List.Sublist.refl _ | exact List.nil_sublist _ | refine List.Sublist.cons_cons _ ?_ | refine List.Sublist.cons _ ?_)) ?_
     refine RdQ.v (i := 10) (Vop.ldE U 0#64 rfl rfl rfl rfl Tryz.isAgg33 2 rfl hlsx) (List.nil_sublist _) rfl rfl rfl rfl (by repeat (first | exact List.Sublist.refl _ | exact List.nil_sublist _ | refine List.Sublist.cons_cons _ ?_ | refine List.Sublist.cons _ ?_)) ?_
     refine RdQ.v (i := 11) (Vop.mv rfl rfl rfl rfl) (List.nil_sublist _) rfl rfl rfl rfl (by repeat (first | exact List.Sublist.refl _ | exact List.nil_sublist _ | refine List.Sublist.cons_cons _ ?_ | refine List.Sublist.cons _ ?_)) ?_
     refine RdQ.v (i := 12) (Vop.fldP rfl rfl rfl rfl Tryz.underlying54 rfl (by exact Tryz.sizeOf3) 5 rfl) (List.nil_sublist _) rfl rfl rfl rfl (by repeat (first | exact List.Sublist.refl _ | exact List.nil_sublist _ | refine List.Sublist.cons_cons _ ?_ | refine List.Sublist.cons _ ?_)) ?_
     refine RdQ.v (i := 13) (Vop.ldo rfl rfl rfl rfl Tryz.isAgg3 0 rfl rfl) (List.nil_sublist _) rfl rfl rfl rfl (by repeat (first | exact List.Sublist.refl _ | exact List.nil_sublist _ | refine List.Sublist.cons_cons _ ?_ | refine List.Sublist.cons _ ?_)) ?_
     refine RdQ.v (i := 14) (Vop.idxS rfl rfl rfl rfl rfl Tryz.underlying22 Tryz.sizeOf33 (ky) ⟨hky, hlsy⟩) (List.nil_sublist _) rfl rfl rfl rfl (by repeat (first | exact List.Sublist.refl _ | exact List.nil_sublist _ | refine List.Sublist.cons_cons _ ?_ | refine List.Sublist.cons _ ?_)) ?_
     refine RdQ.v (i := 15) (Vop.ldE U 0#64 rfl rfl rfl rfl Tryz.isAgg33 2 rfl hlsy) (List.nil_sublist _) rfl rfl rfl rfl (by repeat (first | exact List.Sublist.refl _ | exact List.nil_sublist _ | refine List.Sublist.cons_cons _ ?_ | refine List.Sublist.cons _ ?_)) ?_
     refine RdQ.callP (i := 16) rfl rfl rfl rfl rfl rfl (fun _ _ => Tryz.call43 _ _) (fun w _ hS => (by exact pvalue_c m n f[k] _ _ w (hm.ex0 hS.ext) hv hn hop hF)) (by rw [cur_before rfl]; repeat (first | exact List.Sublist.refl _ | exact List.nil_sublist _ | refine List.Sublist.cons_cons _ ?_ | refine List.Sublist.cons _ ?_)) ?_
     refine RdQ.v (i := 17) (Vop.mv rfl rfl rfl rfl) (List.nil_sublist _) rfl rfl rfl rfl (by repeat (first | exact List.Sublist.refl _ | exact List.nil_sublist _ | refine List.Sublist.cons_cons _ ?_ | refine List.Sublist.cons _ ?_)) ?_
     refine RdQ.v (i := 18) (Vop.ext rfl rfl rfl rfl rfl) (List.nil_sublist _) rfl rfl rfl rfl (by repeat (first | exact List.Sublist.refl _ | exact List.nil_sublist _ | refine List.Sublist.cons_cons _ ?_ | refine List.Sublist.cons _ ?_)) ?_
     refine RdQ.u (i := 19) (Vop.ext rfl rfl rfl rfl rfl) (List.nil_sublist _) rfl rfl rfl (by rw [cur_before rfl]; repeat (first | exact List.Sublist.refl _ | exact List.nil_sublist _ | refine List.Sublist.cons_cons _ ?_ | refine List.Sublist.cons _ ?_)) ?_
     refine RdQ.v (i := 20) (Vop.idxS rfl rfl rfl rfl rfl Tryz.underlying22 Tryz.sizeOf33 (k) ⟨rfl, hlsk⟩) (List.nil_sublist _) rfl rfl rfl rfl (by repeat (first | exact List.Sublist.refl _ | exact List.nil_sublist _ | refine List.Sublist.cons_cons _ ?_ | refine List.Sublist.cons _ ?_)) ?_
     refine RdQ.stE (i := 21) U _ rfl rfl rfl rfl rfl Tryz.sizeOf33 rfl 2 rfl hlsk (by rw [cur_after rfl]; exact List.nil_sublist _) ?_
     refine RdQ.u (i := 22) (Vop.idxS rfl rfl rfl rfl rfl Tryz.underlying76 Tryz.sizeOf4 (k) ⟨rfl, hlfk⟩) (List.nil_sublist _) rfl rfl rfl (by rw [cur_after rfl]; exact List.nil_sublist _) ?_
     refine RdQ.stE (i := 23) Value.bool _ rfl rfl rfl rfl rfl Tryz.sizeOf4 rfl 1 rfl hlfk (by rw [cur_after rfl]; exact List.nil_sublist _) ?_
     refine RdQ.done rfl ?_
     refine gE (gIb (gR ?_))
     refine GoH.v (Vop.bin rfl rfl rfl rfl (bAdd (by omega)) rfl) ?_
     refine gMv ?_
     refine gE ?_
     refine IH (k + 1) _ _ hlt (by omega) ⟨rfl, rfl, by simp only [prt_len]; rfl, by simp only [prt_len]; rfl, rfl, rfl, rfl, trivial⟩ ?_
     rw [hst2, hst1, show finB m.rel.length m.val.length (treeAt f k) = PF k from by rw [hPF], show setV n m.val m.rel f k = PS k from by rw [hPS], prt_set hlt, prt_set hlt]
     exact .cons _ (List.Sublist.refl _)
   ·
    have hge : ¬ k < f.length := by simpa using hc
    obtain rfl : k = f.length := by omega
    refine GoH.exit rfl (gS (gR ?_))
    refine gMv ?_
    iterate 2 refine gAs ?_
    refine gE ?_
    refine GoH.ret Tryz.f26 Tryz.func26 rfl (fun w' hS => ?_)
    refine ⟨hS.ext, _, by rw [h0]; rfl, ?_⟩
    rw [if_pos h0, show setsP n m.val m.rel f = prt f.length PS 0#64 f.length from by rw [prt_all, hPS]; rfl]
    exact ⟨some b20, f.length, [], by rw [prt_len]; rfl, (fun e => by cases e), by simp [prt_len], fun b' hb => by cases hb; exact ⟨hS.fresh (j := 1) rfl, hS.get (j := 1) rfl⟩⟩
theorem holdS_top {m : MV} {n : Nat} {f : List NV} (h0 : holdE m.n m.val m.rel f = 0) : (setsP n m.val m.rel f).length = f.length ∧ 0 < f.length ∧ (setsP n m.val m.rel f).getD (f.length - 1) 0#64 = holdS m n f := by
  obtain ⟨_, hck, hstat⟩ := holdE_zero.1 h0
  have hpos := (chkF_zero.1 hck).pos
  exact ⟨by simp [setsP], hpos, by rw [setsP_top hpos hstat, holdS, if_pos h0]⟩
theorem pholds_c (m : MV) (n : Nat) (a : Option Addr) (ca : Nat) (f : List NV) (w : World) (hm : m.At w) (hn : m.n = (n : Int)) (ha : FA w a f) (hl : f.length ≤ maxLen) :
    Cn Tryz.prog 11 [m.v, .slice a f.length ca] w (fun v _ => v = .tuple #[U (holdS m n f), .int .i64 (holdE m.n m.val m.rel f)]) := by
  have hl' := hl
  unfold maxLen at hl'
  refine Cn.of Tryz.func11 rfl rfl ?_
  refine gS (gR ?_)
  refine GoH.bx rfl rfl rfl rfl (fun b2 => ?_)
  refine GoH.v (Vop.asg (v := U 0#64) rfl rfl rfl rfl) ?_
  refine gAs ?_
  refine gE (gS (gR ?_))
  refine GoH.v (Vop.ldB rfl rfl rfl rfl Tryz.isAgg25 0 rfl Tryz.sizeOf25 rfl) ?_
  refine gMv ?_
  refine GoH.callM _ rfl rfl rfl rfl rfl (fun _ _ => Tryz.call26 _ _) (fun w _ hS => (by exact psets_c m n a ca f w (hm.ex0 hS.ext) hn (ha.ex0 hS.ext) hl)) ?_
  rintro v w1 w2 Y' hS he ⟨sv, rfl, ho⟩
  obtain ⟨q, cap, sp, rfl, hq, hcap, hS'⟩ := gainO hS he ho
  refine ⟨_, hS', ?_⟩
  refine gMv ?_
  iterate 2 refine gEx ?_
  iterate 2 refine gAs ?_
  refine gE (gS (gS (gR ?_)))
  refine gMv ?_
  refine gBi bNe ?_
  refine gE ?_
  refine GoH.cond rfl (fun hc => ?_) (fun hc => ?_)
  ·
   have h0 : holdE m.n m.val m.rel f ≠ 0 := by simpa using hc
   refine gS (gR ?_)
   refine gMv ?_
   refine GoH.v (Vop.asg (v := U 0#64) rfl rfl rfl rfl) ?_
   refine gAs ?_
   refine gE ?_
   refine GoH.ret Tryz.f11 Tryz.func11 rfl (fun w' hS => ?_)
   exact ⟨hS.ext, by rw [show holdS m n f = 0#64 from if_neg h0]; rfl⟩
  ·
   have h0 : holdE m.n m.val m.rel f = 0 := by simpa using hc
   obtain ⟨hsl, hpos, htop⟩ := holdS_top (n := n) h0
   rw [if_pos h0] at hq hcap ⊢
   obtain ⟨b, rfl⟩ : ∃ b, q = some b := by
     cases q with
     | none => have := (hq rfl).1; omega
     | some b => exact ⟨b, rfl⟩
   have hlt : f.length - 1 < (setsP n m.val m.rel f).length := by omega
   refine gK (gS (gR ?_))
   iterate 2 refine gMv ?_
   refine gBl Tryz.underlying22 ?_
   refine GoH.v (Vop.bin rfl rfl rfl rfl (bSubE (c := ((f.length - 1 : Nat) : Int)) (by rw [hsl]; omega) (by omega)) rfl) ?_
   refine GoH.v (Vop.idxS rfl rfl rfl rfl rfl Tryz.underlying22 Tryz.sizeOf33 (f.length - 1) ⟨rfl, hlt⟩) ?_
   refine GoH.v (Vop.ldE U 0#64 rfl rfl rfl rfl Tryz.isAgg33 0 rfl hlt) ?_
   iterate 2 refine gAs ?_
   refine gE ?_
   refine GoH.ret Tryz.f11 Tryz.func11 rfl (fun w' hS => ?_)
   exact ⟨hS.ext, by rw [h0, htop]; rfl⟩
theorem pat_c (m : MV) (n : Nat) (x : Nat) (a : Option Addr) (ca : Nat) (f : List NV) (w : World) (hm : m.At w) (hn : m.n = (n : Int)) (hx : x < n) (ha : FA w a f) (hl : f.length ≤ maxLen) (h0 : holdE m.n m.val m.rel f = 0) :
    Cn Tryz.prog 17 [m.v, .int .i64 x, .slice a f.length ca] w (fun v _ => v = .tuple #[.bool ((holdS m n f).getLsbD x), .int .i64 0]) := by
  refine Cn.of Tryz.func17 rfl rfl ?_
  refine gS (gR ?_)
  refine GoH.bx rfl rfl rfl rfl (fun b3 => ?_)
  iterate 2 refine gAs ?_
  refine gE (gS (gR ?_))
  refine GoH.v (Vop.ldB rfl rfl rfl rfl Tryz.isAgg25 0 rfl Tryz.sizeOf25 rfl) ?_
  refine gMv ?_
  refine GoH.callP rfl rfl rfl rfl rfl (fun _ _ => Tryz.call11 _ _) (fun w _ hS => (by have := pholds_c m n a ca f w (hm.ex0 hS.ext) hn (ha.ex0 hS.ext) hl; rw [h0] at this; exact this)) ?_
  refine gMv ?_
  iterate 2 refine gEx ?_
  iterate 2 refine gAs ?_
  refine gE (gS (gS (gR ?_)))
  refine gMv ?_
  refine GoH.v (Vop.bin rfl rfl rfl rfl (bNeV (v := false) rfl) rfl) ?_
  refine gE (GoH.condF rfl (gK (gS (gS (gR ?_)))))
  refine gMv ?_
  refine GoH.v (Vop.bin rfl rfl rfl rfl (bLtV (v := false) (decide_eq_false (by omega))) rfl) ?_
  iterate 2 refine gMv ?_
  refine gFp Tryz.underlying25 Tryz.sizeOf3 0 ?_
  refine GoH.v (Vop.ldo (v := .int .i64 m.n) rfl rfl rfl rfl Tryz.isAgg3 0 rfl rfl) ?_
  refine GoH.v (Vop.bin rfl rfl rfl rfl (bGeV (v := false) (decide_eq_false (by omega))) rfl) ?_
  refine gPf ?_
  refine gE (GoH.condF rfl (gK (gS (gR ?_))))
  iterate 2 refine gMv ?_
  refine GoH.v (Vop.bin rfl rfl rfl rfl (bShr x rfl) rfl) ?_
  refine GoH.v (Vop.bin (b := U 1#64) rfl rfl rfl rfl bAnd rfl) ?_
  refine GoH.v (Vop.bin (b := U 1#64) rfl rfl rfl rfl bEqU rfl) ?_
  iterate 2 refine gAs ?_
  refine gE ?_
  refine GoH.ret Tryz.f17 Tryz.func17 rfl (fun w' hS => ?_)
  refine ⟨hS.ext, ?_⟩
  rw [← shr_bit]; rfl
end Go.Proofs.YthojdcaojjmoaaaGreatDoor
namespace Go.Proofs.YthojdcaojjmoaaaGreatDoor
open Go.RowKit Go.Proofs.Wit
/-! the program's other makers of formulas -/
theorem true_c (w : World) : Cn Tryz.prog 117 [] w (fun v w' => OwnN 54 w w' v (bldF ⟨1, 0, 0, 0, 0, 0⟩ [])) := by
  refine Cn.of Tryz.func117 rfl rfl ?_
  refine gS (gR ?_)
  refine gAs ?_
  refine gE (gS (gR ?_))
  refine GoH.v (Vop.bld rfl rfl rfl rfl (bld (c := [_, _, _, _, _, _]) Tryz.underlying54 (Szs.cons Tryz.sizeOf3 (Szs.cons Tryz.sizeOf3 (Szs.cons Tryz.sizeOf3 (Szs.cons Tryz.sizeOf3 (Szs.cons Tryz.sizeOf3 (Szs.cons Tryz.sizeOf3 Szs.nil)))))) Tryz.zeroValue54 rfl)) ?_
  refine GoH.callM _ rfl rfl rfl rfl rfl (fun _ _ => Tryz.call102 _ _) (fun w _ hS => (by exact build_c ⟨1, 0, 0, 0, 0, 0⟩ none 0 [] [] w rfl (Sl.nil _ _) (fun g hg => by cases hg) (fun g hg => by cases hg) (by simp))) ?_
  rintro v w1 w2 Y' hS he ho
  obtain ⟨q, cap, sp, rfl, hq, hcap, hS'⟩ := gainN hS he ho
  refine ⟨_, hS', ?_⟩
  refine gAs ?_
  refine gE ?_
  refine GoH.ret Tryz.f117 Tryz.func117 rfl (fun w' hS => ?_)
  exact ⟨hS.ext, OwnN.mk hS 0 rfl rfl hq hcap⟩
theorem not_c (a : Option Addr) (ca : Nat) (f : List NV) (w : World) (ha : FA w a f) (hl : f.length ≤ maxLen) : Cn Tryz.prog 80 [.slice a f.length ca] w (fun v w' => OwnN 54 w w' v (bldF ⟨4, 0, 0, 0, 0, 0⟩ [f])) := by
  refine Cn.of Tryz.func80 rfl rfl ?_
  refine gS (gR ?_)
  refine gAs ?_
  refine gE (gS (gR ?_))
  refine GoH.v (Vop.bld rfl rfl rfl rfl (bld (c := [_, _, _, _, _, _]) Tryz.underlying54 (Szs.cons Tryz.sizeOf3 (Szs.cons Tryz.sizeOf3 (Szs.cons Tryz.sizeOf3 (Szs.cons Tryz.sizeOf3 (Szs.cons Tryz.sizeOf3 (Szs.cons Tryz.sizeOf3 Szs.nil)))))) Tryz.zeroValue54 rfl)) ?_
  refine gMv ?_
  refine GoH.bsN (c := [_]) rfl rfl rfl rfl Tryz.underlying138 Tryz.sizeOf26 Tryz.zeroValue26 rfl rfl (fun b5 => ?_)
  refine GoH.callM _ rfl rfl rfl rfl rfl (fun _ _ => Tryz.call102 _ _) (fun w _ hS => (by exact build_c ⟨4, 0, 0, 0, 0, 0⟩ (some ⟨b5, 0, none⟩) 1 [⟨a, ca, f⟩] [f] w rfl (Sl.blk (sp := []) (hS.get (j := 0) rfl)) (fun g hg => by rw [List.mem_singleton.1 hg]; exact ha.ex0 hS.ext) (fun g hg => by rw [List.mem_singleton.1 hg]; exact hl) (by simp))) ?_
  rintro v w1 w2 Y' hS he ho
  obtain ⟨q, cap, sp, rfl, hq, hcap, hS'⟩ := gainN hS he ho
  refine ⟨_, hS', ?_⟩
  refine gAs ?_
  refine gE ?_
  refine GoH.ret Tryz.f80 Tryz.func80 rfl (fun w' hS => ?_)
  exact ⟨hS.ext, OwnN.mk hS 0 rfl rfl hq hcap⟩
theorem and_c (a : Option Addr) (ca : Nat) (f : List NV) (b : Option Addr) (cb : Nat) (g : List NV) (w : World) (ha : FA w a f) (hl : f.length ≤ maxLen) (hb : FA w b g) (hl2 : g.length ≤ maxLen) : Cn Tryz.prog 118 [.slice a f.length ca, .slice b g.length cb] w (fun v w' => OwnN 54 w w' v (bldF ⟨5, 0, 0, 0, 0, 0⟩ [f, g])) := by
  refine Cn.of Tryz.func118 rfl rfl ?_
  refine gS (gR ?_)
  refine gAs ?_
  refine gE (gS (gR ?_))
  refine GoH.v (Vop.bld rfl rfl rfl rfl (bld (c := [_, _, _, _, _, _]) Tryz.underlying54 (Szs.cons Tryz.sizeOf3 (Szs.cons Tryz.sizeOf3 (Szs.cons Tryz.sizeOf3 (Szs.cons Tryz.sizeOf3 (Szs.cons Tryz.sizeOf3 (Szs.cons Tryz.sizeOf3 Szs.nil)))))) Tryz.zeroValue54 rfl)) ?_
  iterate 2 refine gMv ?_
  refine GoH.bsN (c := [_, _]) rfl rfl rfl rfl Tryz.underlying138 Tryz.sizeOf26 Tryz.zeroValue26 rfl rfl (fun b8 => ?_)
  refine GoH.callM _ rfl rfl rfl rfl rfl (fun _ _ => Tryz.call102 _ _) (fun w _ hS => (by exact build_c ⟨5, 0, 0, 0, 0, 0⟩ (some ⟨b8, 0, none⟩) 2 [⟨a, ca, f⟩, ⟨b, cb, g⟩] [f, g] w rfl (Sl.blk (sp := []) (hS.get (j := 0) rfl)) (all2 (p := fun g : FV => FA _ g.a g.f) (ha.ex0 hS.ext) (hb.ex0 hS.ext)) (all2 (p := fun g : FV => g.f.length ≤ maxLen) hl hl2) (by simp))) ?_
  rintro v w1 w2 Y' hS he ho
  obtain ⟨q, cap, sp, rfl, hq, hcap, hS'⟩ := gainN hS he ho
  refine ⟨_, hS', ?_⟩
  refine gAs ?_
  refine gE ?_
  refine GoH.ret Tryz.f118 Tryz.func118 rfl (fun w' hS => ?_)
  exact ⟨hS.ext, OwnN.mk hS 0 rfl rfl hq hcap⟩
/-- And of formulas, from left to right -/
theorem joinAnd_c (A : Option Addr) (cA : Nat) (gs : List FV) (E : Option Addr) (cE : Nat) (ef : List NV) (w : World) (hA : SlG w A gs) (hfa : ∀ g ∈ gs, FA w g.a g.f) (hgl : ∀ g ∈ gs, g.f.length ≤ maxLen) (hle : gs.length ≤ maxLen) (hcA : gs.length ≤ cA) :
    Cn Tryz.prog 116 [.slice A gs.length cA, .slice E ef.length cE, .func (.func 118) #[] #[]] w (fun v w' => (gs = [] → v = .slice E ef.length cE) ∧ (gs ≠ [] → OwnN 54 w w' v (bldAll (gs.map FV.f)))) := by
  unfold maxLen at hle
  refine Cn.of Tryz.func116 rfl rfl ?_
  refine gS (gR ?_)
  refine gAs ?_
  refine gE (gS (gS (gR ?_)))
  refine gMv ?_
  refine gBl Tryz.underlying138 ?_
  refine gBi bEq ?_
  refine gE ?_
  refine GoH.cond rfl (fun hc => ?_) (fun hc => ?_)
  ·
   have h0 : gs = [] := List.eq_nil_of_length_eq_zero (by simpa using hc)
   refine gS (gR ?_)
   refine gMv ?_
   refine gAs ?_
   refine gE ?_
   refine GoH.ret Tryz.f116 Tryz.func116 rfl (fun w' hS => ?_)
   exact ⟨hS.ext, fun _ => rfl, fun h => absurd h0 h⟩
  ·
   have h0 : 0 < gs.length := by
     have : ¬ gs.length = 0 := by simpa using hc
     omega
   obtain ⟨g, gt, rfl⟩ : ∃ g gt, gs = g :: gt := by
     cases gs with
     | nil => exact absurd h0 (by simp)
     | cons g gt => exact ⟨g, gt, rfl⟩
   have hgt : ∀ x ∈ gt, FA w x.a x.f ∧ x.f.length ≤ maxLen := fun x hx => ⟨hfa x (by simp [hx]), hgl x (by simp [hx])⟩
   have hdr : SlG w (aSl A cA 1 1) gt := by
     have := Sl.drop (w := w) hA (cap := cA) (lo := 1) (by simpa using hcA)
     simpa [SlG] using this
   have hlen1 : (g :: gt).length - 1 = gt.length := by simp
   refine gK (gS (gR ?_))
   refine gMv ?_
   refine GoH.v (Vop.idx (xs := (g :: gt).map FV.v) rfl rfl rfl rfl rfl Tryz.underlying138 Tryz.sizeOf26 ⟨_, hA⟩ (by simp) 0 ⟨rfl, by simp⟩) ?_
   refine GoH.v (Vop.ld rfl rfl rfl rfl Tryz.isAgg26 (fun w _ hS => (SlG.at (SlG.ex0 hA hS.ext) 0 (by simp)))) ?_
   refine GoH.callM _ rfl rfl rfl rfl rfl (fun _ _ => Tryz.call107 _ _) (fun w _ hS => (by exact fcompact_c g.a g.c g.f w ((hfa g (by simp)).ex0 hS.ext) (hgl g (by simp)))) ?_
   rintro v w1 w2 Y' hS he ho
   rw [subF_top] at ho
   obtain ⟨q, cap, sp, rfl, hq, hcap, hS'⟩ := gainN hS he ho
   refine ⟨_, hS', ?_⟩
   refine gAs ?_
   refine gE (gS (gS (gR ?_)))
   refine gMv ?_
   refine GoH.v (Vop.slLo (lo := 1) rfl rfl rfl rfl rfl Tryz.underlying138 Tryz.sizeOf26 rfl (by simp)) ?_
   rw [hlen1]
   refine gBl Tryz.underlying138 ?_
   refine gMv ?_
   refine gE (gB ?_)
   refine GoH.loop (σ := Nat × Option Nat × Nat × List Value) (fun z => [(2, .func (.func 118) #[] #[]), (7, osv z.2.1 (((gt.take z.1).map FV.f).foldl andB (compF g.f)).length z.2.2.1), (19, .slice (aSl A cA 1 1) gt.length (cA - 1)), (20, .int .i64 gt.length), (21, .int .i64 z.1)]) (fun z => [(z.2.1, obN 54 (((gt.take z.1).map FV.f).foldl andB (compF g.f)) z.2.2.2)])
     (fun z => z.1 ≤ gt.length ∧ (((gt.take z.1).map FV.f).foldl andB (compF g.f)).length ≤ 200 ∧ (z.2.1 = none → (((gt.take z.1).map FV.f).foldl andB (compF g.f)).length = 0 ∧ z.2.2.1 = 0) ∧ ((((gt.take z.1).map FV.f).foldl andB (compF g.f)).flatMap NV.cells ++ z.2.2.2).length = z.2.2.1 * 6) (fun z => gt.length - z.1) (0, q, cap, sp)
     ⟨Nat.zero_le _, compF_le _, hq, hcap⟩ ⟨rfl, rfl, rfl, rfl, rfl, trivial⟩ (List.Sublist.refl _) (fun z hI IH => ?_)
   obtain ⟨k, q, cap, sp⟩ := z
   obtain ⟨hk, hl2, hq, hcap⟩ := hI
   dsimp only at hk hl2 hq hcap IH ⊢
   refine gS (gR ?_)
   refine gBi bLt ?_
   refine gE (gS ?_)
   refine GoH.cond rfl (fun hc => ?_) (fun hc => ?_)
   ·
    have hlt : k < gt.length := by simpa using hc
    have hgk := hgt gt[k] (List.getElem_mem hlt)
    have hsn : ((gt.take (k + 1)).map FV.f).foldl andB (compF g.f) = andB (((gt.take k).map FV.f).foldl andB (compF g.f)) gt[k].f := by
      rw [List.take_succ_eq_append_getElem hlt, List.map_append, List.foldl_append]; rfl
    refine gK (gS (gB (gS (gR ?_))))
    refine GoH.v (Vop.idx (xs := gt.map FV.v) rfl rfl rfl rfl rfl Tryz.underlying138 Tryz.sizeOf26 ⟨_, hdr⟩ (by simp) k ⟨rfl, by simpa using hlt⟩) ?_
    refine GoH.v (Vop.ld rfl rfl rfl rfl Tryz.isAgg26 (fun w _ hS => (SlG.at (SlG.ex0 hdr hS.ext) k hlt))) ?_
    refine gAs ?_
    refine gE (gR ?_)
    iterate 3 refine gMv ?_
    refine GoH.callM _ rfl rfl rfl rfl rfl (fun _ _ => Tryz.call118 _ _) (fun w _ hS => (by exact and_c (q.map (fun b => ⟨b, 0, none⟩)) cap _ gt[k].a gt[k].c gt[k].f w (faAt hS 0 rfl (fun e => (hq e).1)) (by unfold maxLen; omega) (hgk.1.ex0 hS.ext) hgk.2)) ?_
    rintro v w1 w2 Y' hS he ho
    rw [show bldF ⟨5, 0, 0, 0, 0, 0⟩ [((gt.take k).map FV.f).foldl andB (compF g.f), gt[k].f] = ((gt.take (k + 1)).map FV.f).foldl andB (compF g.f) from hsn.symm] at ho
    obtain ⟨q', cap', sp', rfl, hq', hcap', hS'⟩ := gainN hS he ho
    have hl3 : (((gt.take (k + 1)).map FV.f).foldl andB (compF g.f)).length ≤ 200 := by rw [hsn, andB]; exact bldF_le _ _
    refine ⟨_, hS', ?_⟩
    refine gAs ?_
    refine gE (gIb (gR ?_))
    refine GoH.v (Vop.bin rfl rfl rfl rfl (bAdd (by omega)) rfl) ?_
    refine gMv ?_
    refine gE ?_
    exact IH (k + 1, q', cap', sp') _ _ ⟨hlt, hl3, hq', hcap'⟩ (by dsimp only; omega) ⟨rfl, rfl, rfl, rfl, rfl, trivial⟩ (.cons_cons _ (List.nil_sublist _))
   ·
    have hge : ¬ k < gt.length := by simpa using hc
    obtain rfl : k = gt.length := by omega
    rw [List.take_length] at hq hcap ⊢
    refine GoH.exit rfl (gS (gR ?_))
    refine gMv ?_
    refine gAs ?_
    refine gE ?_
    refine GoH.ret Tryz.f116 Tryz.func116 rfl (fun w' hS => ?_)
    exact ⟨hS.ext, fun h => (by cases h), fun _ => OwnN.mk hS 0 rfl rfl hq hcap⟩
theorem allF_c (A : Option Addr) (cA : Nat) (gs : List FV) (w : World) (hA : SlG w A gs) (hfa : ∀ g ∈ gs, FA w g.a g.f) (hgl : ∀ g ∈ gs, g.f.length ≤ maxLen) (hle : gs.length ≤ maxLen) (hcA : gs.length ≤ cA) :
    Cn Tryz.prog 103 [.slice A gs.length cA] w (fun v w' => OwnN 54 w w' v (bldAll (gs.map FV.f))) := by
  refine Cn.of Tryz.func103 rfl rfl ?_
  refine gS (gR ?_)
  refine gAs ?_
  refine gE (gS (gR ?_))
  refine gMv ?_
  refine GoH.callM _ rfl rfl rfl rfl rfl (fun _ _ => Tryz.call117 _ _) (fun w _ hS => true_c w) ?_
  rintro v w1 w2 Y' hS he ho
  obtain ⟨q, cap, sp, rfl, hq, hcap, hS'⟩ := gainN hS he ho
  refine ⟨_, hS', ?_⟩
  refine GoH.callM _ rfl rfl rfl rfl rfl (fun _ _ => Tryz.call116 _ _) (fun w _ hS => (by exact joinAnd_c A cA gs (q.map (fun b => ⟨b, 0, none⟩)) cap _ w (SlG.ex0 hA hS.ext) (fun g hg => (hfa g hg).ex0 hS.ext) hgl hle hcA)) ?_
  rintro v w1 w2 Y' hS he ⟨h1, h2⟩
  have hfin : ∃ q cap sp, v = osv q (bldAll (gs.map FV.f)).length cap ∧ (q = none → (bldAll (gs.map FV.f)).length = 0 ∧ cap = 0) ∧ ((bldAll (gs.map FV.f)).flatMap NV.cells ++ sp).length = cap * 6 ∧ St w [] w2 [(q, obN 54 (bldAll (gs.map FV.f)) sp)] Y' := by
    by_cases h0 : gs = []
    · subst h0
      exact ⟨q, cap, sp, h1 rfl, hq, hcap, hS.later he⟩
    · obtain ⟨q2, cap2, sp2, e1, hq2, hcap2, hS'⟩ := gainN hS he (h2 h0)
      exact ⟨q2, cap2, sp2, e1, hq2, hcap2, hS'.subH (.cons_cons _ (List.nil_sublist _))⟩
  obtain ⟨q2, cap2, sp2, rfl, hq2, hcap2, hS'⟩ := hfin
  refine ⟨_, hS', ?_⟩
  refine gAs ?_
  refine gE ?_
  refine GoH.ret Tryz.f103 Tryz.func103 rfl (fun w' hS => ?_)
  exact ⟨hS.ext, OwnN.mk hS 0 rfl rfl hq2 hcap2⟩
end Go.Proofs.YthojdcaojjmoaaaGreatDoor
namespace Go.Proofs.YthojdcaojjmoaaaGreatDoor
open Go.RowKit Go.Proofs.Wit
/-! a maker's methods that only read -/
abbrev zI (l : List Nat) : List Int := l.map (fun i : Nat => (i : Int))
theorem members_c21 (s0 : W64) (w : World) (hT : Tab w) : Cn Tryz.prog 76 [U s0] w (fun v w' => OwnS I64 3 w w' v (zI (pts s0))) := by
  obtain ⟨i0, hi, hz, hsz, hby⟩ := info_parts infoI
  have hpl : (pts s0).length ≤ 64 := by
    have := List.length_filter_le (fun i => s0.getLsbD i) (List.range 64)
    simpa [pts] using this
  refine Cn.of Tryz.func76 rfl rfl ?_
  refine gS (gR ?_)
  refine gAs ?_
  refine gE (gS (gR ?_))
  refine gAs ?_
  refine gE (gS (gB ?_))
  refine GoH.addNone (ob I64 3 [] []) ?_
  refine GoH.loop (σ := W64 × List Nat × Option Nat × Nat × List Value) (fun z => [(0, U z.1), (3, osv z.2.2.1 (zI z.2.1).length z.2.2.2.1)]) (fun z => [(z.2.2.1, ob I64 3 (zI z.2.1) z.2.2.2.2)])
    (fun z => z.2.1 ++ pts z.1 = pts s0 ∧ (z.2.2.1 = none → (zI z.2.1).length = 0 ∧ z.2.2.2.1 = 0) ∧ ((zI z.2.1).map I64 ++ z.2.2.2.2).length = z.2.2.2.1) (fun z => z.1.toNat) (s0, [], none, 0, [])
    ⟨rfl, fun _ => ⟨rfl, rfl⟩, rfl⟩ ⟨rfl, rfl, trivial⟩ (List.Sublist.refl _) (fun z hI IH => ?_)
  obtain ⟨s, xs, q, cap, sp⟩ := z
  obtain ⟨hx, hq, hcap⟩ := hI
  dsimp only at hx hq hcap IH ⊢
  refine gS (gS (gR ?_))
  refine gMv ?_
  refine GoH.v (Vop.bin (b := U 0#64) rfl rfl rfl rfl bNeU rfl) ?_
  refine gE ?_
  refine GoH.cond rfl (fun hc => ?_) (fun hc => ?_)
  ·
   have hs : s ≠ 0#64 := by simpa using hc
   have hxl : xs.length ≤ 64 := by rw [← hx] at hpl; simp at hpl; omega
   have hzl : (zI xs).length = xs.length := by simp
   refine gK (gS (gB (gR ?_)))
   iterate 2 refine gMv ?_
   refine GoH.callP rfl rfl rfl rfl rfl (fun _ _ => Tryz.call82 _ _) (fun w _ hS => tz_c s w (hT.ex hS.ext) hs) ?_
   refine GoH.bsN (c := [_]) rfl rfl rfl rfl Tryz.underlying36 Tryz.sizeOf3 Tryz.zeroValue3 rfl rfl (fun b13 => ?_)
   refine GoH.appE I64 (xs := zI xs) (sp := sp) (q := q) (news := [((tz s : Nat) : Int)]) (spn := []) rfl rfl rfl rfl rfl Tryz.underlying36 hi hz hsz rfl hq 1 rfl 0 rfl hcap rfl (by decide) (fun _ => rfl) (by unfold maxLen; omega) (by rw [hby]; omega) (fun b' sp' cap' hlen2 => ?_)
   rw [show zI xs ++ [((tz s : Nat) : Int)] = zI (xs ++ [tz s]) from by simp] at hlen2 ⊢
   refine gAs ?_
   refine gE (gIb (gR ?_))
   iterate 2 refine gMv ?_
   refine GoH.v (Vop.bin (b := U 1#64) rfl rfl rfl rfl bSubU rfl) ?_
   refine gBi bAnd ?_
   refine gAs ?_
   refine gE ?_
   exact IH (s &&& (s - 1#64), xs ++ [tz s], some b', cap', sp') _ _ ⟨by rw [← hx, pts_cons hs]; simp, (fun e => by cases e), hlen2⟩ (and_sub_lt hs) ⟨rfl, rfl, trivial⟩ (.cons _ (List.Sublist.refl _))
  ·
   have hs : s = 0#64 := by simpa using hc
   subst hs
   rw [pts_zero, List.append_nil] at hx
   rw [hx] at hq hcap ⊢
   refine GoH.exit rfl (gS (gR ?_))
   refine gMv ?_
   refine gAs ?_
   refine gE ?_
   refine GoH.ret Tryz.f76 Tryz.func76 rfl (fun w' hS => ?_)
   exact ⟨hS.ext, OwnS.mk hS 0 rfl rfl hq hcap⟩
abbrev Mk (w : World) := MkAt 91 w
theorem pre_row {n : Nat} {val : List W64} {rel : List (List W64)} {ps : List IV} (h : PsIs n val rel ps) {k v : Nat} (hk : k < ps.length) (hv : v < n) : ∃ hl : v < ps[k].xs.length, ps[k].xs[v] = (psq n val rel k).getD v 0 := by
  have e := h.2 k hk
  have hl : v < ps[k].xs.length := by rw [e, psq_len]; exact hv
  refine ⟨hl, ?_⟩
  rw [← e]; simp [List.getD_eq_getElem?_getD, hl]
set_option maxRecDepth 4000 in
theorem mkdepth_c (m : MV) (n : Nat) (mD bk : Nat) (pa : Option Addr) (pc : Nat) (ps : List IV) (v x : Nat) (w : World) (hk : Mk w mD bk m pa pc ps) (hP : PsIs n m.val m.rel ps) (hv : v < n) (hx : x < n) (h64 : n ≤ 64) (hn1 : 1 ≤ n) :
    Cn Tryz.prog 41 [.pointer (some ⟨bk, 0, none⟩), .int .i64 v, .int .i64 x] w (fun u _ => u = .int .i64 (optI (dst n m.val m.rel v x))) := by
  have hpl := hP.1
  have hdl := (dep_spec (val := m.val) (rels := m.rel) hn1 h64).1
  have HB : ∀ {w' : World} {j : Nat} {v : Value}, Ex [] w w' → (mkrCs m mD pa ps.length pc)[j]? = some v → w'.cell? ⟨bk, j, none⟩ = some v := fun e h => Ex.cell e hk.blk h
  refine Cn.of Tryz.func41 rfl rfl ?_
  refine gS (gR ?_)
  refine gAs ?_
  refine gE (gS (gS (gR ?_)))
  refine gMv ?_
  refine gNk ?_
  refine gFp Tryz.underlying91 Tryz.sizeOf89 4 ?_
  refine GoH.v (Vop.ld (p := ⟨bk, 4, none⟩) rfl rfl rfl rfl Tryz.isAgg89 (fun w _ hS => HB hS.ext rfl)) ?_
  refine gBl Tryz.underlying89 ?_
  refine gMv ?_
  refine gE (gB ?_)
  refine GoH.loop (σ := Nat) (fun k => [(0, .pointer (some ⟨bk, 0, none⟩)), (1, .int .i64 v), (2, .int .i64 x), (12, .slice pa ps.length pc), (13, .int .i64 ps.length), (14, .int .i64 k)]) (fun _ => []) (fun k => k ≤ ps.length ∧ ∀ i, i < k → apB n m.val m.rel v x i = false) (fun k => ps.length - k) 0 ⟨Nat.zero_le _, fun i h => absurd h (Nat.not_lt_zero _)⟩ ⟨rfl, rfl, rfl, rfl, rfl, rfl, trivial⟩ .slnil (fun k hI IH => ?_)
  obtain ⟨hkl, hno⟩ := hI
  refine gS (gR ?_)
  refine gBi bLt ?_
  refine gE (gS ?_)
  refine GoH.cond rfl (fun hc => ?_) (fun hc => ?_)
  ·
   have hlt : k < ps.length := by simpa using hc
   obtain ⟨hl1, he1⟩ := pre_row hP hlt hv
   obtain ⟨hl2, he2⟩ := pre_row hP hlt hx
   refine gK (gS (gB (gS (gR ?_))))
   refine gMv ?_
   refine GoH.v (Vop.idx (xs := ps.map IV.v) rfl rfl rfl rfl rfl Tryz.underlying89 Tryz.sizeOf36 ⟨_, hk.pre⟩ (by simp) k ⟨rfl, by simpa using hlt⟩) ?_
   refine GoH.v (Vop.ld rfl rfl rfl rfl Tryz.isAgg36 (fun w _ hS => (Sl.at (Sl.ex0 hk.pre hS.ext) k hlt))) ?_
   iterate 2 refine gAs ?_
   refine gE (gS ?_)
   refine GoH.draw 9 mixed rfl ?_
   iterate 2 refine rMv ?_
   refine RdGo.v (Vop.idx rfl rfl rfl rfl rfl Tryz.underlying36 Tryz.sizeOf3 ⟨_, (hk.row ps[k] (List.getElem_mem hlt))⟩ (by simp) (v) ⟨rfl, by simpa using hl1⟩) ?_
   refine RdGo.v (Vop.ld rfl rfl rfl rfl Tryz.isAgg3 (fun w _ hS => (SlI.ex0 (hk.row ps[k] (List.getElem_mem hlt)) hS.ext).at (v) hl1)) ?_
   iterate 2 refine rMv ?_
   refine RdGo.v (Vop.idx rfl rfl rfl rfl rfl Tryz.underlying36 Tryz.sizeOf3 ⟨_, (hk.row ps[k] (List.getElem_mem hlt))⟩ (by simp) (x) ⟨rfl, by simpa using hl2⟩) ?_
   refine RdGo.v (Vop.ld rfl rfl rfl rfl Tryz.isAgg3 (fun w _ hS => (SlI.ex0 (hk.row ps[k] (List.getElem_mem hlt)) hS.ext).at (x) hl2)) ?_
   refine rBi bNe ?_
   refine RdGo.nil ?_
   refine gE ?_
   refine GoH.cond rfl (fun hc => ?_) (fun hc => ?_)
   ·
    have hap : apB n m.val m.rel v x k = true := by rw [apB, ← he1, ← he2]; exact hc
    refine gS (gR ?_)
    refine gMv ?_
    refine gAs ?_
    refine gE ?_
    refine GoH.ret Tryz.f41 Tryz.func41 rfl (fun w' hS => ?_)
    exact ⟨hS.ext, by rw [show dst n m.val m.rel v x = some k from fst_some.2 ⟨by omega, hap, hno⟩]; rfl⟩
   ·
    have hap : apB n m.val m.rel v x k = false := by rw [apB, ← he1, ← he2]; exact hc
    refine gK (gIb (gR ?_))
    refine GoH.v (Vop.bin rfl rfl rfl rfl (bAdd (by omega)) rfl) ?_
    refine gMv ?_
    refine gE ?_
    exact IH (k + 1) _ _ ⟨hlt, fun i hi => by rcases Nat.lt_succ_iff_lt_or_eq.1 hi with h | rfl; exact hno i h; exact hap⟩ (by omega) ⟨rfl, rfl, rfl, rfl, rfl, rfl, trivial⟩ .slnil
  ·
   have hge : ¬ k < ps.length := by simpa using hc
   obtain rfl : k = ps.length := by omega
   refine GoH.exit rfl (gS (gR ?_))
   refine gAs ?_
   refine gE ?_
   refine GoH.ret Tryz.f41 Tryz.func41 rfl (fun w' hS => ?_)
   exact ⟨hS.ext, by rw [show dst n m.val m.rel v x = none from fst_none.2 (fun i hi => hno i (by omega))]; rfl⟩
def aloneB (n : Nat) (val : List W64) (rel : List (List W64)) (x k : Nat) (ys : List Nat) : Bool := ys.all (fun y => apB n val rel x y k)
set_option maxRecDepth 4000 in
theorem alone_c (m : MV) (n : Nat) (mD bk : Nat) (pa : Option Addr) (pc : Nat) (ps : List IV) (x : Nat) (la : Option Addr) (lc : Nat) (ys : List Nat) (k : Nat) (w : World) (hk : Mk w mD bk m pa pc ps) (hP : PsIs n m.val m.rel ps) (hx : x < n) (hl : SlI w la (zI ys)) (hys : ∀ y ∈ ys, y < n) (hyl : ys.length ≤ maxLen) (hkl : k < ps.length) :
    Cn Tryz.prog 77 [.pointer (some ⟨bk, 0, none⟩), .int .i64 x, .slice la (zI ys).length lc, .int .i64 k] w (fun u _ => u = .bool (aloneB n m.val m.rel x k ys)) := by
  unfold maxLen at hyl
  have hzl : (zI ys).length = ys.length := by simp
  have HB : ∀ {w' : World} {j : Nat} {v : Value}, Ex [] w w' → (mkrCs m mD pa ps.length pc)[j]? = some v → w'.cell? ⟨bk, j, none⟩ = some v := fun e h => Ex.cell e hk.blk h
  obtain ⟨hl1, he1⟩ := pre_row hP hkl hx
  refine Cn.of Tryz.func77 rfl rfl ?_
  refine gS (gR ?_)
  refine gAs ?_
  refine gE (gS (gS (gR ?_)))
  refine gMv ?_
  refine gBl Tryz.underlying36 ?_
  refine gMv ?_
  refine gE (gB ?_)
  refine GoH.loop (σ := Nat) (fun i => [(0, .pointer (some ⟨bk, 0, none⟩)), (1, .int .i64 x), (3, .int .i64 k), (11, .slice la (zI ys).length lc), (12, .int .i64 (zI ys).length), (13, .int .i64 i)]) (fun _ => []) (fun i => i ≤ ys.length ∧ aloneB n m.val m.rel x k (ys.take i) = true) (fun i => ys.length - i) 0 ⟨Nat.zero_le _, rfl⟩ ⟨rfl, rfl, rfl, rfl, rfl, rfl, trivial⟩ .slnil (fun i hI IH => ?_)
  obtain ⟨hil, hall⟩ := hI
  refine gS (gR ?_)
  refine gBi bLt ?_
  refine gE (gS ?_)
  refine GoH.cond rfl (fun hc => ?_) (fun hc => ?_)
  ·
   have hlt : i < (zI ys).length := by simpa using hc
   have hlt2 : i < ys.length := by omega
   obtain ⟨hl2, he2⟩ := pre_row hP hkl (hys ys[i] (List.getElem_mem hlt2))
   have hzi : (zI ys)[i] = ((ys[i] : Nat) : Int) := by simp
   have htk : aloneB n m.val m.rel x k (ys.take (i + 1)) = apB n m.val m.rel x ys[i] k := by
     rw [List.take_succ_eq_append_getElem hlt2]
     unfold aloneB at hall ⊢
     rw [List.all_append, hall]; simp
   refine gK (gS (gB (gS (gR ?_))))
   refine GoH.v (Vop.idx rfl rfl rfl rfl rfl Tryz.underlying36 Tryz.sizeOf3 ⟨_, hl⟩ (by simp) (i) ⟨rfl, by simpa using hlt⟩) ?_
   refine GoH.v (Vop.ld rfl rfl rfl rfl Tryz.isAgg3 (fun w _ hS => (SlI.ex0 hl hS.ext).at (i) hlt)) ?_
   refine gAs ?_
   refine gE (gS ?_)
   refine GoH.draw 21 mixed rfl ?_
   refine rMv ?_
   refine rNk ?_
   refine rFp Tryz.underlying91 Tryz.sizeOf89 4 ?_
   refine RdGo.v (Vop.ld (p := ⟨bk, 4, none⟩) rfl rfl rfl rfl Tryz.isAgg89 (fun w _ hS => HB hS.ext rfl)) ?_
   refine rMv ?_
   refine RdGo.v (Vop.idx (xs := ps.map IV.v) rfl rfl rfl rfl rfl Tryz.underlying89 Tryz.sizeOf36 ⟨_, hk.pre⟩ (by simp) k ⟨rfl, by simpa using hkl⟩) ?_
   refine RdGo.v (Vop.ld rfl rfl rfl rfl Tryz.isAgg36 (fun w _ hS => (Sl.at (Sl.ex0 hk.pre hS.ext) k hkl))) ?_
   refine rMv ?_
   refine RdGo.v (Vop.idx rfl rfl rfl rfl rfl Tryz.underlying36 Tryz.sizeOf3 ⟨_, (hk.row ps[k] (List.getElem_mem hkl))⟩ (by simp) (x) ⟨rfl, by simpa using hl1⟩) ?_
   refine RdGo.v (Vop.ld rfl rfl rfl rfl Tryz.isAgg3 (fun w _ hS => (SlI.ex0 (hk.row ps[k] (List.getElem_mem hkl)) hS.ext).at (x) hl1)) ?_
   refine rMv ?_
   refine rNk ?_
   refine rFp Tryz.underlying91 Tryz.sizeOf89 4 ?_
   refine RdGo.v (Vop.ld (p := ⟨bk, 4, none⟩) rfl rfl rfl rfl Tryz.isAgg89 (fun w _ hS => HB hS.ext rfl)) ?_
   refine rMv ?_
   refine RdGo.v (Vop.idx (xs := ps.map IV.v) rfl rfl rfl rfl rfl Tryz.underlying89 Tryz.sizeOf36 ⟨_, hk.pre⟩ (by simp) k ⟨rfl, by simpa using hkl⟩) ?_
   refine RdGo.v (Vop.ld rfl rfl rfl rfl Tryz.isAgg36 (fun w _ hS => (Sl.at (Sl.ex0 hk.pre hS.ext) k hkl))) ?_
   refine rMv ?_
   refine RdGo.v (Vop.idx rfl rfl rfl rfl rfl Tryz.underlying36 Tryz.sizeOf3 ⟨_, hk.row ps[k] (List.getElem_mem hkl)⟩ (by simp) ys[i] ⟨hzi, by simpa using hl2⟩) ?_
   refine RdGo.v (Vop.ld rfl rfl rfl rfl Tryz.isAgg3 (fun w _ hS => (SlI.at (SlI.ex0 (hk.row ps[k] (List.getElem_mem hkl)) hS.ext) ys[i] hl2))) ?_
   refine rBi bEq ?_
   refine RdGo.nil ?_
   refine gE ?_
   refine GoH.cond rfl (fun hc => ?_) (fun hc => ?_)
   ·
    have hap : apB n m.val m.rel x ys[i] k = false := by rw [apB, ← he1, ← he2]; simpa using hc
    refine gS (gR ?_)
    refine gAs ?_
    refine gE ?_
    refine GoH.ret Tryz.f77 Tryz.func77 rfl (fun w' hS => ?_)
    exact ⟨hS.ext, by
    have : aloneB n m.val m.rel x k ys = false := by
      unfold aloneB
      rw [Bool.eq_false_iff, ne_eq, List.all_eq_true]
      intro h
      rw [h _ (List.getElem_mem hlt2)] at hap; cases hap
    rw [this]; rfl⟩
   ·
    have hap : apB n m.val m.rel x ys[i] k = true := by rw [apB, ← he1, ← he2]; simpa using hc
    refine gK (gIb (gR ?_))
    refine GoH.v (Vop.bin rfl rfl rfl rfl (bAdd (by omega)) rfl) ?_
    refine gMv ?_
    refine gE ?_
    exact IH (i + 1) _ _ ⟨hlt2, by rw [htk]; exact hap⟩ (by omega) ⟨rfl, rfl, rfl, rfl, rfl, rfl, trivial⟩ .slnil
  ·
   have hge : ¬ i < (zI ys).length := by simpa using hc
   obtain rfl : i = ys.length := by omega
   rw [List.take_length] at hall
   refine GoH.exit rfl (gS (gR ?_))
   refine gAs ?_
   refine gE ?_
   refine GoH.ret Tryz.f77 Tryz.func77 rfl (fun w' hS => ?_)
   exact ⟨hS.ext, by rw [hall]; rfl⟩
end Go.Proofs.YthojdcaojjmoaaaGreatDoor
namespace Go.Proofs.YthojdcaojjmoaaaGreatDoor
open Go.RowKit Go.Proofs.Wit
/-! a maker's literals, and how it is made -/
set_option maxRecDepth 4000 in
theorem literal_c (m : MV) (n : Nat) (mD bk : Nat) (pa : Option Addr) (pc : Nat) (ps : List IV) (v x : Nat) (w : World) (hk : Mk w mD bk m pa pc ps) (hn : m.n = (n : Int)) (hvM : ValM m.n m.val m.rel) (hv : v < n) (hx : x < n) (hd : dst n m.val m.rel v x = some 0) :
    Cn Tryz.prog 75 [.pointer (some ⟨bk, 0, none⟩), .int .i64 v, .int .i64 x] w (fun u w' => ∃ i y, i < m.val.length ∧ TellT n m.val m.rel v x 0 (litT i y) ∧ OwnN 54 w w' u (bT (litT i y))) := by
  have h64 := hvM.n64
  have hn1 := hvM.n1
  have h8 := hvM.facts
  have hvN : ValM (n : Int) m.val m.rel := by rw [← hn]; exact hvM
  have hval := hk.mod.val
  have HB : ∀ {w' : World} {j : Nat} {v : Value}, Ex [] w w' → (mkrCs m mD pa ps.length pc)[j]? = some v → w'.cell? ⟨bk, j, none⟩ = some v := fun e h => Ex.cell e hk.blk h
  refine Cn.of Tryz.func75 rfl rfl ?_
  refine gS (gR ?_)
  refine gAs ?_
  refine gE (gS (gS (gR ?_)))
  refine gMv ?_
  refine gNk ?_
  refine gFp Tryz.underlying91 Tryz.sizeOf25 0 ?_
  refine gFp Tryz.underlying25 Tryz.sizeOf22 1 ?_
  refine GoH.v (Vop.ld (p := ⟨bk, 1, none⟩) rfl rfl rfl rfl Tryz.isAgg22 (fun w _ hS => HB hS.ext rfl)) ?_
  refine gBl Tryz.underlying22 ?_
  refine gMv ?_
  refine gE (gB ?_)
  refine GoH.loop (σ := Nat) (fun i => [(0, .pointer (some ⟨bk, 0, none⟩)), (1, .int .i64 v), (2, .int .i64 x), (15, .slice m.va m.val.length m.vc), (16, .int .i64 m.val.length), (17, .int .i64 i)]) (fun _ => []) (fun i => i ≤ m.val.length ∧ ∀ j, j < i → (m.val.getD j 0#64).getLsbD v = (m.val.getD j 0#64).getLsbD x) (fun i => m.val.length - i) 0 ⟨Nat.zero_le _, fun _ h => absurd h (Nat.not_lt_zero _)⟩ ⟨rfl, rfl, rfl, rfl, rfl, rfl, trivial⟩ .slnil (fun i hI IH => ?_)
  obtain ⟨hil, hall⟩ := hI
  refine gS (gR ?_)
  refine gBi bLt ?_
  refine gE (gS ?_)
  refine GoH.cond rfl (fun hc => ?_) (fun hc => ?_)
  ·
   have hlt : i < m.val.length := by simpa using hc
   obtain ⟨hb1, hb2⟩ := lit_bld (by omega : i < 8)
   refine gK (gS (gB (gS (gR ?_))))
   refine gMv ?_
   refine GoH.v (Vop.idx rfl rfl rfl rfl rfl Tryz.underlying22 Tryz.sizeOf33 ⟨_, hval⟩ (by simp) (i) ⟨rfl, by simpa using hlt⟩) ?_
   refine GoH.v (Vop.ld rfl rfl rfl rfl Tryz.isAgg33 (fun w _ hS => (SlU.ex0 hval hS.ext).at (i) hlt)) ?_
   iterate 2 refine gAs ?_
   refine gE (gS ?_)
   refine GoH.draw 10 mixed rfl ?_
   iterate 2 refine rMv ?_
   refine RdGo.v (Vop.bin rfl rfl rfl rfl (bShr v rfl) rfl) ?_
   refine RdGo.v (Vop.bin (b := U 1#64) rfl rfl rfl rfl bAnd rfl) ?_
   iterate 2 refine rMv ?_
   refine RdGo.v (Vop.bin rfl rfl rfl rfl (bShr x rfl) rfl) ?_
   refine RdGo.v (Vop.bin (b := U 1#64) rfl rfl rfl rfl bAnd rfl) ?_
   iterate 2 refine rAs ?_
   refine RdGo.nil ?_
   refine gE (gB (gS (gR ?_)))
   iterate 2 refine gMv ?_
   refine GoH.v (Vop.bin rfl rfl rfl rfl (bGtUV rfl) rfl) ?_
   refine gAs ?_
   refine gE ?_
   refine GoH.cond rfl (fun hc => ?_) (fun hc => ?_)
   ·
    obtain ⟨hy, hno⟩ := bit_gt hc
    have hT := lit_told (rel := m.rel) hvN hv hx hlt (by rw [hy, hno]; simp)
    rw [hy] at hT
    refine gS (gR ?_)
    refine gMv ?_
    refine GoH.callM _ rfl rfl rfl rfl rfl (fun _ _ => Tryz.call101 _ _) (fun w _ hS => fact_c i w) ?_
    rintro u w1 w2 Y' hS he ho
    rw [hb1] at ho
    obtain ⟨q, cap, sp, rfl, hq, hcap, hS'⟩ := gainN hS he ho
    refine ⟨_, hS', ?_⟩
    refine gAs ?_
    refine gE ?_
    refine GoH.ret Tryz.f75 Tryz.func75 rfl (fun w' hS => ?_)
    exact ⟨hS.ext, i, true, hlt, hT, OwnN.mk hS 0 rfl rfl hq hcap⟩
   ·
    have hng := hc
    refine gS (gR ?_)
    iterate 2 refine gMv ?_
    refine GoH.v (Vop.bin rfl rfl rfl rfl (bLtUV rfl) rfl) ?_
    refine gAs ?_
    refine gE ?_
    refine GoH.cond rfl (fun hc => ?_) (fun hc => ?_)
    ·
     obtain ⟨hy, hno⟩ := bit_gt hc
     have hT := lit_told (rel := m.rel) hvN hv hx hlt (by rw [hy, hno]; simp)
     rw [hno] at hT
     refine gS (gR ?_)
     refine gMv ?_
     refine GoH.callM _ rfl rfl rfl rfl rfl (fun _ _ => Tryz.call101 _ _) (fun w _ hS => fact_c i w) ?_
     rintro u w1 w2 Y' hS he ho
     obtain ⟨q, cap, sp, rfl, hq, hcap, hS'⟩ := gainN hS he ho
     refine ⟨_, hS', ?_⟩
     refine GoH.callM _ rfl rfl rfl rfl rfl (fun _ _ => Tryz.call80 _ _) (fun w _ hS => (by exact not_c (q.map (fun b => ⟨b, 0, none⟩)) cap _ w (faAt hS 0 rfl (fun e => (hq e).1)) (by have := bldF_le ⟨3, (i : Int), 0, 0, 0, 0⟩ []; unfold maxLen; omega))) ?_
     rintro u w1 w2 Y' hS he ho
     rw [hb2] at ho
     obtain ⟨q2, cap2, sp2, rfl, hq2, hcap2, hS'⟩ := gainN hS he ho
     refine ⟨_, hS', ?_⟩
     refine gAs ?_
     refine gE ?_
     refine GoH.ret Tryz.f75 Tryz.func75 rfl (fun w' hS => ?_)
     exact ⟨hS.ext, i, false, hlt, hT, OwnN.mk hS 0 rfl rfl hq2 hcap2⟩
    ·
     have heq := bit_ng hng hc
     refine gK (gIb (gIb (gR ?_)))
     refine GoH.v (Vop.bin rfl rfl rfl rfl (bAdd (by omega)) rfl) ?_
     refine gMv ?_
     refine gE ?_
     exact IH (i + 1) _ _ ⟨hlt, fun j hj => by rcases Nat.lt_succ_iff_lt_or_eq.1 hj with h | rfl; exact hall j h; exact heq⟩ (by omega) ⟨rfl, rfl, rfl, rfl, rfl, rfl, trivial⟩ .slnil
  ·
   have hge : ¬ i < m.val.length := by simpa using hc
   obtain rfl : i = m.val.length := by omega
   exfalso
   obtain ⟨j, hj, hne⟩ := (dst_zero hv hx (by omega) (by omega)).1 hd
   exact hne (hall j hj)
end Go.Proofs.YthojdcaojjmoaaaGreatDoor
namespace Go.Proofs.YthojdcaojjmoaaaGreatDoor
open Go.RowKit Go.Proofs.Wit
/-! how a maker is made -/
theorem infoIs : (Tryz.prog.info? 36).map (fun i => (i.zero, i.size, i.bytes)) = some (some (Value.slice none 0 0), 1, 24) := by kernel_rfl
def MakerIs (w w' : World) (v : Value) (m : MV) (n : Nat) : Prop := ∃ (bk mD : Nat) (qA : Option Nat) (capA : Nat) (ps : List IV) (spA : List Value) (H : Hl), v = .pointer (some ⟨bk, 0, none⟩) ∧
  NewH w w' ([(some bk, Obj.cells (mkrCs m mD (qA.map (fun b => ⟨b, 0, none⟩)) ps.length capA) 91 (0, 0)), (qA, ob IV.v 36 ps spA), (some mD, mobj arr2 FV.v [])] ++ H) ∧
  (qA = none → ps.length = 0) ∧ (∀ p ∈ ps, InS I64 H p.a p.xs) ∧ PsIs n m.val m.rel ps
set_option maxRecDepth 8000 in
theorem newMaker_c (m : MV) (n : Nat) (w : World) (hT : Tab w) (hm : m.At w) (hn : m.n = (n : Int)) (hv : ValM m.n m.val m.rel) : Cn Tryz.prog 32 [m.v] w (fun v w' => MakerIs w w' v m n) := by
  obtain ⟨i1, hi1, hz1, hsz1, hby1⟩ := info_parts infoIs
  have hn1 := hv.n1
  have hn64 := hv.n64
  have hck := checkM_zero.2 hv
  have hdp := (dep_spec (val := m.val) (rels := m.rel) (n := n) (by omega) (by omega)).1
  have hdpt : dpt m.n m.val m.rel = (dep n m.val m.rel : Int) := by rw [dpt, if_neg (by simp [hck]), hn, Int.toNat_natCast]
  refine Cn.of Tryz.func32 rfl rfl ?_
  refine gS (gR ?_)
  refine GoH.bx rfl rfl rfl rfl (fun b1 => ?_)
  refine gAs ?_
  refine gE (gS (gR ?_))
  refine GoH.v (Vop.ldB rfl rfl rfl rfl Tryz.isAgg25 0 rfl Tryz.sizeOf25 rfl) ?_
  refine GoH.mkMap arr2 FV.v rfl rfl rfl (fun b10 => ?_)
  refine GoH.v (Vop.bld rfl rfl rfl rfl (bld (c := [_, _, _, _, _]) Tryz.underlying91 (Szs.cons Tryz.sizeOf25 (Szs.cons Tryz.sizeOf88 (Szs.cons Tryz.sizeOf89 Szs.nil))) Tryz.zeroValue91 rfl)) ?_
  refine GoH.bx rfl rfl rfl rfl (fun b12 => ?_)
  refine gAs ?_
  refine gE (gS (gR ?_))
  refine GoH.v (Vop.ldB rfl rfl rfl rfl Tryz.isAgg25 2 rfl Tryz.sizeOf25 rfl) ?_
  refine GoH.callP rfl rfl rfl rfl rfl (fun _ _ => Tryz.call52 _ _) (fun w _ hS => (by have := depth_c m w (hT.ex hS.ext) (hm.ex0 hS.ext); rw [hdpt, hck] at this; exact this)) ?_
  refine gMv ?_
  iterate 2 refine gEx ?_
  iterate 2 refine gAs ?_
  refine gE (gS (gS (gR ?_)))
  refine gMv ?_
  refine GoH.v (Vop.bin rfl rfl rfl rfl (bAddE (c := ((dep n m.val m.rel + 1 : Nat) : Int)) (by omega) (by omega)) rfl) ?_
  refine gMv ?_
  refine gE (gB ?_)
  refine GoH.addNone (ob IV.v 36 [] []) ?_
  refine GoH.pick (pre' := [(some b12, .cells (mkrCs m b10 none 0 0) 91 (0, 0)), (none, ob IV.v 36 [] []), (some b10, mobj arr2 FV.v []), (some b1, .cells m.v.cells 25 (0, 0))]) [1, 0, 2, 3] (by decide) rfl ?_
  refine GoH.loop (σ := Nat × Option Nat × Nat × List IV × List Value × Hl) (fun z => [(1, .pointer (some ⟨b1, 0, none⟩)), (3, .pointer (some ⟨b12, 0, none⟩)), (19, .int .i64 ((dep n m.val m.rel + 1 : Nat) : Int)), (20, .int .i64 z.1)])
    (fun z => [(some b12, .cells (mkrCs m b10 (z.2.1.map (fun b => ⟨b, 0, none⟩)) z.2.2.2.1.length z.2.2.1) 91 (0, 0)), (z.2.1, ob IV.v 36 z.2.2.2.1 z.2.2.2.2.1), (some b10, mobj arr2 FV.v []), (some b1, .cells m.v.cells 25 (0, 0))] ++ z.2.2.2.2.2)
    (fun z => z.1 ≤ dep n m.val m.rel + 1 ∧ z.2.2.2.1.length = z.1 ∧ (z.2.1 = none → z.2.2.2.1.length = 0 ∧ z.2.2.1 = 0) ∧ (z.2.2.2.1.map IV.v ++ z.2.2.2.2.1).length = z.2.2.1 ∧ (∀ p ∈ z.2.2.2.1, InS I64 z.2.2.2.2.2 p.a p.xs) ∧ ∀ (k : Nat) (h : k < z.2.2.2.1.length), z.2.2.2.1[k].xs = psq n m.val m.rel k)
    (fun z => dep n m.val m.rel + 1 - z.1) (0, none, 0, [], [], []) ⟨Nat.zero_le _, rfl, fun _ => ⟨rfl, rfl⟩, rfl, (fun _ h => by cases h), fun _ h => absurd h (Nat.not_lt_zero _)⟩ ⟨rfl, rfl, rfl, rfl, trivial⟩ (List.Sublist.refl _) (fun z hI IH => ?_)
  obtain ⟨k, q, cap, ps, sp, H⟩ := z
  obtain ⟨hk, hpl, hq, hcap, hps, hpk⟩ := hI
  dsimp only at hk hpl hq hcap hps hpk IH ⊢
  refine gS (gR ?_)
  refine gBi bLt ?_
  refine gE (gS ?_)
  refine GoH.cond rfl (fun hc => ?_) (fun hc => ?_)
  ·
   have hlt : k < dep n m.val m.rel + 1 := by simp at hc; omega
   have hrE : rndsE m.n m.val m.rel (k : Int) = 0 := by rw [rndsE, if_neg (by simp [hck]), if_neg (by omega)]
   have hrd : rnds m.n m.val m.rel (k : Int) = psq n m.val m.rel k := by rw [rnds_ok hrE, hn, Int.toNat_natCast, Int.toNat_natCast, Nat.min_eq_left (by omega)]
   refine gK (gS (gB (gS (gR ?_))))
   refine gMv ?_
   refine gAs ?_
   refine gE (gS (gR ?_))
   refine GoH.v (Vop.ldB rfl rfl rfl rfl Tryz.isAgg25 3 rfl Tryz.sizeOf25 rfl) ?_
   refine gMv ?_
   refine GoH.callM _ rfl rfl rfl rfl rfl (fun _ _ => Tryz.call12 _ _) (fun w _ hS => (by exact roundsX_c m (k : Int) w (hT.ex hS.ext) (hm.ex0 hS.ext))) ?_
   rintro v w1 w2 Y' hS he ⟨sv, rfl, ho⟩
   obtain ⟨q7, cap7, sp7, rfl, hq7, hcap7, hS'⟩ := gainS hS he ho
   refine ⟨_, hS', ?_⟩
   refine gMv ?_
   iterate 2 refine gEx ?_
   iterate 2 refine gAs ?_
   refine gE (gR ?_)
   iterate 2 refine gMv ?_
   refine gNk ?_
   refine gFp Tryz.underlying91 Tryz.sizeOf89 4 ?_
   refine gLo Tryz.isAgg89 1 ?_
   refine gMv ?_
   refine GoH.bsN (c := [_]) rfl rfl rfl rfl Tryz.underlying89 Tryz.sizeOf36 Tryz.zeroValue36 rfl rfl (fun b35 => ?_)
   refine GoH.appE IV.v (news := [⟨q7.map (fun b => ⟨b, 0, none⟩), cap7, rnds m.n m.val m.rel (k : Int)⟩]) (spn := []) (xs := ps) (sp := sp) (q := q) rfl rfl rfl rfl rfl Tryz.underlying89 hi1 hz1 hsz1 rfl hq 3 rfl 0 rfl hcap rfl (by decide) (fun _ => rfl) (by simp [maxLen]; omega) (by simp [hby1]; omega) (fun b' sp' cap' hlen => ?_)
   refine gNk ?_
   refine gFp Tryz.underlying91 Tryz.sizeOf89 4 ?_
   refine GoH.st rfl rfl rfl rfl Tryz.sizeOf89 rfl 2 rfl rfl ?_
   refine gE (gIb (gR ?_))
   refine GoH.v (Vop.bin rfl rfl rfl rfl (bAdd (by omega)) rfl) ?_
   refine gMv ?_
   refine gE ?_
   refine GoH.pickT (pre := [_, _, _, _, _, _]) (pre' := [_, _, _, _, _]) H [2, 3, 4, 5, 1] (by decide) rfl ?_
   exact IH (k + 1, some b', cap', ps ++ [⟨q7.map (fun b => ⟨b, 0, none⟩), cap7, rnds m.n m.val m.rel (k : Int)⟩], sp', (q7, ob I64 3 (rnds m.n m.val m.rel (k : Int)) sp7) :: H) _ _ ⟨by dsimp only; omega, by simp [hpl], (fun e => by cases e), hlen, fun p hp => by
     rcases List.mem_append.1 hp with hp | hp
     · exact (hps p hp).mono (List.subset_cons_self _ _)
     · obtain rfl := List.mem_singleton.1 hp
       exact InS.at (fun e => (hq7 e).1) (List.mem_cons_self ..), fun j hj => by
     by_cases hj2 : j < ps.length
     · rw [List.getElem_append_left hj2]; exact hpk j hj2
     · have e : j = ps.length := by simp at hj; omega
       subst e
       simp only [List.getElem_append_right (Nat.le_refl _), Nat.sub_self, List.getElem_cons_zero]
       rw [hrd, hpl]⟩ (by dsimp only; omega) ⟨rfl, rfl, rfl, rfl, trivial⟩ (List.Sublist.refl _)
  ·
   have hge : ¬ k < dep n m.val m.rel + 1 := by simp at hc; omega
   obtain rfl : k = dep n m.val m.rel + 1 := by omega
   refine GoH.exit rfl (gS (gR ?_))
   refine gMv ?_
   refine gAs ?_
   refine gE ?_
   refine GoH.ret Tryz.f32 Tryz.func32 rfl (fun w' hS => ?_)
   refine ⟨hS.ext, b12, b10, q, cap, ps, sp, H, rfl, ?_, fun e => (hq e).1, hps, hpl, hpk⟩
   exact (NewH.of hS).sub (.cons_cons _ (.cons_cons _ (.cons_cons _ (.cons _ (List.Sublist.refl _)))))
end Go.Proofs.YthojdcaojjmoaaaGreatDoor
