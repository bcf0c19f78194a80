/- What calls of the program return, under the conditions that each theorem states. -/
import Derived.Test.YtcljmlnnfdaljaaDoorF43
namespace Go.Proofs.YtcljmlnnfdaljaaDoor
open Go.RowKit Go.Proofs.Wit
/-! the reference's checker: all nodes -/
theorem wfits_c (m : MV) (a : Option Addr) (ca : Nat) (f : List NV) (i : Nat) (w : World) (_hm : m.At w) (ha : FA w a f) (hl : f.length ≤ maxLen) (hy1 : andN (frgL (compF (subF f i))) 15 = 0) (hy2 : fitB (subF f i) m.rows.length m.val.length = true) (hsl : (subF f i).length ≤ 200) :
    Cn Tryd.prog 59 [m.v, .slice a f.length ca, .int .i64 i] w (fun v _ => v = .bool true) := by
  have hfl := frgL_lt (compF (subF f i))
  have hsm : (subF f i).length ≤ maxLen := by unfold maxLen; omega
  refine Cn.of Tryd.func59 rfl rfl ?_
  refine GoH.seq (GoH.region ?_)
  refine GoH.bx rfl rfl rfl rfl (fun b3 => ?_)
  refine GoH.v (Vop.asg rfl rfl rfl rfl) ?_
  refine GoH.regionEnd (GoH.seq (GoH.region ?_))
  iterate 2 refine GoH.v (Vop.mv rfl rfl rfl rfl) ?_
  refine GoH.callM _ rfl rfl rfl rfl rfl (fun _ _ => Tryd.call40 _ _) (fun w _ hS => rsub_c a ca f i w (ha.ex0 hS.ext) hl) ?_
  rintro v w1 w2 Y' hS he ho
  obtain ⟨q, cap, sp, rfl, hq, hcap, hS'⟩ := gainN hS he ho
  refine ⟨_, hS', ?_⟩
  refine GoH.v (Vop.asg rfl rfl rfl rfl) ?_
  refine GoH.regionEnd (GoH.seq (GoH.region ?_))
  refine GoH.v (Vop.mv rfl rfl rfl rfl) ?_
  refine GoH.callP rfl rfl rfl rfl rfl (fun _ _ => Tryd.call11 _ _) (fun w _ hS => (by exact rfrags_c (q.map (fun b => ⟨b, 0, none⟩)) cap (subF f i) w (faAt hS 0 rfl (fun e => (hq e).1)) hsm)) ?_
  refine GoH.v (Vop.bin rfl rfl rfl rfl (bAndNotI hfl (by omega : (15 : Nat) < 512)) rfl) ?_
  refine GoH.v (Vop.bin rfl rfl rfl rfl (bEqV (v := true) (by rw [hy1]; rfl)) rfl) ?_
  iterate 2 refine GoH.v (Vop.mv rfl rfl rfl rfl) ?_
  refine GoH.v (Vop.fldP rfl rfl rfl rfl Tryd.underlying25 rfl (by exact Tryd.sizeOf23) 2 rfl) ?_
  refine GoH.v (Vop.ldo (v := .slice m.ra m.rows.length m.rc) rfl rfl rfl rfl Tryd.isAgg23 1 rfl rfl) ?_
  refine GoH.v (Vop.blt rfl rfl rfl (blt_len_slice Tryd.underlying23) rfl) ?_
  refine GoH.v (Vop.fldP rfl rfl rfl rfl Tryd.underlying25 rfl (by exact Tryd.sizeOf22) 1 rfl) ?_
  refine GoH.v (Vop.ldo (v := .slice m.va m.val.length m.vc) rfl rfl rfl rfl Tryd.isAgg22 1 rfl rfl) ?_
  refine GoH.v (Vop.blt rfl rfl rfl (blt_len_slice Tryd.underlying22) rfl) ?_
  refine GoH.callP rfl rfl rfl rfl rfl (fun _ _ => Tryd.call10 _ _) (fun w _ hS => (by have := rfitsF_c (q.map (fun b => ⟨b, 0, none⟩)) cap (subF f i) m.rows.length m.val.length w (faAt hS 0 rfl (fun e => (hq e).1)) hsm; rw [hy2] at this; exact this)) ?_
  refine GoH.v (Vop.pickT rfl rfl rfl rfl rfl) ?_
  refine GoH.v (Vop.asg rfl rfl rfl rfl) ?_
  refine GoH.regionEnd ?_
  refine GoH.ret Tryd.f59 Tryd.func59 rfl (fun w' hS => ?_)
  exact ⟨hS.ext, rfl⟩
def setsR (m : MV) (n : Nat) (g : List NV) : List W64 := if holdE m.n m.val m.rel g = 0 then setsL n m.val m.rel g g.length else []
def SetsIs (w w' : World) (v : Value) (m : MV) (n : Nat) (g : List NV) : Prop := ∃ sv, v = .tuple #[sv, .int .i64 (holdE m.n m.val m.rel g)] ∧ Own w w' sv (setsR m n g)
set_option maxRecDepth 8000 in
theorem wSets_c (m : MV) (n : Nat) (a : Option Addr) (ca : Nat) (g : List NV) (w : World) (hm : m.At w) (hn : m.n = (n : Int)) (ha : FA w a g) (hgl : g.length ≤ maxLen) (hcan : chkF g = 0 → CanF g) :
    Cn Tryd.prog 33 [m.v, .slice a g.length ca] w (fun v w' => SetsIs w w' v m n g) := by
  obtain ⟨i0, hi, hz, hsz, hby⟩ := info_parts infoU
  have hrl : m.rel.length = m.rows.length := by simp [MV.rel]
  refine Cn.of Tryd.func33 rfl rfl ?_
  refine GoH.seq (GoH.region ?_)
  refine GoH.bx rfl rfl rfl rfl (fun b2 => ?_)
  iterate 2 refine GoH.v (Vop.asg rfl rfl rfl rfl) ?_
  refine GoH.regionEnd (GoH.seq (GoH.region ?_))
  refine GoH.v (Vop.ldB rfl rfl rfl rfl Tryd.isAgg25 0 rfl Tryd.sizeOf25 rfl) ?_
  refine GoH.v (Vop.mv rfl rfl rfl rfl) ?_
  refine GoH.callP rfl rfl rfl rfl rfl (fun _ _ => Tryd.call34 _ _) (fun w _ hS => (by exact wCheck_c m a ca g w (hm.ex0 hS.ext) (ha.ex0 hS.ext) hgl)) ?_
  refine GoH.v (Vop.asg rfl rfl rfl rfl) ?_
  refine GoH.regionEnd (GoH.seq (GoH.seq (GoH.region ?_)))
  refine GoH.v (Vop.mv rfl rfl rfl rfl) ?_
  refine GoH.v (Vop.bin rfl rfl rfl rfl bNe rfl) ?_
  refine GoH.regionEnd ?_
  refine GoH.cond rfl (fun hc => ?_) (fun hc => ?_)
  ·
   have h0 : holdE m.n m.val m.rel g ≠ 0 := by simpa using hc
   refine GoH.seq (GoH.region ?_)
   refine GoH.v (Vop.mv rfl rfl rfl rfl) ?_
   iterate 2 refine GoH.v (Vop.asg rfl rfl rfl rfl) ?_
   refine GoH.regionEnd ?_
   refine GoH.ret Tryd.f33 Tryd.func33 rfl (fun w' hS => ?_)
   exact ⟨hS.ext, _, rfl, by rw [setsR, if_neg h0]; exact own_nil _ _⟩
  ·
   have h0 : holdE m.n m.val m.rel g = 0 := by simpa using hc
   obtain ⟨hv, hck, hst⟩ := holdE_zero.1 h0
   rw [hrl] at hst
   have hC := hcan hck
   have hglen := hC.len
   refine GoH.skip (GoH.seq (GoH.region ?_))
   refine GoH.v (Vop.asg rfl rfl rfl rfl) ?_
   refine GoH.regionEnd (GoH.seq (GoH.seq (GoH.region ?_)))
   refine GoH.v (Vop.asg rfl rfl rfl rfl) ?_
   refine GoH.regionEnd (GoH.block ?_)
   refine GoH.addNone (ob U 33 [] []) ?_
   refine GoH.loop (σ := Nat × Option Nat × Nat × List Value) (fun z => [(1, .slice a g.length ca), (2, .pointer (some ⟨b2, 0, none⟩)), (7, osv z.2.1 (setsL n m.val m.rel g z.1).length z.2.2.1), (8, .int .i64 z.1)]) (fun z => [(z.2.1, ob U 33 (setsL n m.val m.rel g z.1) z.2.2.2), (some b2, .cells m.v.cells 25 (0, 0))])
     (fun z => z.1 ≤ g.length ∧ (z.2.1 = none → (setsL n m.val m.rel g z.1).length = 0 ∧ z.2.2.1 = 0) ∧ ((setsL n m.val m.rel g z.1).map U ++ z.2.2.2).length = z.2.2.1) (fun z => g.length - z.1) (0, none, 0, [])
     ⟨Nat.zero_le _, fun _ => ⟨rfl, rfl⟩, rfl⟩ ⟨rfl, rfl, rfl, rfl, trivial⟩ (List.Sublist.refl _) (fun z hI IH => ?_)
   obtain ⟨k, q, cap, sp⟩ := z
   obtain ⟨hk, hq, hcap⟩ := hI
   dsimp only at hk hq hcap IH ⊢
   refine GoH.seq (GoH.seq (GoH.region ?_))
   iterate 2 refine GoH.v (Vop.mv rfl rfl rfl rfl) ?_
   refine GoH.v (Vop.blt rfl rfl rfl (blt_len_slice Tryd.underlying26) rfl) ?_
   refine GoH.v (Vop.bin rfl rfl rfl rfl bLt rfl) ?_
   refine GoH.regionEnd ?_
   refine GoH.cond rfl (fun hc => ?_) (fun hc => ?_)
   ·
    have hlt : k < g.length := by simpa using hc
    have hy := hC.stat hst hlt
    have hsub := (hC.sub hlt).1.len
    have hnd := hC.node hst hlt
    have hord := hC.nodes.ord k hlt
    have hsl : (setsL n m.val m.rel g k).length = k := setsL_len
    have hsn := semT_node (n := n) (val := m.val) (rel := m.rel) hC.nodes hlt
    refine GoH.skip (GoH.seq (GoH.block (GoH.seq (GoH.seq (GoH.region ?_)))))
    refine GoH.v (Vop.ldB rfl rfl rfl rfl Tryd.isAgg25 1 rfl Tryd.sizeOf25 rfl) ?_
    iterate 2 refine GoH.v (Vop.mv rfl rfl rfl rfl) ?_
    refine GoH.callP rfl rfl rfl rfl rfl (fun _ _ => Tryd.call59 _ _) (fun w _ hS => (by exact wfits_c m a ca g k w (hm.ex0 hS.ext) (ha.ex0 hS.ext) hgl hy.1 hy.2 hsub)) ?_
    refine GoH.v (Vop.un rfl rfl rfl uNot rfl) ?_
    refine GoH.regionEnd (GoH.condF rfl (GoH.skip (GoH.seq (GoH.region ?_))))
    iterate 2 refine GoH.v (Vop.asg (v := U 0#64) rfl rfl rfl rfl) ?_
    refine GoH.regionEnd (GoH.seq (GoH.seq (GoH.region ?_)))
    iterate 2 refine GoH.v (Vop.mv rfl rfl rfl rfl) ?_
    refine GoH.v (Vop.idxN rfl rfl rfl rfl rfl Tryd.underlying26 Tryd.sizeOf43 ⟨_, (ha).at_⟩ (flat_len (enc := NV.cells) (sz := 6) (fun _ => rfl)) (by decide) (k) ⟨rfl, hlt⟩) ?_
    refine GoH.v (Vop.fldA rfl rfl rfl rfl Tryd.underlying43 rfl Tryd.sizeOf3 ((k) * 6 + 0) rfl) ?_
    refine GoH.v (Vop.ld rfl rfl rfl rfl Tryd.isAgg3 (fun w _ hS => Sl.fld (enc := NV.cells) (sz := 6) ((ha).ex0 hS.ext).at_ (fun _ => rfl) hlt rfl)) ?_
    refine GoH.callP rfl rfl rfl rfl rfl (fun _ _ => Tryd.call38 _ _) (fun w _ hS => (by exact usesX_c g[k].op w)) ?_
    refine GoH.regionEnd ?_
    refine GoH.cond rfl (fun hc => ?_) (fun hc => ?_)
    ·
     have hx := hord.1 hc
     rw [if_pos hc] at hsn
     obtain ⟨b, rfl⟩ : ∃ b, q = some b := by
       cases q with
       | none => have := (hq rfl).1; omega
       | some b => exact ⟨b, rfl⟩
     have hget : (setsL n m.val m.rel g k).getD g[k].x.toNat 0#64 = semT n m.val m.rel (treeAt g g[k].x.toNat) := setsL_get (by omega)
     refine GoH.region ?_
     iterate 3 refine GoH.v (Vop.mv rfl rfl rfl rfl) ?_
     refine GoH.v (Vop.idxN rfl rfl rfl rfl rfl Tryd.underlying26 Tryd.sizeOf43 ⟨_, (ha).at_⟩ (flat_len (enc := NV.cells) (sz := 6) (fun _ => rfl)) (by decide) (k) ⟨rfl, hlt⟩) ?_
     refine GoH.v (Vop.fldA rfl rfl rfl rfl Tryd.underlying43 rfl Tryd.sizeOf3 ((k) * 6 + 4) rfl) ?_
     refine GoH.v (Vop.ld rfl rfl rfl rfl Tryd.isAgg3 (fun w _ hS => Sl.fld (enc := NV.cells) (sz := 6) ((ha).ex0 hS.ext).at_ (fun _ => rfl) hlt rfl)) ?_
     refine GoH.v (Vop.idxS rfl rfl rfl rfl rfl Tryd.underlying22 Tryd.sizeOf33 (g[k].x.toNat) ⟨(Int.toNat_of_nonneg hx.1).symm, (by rw [hsl]; omega)⟩) ?_
     refine GoH.v (Vop.ldE U 0#64 rfl rfl rfl rfl Tryd.isAgg33 0 rfl (by rw [hsl]; omega)) ?_
     refine GoH.v (Vop.asg rfl rfl rfl rfl) ?_
     refine GoH.regionEnd (GoH.seq (GoH.seq (GoH.region ?_)))
     iterate 2 refine GoH.v (Vop.mv rfl rfl rfl rfl) ?_
     refine GoH.v (Vop.idxN rfl rfl rfl rfl rfl Tryd.underlying26 Tryd.sizeOf43 ⟨_, (ha).at_⟩ (flat_len (enc := NV.cells) (sz := 6) (fun _ => rfl)) (by decide) (k) ⟨rfl, hlt⟩) ?_
     refine GoH.v (Vop.fldA rfl rfl rfl rfl Tryd.underlying43 rfl Tryd.sizeOf3 ((k) * 6 + 0) rfl) ?_
     refine GoH.v (Vop.ld rfl rfl rfl rfl Tryd.isAgg3 (fun w _ hS => Sl.fld (enc := NV.cells) (sz := 6) ((ha).ex0 hS.ext).at_ (fun _ => rfl) hlt rfl)) ?_
     refine GoH.callP rfl rfl rfl rfl rfl (fun _ _ => Tryd.call39 _ _) (fun w _ hS => (by exact usesY_c g[k].op w)) ?_
     refine GoH.regionEnd ?_
     refine GoH.cond rfl (fun hc => ?_) (fun hc => ?_)
     ·
      have hy2 := hord.2 hc
      rw [if_pos hc] at hsn
      have hget2 : (setsL n m.val m.rel g k).getD g[k].y.toNat 0#64 = semT n m.val m.rel (treeAt g g[k].y.toNat) := setsL_get (by omega)
      rw [← hget, ← hget2] at hsn
      refine GoH.region ?_
      iterate 3 refine GoH.v (Vop.mv rfl rfl rfl rfl) ?_
      refine GoH.v (Vop.idxN rfl rfl rfl rfl rfl Tryd.underlying26 Tryd.sizeOf43 ⟨_, (ha).at_⟩ (flat_len (enc := NV.cells) (sz := 6) (fun _ => rfl)) (by decide) (k) ⟨rfl, hlt⟩) ?_
      refine GoH.v (Vop.fldA rfl rfl rfl rfl Tryd.underlying43 rfl Tryd.sizeOf3 ((k) * 6 + 5) rfl) ?_
      refine GoH.v (Vop.ld rfl rfl rfl rfl Tryd.isAgg3 (fun w _ hS => Sl.fld (enc := NV.cells) (sz := 6) ((ha).ex0 hS.ext).at_ (fun _ => rfl) hlt rfl)) ?_
      refine GoH.v (Vop.idxS rfl rfl rfl rfl rfl Tryd.underlying22 Tryd.sizeOf33 (g[k].y.toNat) ⟨(Int.toNat_of_nonneg hy2.1).symm, (by rw [hsl]; omega)⟩) ?_
      refine GoH.v (Vop.ldE U 0#64 rfl rfl rfl rfl Tryd.isAgg33 0 rfl (by rw [hsl]; omega)) ?_
      refine GoH.v (Vop.asg rfl rfl rfl rfl) ?_
      refine GoH.regionEnd ?_
      refine GoH.drawT 9 13 mixed rfl ?_
      refine RdT.v (Vop.mv rfl rfl rfl rfl) ?_
      refine RdT.v (Vop.ldB rfl rfl rfl rfl Tryd.isAgg25 1 rfl Tryd.sizeOf25 rfl) ?_
      iterate 2 refine RdT.v (Vop.mv rfl rfl rfl rfl) ?_
      refine RdT.v (Vop.idxN rfl rfl rfl rfl rfl Tryd.underlying26 Tryd.sizeOf43 ⟨_, (ha).at_⟩ (flat_len (enc := NV.cells) (sz := 6) (fun _ => rfl)) (by decide) (k) ⟨rfl, hlt⟩) ?_
      refine RdT.v (Vop.ldN (cs := NV.cells g[k]) rfl rfl rfl rfl Tryd.isAgg43 Tryd.sizeOf43 (fun w _ hS => Sl.many (enc := NV.cells) (sz := 6) (ha.ex0 hS.ext).at_ (fun _ => rfl) hlt)) ?_
      iterate 2 refine RdT.v (Vop.mv rfl rfl rfl rfl) ?_
      refine RdT.callP rfl rfl rfl rfl rfl (fun _ _ => Tryd.call60 _ _) (fun w _ hS => (by have := wOne_c m n g[k] ((setsL n m.val m.rel g k).getD g[k].x.toNat 0#64) ((setsL n m.val m.rel g k).getD g[k].y.toNat 0#64) w (hm.ex0 hS.ext) hv hn hnd; rw [← hsn] at this; exact this)) ?_
      refine RdT.nil ?_
      refine Tl.one (d := 68) rfl ?_
      refine Mop.bsN (c := [_]) rfl rfl rfl rfl Tryd.underlying22 Tryd.sizeOf33 Tryd.zeroValue33 rfl rfl (fun b68 => ⟨by repeat (first | exact List.Sublist.refl _ | exact List.nil_sublist _ | refine List.Sublist.cons_cons _ ?_ | refine List.Sublist.cons _ ?_), ?_⟩)
      refine Tl.sw [10, 11] rfl rfl ?_
      refine GoH.appE U (xs := setsL n m.val m.rel g k) (sp := sp) (q := some b) (news := [semT n m.val m.rel (treeAt g k)]) (spn := []) rfl rfl rfl rfl rfl Tryd.underlying22 hi hz hsz rfl hq 1 rfl 0 rfl hcap rfl (by decide) (fun _ => rfl) (by unfold maxLen; rw [hsl]; omega) (by rw [hby, hsl]; omega) (fun b' sp' cap' hlen2 => ?_)
      rw [← setsL_succ] at hlen2 ⊢
      refine GoH.v (Vop.asg rfl rfl rfl rfl) ?_
      refine GoH.regionEnd (GoH.inBlock (GoH.region ?_))
      refine GoH.v (Vop.mv rfl rfl rfl rfl) ?_
      refine GoH.v (Vop.bin rfl rfl rfl rfl (bAdd (by omega)) rfl) ?_
      refine GoH.v (Vop.asg rfl rfl rfl rfl) ?_
      refine GoH.regionEnd ?_
      exact IH (k + 1, some b', cap', sp') _ _ ⟨hlt, (fun e => by cases e), hlen2⟩ (by dsimp only; omega) ⟨rfl, rfl, rfl, rfl, trivial⟩ (.cons _ (List.Sublist.refl _))
     ·
      rw [if_neg (by rw [hc]; simp), ← hget] at hsn
      refine GoH.skip ?_
      refine GoH.drawT 9 13 mixed rfl ?_
      refine RdT.v (Vop.mv rfl rfl rfl rfl) ?_
      refine RdT.v (Vop.ldB rfl rfl rfl rfl Tryd.isAgg25 1 rfl Tryd.sizeOf25 rfl) ?_
      iterate 2 refine RdT.v (Vop.mv rfl rfl rfl rfl) ?_
      refine RdT.v (Vop.idxN rfl rfl rfl rfl rfl Tryd.underlying26 Tryd.sizeOf43 ⟨_, (ha).at_⟩ (flat_len (enc := NV.cells) (sz := 6) (fun _ => rfl)) (by decide) (k) ⟨rfl, hlt⟩) ?_
      refine RdT.v (Vop.ldN (cs := NV.cells g[k]) rfl rfl rfl rfl Tryd.isAgg43 Tryd.sizeOf43 (fun w _ hS => Sl.many (enc := NV.cells) (sz := 6) (ha.ex0 hS.ext).at_ (fun _ => rfl) hlt)) ?_
      iterate 2 refine RdT.v (Vop.mv rfl rfl rfl rfl) ?_
      refine RdT.callP rfl rfl rfl rfl rfl (fun _ _ => Tryd.call60 _ _) (fun w _ hS => (by have := wOne_c m n g[k] ((setsL n m.val m.rel g k).getD g[k].x.toNat 0#64) 0#64 w (hm.ex0 hS.ext) hv hn hnd; rw [← hsn] at this; exact this)) ?_
      refine RdT.nil ?_
      refine Tl.one (d := 68) rfl ?_
      refine Mop.bsN (c := [_]) rfl rfl rfl rfl Tryd.underlying22 Tryd.sizeOf33 Tryd.zeroValue33 rfl rfl (fun b68 => ⟨by repeat (first | exact List.Sublist.refl _ | exact List.nil_sublist _ | refine List.Sublist.cons_cons _ ?_ | refine List.Sublist.cons _ ?_), ?_⟩)
      refine Tl.sw [10, 11] rfl rfl ?_
      refine GoH.appE U (xs := setsL n m.val m.rel g k) (sp := sp) (q := some b) (news := [semT n m.val m.rel (treeAt g k)]) (spn := []) rfl rfl rfl rfl rfl Tryd.underlying22 hi hz hsz rfl hq 1 rfl 0 rfl hcap rfl (by decide) (fun _ => rfl) (by unfold maxLen; rw [hsl]; omega) (by rw [hby, hsl]; omega) (fun b' sp' cap' hlen2 => ?_)
      rw [← setsL_succ] at hlen2 ⊢
      refine GoH.v (Vop.asg rfl rfl rfl rfl) ?_
      refine GoH.regionEnd (GoH.inBlock (GoH.region ?_))
      refine GoH.v (Vop.mv rfl rfl rfl rfl) ?_
      refine GoH.v (Vop.bin rfl rfl rfl rfl (bAdd (by omega)) rfl) ?_
      refine GoH.v (Vop.asg rfl rfl rfl rfl) ?_
      refine GoH.regionEnd ?_
      exact IH (k + 1, some b', cap', sp') _ _ ⟨hlt, (fun e => by cases e), hlen2⟩ (by dsimp only; omega) ⟨rfl, rfl, rfl, rfl, trivial⟩ (.cons _ (List.Sublist.refl _))
    ·
     have hc0 := hc
     rw [if_neg (by rw [hc]; simp)] at hsn
     refine GoH.skip (GoH.seq (GoH.seq (GoH.region ?_)))
     iterate 2 refine GoH.v (Vop.mv rfl rfl rfl rfl) ?_
     refine GoH.v (Vop.idxN rfl rfl rfl rfl rfl Tryd.underlying26 Tryd.sizeOf43 ⟨_, (ha).at_⟩ (flat_len (enc := NV.cells) (sz := 6) (fun _ => rfl)) (by decide) (k) ⟨rfl, hlt⟩) ?_
     refine GoH.v (Vop.fldA rfl rfl rfl rfl Tryd.underlying43 rfl Tryd.sizeOf3 ((k) * 6 + 0) rfl) ?_
     refine GoH.v (Vop.ld rfl rfl rfl rfl Tryd.isAgg3 (fun w _ hS => Sl.fld (enc := NV.cells) (sz := 6) ((ha).ex0 hS.ext).at_ (fun _ => rfl) hlt rfl)) ?_
     refine GoH.callP rfl rfl rfl rfl rfl (fun _ _ => Tryd.call39 _ _) (fun w _ hS => (by exact usesY_c g[k].op w)) ?_
     refine GoH.regionEnd ?_
     refine GoH.cond rfl (fun hc => ?_) (fun hc => ?_)
     ·
      rw [usY_X hc] at hc0; cases hc0
     ·
      rw [if_neg (by rw [hc]; simp)] at hsn
      refine GoH.skip ?_
      refine GoH.drawT 9 13 mixed rfl ?_
      refine RdT.v (Vop.mv rfl rfl rfl rfl) ?_
      refine RdT.v (Vop.ldB rfl rfl rfl rfl Tryd.isAgg25 1 rfl Tryd.sizeOf25 rfl) ?_
      iterate 2 refine RdT.v (Vop.mv rfl rfl rfl rfl) ?_
      refine RdT.v (Vop.idxN rfl rfl rfl rfl rfl Tryd.underlying26 Tryd.sizeOf43 ⟨_, (ha).at_⟩ (flat_len (enc := NV.cells) (sz := 6) (fun _ => rfl)) (by decide) (k) ⟨rfl, hlt⟩) ?_
      refine RdT.v (Vop.ldN (cs := NV.cells g[k]) rfl rfl rfl rfl Tryd.isAgg43 Tryd.sizeOf43 (fun w _ hS => Sl.many (enc := NV.cells) (sz := 6) (ha.ex0 hS.ext).at_ (fun _ => rfl) hlt)) ?_
      iterate 2 refine RdT.v (Vop.mv rfl rfl rfl rfl) ?_
      refine RdT.callP rfl rfl rfl rfl rfl (fun _ _ => Tryd.call60 _ _) (fun w _ hS => (by have := wOne_c m n g[k] 0#64 0#64 w (hm.ex0 hS.ext) hv hn hnd; rw [← hsn] at this; exact this)) ?_
      refine RdT.nil ?_
      refine Tl.one (d := 68) rfl ?_
      refine Mop.bsN (c := [_]) rfl rfl rfl rfl Tryd.underlying22 Tryd.sizeOf33 Tryd.zeroValue33 rfl rfl (fun b68 => ⟨by repeat (first | exact List.Sublist.refl _ | exact List.nil_sublist _ | refine List.Sublist.cons_cons _ ?_ | refine List.Sublist.cons _ ?_), ?_⟩)
      refine Tl.sw [10, 11] rfl rfl ?_
      refine GoH.appE U (xs := setsL n m.val m.rel g k) (sp := sp) (q := q) (news := [semT n m.val m.rel (treeAt g k)]) (spn := []) rfl rfl rfl rfl rfl Tryd.underlying22 hi hz hsz rfl hq 1 rfl 0 rfl hcap rfl (by decide) (fun _ => rfl) (by unfold maxLen; rw [hsl]; omega) (by rw [hby, hsl]; omega) (fun b' sp' cap' hlen2 => ?_)
      rw [← setsL_succ] at hlen2 ⊢
      refine GoH.v (Vop.asg rfl rfl rfl rfl) ?_
      refine GoH.regionEnd (GoH.inBlock (GoH.region ?_))
      refine GoH.v (Vop.mv rfl rfl rfl rfl) ?_
      refine GoH.v (Vop.bin rfl rfl rfl rfl (bAdd (by omega)) rfl) ?_
      refine GoH.v (Vop.asg rfl rfl rfl rfl) ?_
      refine GoH.regionEnd ?_
      exact IH (k + 1, some b', cap', sp') _ _ ⟨hlt, (fun e => by cases e), hlen2⟩ (by dsimp only; omega) ⟨rfl, rfl, rfl, rfl, trivial⟩ (.cons _ (List.Sublist.refl _))
   ·
    have hge : ¬ k < g.length := by simpa using hc
    obtain rfl : k = g.length := by omega
    refine GoH.exit rfl (GoH.seq (GoH.region ?_))
    refine GoH.v (Vop.mv rfl rfl rfl rfl) ?_
    iterate 2 refine GoH.v (Vop.asg rfl rfl rfl rfl) ?_
    refine GoH.regionEnd ?_
    refine GoH.ret Tryd.f33 Tryd.func33 rfl (fun w' hS => ?_)
    refine ⟨hS.ext, _, by rw [h0]; rfl, ?_⟩
    rw [setsR, if_pos h0]
    exact ⟨q, cap, sp, rfl, hq, hcap, fun b' hb => by subst hb; exact ⟨hS.fresh (j := 0) rfl, hS.get (j := 0) rfl⟩⟩
/-- the worlds in which a formula holds, or none -/
def holdS (m : MV) (n : Nat) (f : List NV) : W64 := if holdE m.n m.val m.rel f = 0 then semT n m.val m.rel (topT f) else 0#64
set_option maxRecDepth 8000 in
theorem wHolds_c (m : MV) (n : Nat) (a : Option Addr) (ca : Nat) (f : List NV) (w : World) (hm : m.At w) (hn : m.n = (n : Int)) (ha : FA w a f) (hl : f.length ≤ maxLen) :
    Cn Tryd.prog 13 [m.v, .slice a f.length ca] w (fun v _ => v = .tuple #[U (holdS m n f), .int .i64 (holdE m.n m.val m.rel f)]) := by
  have hcl := compF_le f
  have hcm : (compF f).length ≤ maxLen := by unfold maxLen; omega
  have hcan : chkF (compF f) = 0 → CanF (compF f) := fun h => by
    by_cases h0 : chkF f = 0
    · exact CanF.compF h0
    · rw [compF, if_pos h0] at h; cases h
  have hE : holdE m.n m.val m.rel (compF f) = 0 ↔ holdE m.n m.val m.rel f = 0 := by
    by_cases h0 : chkF f = 0
    · rw [holdE_comp h0]
    · constructor
      · intro h; rw [compF, if_pos h0] at h; exact absurd (holdE_zero.1 h).2.1 (by decide)
      · intro h; exact absurd (holdE_zero.1 h).2.1 h0
  refine Cn.of Tryd.func13 rfl rfl ?_
  refine GoH.seq (GoH.region ?_)
  refine GoH.bx rfl rfl rfl rfl (fun b2 => ?_)
  refine GoH.v (Vop.asg (v := U 0#64) rfl rfl rfl rfl) ?_
  refine GoH.v (Vop.asg rfl rfl rfl rfl) ?_
  refine GoH.regionEnd (GoH.seq ?_)
  refine GoH.drawO mixed (os := [[0, 1, 2, 3, 4, 5, 6, 7, 8], [0, 1, 2, 3, 4, 5, 7, 6, 8], [0, 1, 2, 3, 4, 6, 5, 7, 8], [1, 0, 2, 3, 4, 5, 6, 7, 8], [1, 0, 2, 3, 4, 5, 7, 6, 8], [1, 0, 2, 3, 4, 6, 5, 7, 8], [1, 2, 0, 3, 4, 5, 6, 7, 8], [1, 2, 0, 3, 4, 5, 7, 6, 8], [1, 2, 0, 3, 4, 6, 5, 7, 8]]) rfl ?_
  refine List.forall_mem_cons.2 ⟨?_, ?_⟩
  · -- order [0, 1, 2, 3, 4, 5, 6, 7, 8]
   refine GoH.v (Vop.ldB rfl rfl rfl rfl Tryd.isAgg25 0 rfl Tryd.sizeOf25 rfl) ?_
   refine GoH.v (Vop.mv rfl rfl rfl rfl) ?_
   refine GoH.callM _ rfl rfl rfl rfl rfl (fun _ _ => Tryd.call17 _ _) (fun w _ hS => rcompact_c a ca f w (ha.ex0 hS.ext) hl) ?_
   rintro v w1 w2 Y' hS he ho
   rw [subF_top] at ho
   obtain ⟨q, cap, sp, rfl, hq, hcap, hS'⟩ := gainN hS he ho
   refine ⟨_, hS', ?_⟩
   refine GoH.callM _ rfl rfl rfl rfl rfl (fun _ _ => Tryd.call33 _ _) (fun w _ hS => (by exact wSets_c m n (q.map (fun b => ⟨b, 0, none⟩)) cap (compF f) w (hm.ex0 hS.ext) hn (faAt hS 0 rfl (fun e => (hq e).1)) hcm hcan)) ?_
   rintro v w1 w2 Y' hS he ⟨sv, rfl, h2⟩
   obtain ⟨q2, cap2, sp2, rfl, hq2, hcap2, hS'⟩ := gainO hS he h2
   refine ⟨_, hS', ?_⟩
   refine GoH.v (Vop.mv rfl rfl rfl rfl) ?_
   iterate 2 refine GoH.v (Vop.ext rfl rfl rfl rfl rfl) ?_
   iterate 2 refine GoH.v (Vop.asg rfl rfl rfl rfl) ?_
   refine GoH.regionEnd (GoH.seq (GoH.seq (GoH.region ?_)))
   refine GoH.v (Vop.mv rfl rfl rfl rfl) ?_
   refine GoH.v (Vop.bin rfl rfl rfl rfl bNe rfl) ?_
   refine GoH.v (Vop.mv rfl rfl rfl rfl) ?_
   refine GoH.cases (d := 17) rfl (fun hc => ?_) (fun hc => ?_)
   ·
    have h0 : holdE m.n m.val m.rel f ≠ 0 := fun h => by simp [hE.2 h] at hc
    iterate 3 refine GoH.no rfl rfl rfl rfl ?_
    refine GoH.v (Vop.pickT rfl rfl rfl rfl rfl) ?_
    refine GoH.regionEnd (GoH.condT rfl (GoH.seq (GoH.region ?_)))
    refine GoH.v (Vop.ldB rfl rfl rfl rfl Tryd.isAgg25 2 rfl Tryd.sizeOf25 rfl) ?_
    refine GoH.v (Vop.mv rfl rfl rfl rfl) ?_
    refine GoH.callP rfl rfl rfl rfl rfl (fun _ _ => Tryd.call34 _ _) (fun w _ hS => (by exact wCheck_c m a ca f w (hm.ex0 hS.ext) (ha.ex0 hS.ext) hl)) ?_
    refine GoH.v (Vop.asg (v := U 0#64) rfl rfl rfl rfl) ?_
    refine GoH.v (Vop.asg rfl rfl rfl rfl) ?_
    refine GoH.regionEnd ?_
    refine GoH.ret Tryd.f13 Tryd.func13 rfl (fun w' hS => ?_)
    exact ⟨hS.ext, by rw [holdS, if_neg h0]; rfl⟩
   ·
    have h0c : holdE m.n m.val m.rel (compF f) = 0 := by simpa using hc
    have h0 := hE.1 h0c
    have hf1 := (holdE_zero.1 h0).2.1
    have hC := CanF.compF hf1
    have hpos := (chkF_zero.1 hC.chk).pos
    have htop := sets_top (n := n) (val := m.val) (rel := m.rel) hC
    rw [topT_comp hf1] at htop
    have hsl : (setsR m n (compF f)).length = (compF f).length := by rw [setsR, if_pos h0c, setsL_len]
    have hget : (setsR m n (compF f)).getD ((compF f).length - 1) 0#64 = holdS m n f := by rw [setsR, if_pos h0c, htop, holdS, if_pos h0]
    obtain ⟨b, rfl⟩ : ∃ b, q2 = some b := by
      cases q2 with
      | none => have := (hq2 rfl).1; omega
      | some b => exact ⟨b, rfl⟩
    refine GoH.v (Vop.mv rfl rfl rfl rfl) ?_
    refine GoH.v (Vop.blt rfl rfl rfl (blt_len_slice Tryd.underlying22) rfl) ?_
    refine GoH.v (Vop.bin rfl rfl rfl rfl (bEqV (v := false) (beq_eq_false_iff_ne.2 (by omega))) rfl) ?_
    refine GoH.v (Vop.pickF rfl rfl rfl rfl rfl) ?_
    refine GoH.regionEnd (GoH.condF rfl (GoH.skip (GoH.seq (GoH.region ?_))))
    iterate 2 refine GoH.v (Vop.mv rfl rfl rfl rfl) ?_
    refine GoH.v (Vop.blt rfl rfl rfl (blt_len_slice Tryd.underlying22) rfl) ?_
    refine GoH.v (Vop.bin rfl rfl rfl rfl (bSub (by omega)) rfl) ?_
    refine GoH.v (Vop.idxS rfl rfl rfl rfl rfl Tryd.underlying22 Tryd.sizeOf33 ((compF f).length - 1) ⟨(by rw [hsl]; omega), (by rw [hsl]; omega)⟩) ?_
    refine GoH.v (Vop.ldE U 0#64 rfl rfl rfl rfl Tryd.isAgg33 0 rfl (by rw [hsl]; omega)) ?_
    iterate 2 refine GoH.v (Vop.asg rfl rfl rfl rfl) ?_
    refine GoH.regionEnd ?_
    refine GoH.ret Tryd.f13 Tryd.func13 rfl (fun w' hS => ?_)
    exact ⟨hS.ext, by rw [h0, ← hget]; rfl⟩
  refine List.forall_mem_cons.2 ⟨?_, ?_⟩
  · -- order [0, 1, 2, 3, 4, 5, 7, 6, 8]
   refine GoH.v (Vop.ldB rfl rfl rfl rfl Tryd.isAgg25 0 rfl Tryd.sizeOf25 rfl) ?_
   refine GoH.v (Vop.mv rfl rfl rfl rfl) ?_
   refine GoH.callM _ rfl rfl rfl rfl rfl (fun _ _ => Tryd.call17 _ _) (fun w _ hS => rcompact_c a ca f w (ha.ex0 hS.ext) hl) ?_
   rintro v w1 w2 Y' hS he ho
   rw [subF_top] at ho
   obtain ⟨q, cap, sp, rfl, hq, hcap, hS'⟩ := gainN hS he ho
   refine ⟨_, hS', ?_⟩
   refine GoH.callM _ rfl rfl rfl rfl rfl (fun _ _ => Tryd.call33 _ _) (fun w _ hS => (by exact wSets_c m n (q.map (fun b => ⟨b, 0, none⟩)) cap (compF f) w (hm.ex0 hS.ext) hn (faAt hS 0 rfl (fun e => (hq e).1)) hcm hcan)) ?_
   rintro v w1 w2 Y' hS he ⟨sv, rfl, h2⟩
   obtain ⟨q2, cap2, sp2, rfl, hq2, hcap2, hS'⟩ := gainO hS he h2
   refine ⟨_, hS', ?_⟩
   refine GoH.v (Vop.mv rfl rfl rfl rfl) ?_
   refine GoH.v (Vop.ext rfl rfl rfl rfl rfl) ?_
   refine GoH.v (Vop.asg rfl rfl rfl rfl) ?_
   refine GoH.v (Vop.ext rfl rfl rfl rfl rfl) ?_
   refine GoH.v (Vop.asg rfl rfl rfl rfl) ?_
   refine GoH.regionEnd (GoH.seq (GoH.seq (GoH.region ?_)))
   refine GoH.v (Vop.mv rfl rfl rfl rfl) ?_
   refine GoH.v (Vop.bin rfl rfl rfl rfl bNe rfl) ?_
   refine GoH.v (Vop.mv rfl rfl rfl rfl) ?_
   refine GoH.cases (d := 17) rfl (fun hc => ?_) (fun hc => ?_)
   ·
    have h0 : holdE m.n m.val m.rel f ≠ 0 := fun h => by simp [hE.2 h] at hc
    iterate 3 refine GoH.no rfl rfl rfl rfl ?_
    refine GoH.v (Vop.pickT rfl rfl rfl rfl rfl) ?_
    refine GoH.regionEnd (GoH.condT rfl (GoH.seq (GoH.region ?_)))
    refine GoH.v (Vop.ldB rfl rfl rfl rfl Tryd.isAgg25 2 rfl Tryd.sizeOf25 rfl) ?_
    refine GoH.v (Vop.mv rfl rfl rfl rfl) ?_
    refine GoH.callP rfl rfl rfl rfl rfl (fun _ _ => Tryd.call34 _ _) (fun w _ hS => (by exact wCheck_c m a ca f w (hm.ex0 hS.ext) (ha.ex0 hS.ext) hl)) ?_
    refine GoH.v (Vop.asg (v := U 0#64) rfl rfl rfl rfl) ?_
    refine GoH.v (Vop.asg rfl rfl rfl rfl) ?_
    refine GoH.regionEnd ?_
    refine GoH.ret Tryd.f13 Tryd.func13 rfl (fun w' hS => ?_)
    exact ⟨hS.ext, by rw [holdS, if_neg h0]; rfl⟩
   ·
    have h0c : holdE m.n m.val m.rel (compF f) = 0 := by simpa using hc
    have h0 := hE.1 h0c
    have hf1 := (holdE_zero.1 h0).2.1
    have hC := CanF.compF hf1
    have hpos := (chkF_zero.1 hC.chk).pos
    have htop := sets_top (n := n) (val := m.val) (rel := m.rel) hC
    rw [topT_comp hf1] at htop
    have hsl : (setsR m n (compF f)).length = (compF f).length := by rw [setsR, if_pos h0c, setsL_len]
    have hget : (setsR m n (compF f)).getD ((compF f).length - 1) 0#64 = holdS m n f := by rw [setsR, if_pos h0c, htop, holdS, if_pos h0]
    obtain ⟨b, rfl⟩ : ∃ b, q2 = some b := by
      cases q2 with
      | none => have := (hq2 rfl).1; omega
      | some b => exact ⟨b, rfl⟩
    refine GoH.v (Vop.mv rfl rfl rfl rfl) ?_
    refine GoH.v (Vop.blt rfl rfl rfl (blt_len_slice Tryd.underlying22) rfl) ?_
    refine GoH.v (Vop.bin rfl rfl rfl rfl (bEqV (v := false) (beq_eq_false_iff_ne.2 (by omega))) rfl) ?_
    refine GoH.v (Vop.pickF rfl rfl rfl rfl rfl) ?_
    refine GoH.regionEnd (GoH.condF rfl (GoH.skip (GoH.seq (GoH.region ?_))))
    iterate 2 refine GoH.v (Vop.mv rfl rfl rfl rfl) ?_
    refine GoH.v (Vop.blt rfl rfl rfl (blt_len_slice Tryd.underlying22) rfl) ?_
    refine GoH.v (Vop.bin rfl rfl rfl rfl (bSub (by omega)) rfl) ?_
    refine GoH.v (Vop.idxS rfl rfl rfl rfl rfl Tryd.underlying22 Tryd.sizeOf33 ((compF f).length - 1) ⟨(by rw [hsl]; omega), (by rw [hsl]; omega)⟩) ?_
    refine GoH.v (Vop.ldE U 0#64 rfl rfl rfl rfl Tryd.isAgg33 0 rfl (by rw [hsl]; omega)) ?_
    iterate 2 refine GoH.v (Vop.asg rfl rfl rfl rfl) ?_
    refine GoH.regionEnd ?_
    refine GoH.ret Tryd.f13 Tryd.func13 rfl (fun w' hS => ?_)
    exact ⟨hS.ext, by rw [h0, ← hget]; rfl⟩
  refine List.forall_mem_cons.2 ⟨?_, ?_⟩
  · -- order [0, 1, 2, 3, 4, 6, 5, 7, 8]
   refine GoH.v (Vop.ldB rfl rfl rfl rfl Tryd.isAgg25 0 rfl Tryd.sizeOf25 rfl) ?_
   refine GoH.v (Vop.mv rfl rfl rfl rfl) ?_
   refine GoH.callM _ rfl rfl rfl rfl rfl (fun _ _ => Tryd.call17 _ _) (fun w _ hS => rcompact_c a ca f w (ha.ex0 hS.ext) hl) ?_
   rintro v w1 w2 Y' hS he ho
   rw [subF_top] at ho
   obtain ⟨q, cap, sp, rfl, hq, hcap, hS'⟩ := gainN hS he ho
   refine ⟨_, hS', ?_⟩
   refine GoH.callM _ rfl rfl rfl rfl rfl (fun _ _ => Tryd.call33 _ _) (fun w _ hS => (by exact wSets_c m n (q.map (fun b => ⟨b, 0, none⟩)) cap (compF f) w (hm.ex0 hS.ext) hn (faAt hS 0 rfl (fun e => (hq e).1)) hcm hcan)) ?_
   rintro v w1 w2 Y' hS he ⟨sv, rfl, h2⟩
   obtain ⟨q2, cap2, sp2, rfl, hq2, hcap2, hS'⟩ := gainO hS he h2
   refine ⟨_, hS', ?_⟩
   refine GoH.v (Vop.mv rfl rfl rfl rfl) ?_
   iterate 2 refine GoH.v (Vop.ext rfl rfl rfl rfl rfl) ?_
   iterate 2 refine GoH.v (Vop.asg rfl rfl rfl rfl) ?_
   refine GoH.regionEnd (GoH.seq (GoH.seq (GoH.region ?_)))
   refine GoH.v (Vop.mv rfl rfl rfl rfl) ?_
   refine GoH.v (Vop.bin rfl rfl rfl rfl bNe rfl) ?_
   refine GoH.v (Vop.mv rfl rfl rfl rfl) ?_
   refine GoH.cases (d := 17) rfl (fun hc => ?_) (fun hc => ?_)
   ·
    have h0 : holdE m.n m.val m.rel f ≠ 0 := fun h => by simp [hE.2 h] at hc
    iterate 3 refine GoH.no rfl rfl rfl rfl ?_
    refine GoH.v (Vop.pickT rfl rfl rfl rfl rfl) ?_
    refine GoH.regionEnd (GoH.condT rfl (GoH.seq (GoH.region ?_)))
    refine GoH.v (Vop.ldB rfl rfl rfl rfl Tryd.isAgg25 2 rfl Tryd.sizeOf25 rfl) ?_
    refine GoH.v (Vop.mv rfl rfl rfl rfl) ?_
    refine GoH.callP rfl rfl rfl rfl rfl (fun _ _ => Tryd.call34 _ _) (fun w _ hS => (by exact wCheck_c m a ca f w (hm.ex0 hS.ext) (ha.ex0 hS.ext) hl)) ?_
    refine GoH.v (Vop.asg (v := U 0#64) rfl rfl rfl rfl) ?_
    refine GoH.v (Vop.asg rfl rfl rfl rfl) ?_
    refine GoH.regionEnd ?_
    refine GoH.ret Tryd.f13 Tryd.func13 rfl (fun w' hS => ?_)
    exact ⟨hS.ext, by rw [holdS, if_neg h0]; rfl⟩
   ·
    have h0c : holdE m.n m.val m.rel (compF f) = 0 := by simpa using hc
    have h0 := hE.1 h0c
    have hf1 := (holdE_zero.1 h0).2.1
    have hC := CanF.compF hf1
    have hpos := (chkF_zero.1 hC.chk).pos
    have htop := sets_top (n := n) (val := m.val) (rel := m.rel) hC
    rw [topT_comp hf1] at htop
    have hsl : (setsR m n (compF f)).length = (compF f).length := by rw [setsR, if_pos h0c, setsL_len]
    have hget : (setsR m n (compF f)).getD ((compF f).length - 1) 0#64 = holdS m n f := by rw [setsR, if_pos h0c, htop, holdS, if_pos h0]
    obtain ⟨b, rfl⟩ : ∃ b, q2 = some b := by
      cases q2 with
      | none => have := (hq2 rfl).1; omega
      | some b => exact ⟨b, rfl⟩
    refine GoH.v (Vop.mv rfl rfl rfl rfl) ?_
    refine GoH.v (Vop.blt rfl rfl rfl (blt_len_slice Tryd.underlying22) rfl) ?_
    refine GoH.v (Vop.bin rfl rfl rfl rfl (bEqV (v := false) (beq_eq_false_iff_ne.2 (by omega))) rfl) ?_
    refine GoH.v (Vop.pickF rfl rfl rfl rfl rfl) ?_
    refine GoH.regionEnd (GoH.condF rfl (GoH.skip (GoH.seq (GoH.region ?_))))
    iterate 2 refine GoH.v (Vop.mv rfl rfl rfl rfl) ?_
    refine GoH.v (Vop.blt rfl rfl rfl (blt_len_slice Tryd.underlying22) rfl) ?_
    refine GoH.v (Vop.bin rfl rfl rfl rfl (bSub (by omega)) rfl) ?_
    refine GoH.v (Vop.idxS rfl rfl rfl rfl rfl Tryd.underlying22 Tryd.sizeOf33 ((compF f).length - 1) ⟨(by rw [hsl]; omega), (by rw [hsl]; omega)⟩) ?_
    refine GoH.v (Vop.ldE U 0#64 rfl rfl rfl rfl Tryd.isAgg33 0 rfl (by rw [hsl]; omega)) ?_
    iterate 2 refine GoH.v (Vop.asg rfl rfl rfl rfl) ?_
    refine GoH.regionEnd ?_
    refine GoH.ret Tryd.f13 Tryd.func13 rfl (fun w' hS => ?_)
    exact ⟨hS.ext, by rw [h0, ← hget]; rfl⟩
  refine List.forall_mem_cons.2 ⟨?_, ?_⟩
  · -- order [1, 0, 2, 3, 4, 5, 6, 7, 8]
   refine GoH.v (Vop.mv rfl rfl rfl rfl) ?_
   refine GoH.v (Vop.ldB rfl rfl rfl rfl Tryd.isAgg25 0 rfl Tryd.sizeOf25 rfl) ?_
   refine GoH.callM _ rfl rfl rfl rfl rfl (fun _ _ => Tryd.call17 _ _) (fun w _ hS => rcompact_c a ca f w (ha.ex0 hS.ext) hl) ?_
   rintro v w1 w2 Y' hS he ho
   rw [subF_top] at ho
   obtain ⟨q, cap, sp, rfl, hq, hcap, hS'⟩ := gainN hS he ho
   refine ⟨_, hS', ?_⟩
   refine GoH.callM _ rfl rfl rfl rfl rfl (fun _ _ => Tryd.call33 _ _) (fun w _ hS => (by exact wSets_c m n (q.map (fun b => ⟨b, 0, none⟩)) cap (compF f) w (hm.ex0 hS.ext) hn (faAt hS 0 rfl (fun e => (hq e).1)) hcm hcan)) ?_
   rintro v w1 w2 Y' hS he ⟨sv, rfl, h2⟩
   obtain ⟨q2, cap2, sp2, rfl, hq2, hcap2, hS'⟩ := gainO hS he h2
   refine ⟨_, hS', ?_⟩
   refine GoH.v (Vop.mv rfl rfl rfl rfl) ?_
   iterate 2 refine GoH.v (Vop.ext rfl rfl rfl rfl rfl) ?_
   iterate 2 refine GoH.v (Vop.asg rfl rfl rfl rfl) ?_
   refine GoH.regionEnd (GoH.seq (GoH.seq (GoH.region ?_)))
   refine GoH.v (Vop.mv rfl rfl rfl rfl) ?_
   refine GoH.v (Vop.bin rfl rfl rfl rfl bNe rfl) ?_
   refine GoH.v (Vop.mv rfl rfl rfl rfl) ?_
   refine GoH.cases (d := 17) rfl (fun hc => ?_) (fun hc => ?_)
   ·
    have h0 : holdE m.n m.val m.rel f ≠ 0 := fun h => by simp [hE.2 h] at hc
    iterate 3 refine GoH.no rfl rfl rfl rfl ?_
    refine GoH.v (Vop.pickT rfl rfl rfl rfl rfl) ?_
    refine GoH.regionEnd (GoH.condT rfl (GoH.seq (GoH.region ?_)))
    refine GoH.v (Vop.ldB rfl rfl rfl rfl Tryd.isAgg25 2 rfl Tryd.sizeOf25 rfl) ?_
    refine GoH.v (Vop.mv rfl rfl rfl rfl) ?_
    refine GoH.callP rfl rfl rfl rfl rfl (fun _ _ => Tryd.call34 _ _) (fun w _ hS => (by exact wCheck_c m a ca f w (hm.ex0 hS.ext) (ha.ex0 hS.ext) hl)) ?_
    refine GoH.v (Vop.asg (v := U 0#64) rfl rfl rfl rfl) ?_
    refine GoH.v (Vop.asg rfl rfl rfl rfl) ?_
    refine GoH.regionEnd ?_
    refine GoH.ret Tryd.f13 Tryd.func13 rfl (fun w' hS => ?_)
    exact ⟨hS.ext, by rw [holdS, if_neg h0]; rfl⟩
   ·
    have h0c : holdE m.n m.val m.rel (compF f) = 0 := by simpa using hc
    have h0 := hE.1 h0c
    have hf1 := (holdE_zero.1 h0).2.1
    have hC := CanF.compF hf1
    have hpos := (chkF_zero.1 hC.chk).pos
    have htop := sets_top (n := n) (val := m.val) (rel := m.rel) hC
    rw [topT_comp hf1] at htop
    have hsl : (setsR m n (compF f)).length = (compF f).length := by rw [setsR, if_pos h0c, setsL_len]
    have hget : (setsR m n (compF f)).getD ((compF f).length - 1) 0#64 = holdS m n f := by rw [setsR, if_pos h0c, htop, holdS, if_pos h0]
    obtain ⟨b, rfl⟩ : ∃ b, q2 = some b := by
      cases q2 with
      | none => have := (hq2 rfl).1; omega
      | some b => exact ⟨b, rfl⟩
    refine GoH.v (Vop.mv rfl rfl rfl rfl) ?_
    refine GoH.v (Vop.blt rfl rfl rfl (blt_len_slice Tryd.underlying22) rfl) ?_
    refine GoH.v (Vop.bin rfl rfl rfl rfl (bEqV (v := false) (beq_eq_false_iff_ne.2 (by omega))) rfl) ?_
    refine GoH.v (Vop.pickF rfl rfl rfl rfl rfl) ?_
    refine GoH.regionEnd (GoH.condF rfl (GoH.skip (GoH.seq (GoH.region ?_))))
    iterate 2 refine GoH.v (Vop.mv rfl rfl rfl rfl) ?_
    refine GoH.v (Vop.blt rfl rfl rfl (blt_len_slice Tryd.underlying22) rfl) ?_
    refine GoH.v (Vop.bin rfl rfl rfl rfl (bSub (by omega)) rfl) ?_
    refine GoH.v (Vop.idxS rfl rfl rfl rfl rfl Tryd.underlying22 Tryd.sizeOf33 ((compF f).length - 1) ⟨(by rw [hsl]; omega), (by rw [hsl]; omega)⟩) ?_
    refine GoH.v (Vop.ldE U 0#64 rfl rfl rfl rfl Tryd.isAgg33 0 rfl (by rw [hsl]; omega)) ?_
    iterate 2 refine GoH.v (Vop.asg rfl rfl rfl rfl) ?_
    refine GoH.regionEnd ?_
    refine GoH.ret Tryd.f13 Tryd.func13 rfl (fun w' hS => ?_)
    exact ⟨hS.ext, by rw [h0, ← hget]; rfl⟩
  refine List.forall_mem_cons.2 ⟨?_, ?_⟩
  · -- order [1, 0, 2, 3, 4, 5, 7, 6, 8]
   refine GoH.v (Vop.mv rfl rfl rfl rfl) ?_
   refine GoH.v (Vop.ldB rfl rfl rfl rfl Tryd.isAgg25 0 rfl Tryd.sizeOf25 rfl) ?_
   refine GoH.callM _ rfl rfl rfl rfl rfl (fun _ _ => Tryd.call17 _ _) (fun w _ hS => rcompact_c a ca f w (ha.ex0 hS.ext) hl) ?_
   rintro v w1 w2 Y' hS he ho
   rw [subF_top] at ho
   obtain ⟨q, cap, sp, rfl, hq, hcap, hS'⟩ := gainN hS he ho
   refine ⟨_, hS', ?_⟩
   refine GoH.callM _ rfl rfl rfl rfl rfl (fun _ _ => Tryd.call33 _ _) (fun w _ hS => (by exact wSets_c m n (q.map (fun b => ⟨b, 0, none⟩)) cap (compF f) w (hm.ex0 hS.ext) hn (faAt hS 0 rfl (fun e => (hq e).1)) hcm hcan)) ?_
   rintro v w1 w2 Y' hS he ⟨sv, rfl, h2⟩
   obtain ⟨q2, cap2, sp2, rfl, hq2, hcap2, hS'⟩ := gainO hS he h2
   refine ⟨_, hS', ?_⟩
   refine GoH.v (Vop.mv rfl rfl rfl rfl) ?_
   refine GoH.v (Vop.ext rfl rfl rfl rfl rfl) ?_
   refine GoH.v (Vop.asg rfl rfl rfl rfl) ?_
   refine GoH.v (Vop.ext rfl rfl rfl rfl rfl) ?_
   refine GoH.v (Vop.asg rfl rfl rfl rfl) ?_
   refine GoH.regionEnd (GoH.seq (GoH.seq (GoH.region ?_)))
   refine GoH.v (Vop.mv rfl rfl rfl rfl) ?_
   refine GoH.v (Vop.bin rfl rfl rfl rfl bNe rfl) ?_
   refine GoH.v (Vop.mv rfl rfl rfl rfl) ?_
   refine GoH.cases (d := 17) rfl (fun hc => ?_) (fun hc => ?_)
   ·
    have h0 : holdE m.n m.val m.rel f ≠ 0 := fun h => by simp [hE.2 h] at hc
    iterate 3 refine GoH.no rfl rfl rfl rfl ?_
    refine GoH.v (Vop.pickT rfl rfl rfl rfl rfl) ?_
    refine GoH.regionEnd (GoH.condT rfl (GoH.seq (GoH.region ?_)))
    refine GoH.v (Vop.ldB rfl rfl rfl rfl Tryd.isAgg25 2 rfl Tryd.sizeOf25 rfl) ?_
    refine GoH.v (Vop.mv rfl rfl rfl rfl) ?_
    refine GoH.callP rfl rfl rfl rfl rfl (fun _ _ => Tryd.call34 _ _) (fun w _ hS => (by exact wCheck_c m a ca f w (hm.ex0 hS.ext) (ha.ex0 hS.ext) hl)) ?_
    refine GoH.v (Vop.asg (v := U 0#64) rfl rfl rfl rfl) ?_
    refine GoH.v (Vop.asg rfl rfl rfl rfl) ?_
    refine GoH.regionEnd ?_
    refine GoH.ret Tryd.f13 Tryd.func13 rfl (fun w' hS => ?_)
    exact ⟨hS.ext, by rw [holdS, if_neg h0]; rfl⟩
   ·
    have h0c : holdE m.n m.val m.rel (compF f) = 0 := by simpa using hc
    have h0 := hE.1 h0c
    have hf1 := (holdE_zero.1 h0).2.1
    have hC := CanF.compF hf1
    have hpos := (chkF_zero.1 hC.chk).pos
    have htop := sets_top (n := n) (val := m.val) (rel := m.rel) hC
    rw [topT_comp hf1] at htop
    have hsl : (setsR m n (compF f)).length = (compF f).length := by rw [setsR, if_pos h0c, setsL_len]
    have hget : (setsR m n (compF f)).getD ((compF f).length - 1) 0#64 = holdS m n f := by rw [setsR, if_pos h0c, htop, holdS, if_pos h0]
    obtain ⟨b, rfl⟩ : ∃ b, q2 = some b := by
      cases q2 with
      | none => have := (hq2 rfl).1; omega
      | some b => exact ⟨b, rfl⟩
    refine GoH.v (Vop.mv rfl rfl rfl rfl) ?_
    refine GoH.v (Vop.blt rfl rfl rfl (blt_len_slice Tryd.underlying22) rfl) ?_
    refine GoH.v (Vop.bin rfl rfl rfl rfl (bEqV (v := false) (beq_eq_false_iff_ne.2 (by omega))) rfl) ?_
    refine GoH.v (Vop.pickF rfl rfl rfl rfl rfl) ?_
    refine GoH.regionEnd (GoH.condF rfl (GoH.skip (GoH.seq (GoH.region ?_))))
    iterate 2 refine GoH.v (Vop.mv rfl rfl rfl rfl) ?_
    refine GoH.v (Vop.blt rfl rfl rfl (blt_len_slice Tryd.underlying22) rfl) ?_
    refine GoH.v (Vop.bin rfl rfl rfl rfl (bSub (by omega)) rfl) ?_
    refine GoH.v (Vop.idxS rfl rfl rfl rfl rfl Tryd.underlying22 Tryd.sizeOf33 ((compF f).length - 1) ⟨(by rw [hsl]; omega), (by rw [hsl]; omega)⟩) ?_
    refine GoH.v (Vop.ldE U 0#64 rfl rfl rfl rfl Tryd.isAgg33 0 rfl (by rw [hsl]; omega)) ?_
    iterate 2 refine GoH.v (Vop.asg rfl rfl rfl rfl) ?_
    refine GoH.regionEnd ?_
    refine GoH.ret Tryd.f13 Tryd.func13 rfl (fun w' hS => ?_)
    exact ⟨hS.ext, by rw [h0, ← hget]; rfl⟩
  refine List.forall_mem_cons.2 ⟨?_, ?_⟩
  · -- order [1, 0, 2, 3, 4, 6, 5, 7, 8]
   refine GoH.v (Vop.mv rfl rfl rfl rfl) ?_
   refine GoH.v (Vop.ldB rfl rfl rfl rfl Tryd.isAgg25 0 rfl Tryd.sizeOf25 rfl) ?_
   refine GoH.callM _ rfl rfl rfl rfl rfl (fun _ _ => Tryd.call17 _ _) (fun w _ hS => rcompact_c a ca f w (ha.ex0 hS.ext) hl) ?_
   rintro v w1 w2 Y' hS he ho
   rw [subF_top] at ho
   obtain ⟨q, cap, sp, rfl, hq, hcap, hS'⟩ := gainN hS he ho
   refine ⟨_, hS', ?_⟩
   refine GoH.callM _ rfl rfl rfl rfl rfl (fun _ _ => Tryd.call33 _ _) (fun w _ hS => (by exact wSets_c m n (q.map (fun b => ⟨b, 0, none⟩)) cap (compF f) w (hm.ex0 hS.ext) hn (faAt hS 0 rfl (fun e => (hq e).1)) hcm hcan)) ?_
   rintro v w1 w2 Y' hS he ⟨sv, rfl, h2⟩
   obtain ⟨q2, cap2, sp2, rfl, hq2, hcap2, hS'⟩ := gainO hS he h2
   refine ⟨_, hS', ?_⟩
   refine GoH.v (Vop.mv rfl rfl rfl rfl) ?_
   iterate 2 refine GoH.v (Vop.ext rfl rfl rfl rfl rfl) ?_
   iterate 2 refine GoH.v (Vop.asg rfl rfl rfl rfl) ?_
   refine GoH.regionEnd (GoH.seq (GoH.seq (GoH.region ?_)))
   refine GoH.v (Vop.mv rfl rfl rfl rfl) ?_
   refine GoH.v (Vop.bin rfl rfl rfl rfl bNe rfl) ?_
   refine GoH.v (Vop.mv rfl rfl rfl rfl) ?_
   refine GoH.cases (d := 17) rfl (fun hc => ?_) (fun hc => ?_)
   ·
    have h0 : holdE m.n m.val m.rel f ≠ 0 := fun h => by simp [hE.2 h] at hc
    iterate 3 refine GoH.no rfl rfl rfl rfl ?_
    refine GoH.v (Vop.pickT rfl rfl rfl rfl rfl) ?_
    refine GoH.regionEnd (GoH.condT rfl (GoH.seq (GoH.region ?_)))
    refine GoH.v (Vop.ldB rfl rfl rfl rfl Tryd.isAgg25 2 rfl Tryd.sizeOf25 rfl) ?_
    refine GoH.v (Vop.mv rfl rfl rfl rfl) ?_
    refine GoH.callP rfl rfl rfl rfl rfl (fun _ _ => Tryd.call34 _ _) (fun w _ hS => (by exact wCheck_c m a ca f w (hm.ex0 hS.ext) (ha.ex0 hS.ext) hl)) ?_
    refine GoH.v (Vop.asg (v := U 0#64) rfl rfl rfl rfl) ?_
    refine GoH.v (Vop.asg rfl rfl rfl rfl) ?_
    refine GoH.regionEnd ?_
    refine GoH.ret Tryd.f13 Tryd.func13 rfl (fun w' hS => ?_)
    exact ⟨hS.ext, by rw [holdS, if_neg h0]; rfl⟩
   ·
    have h0c : holdE m.n m.val m.rel (compF f) = 0 := by simpa using hc
    have h0 := hE.1 h0c
    have hf1 := (holdE_zero.1 h0).2.1
    have hC := CanF.compF hf1
    have hpos := (chkF_zero.1 hC.chk).pos
    have htop := sets_top (n := n) (val := m.val) (rel := m.rel) hC
    rw [topT_comp hf1] at htop
    have hsl : (setsR m n (compF f)).length = (compF f).length := by rw [setsR, if_pos h0c, setsL_len]
    have hget : (setsR m n (compF f)).getD ((compF f).length - 1) 0#64 = holdS m n f := by rw [setsR, if_pos h0c, htop, holdS, if_pos h0]
    obtain ⟨b, rfl⟩ : ∃ b, q2 = some b := by
      cases q2 with
      | none => have := (hq2 rfl).1; omega
      | some b => exact ⟨b, rfl⟩
    refine GoH.v (Vop.mv rfl rfl rfl rfl) ?_
    refine GoH.v (Vop.blt rfl rfl rfl (blt_len_slice Tryd.underlying22) rfl) ?_
    refine GoH.v (Vop.bin rfl rfl rfl rfl (bEqV (v := false) (beq_eq_false_iff_ne.2 (by omega))) rfl) ?_
    refine GoH.v (Vop.pickF rfl rfl rfl rfl rfl) ?_
    refine GoH.regionEnd (GoH.condF rfl (GoH.skip (GoH.seq (GoH.region ?_))))
    iterate 2 refine GoH.v (Vop.mv rfl rfl rfl rfl) ?_
    refine GoH.v (Vop.blt rfl rfl rfl (blt_len_slice Tryd.underlying22) rfl) ?_
    refine GoH.v (Vop.bin rfl rfl rfl rfl (bSub (by omega)) rfl) ?_
    refine GoH.v (Vop.idxS rfl rfl rfl rfl rfl Tryd.underlying22 Tryd.sizeOf33 ((compF f).length - 1) ⟨(by rw [hsl]; omega), (by rw [hsl]; omega)⟩) ?_
    refine GoH.v (Vop.ldE U 0#64 rfl rfl rfl rfl Tryd.isAgg33 0 rfl (by rw [hsl]; omega)) ?_
    iterate 2 refine GoH.v (Vop.asg rfl rfl rfl rfl) ?_
    refine GoH.regionEnd ?_
    refine GoH.ret Tryd.f13 Tryd.func13 rfl (fun w' hS => ?_)
    exact ⟨hS.ext, by rw [h0, ← hget]; rfl⟩
  refine List.forall_mem_cons.2 ⟨?_, ?_⟩
  · -- order [1, 2, 0, 3, 4, 5, 6, 7, 8]
   refine GoH.v (Vop.mv rfl rfl rfl rfl) ?_
   refine GoH.callM _ rfl rfl rfl rfl rfl (fun _ _ => Tryd.call17 _ _) (fun w _ hS => rcompact_c a ca f w (ha.ex0 hS.ext) hl) ?_
   rintro v w1 w2 Y' hS he ho
   rw [subF_top] at ho
   obtain ⟨q, cap, sp, rfl, hq, hcap, hS'⟩ := gainN hS he ho
   refine ⟨_, hS', ?_⟩
   refine GoH.v (Vop.ldB rfl rfl rfl rfl Tryd.isAgg25 1 rfl Tryd.sizeOf25 rfl) ?_
   refine GoH.callM _ rfl rfl rfl rfl rfl (fun _ _ => Tryd.call33 _ _) (fun w _ hS => (by exact wSets_c m n (q.map (fun b => ⟨b, 0, none⟩)) cap (compF f) w (hm.ex0 hS.ext) hn (faAt hS 0 rfl (fun e => (hq e).1)) hcm hcan)) ?_
   rintro v w1 w2 Y' hS he ⟨sv, rfl, h2⟩
   obtain ⟨q2, cap2, sp2, rfl, hq2, hcap2, hS'⟩ := gainO hS he h2
   refine ⟨_, hS', ?_⟩
   refine GoH.v (Vop.mv rfl rfl rfl rfl) ?_
   iterate 2 refine GoH.v (Vop.ext rfl rfl rfl rfl rfl) ?_
   iterate 2 refine GoH.v (Vop.asg rfl rfl rfl rfl) ?_
   refine GoH.regionEnd (GoH.seq (GoH.seq (GoH.region ?_)))
   refine GoH.v (Vop.mv rfl rfl rfl rfl) ?_
   refine GoH.v (Vop.bin rfl rfl rfl rfl bNe rfl) ?_
   refine GoH.v (Vop.mv rfl rfl rfl rfl) ?_
   refine GoH.cases (d := 17) rfl (fun hc => ?_) (fun hc => ?_)
   ·
    have h0 : holdE m.n m.val m.rel f ≠ 0 := fun h => by simp [hE.2 h] at hc
    iterate 3 refine GoH.no rfl rfl rfl rfl ?_
    refine GoH.v (Vop.pickT rfl rfl rfl rfl rfl) ?_
    refine GoH.regionEnd (GoH.condT rfl (GoH.seq (GoH.region ?_)))
    refine GoH.v (Vop.ldB rfl rfl rfl rfl Tryd.isAgg25 2 rfl Tryd.sizeOf25 rfl) ?_
    refine GoH.v (Vop.mv rfl rfl rfl rfl) ?_
    refine GoH.callP rfl rfl rfl rfl rfl (fun _ _ => Tryd.call34 _ _) (fun w _ hS => (by exact wCheck_c m a ca f w (hm.ex0 hS.ext) (ha.ex0 hS.ext) hl)) ?_
    refine GoH.v (Vop.asg (v := U 0#64) rfl rfl rfl rfl) ?_
    refine GoH.v (Vop.asg rfl rfl rfl rfl) ?_
    refine GoH.regionEnd ?_
    refine GoH.ret Tryd.f13 Tryd.func13 rfl (fun w' hS => ?_)
    exact ⟨hS.ext, by rw [holdS, if_neg h0]; rfl⟩
   ·
    have h0c : holdE m.n m.val m.rel (compF f) = 0 := by simpa using hc
    have h0 := hE.1 h0c
    have hf1 := (holdE_zero.1 h0).2.1
    have hC := CanF.compF hf1
    have hpos := (chkF_zero.1 hC.chk).pos
    have htop := sets_top (n := n) (val := m.val) (rel := m.rel) hC
    rw [topT_comp hf1] at htop
    have hsl : (setsR m n (compF f)).length = (compF f).length := by rw [setsR, if_pos h0c, setsL_len]
    have hget : (setsR m n (compF f)).getD ((compF f).length - 1) 0#64 = holdS m n f := by rw [setsR, if_pos h0c, htop, holdS, if_pos h0]
    obtain ⟨b, rfl⟩ : ∃ b, q2 = some b := by
      cases q2 with
      | none => have := (hq2 rfl).1; omega
      | some b => exact ⟨b, rfl⟩
    refine GoH.v (Vop.mv rfl rfl rfl rfl) ?_
    refine GoH.v (Vop.blt rfl rfl rfl (blt_len_slice Tryd.underlying22) rfl) ?_
    refine GoH.v (Vop.bin rfl rfl rfl rfl (bEqV (v := false) (beq_eq_false_iff_ne.2 (by omega))) rfl) ?_
    refine GoH.v (Vop.pickF rfl rfl rfl rfl rfl) ?_
    refine GoH.regionEnd (GoH.condF rfl (GoH.skip (GoH.seq (GoH.region ?_))))
    iterate 2 refine GoH.v (Vop.mv rfl rfl rfl rfl) ?_
    refine GoH.v (Vop.blt rfl rfl rfl (blt_len_slice Tryd.underlying22) rfl) ?_
    refine GoH.v (Vop.bin rfl rfl rfl rfl (bSub (by omega)) rfl) ?_
    refine GoH.v (Vop.idxS rfl rfl rfl rfl rfl Tryd.underlying22 Tryd.sizeOf33 ((compF f).length - 1) ⟨(by rw [hsl]; omega), (by rw [hsl]; omega)⟩) ?_
    refine GoH.v (Vop.ldE U 0#64 rfl rfl rfl rfl Tryd.isAgg33 0 rfl (by rw [hsl]; omega)) ?_
    iterate 2 refine GoH.v (Vop.asg rfl rfl rfl rfl) ?_
    refine GoH.regionEnd ?_
    refine GoH.ret Tryd.f13 Tryd.func13 rfl (fun w' hS => ?_)
    exact ⟨hS.ext, by rw [h0, ← hget]; rfl⟩
  refine List.forall_mem_cons.2 ⟨?_, ?_⟩
  · -- order [1, 2, 0, 3, 4, 5, 7, 6, 8]
   refine GoH.v (Vop.mv rfl rfl rfl rfl) ?_
   refine GoH.callM _ rfl rfl rfl rfl rfl (fun _ _ => Tryd.call17 _ _) (fun w _ hS => rcompact_c a ca f w (ha.ex0 hS.ext) hl) ?_
   rintro v w1 w2 Y' hS he ho
   rw [subF_top] at ho
   obtain ⟨q, cap, sp, rfl, hq, hcap, hS'⟩ := gainN hS he ho
   refine ⟨_, hS', ?_⟩
   refine GoH.v (Vop.ldB rfl rfl rfl rfl Tryd.isAgg25 1 rfl Tryd.sizeOf25 rfl) ?_
   refine GoH.callM _ rfl rfl rfl rfl rfl (fun _ _ => Tryd.call33 _ _) (fun w _ hS => (by exact wSets_c m n (q.map (fun b => ⟨b, 0, none⟩)) cap (compF f) w (hm.ex0 hS.ext) hn (faAt hS 0 rfl (fun e => (hq e).1)) hcm hcan)) ?_
   rintro v w1 w2 Y' hS he ⟨sv, rfl, h2⟩
   obtain ⟨q2, cap2, sp2, rfl, hq2, hcap2, hS'⟩ := gainO hS he h2
   refine ⟨_, hS', ?_⟩
   refine GoH.v (Vop.mv rfl rfl rfl rfl) ?_
   refine GoH.v (Vop.ext rfl rfl rfl rfl rfl) ?_
   refine GoH.v (Vop.asg rfl rfl rfl rfl) ?_
   refine GoH.v (Vop.ext rfl rfl rfl rfl rfl) ?_
   refine GoH.v (Vop.asg rfl rfl rfl rfl) ?_
   refine GoH.regionEnd (GoH.seq (GoH.seq (GoH.region ?_)))
   refine GoH.v (Vop.mv rfl rfl rfl rfl) ?_
   refine GoH.v (Vop.bin rfl rfl rfl rfl bNe rfl) ?_
   refine GoH.v (Vop.mv rfl rfl rfl rfl) ?_
   refine GoH.cases (d := 17) rfl (fun hc => ?_) (fun hc => ?_)
   ·
    have h0 : holdE m.n m.val m.rel f ≠ 0 := fun h => by simp [hE.2 h] at hc
    iterate 3 refine GoH.no rfl rfl rfl rfl ?_
    refine GoH.v (Vop.pickT rfl rfl rfl rfl rfl) ?_
    refine GoH.regionEnd (GoH.condT rfl (GoH.seq (GoH.region ?_)))
    refine GoH.v (Vop.ldB rfl rfl rfl rfl Tryd.isAgg25 2 rfl Tryd.sizeOf25 rfl) ?_
    refine GoH.v (Vop.mv rfl rfl rfl rfl) ?_
    refine GoH.callP rfl rfl rfl rfl rfl (fun _ _ => Tryd.call34 _ _) (fun w _ hS => (by exact wCheck_c m a ca f w (hm.ex0 hS.ext) (ha.ex0 hS.ext) hl)) ?_
    refine GoH.v (Vop.asg (v := U 0#64) rfl rfl rfl rfl) ?_
    refine GoH.v (Vop.asg rfl rfl rfl rfl) ?_
    refine GoH.regionEnd ?_
    refine GoH.ret Tryd.f13 Tryd.func13 rfl (fun w' hS => ?_)
    exact ⟨hS.ext, by rw [holdS, if_neg h0]; rfl⟩
   ·
    have h0c : holdE m.n m.val m.rel (compF f) = 0 := by simpa using hc
    have h0 := hE.1 h0c
    have hf1 := (holdE_zero.1 h0).2.1
    have hC := CanF.compF hf1
    have hpos := (chkF_zero.1 hC.chk).pos
    have htop := sets_top (n := n) (val := m.val) (rel := m.rel) hC
    rw [topT_comp hf1] at htop
    have hsl : (setsR m n (compF f)).length = (compF f).length := by rw [setsR, if_pos h0c, setsL_len]
    have hget : (setsR m n (compF f)).getD ((compF f).length - 1) 0#64 = holdS m n f := by rw [setsR, if_pos h0c, htop, holdS, if_pos h0]
    obtain ⟨b, rfl⟩ : ∃ b, q2 = some b := by
      cases q2 with
      | none => have := (hq2 rfl).1; omega
      | some b => exact ⟨b, rfl⟩
    refine GoH.v (Vop.mv rfl rfl rfl rfl) ?_
    refine GoH.v (Vop.blt rfl rfl rfl (blt_len_slice Tryd.underlying22) rfl) ?_
    refine GoH.v (Vop.bin rfl rfl rfl rfl (bEqV (v := false) (beq_eq_false_iff_ne.2 (by omega))) rfl) ?_
    refine GoH.v (Vop.pickF rfl rfl rfl rfl rfl) ?_
    refine GoH.regionEnd (GoH.condF rfl (GoH.skip (GoH.seq (GoH.region ?_))))
    iterate 2 refine GoH.v (Vop.mv rfl rfl rfl rfl) ?_
    refine GoH.v (Vop.blt rfl rfl rfl (blt_len_slice Tryd.underlying22) rfl) ?_
    refine GoH.v (Vop.bin rfl rfl rfl rfl (bSub (by omega)) rfl) ?_
    refine GoH.v (Vop.idxS rfl rfl rfl rfl rfl Tryd.underlying22 Tryd.sizeOf33 ((compF f).length - 1) ⟨(by rw [hsl]; omega), (by rw [hsl]; omega)⟩) ?_
    refine GoH.v (Vop.ldE U 0#64 rfl rfl rfl rfl Tryd.isAgg33 0 rfl (by rw [hsl]; omega)) ?_
    iterate 2 refine GoH.v (Vop.asg rfl rfl rfl rfl) ?_
    refine GoH.regionEnd ?_
    refine GoH.ret Tryd.f13 Tryd.func13 rfl (fun w' hS => ?_)
    exact ⟨hS.ext, by rw [h0, ← hget]; rfl⟩
  refine List.forall_mem_cons.2 ⟨?_, ?_⟩
  · -- order [1, 2, 0, 3, 4, 6, 5, 7, 8]
   refine GoH.v (Vop.mv rfl rfl rfl rfl) ?_
   refine GoH.callM _ rfl rfl rfl rfl rfl (fun _ _ => Tryd.call17 _ _) (fun w _ hS => rcompact_c a ca f w (ha.ex0 hS.ext) hl) ?_
   rintro v w1 w2 Y' hS he ho
   rw [subF_top] at ho
   obtain ⟨q, cap, sp, rfl, hq, hcap, hS'⟩ := gainN hS he ho
   refine ⟨_, hS', ?_⟩
   refine GoH.v (Vop.ldB rfl rfl rfl rfl Tryd.isAgg25 1 rfl Tryd.sizeOf25 rfl) ?_
   refine GoH.callM _ rfl rfl rfl rfl rfl (fun _ _ => Tryd.call33 _ _) (fun w _ hS => (by exact wSets_c m n (q.map (fun b => ⟨b, 0, none⟩)) cap (compF f) w (hm.ex0 hS.ext) hn (faAt hS 0 rfl (fun e => (hq e).1)) hcm hcan)) ?_
   rintro v w1 w2 Y' hS he ⟨sv, rfl, h2⟩
   obtain ⟨q2, cap2, sp2, rfl, hq2, hcap2, hS'⟩ := gainO hS he h2
   refine ⟨_, hS', ?_⟩
   refine GoH.v (Vop.mv rfl rfl rfl rfl) ?_
   iterate 2 refine GoH.v (Vop.ext rfl rfl rfl rfl rfl) ?_
   iterate 2 refine GoH.v (Vop.asg rfl rfl rfl rfl) ?_
   refine GoH.regionEnd (GoH.seq (GoH.seq (GoH.region ?_)))
   refine GoH.v (Vop.mv rfl rfl rfl rfl) ?_
   refine GoH.v (Vop.bin rfl rfl rfl rfl bNe rfl) ?_
   refine GoH.v (Vop.mv rfl rfl rfl rfl) ?_
   refine GoH.cases (d := 17) rfl (fun hc => ?_) (fun hc => ?_)
   ·
    have h0 : holdE m.n m.val m.rel f ≠ 0 := fun h => by simp [hE.2 h] at hc
    iterate 3 refine GoH.no rfl rfl rfl rfl ?_
    refine GoH.v (Vop.pickT rfl rfl rfl rfl rfl) ?_
    refine GoH.regionEnd (GoH.condT rfl (GoH.seq (GoH.region ?_)))
    refine GoH.v (Vop.ldB rfl rfl rfl rfl Tryd.isAgg25 2 rfl Tryd.sizeOf25 rfl) ?_
    refine GoH.v (Vop.mv rfl rfl rfl rfl) ?_
    refine GoH.callP rfl rfl rfl rfl rfl (fun _ _ => Tryd.call34 _ _) (fun w _ hS => (by exact wCheck_c m a ca f w (hm.ex0 hS.ext) (ha.ex0 hS.ext) hl)) ?_
    refine GoH.v (Vop.asg (v := U 0#64) rfl rfl rfl rfl) ?_
    refine GoH.v (Vop.asg rfl rfl rfl rfl) ?_
    refine GoH.regionEnd ?_
    refine GoH.ret Tryd.f13 Tryd.func13 rfl (fun w' hS => ?_)
    exact ⟨hS.ext, by rw [holdS, if_neg h0]; rfl⟩
   ·
    have h0c : holdE m.n m.val m.rel (compF f) = 0 := by simpa using hc
    have h0 := hE.1 h0c
    have hf1 := (holdE_zero.1 h0).2.1
    have hC := CanF.compF hf1
    have hpos := (chkF_zero.1 hC.chk).pos
    have htop := sets_top (n := n) (val := m.val) (rel := m.rel) hC
    rw [topT_comp hf1] at htop
    have hsl : (setsR m n (compF f)).length = (compF f).length := by rw [setsR, if_pos h0c, setsL_len]
    have hget : (setsR m n (compF f)).getD ((compF f).length - 1) 0#64 = holdS m n f := by rw [setsR, if_pos h0c, htop, holdS, if_pos h0]
    obtain ⟨b, rfl⟩ : ∃ b, q2 = some b := by
      cases q2 with
      | none => have := (hq2 rfl).1; omega
      | some b => exact ⟨b, rfl⟩
    refine GoH.v (Vop.mv rfl rfl rfl rfl) ?_
    refine GoH.v (Vop.blt rfl rfl rfl (blt_len_slice Tryd.underlying22) rfl) ?_
    refine GoH.v (Vop.bin rfl rfl rfl rfl (bEqV (v := false) (beq_eq_false_iff_ne.2 (by omega))) rfl) ?_
    refine GoH.v (Vop.pickF rfl rfl rfl rfl rfl) ?_
    refine GoH.regionEnd (GoH.condF rfl (GoH.skip (GoH.seq (GoH.region ?_))))
    iterate 2 refine GoH.v (Vop.mv rfl rfl rfl rfl) ?_
    refine GoH.v (Vop.blt rfl rfl rfl (blt_len_slice Tryd.underlying22) rfl) ?_
    refine GoH.v (Vop.bin rfl rfl rfl rfl (bSub (by omega)) rfl) ?_
    refine GoH.v (Vop.idxS rfl rfl rfl rfl rfl Tryd.underlying22 Tryd.sizeOf33 ((compF f).length - 1) ⟨(by rw [hsl]; omega), (by rw [hsl]; omega)⟩) ?_
    refine GoH.v (Vop.ldE U 0#64 rfl rfl rfl rfl Tryd.isAgg33 0 rfl (by rw [hsl]; omega)) ?_
    iterate 2 refine GoH.v (Vop.asg rfl rfl rfl rfl) ?_
    refine GoH.regionEnd ?_
    refine GoH.ret Tryd.f13 Tryd.func13 rfl (fun w' hS => ?_)
    exact ⟨hS.ext, by rw [h0, ← hget]; rfl⟩
  intro _ hx; cases hx
end Go.Proofs.YtcljmlnnfdaljaaDoor
