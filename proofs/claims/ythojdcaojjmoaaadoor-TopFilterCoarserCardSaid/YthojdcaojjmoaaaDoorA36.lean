/- What calls of the program return, under the conditions that each theorem states. -/
import Derived.Test.YthojdcaojjmoaaaDoorA34
import Derived.Test.YthojdcaojjmoaaaDoorA28
import Derived.Test.YthojdcaojjmoaaaDoorA35
import Derived.Test.YthojdcaojjmoaaaDoorA04
namespace Go.Proofs.YthojdcaojjmoaaaDoor
open Go.RowKit Go.Proofs.Wit
/-! the program's depth of a formula; filtrations: classes -/
set_option maxRecDepth 8000 in
theorem fdepth_c (a : Option Addr) (ca : Nat) (f : List NV) (w : World) (ha : FA w a f) (hl : f.length ≤ maxLen) : Cn Tryd.prog 9 [.slice a f.length ca] w (fun v _ => v = .int .i64 (depF f)) := by
  obtain ⟨i0, hi, hz, hsz, hby⟩ := info_parts infoI
  obtain ⟨c, hcE⟩ : ∃ c, c = compF f := ⟨_, rfl⟩
  have hcl : c.length ≤ 200 := by rw [hcE]; exact compF_le f
  have hno : NodesOk c := by rw [hcE]; exact compF_nodes f
  refine Cn.of Tryd.func9 rfl rfl ?_
  refine gS (gR ?_)
  refine gAs ?_
  refine gE (gS (gS (gR ?_)))
  refine gMv ?_
  refine GoH.callP rfl rfl rfl rfl rfl (fun _ _ => Tryd.call17 _ _) (fun w _ hS => (by exact fcheck_c a ca f w (ha.ex0 hS.ext) hl)) ?_
  refine gBi bNe ?_
  refine gE ?_
  refine GoH.cond rfl (fun hc => ?_) (fun hc => ?_)
  ·
   have h1 : chkF f ≠ 0 := by simpa using hc
   refine gS (gR ?_)
   refine gAs ?_
   refine gE ?_
   refine GoH.ret Tryd.f9 Tryd.func9 rfl (fun w' hS => ?_)
   exact ⟨hS.ext, by rw [depF, if_neg h1]; rfl⟩
  ·
   have h1 : chkF f = 0 := by simpa using hc
   have hcp : 0 < c.length := by rw [hcE, compF_eq h1]; exact canT_pos _
   have hdE : depF f = (depL c c.length).getD (c.length - 1) 0 := by
     rw [depL_get (by omega), depF, if_pos h1, ← topT_comp h1, ← hcE, topT_treeAt]
   refine gK (gS (gR ?_))
   refine gAs ?_
   refine gE (gS (gS (gR ?_)))
   refine gMv ?_
   refine GoH.callM _ rfl rfl rfl rfl rfl (fun _ _ => Tryd.call18 _ _) (fun w _ hS => fcompact_c a ca f w (ha.ex0 hS.ext) hl) ?_
   rintro v w1 w2 Y' hS he ho
   rw [subF_top, ← hcE] at ho
   obtain ⟨qc, capc, spc, rfl, hqc, hcapc, hS'⟩ := gainN hS he ho
   obtain ⟨bc, rfl⟩ : ∃ b, qc = some b := by
     cases qc with
     | none => have := (hqc rfl).1; omega
     | some b => exact ⟨b, rfl⟩
   refine ⟨_, hS', ?_⟩
   refine gBl Tryd.underlying26 ?_
   refine gMv ?_
   refine gE (gB ?_)
   refine GoH.addNone (ob I64 3 [] []) ?_
   refine GoH.loop (σ := Nat × Option Nat × Nat × List Value) (fun z => [(3, osv z.2.1 (depL c z.1).length z.2.2.1), (13, osv (some bc) c.length capc), (14, .int .i64 c.length), (15, .int .i64 z.1)]) (fun z => [(z.2.1, ob I64 3 (depL c z.1) z.2.2.2), (some bc, obN 50 c spc)])
     (fun z => z.1 ≤ c.length ∧ (z.2.1 = none → (depL c z.1).length = 0 ∧ z.2.2.1 = 0) ∧ ((depL c z.1).map I64 ++ z.2.2.2).length = z.2.2.1) (fun z => c.length - z.1) (0, none, 0, [])
     ⟨Nat.zero_le _, fun _ => ⟨rfl, rfl⟩, rfl⟩ ⟨rfl, rfl, rfl, rfl, trivial⟩ (List.Sublist.refl _) (fun z hI IH => ?_)
   obtain ⟨k, q, cap, sp⟩ := z
   obtain ⟨hk, hq, hcap⟩ := hI
   dsimp only at hk hq hcap IH ⊢
   refine gS (gR ?_)
   refine gBi bLt ?_
   refine gE (gS ?_)
   refine GoH.cond rfl (fun hc => ?_) (fun hc => ?_)
   ·
    have hlt : k < c.length := by simpa using hc
    have hord := hno.ord k hlt
    have hop := (hno k hlt).op
    have hdl : (depL c k).length = k := depL_len
    have hdn := depT_node hno hlt
    have hda := depT_at hno hlt
    obtain ⟨dx, hdx⟩ : ∃ dx : Nat, dx = if usX c[k].op = true then depT (treeAt c c[k].x.toNat) else 0 := ⟨_, rfl⟩
    obtain ⟨dy, hdy⟩ : ∃ dy : Nat, dy = if usY c[k].op = true then depT (treeAt c c[k].y.toNat) else 0 := ⟨_, rfl⟩
    rw [← hdx, ← hdy] at hdn
    refine gK (gS (gB (gS (gR ?_))))
    refine GoH.v (Vop.idxS rfl rfl rfl rfl rfl Tryd.underlying26 Tryd.sizeOf50 k ⟨rfl, hlt⟩) ?_
    refine GoH.v (Vop.ldN (cs := NV.cells c[k]) rfl rfl rfl rfl Tryd.isAgg50 Tryd.sizeOf50 (fun w _ hS => Sl.many (enc := NV.cells) (sz := 6) (a := some ⟨bc, 0, none⟩) (Sl.blk (hS.get (j := 1) rfl)) (fun _ => rfl) hlt)) ?_
    refine GoH.alc rfl rfl rfl (fun _ => Tryd.zeroValue50 _) (fun b5 => ?_)
    refine GoH.stB rfl rfl rfl rfl Tryd.sizeOf50 0 rfl rfl rfl rfl ?_
    refine gE (gS (gR ?_))
    refine gFp Tryd.underlying50 Tryd.sizeOf3 0 ?_
    refine gLo Tryd.isAgg3 0 ?_
    refine GoH.callP rfl rfl rfl rfl rfl (fun _ _ => Tryd.call19 _ _) (fun w _ hS => (by exact uses_c c[k].op w)) ?_
    refine gMv ?_
    iterate 2 refine gEx ?_
    refine GoH.alc rfl rfl rfl (fun _ => Tryd.zeroValue52 _) (fun b6 => ?_)
    refine GoH.stB rfl rfl rfl rfl Tryd.sizeOf52 0 rfl rfl rfl rfl ?_
    refine gAs ?_
    refine gE (gS (gR ?_))
    refine gAs ?_
    refine gE (gS ?_)
    refine GoH.seqJ (α := Unit) (fun _ => [(3, osv q (depL c k).length cap), (5, .pointer (some ⟨b5, 0, none⟩)), (6, .pointer (some ⟨b6, 0, none⟩)), (8, .int .i64 (dx : Nat)), (13, osv (some bc) c.length capc), (14, .int .i64 c.length), (15, .int .i64 k)]) (fun _ => [(some b6, .cells (usV c[k].op).cells 52 (0, 0)), (some b5, .cells (NV.cells c[k]).toArray 50 (0, 0)), (q, ob I64 3 (depL c k) sp), (some bc, obN 50 c spc)]) (fun _ => ?_) (fun K => ?_)
    · -- what comes behind
     refine gS ?_
     refine GoH.seqJ (α := Unit) (fun _ => [(3, osv q (depL c k).length cap), (5, .pointer (some ⟨b5, 0, none⟩)), (6, .pointer (some ⟨b6, 0, none⟩)), (8, .int .i64 (max dx dy : Nat)), (13, osv (some bc) c.length capc), (14, .int .i64 c.length), (15, .int .i64 k)]) (fun _ => [(some b6, .cells (usV c[k].op).cells 52 (0, 0)), (some b5, .cells (NV.cells c[k]).toArray 50 (0, 0)), (q, ob I64 3 (depL c k) sp), (some bc, obN 50 c spc)]) (fun _ => ?_) (fun K => ?_)
     · -- what comes behind
      refine gS ?_
      refine GoH.seqJ (α := Unit) (fun _ => [(3, osv q (depL c k).length cap), (5, .pointer (some ⟨b5, 0, none⟩)), (6, .pointer (some ⟨b6, 0, none⟩)), (8, .int .i64 (depT (treeAt c k) : Nat)), (13, osv (some bc) c.length capc), (14, .int .i64 c.length), (15, .int .i64 k)]) (fun _ => [(some b6, .cells (usV c[k].op).cells 52 (0, 0)), (some b5, .cells (NV.cells c[k]).toArray 50 (0, 0)), (q, ob I64 3 (depL c k) sp), (some bc, obN 50 c spc)]) (fun _ => ?_) (fun K => ?_)
      · -- what comes behind
       refine gR ?_
       iterate 2 refine gMv ?_
       refine GoH.bsN (c := [_]) rfl rfl rfl rfl Tryd.underlying29 Tryd.sizeOf3 Tryd.zeroValue3 rfl rfl (fun b63 => ?_)
       refine GoH.appE I64 (xs := depL c k) (sp := sp) (q := q) (news := [(depT (treeAt c k) : Int)]) (spn := []) rfl rfl rfl rfl rfl Tryd.underlying29 hi hz hsz rfl hq 3 rfl 0 rfl hcap rfl (by decide) (fun _ => rfl) (by unfold maxLen; rw [hdl]; omega) (by rw [hby, hdl]; omega) (fun b' sp' cap' hlen2 => ?_)
       rw [← depL_succ] at hlen2 ⊢
       refine gAs ?_
       refine gE (gIb (gR ?_))
       refine GoH.v (Vop.bin rfl rfl rfl rfl (bAdd (by omega)) rfl) ?_
       refine gMv ?_
       refine gE ?_
       exact IH (k + 1, some b', cap', sp') _ _ ⟨hlt, (fun e => by cases e), hlen2⟩ (by dsimp only; omega) ⟨rfl, rfl, rfl, rfl, trivial⟩ (by repeat (first | exact List.Sublist.refl _ | refine List.Sublist.cons_cons _ ?_ | refine List.Sublist.cons _ ?_))
      · -- the first part
       refine gS (gR ?_)
       refine gFp Tryd.underlying50 Tryd.sizeOf3 0 ?_
       refine gLo Tryd.isAgg3 1 ?_
       refine gBi bGe ?_
       refine gMv ?_
       refine GoH.cases (d := 44) rfl (fun hc => ?_) (fun hc => ?_)
       ·
        have h9 : 9 ≤ c[k].op := by simpa using hc
        refine gFp Tryd.underlying50 Tryd.sizeOf3 0 ?_
        refine gLo Tryd.isAgg3 1 ?_
        refine gBi bLe ?_
        refine gPt ?_
        refine gMv ?_
        refine GoH.cases (d := 49) rfl (fun hc => ?_) (fun hc => ?_)
        ·
         have h15 : c[k].op ≤ 15 := by simpa using hc
         have h1 : mdO c[k].op = 1 := if_pos (by omega)
         iterate 8 refine gNo ?_
         refine gPt ?_
         refine gE (GoH.condT rfl (gR ?_))
         refine gMv ?_
         refine GoH.v (Vop.bin rfl rfl rfl rfl (bAddE (c := (depT (treeAt c k) : Int)) (by rw [hdn, h1]; rfl) (by omega)) rfl) ?_
         refine gAs ?_
         refine gE ?_
         exact K () _ _ (by repeat (first | exact SubF.nil | refine SubF.cons rfl ?_)) (fun _ _ hS => hS)
        ·
         have h15 : ¬ c[k].op ≤ 15 := by simpa using hc
         refine gFp Tryd.underlying50 Tryd.sizeOf3 0 ?_
         refine gLo Tryd.isAgg3 1 ?_
         refine gBi bGe ?_
         refine gMv ?_
         refine GoH.cases (d := 53) rfl (fun hc => ?_) (fun hc => ?_)
         ·
          have h18 : 18 ≤ c[k].op := by simpa using hc
          have h1 : mdO c[k].op = 1 := if_pos (by omega)
          refine gFp Tryd.underlying50 Tryd.sizeOf3 0 ?_
          refine gLo Tryd.isAgg3 1 ?_
          refine GoH.v (Vop.bin rfl rfl rfl rfl (bLeV (v := true) (decide_eq_true (by omega))) rfl) ?_
          refine gPt ?_
          refine gPf ?_
          refine gE (GoH.condT rfl (gR ?_))
          refine gMv ?_
          refine GoH.v (Vop.bin rfl rfl rfl rfl (bAddE (c := (depT (treeAt c k) : Int)) (by rw [hdn, h1]; rfl) (by omega)) rfl) ?_
          refine gAs ?_
          refine gE ?_
          exact K () _ _ (by repeat (first | exact SubF.nil | refine SubF.cons rfl ?_)) (fun _ _ hS => hS)
         ·
          have h18 : ¬ 18 ≤ c[k].op := by simpa using hc
          have h1 : mdO c[k].op = 0 := if_neg (by omega)
          iterate 3 refine gNo ?_
          iterate 2 refine gPf ?_
          refine gE (GoH.condF rfl (gK ?_))
          exact K () _ _ (by rw [hdn, h1, Nat.add_zero]; repeat (first | exact SubF.nil | refine SubF.cons rfl ?_)) (fun _ _ hS => hS)
       ·
        have h9 : ¬ 9 ≤ c[k].op := by simpa using hc
        have h1 : mdO c[k].op = 0 := if_neg (by omega)
        iterate 3 refine gNo ?_
        refine gPf ?_
        refine gMv ?_
        refine gFp Tryd.underlying50 Tryd.sizeOf3 0 ?_
        refine gLo Tryd.isAgg3 1 ?_
        refine GoH.v (Vop.bin rfl rfl rfl rfl (bGeV (v := false) (decide_eq_false (by omega))) rfl) ?_
        refine gMv ?_
        iterate 3 refine gNo ?_
        iterate 2 refine gPf ?_
        refine gE (GoH.condF rfl (gK ?_))
        exact K () _ _ (by rw [hdn, h1, Nat.add_zero]; repeat (first | exact SubF.nil | refine SubF.cons rfl ?_)) (fun _ _ hS => hS)
     · -- the first part
      refine gS (gR ?_)
      refine gFp Tryd.underlying52 Tryd.sizeOf4 1 ?_
      refine gLo Tryd.isAgg4 0 ?_
      refine gE ?_
      refine GoH.cond rfl (fun hc => ?_) (fun hc => ?_)
      ·
       have hy := hord.2 hc
       have hdy2 : dy = depT (treeAt c c[k].y.toNat) := by rw [hdy, if_pos (show usY c[k].op = true from hc)]
       have hgy : (depL c k).getD c[k].y.toNat 0 = dy := by rw [hdy2]; exact depL_get (by omega)
       obtain ⟨b, rfl⟩ : ∃ b, q = some b := by
         cases q with
         | none => have := (hq rfl).1; omega
         | some b => exact ⟨b, rfl⟩
       refine gR ?_
       iterate 2 refine gMv ?_
       refine gFp Tryd.underlying50 Tryd.sizeOf3 5 ?_
       refine gLo Tryd.isAgg3 1 ?_
       refine GoH.v (Vop.idxS rfl rfl rfl rfl rfl Tryd.underlying29 Tryd.sizeOf3 (c[k].y.toNat) ⟨(Int.toNat_of_nonneg hy.1).symm, (by rw [hdl]; omega)⟩) ?_
       refine GoH.v (Vop.ldE I64 0 rfl rfl rfl rfl Tryd.isAgg3 2 rfl (by rw [hdl]; omega)) ?_
       refine GoH.v (Vop.blt rfl rfl rfl (blt_max (c := ((max dx dy : Nat) : Int)) (by rw [hgy]; omega)) rfl) ?_
       refine gAs ?_
       refine gE ?_
       exact K () _ _ (by repeat (first | exact SubF.nil | refine SubF.cons rfl ?_)) (fun _ _ hS => hS)
      ·
       have hdy2 : dy = 0 := by rw [hdy, if_neg (by have : usY c[k].op = false := hc; rw [this]; simp)]
       refine gK ?_
       exact K () _ _ (by rw [hdy2, Nat.max_zero]; repeat (first | exact SubF.nil | refine SubF.cons rfl ?_)) (fun _ _ hS => hS)
    · -- the first part
     refine gS (gR ?_)
     refine gFp Tryd.underlying52 Tryd.sizeOf4 0 ?_
     refine gLo Tryd.isAgg4 0 ?_
     refine gE ?_
     refine GoH.cond rfl (fun hc => ?_) (fun hc => ?_)
     ·
      have hx := hord.1 hc
      have hdx2 : dx = depT (treeAt c c[k].x.toNat) := by rw [hdx, if_pos (show usX c[k].op = true from hc)]
      have hgx : (depL c k).getD c[k].x.toNat 0 = dx := by rw [hdx2]; exact depL_get (by omega)
      obtain ⟨b, rfl⟩ : ∃ b, q = some b := by
        cases q with
        | none => have := (hq rfl).1; omega
        | some b => exact ⟨b, rfl⟩
      refine gR ?_
      refine gMv ?_
      refine gFp Tryd.underlying50 Tryd.sizeOf3 4 ?_
      refine gLo Tryd.isAgg3 1 ?_
      refine GoH.v (Vop.idxS rfl rfl rfl rfl rfl Tryd.underlying29 Tryd.sizeOf3 (c[k].x.toNat) ⟨(Int.toNat_of_nonneg hx.1).symm, (by rw [hdl]; omega)⟩) ?_
      refine GoH.v (Vop.ldE I64 0 rfl rfl rfl rfl Tryd.isAgg3 2 rfl (by rw [hdl]; omega)) ?_
      refine gAs ?_
      refine gE ?_
      exact K () _ _ (by rw [hgx]; repeat (first | exact SubF.nil | refine SubF.cons rfl ?_)) (fun _ _ hS => hS)
     ·
      have hdx2 : dx = 0 := by rw [hdx, if_neg (by have : usX c[k].op = false := hc; rw [this]; simp)]
      refine gK ?_
      exact K () _ _ (by rw [hdx2]; repeat (first | exact SubF.nil | refine SubF.cons rfl ?_)) (fun _ _ hS => hS)
   ·
    have hge : ¬ k < c.length := by simpa using hc
    obtain rfl : k = c.length := by omega
    have hdl : (depL c c.length).length = c.length := depL_len
    obtain ⟨b, rfl⟩ : ∃ b, q = some b := by
      cases q with
      | none => have := (hq rfl).1; omega
      | some b => exact ⟨b, rfl⟩
    refine GoH.exit rfl (gS (gR ?_))
    iterate 2 refine gMv ?_
    refine gBl Tryd.underlying29 ?_
    refine GoH.v (Vop.bin rfl rfl rfl rfl (bSubE (c := ((c.length - 1 : Nat) : Int)) (by rw [hdl]; omega) (by omega)) rfl) ?_
    refine GoH.v (Vop.idxS rfl rfl rfl rfl rfl Tryd.underlying29 Tryd.sizeOf3 (c.length - 1) ⟨rfl, (by rw [hdl]; omega)⟩) ?_
    refine GoH.v (Vop.ldE I64 0 rfl rfl rfl rfl Tryd.isAgg3 0 rfl (by rw [hdl]; omega)) ?_
    refine gAs ?_
    refine gE ?_
    refine GoH.ret Tryd.f9 Tryd.func9 rfl (fun w' hS => ?_)
    exact ⟨hS.ext, by rw [hdE]; rfl⟩
end Go.Proofs.YthojdcaojjmoaaaDoor
namespace Go.Proofs.YthojdcaojjmoaaaDoor
open Go.RowKit Go.Proofs.Wit
/-! filtrations: the view of a model with a formula, its classes -/
theorem infoBy : (Tryd.prog.info? 5).map (fun i => (i.zero, i.size, i.bytes)) = some (some (Value.int .u8 0), 1, 1) := by kernel_rfl
def lookE (m : MV) (f : List NV) : Int := if checkM m.n m.val m.rel ≠ 0 then checkM m.n m.val m.rel else if chkF f ≠ 0 then chkF f else if andN (frgL (compF f)) 1 ≠ 0 then 10 else holdE m.n m.val m.rel (compF f)
def viewCs (m : MV) (sc ss : Value) : Array Value := #[.int .i64 m.n, .slice m.va m.val.length m.vc, .slice m.ra m.rows.length m.rc, sc, ss]
def ViewIs (w w' : World) (v : Value) (m : MV) (f : List NV) : Prop := lookE m f = 0 → ∃ bv sc q cap sp, v = .pointer (some ⟨bv, 0, none⟩) ∧ (q = none → (setsP m.n.toNat m.val m.rel (compF f)).length = 0 ∧ cap = 0) ∧
  NewH w w' [(some bv, .cells (viewCs m sc (osv q (setsP m.n.toNat m.val m.rel (compF f)).length cap)) 60 (0, 0)), (q, ob U 37 (setsP m.n.toNat m.val m.rel (compF f)) sp)]
set_option maxRecDepth 8000 in
theorem look_c (m : MV) (a : Option Addr) (ca : Nat) (f : List NV) (w : World) (hm : m.At w) (ha : FA w a f) (hl : f.length ≤ maxLen) :
    Cn Tryd.prog 12 [m.v, .slice a f.length ca] w (fun v w' => ∃ pv, v = .tuple #[pv, .int .i64 (lookE m f)] ∧ ViewIs w w' pv m f) := by
  have hcl := compF_le f
  refine Cn.of Tryd.func12 rfl rfl ?_
  refine gS (gR ?_)
  refine GoH.bx rfl rfl rfl rfl (fun b2 => ?_)
  iterate 2 refine gAs ?_
  refine gE (gS (gS (gR ?_)))
  refine GoH.v (Vop.ldB rfl rfl rfl rfl Tryd.isAgg25 0 rfl Tryd.sizeOf25 rfl) ?_
  refine GoH.callP rfl rfl rfl rfl rfl (fun _ _ => Tryd.call14 _ _) (fun w _ hS => (by exact mcheck_c m w (hm.ex0 hS.ext))) ?_
  refine gAs ?_
  refine gE (gS (gR ?_))
  refine gMv ?_
  refine gBi bNe ?_
  refine gE ?_
  refine GoH.cond rfl (fun hc => ?_) (fun hc => ?_)
  ·
   have h1 : checkM m.n m.val m.rel ≠ 0 := by simpa using hc
   have hE : lookE m f = checkM m.n m.val m.rel := by rw [lookE, if_pos h1]
   refine gS (gR ?_)
   refine gMv ?_
   iterate 2 refine gAs ?_
   refine gE ?_
   refine GoH.ret Tryd.f12 Tryd.func12 rfl (fun w' hS => ?_)
   exact ⟨hS.ext, _, by rw [hE]; rfl, fun h => absurd (hE ▸ h) h1⟩
  ·
   have h1 : checkM m.n m.val m.rel = 0 := by simpa using hc
   have hv := checkM_zero.1 h1
   have hn1 := hv.n1
   obtain ⟨n, hn⟩ : ∃ n : Nat, m.n = n := ⟨m.n.toNat, by omega⟩
   refine gK (gS (gS (gR ?_)))
   refine gMv ?_
   refine GoH.callP rfl rfl rfl rfl rfl (fun _ _ => Tryd.call17 _ _) (fun w _ hS => (by exact fcheck_c a ca f w (ha.ex0 hS.ext) hl)) ?_
   refine gAs ?_
   refine gE (gS (gR ?_))
   refine gMv ?_
   refine gBi bNe ?_
   refine gE ?_
   refine GoH.cond rfl (fun hc => ?_) (fun hc => ?_)
   ·
    have h2 : chkF f ≠ 0 := by simpa using hc
    have hE : lookE m f = chkF f := by rw [lookE, if_neg (by simp [h1]), if_pos h2]
    refine gS (gR ?_)
    refine gMv ?_
    iterate 2 refine gAs ?_
    refine gE ?_
    refine GoH.ret Tryd.f12 Tryd.func12 rfl (fun w' hS => ?_)
    exact ⟨hS.ext, _, by rw [hE]; rfl, fun h => absurd (hE ▸ h) h2⟩
   ·
    have h2 : chkF f = 0 := by simpa using hc
    refine gK (gS (gS (gR ?_)))
    refine gMv ?_
    refine GoH.callP rfl rfl rfl rfl rfl (fun _ _ => Tryd.call22 _ _) (fun w _ hS => (by exact frags_c a ca f w (ha.ex0 hS.ext) hl)) ?_
    refine GoH.v (Vop.bin rfl rfl rfl rfl (bAndNotI (frgL_lt _) (by omega : (1 : Nat) < 512)) rfl) ?_
    refine gBi bNe ?_
    refine gE ?_
    refine GoH.cond rfl (fun hc => ?_) (fun hc => ?_)
    ·
     have h3 : andN (frgL (compF f)) 1 ≠ 0 := by
       have : ((andN (frgL (compF f)) 1 : Nat) : Int) ≠ 0 := by simpa using hc
       omega
     have hE : lookE m f = 10 := by rw [lookE, if_neg (by simp [h1]), if_neg (by simp [h2]), if_pos h3]
     refine gS (gR ?_)
     iterate 2 refine gAs ?_
     refine gE ?_
     refine GoH.ret Tryd.f12 Tryd.func12 rfl (fun w' hS => ?_)
     exact ⟨hS.ext, _, by rw [hE]; rfl, fun h => absurd (hE ▸ h) (by decide)⟩
    ·
     have h3 : andN (frgL (compF f)) 1 = 0 := by
       have : ((andN (frgL (compF f)) 1 : Nat) : Int) = 0 := by simpa using hc
       omega
     have hE : lookE m f = holdE m.n m.val m.rel (compF f) := by rw [lookE, if_neg (by simp [h1]), if_neg (by simp [h2]), if_neg (by simp [h3])]
     refine gK (gS (gR ?_))
     refine gMv ?_
     refine GoH.callM _ rfl rfl rfl rfl rfl (fun _ _ => Tryd.call18 _ _) (fun w _ hS => fcompact_c a ca f w (ha.ex0 hS.ext) hl) ?_
     rintro v w1 w2 Y' hS he ho
     rw [subF_top] at ho
     obtain ⟨qc, capc, spc, rfl, hqc, hcapc, hS'⟩ := gainN hS he ho
     refine ⟨_, hS', ?_⟩
     refine gAs ?_
     refine gE (gS (gR ?_))
     refine GoH.v (Vop.ldB rfl rfl rfl rfl Tryd.isAgg25 1 rfl Tryd.sizeOf25 rfl) ?_
     refine gMv ?_
     refine GoH.callM _ rfl rfl rfl rfl rfl (fun _ _ => Tryd.call23 _ _) (fun w _ hS => (by exact psets_c m n (qc.map (fun b => ⟨b, 0, none⟩)) capc (compF f) w (hm.ex0 hS.ext) hn (faAt hS 0 rfl (fun e => (hqc e).1)) (by unfold maxLen; omega))) ?_
     rintro v w1 w2 Y' hS he ⟨sv, rfl, ho⟩
     obtain ⟨q, cap, sp, rfl, hq, hcap, hS'⟩ := gainO hS he ho
     refine ⟨_, hS', ?_⟩
     refine gMv ?_
     iterate 2 refine gEx ?_
     iterate 2 refine gAs ?_
     refine gE (gS (gS (gR ?_)))
     refine gMv ?_
     refine gBi bNe ?_
     refine gE ?_
     refine GoH.cond rfl (fun hc => ?_) (fun hc => ?_)
     ·
      have h4 : holdE m.n m.val m.rel (compF f) ≠ 0 := by simpa using hc
      refine gS (gR ?_)
      refine gMv ?_
      iterate 2 refine gAs ?_
      refine gE ?_
      refine GoH.ret Tryd.f12 Tryd.func12 rfl (fun w' hS => ?_)
      exact ⟨hS.ext, _, by rw [hE]; rfl, fun h => absurd (hE ▸ h) h4⟩
     ·
      have h4 : holdE m.n m.val m.rel (compF f) = 0 := by simpa using hc
      have hnn : m.n.toNat = n := by omega
      rw [if_pos h4] at hq hcap ⊢
      refine gK (gS (gR ?_))
      refine GoH.v (Vop.ldB rfl rfl rfl rfl Tryd.isAgg25 2 rfl Tryd.sizeOf25 rfl) ?_
      iterate 2 refine gMv ?_
      refine GoH.v (Vop.bld rfl rfl rfl rfl (bld (c := [_, _, _, _, _]) Tryd.underlying60 (Szs.cons Tryd.sizeOf25 (Szs.cons Tryd.sizeOf26 (Szs.cons Tryd.sizeOf22 Szs.nil))) Tryd.zeroValue60 rfl)) ?_
      refine GoH.bx rfl rfl rfl rfl (fun b40 => ?_)
      iterate 2 refine gAs ?_
      refine gE ?_
      refine GoH.ret Tryd.f12 Tryd.func12 rfl (fun w' hS => ?_)
      refine ⟨hS.ext, _, by rw [hE, h4]; rfl, fun _ => ?_⟩
      rw [hnn]
      exact ⟨b40, _, q, cap, sp, rfl, hq, (NewH.of hS).sub (.cons_cons _ (.cons_cons _ (List.nil_sublist _)))⟩
set_option maxRecDepth 8000 in
theorem classes_c (m : MV) (n : Nat) (bv : Nat) (sc : Value) (q : Option Nat) (cap : Nat) (sets : List W64) (w : World) (hb : w.heap[bv]? = some (.cells (viewCs m sc (osv q sets.length cap)) 60 (0, 0))) (hs : SlU w (q.map (fun b => ⟨b, 0, none⟩)) sets) (hn : m.n = (n : Int)) (h64 : n ≤ 64) (hl : sets.length ≤ 1000) :
    Cn Tryd.prog 13 [.pointer (some ⟨bv, 0, none⟩)] w (fun v w' => ∃ p b, v = .slice (some ⟨b, 0, none⟩) n n ∧ ClsP (keyB sets) n p ∧ w.heap.size ≤ b ∧ w'.heap[b]? = some (ob I64 3 p [])) := by
  obtain ⟨i0, hi, hz, hsz, hby⟩ := info_parts infoI
  obtain ⟨i1, hi1, hz1, hsz1, hby1⟩ := info_parts infoBy
  have HB : ∀ {w' : World} {j : Nat} {v : Value}, Ex [] w w' → (viewCs m sc (osv q sets.length cap))[j]? = some v → w'.cell? ⟨bv, j, none⟩ = some v := fun e h => Ex.cell e hb h
  refine Cn.of Tryd.func13 rfl rfl ?_
  refine gS (gR ?_)
  refine gAs ?_
  refine gE (gS (gR ?_))
  refine GoH.mkMap bstr evN rfl rfl rfl (fun b11 => ?_)
  refine gAs ?_
  refine gE (gS (gR ?_))
  refine gMv ?_
  refine gNk ?_
  refine gFp Tryd.underlying60 Tryd.sizeOf25 0 ?_
  refine gFp Tryd.underlying25 Tryd.sizeOf3 0 ?_
  refine GoH.v (Vop.ld (p := ⟨bv, 0, none⟩) rfl rfl rfl rfl Tryd.isAgg3 (fun w _ hS => HB hS.ext rfl)) ?_
  refine GoH.mkE I64 0 (m := n) rfl rfl (by rw [← hn]; rfl) (by rw [← hn]; rfl) rfl Tryd.underlying29 hi hz rfl hsz (by rw [hby]; omega) (by unfold maxLen; omega) (fun b17 => ?_)
  refine gAs ?_
  refine gE (gS (gS (gR ?_)))
  refine gMv ?_
  refine gBl Tryd.underlying29 ?_
  refine gMv ?_
  refine gE (gB ?_)
  have hKs := KeyOk.bstr (P := Tryd.prog) (kt := 9) Tryd.underlying9
  refine GoH.loop (σ := Nat × List (List UInt8 × Nat) × List Int) (fun z => [(0, .pointer (some ⟨bv, 0, none⟩)), (3, .map (some b11)), (4, .slice (some ⟨b17, 0, none⟩) n n), (19, .int .i64 n), (20, .int .i64 z.1)])
    (fun z => [(some b17, ob I64 3 z.2.2 []), (some b11, mobj bstr evN z.2.1)])
    (fun z => Cls (keyB sets) n z.2.1 z.2.2 z.1) (fun z => n - z.1) (0, [], List.replicate n 0) Cls.start ⟨rfl, rfl, rfl, rfl, rfl, trivial⟩ (List.Sublist.refl _) (fun z hI IH => ?_)
  obtain ⟨k, Lm, l⟩ := z
  have hIk := hI.le
  have hIl := hI.len
  dsimp only at hI IH hIk hIl ⊢
  refine gS (gR ?_)
  refine gBi bLt ?_
  refine gE (gS ?_)
  refine GoH.cond rfl (fun hc => ?_) (fun hc => ?_)
  ·
   have hlt : k < n := by simpa using hc
   refine gK (gS (gB (gS (gR ?_))))
   refine gMv ?_
   refine gAs ?_
   refine gE (gS (gR ?_))
   refine gMv ?_
   refine gNk ?_
   refine gFp Tryd.underlying60 Tryd.sizeOf22 4 ?_
   refine GoH.v (Vop.ld (p := ⟨bv, 4, none⟩) rfl rfl rfl rfl Tryd.isAgg22 (fun w _ hS => HB hS.ext rfl)) ?_
   refine gBl Tryd.underlying22 ?_
   refine GoH.mkE I8 0 (m := sets.length) rfl rfl rfl rfl rfl Tryd.underlying62 hi1 hz1 rfl hsz1 (by rw [hby1]; omega) (by unfold maxLen; omega) (fun b28 => ?_)
   refine gAs ?_
   refine gE (gS (gS (gR ?_)))
   refine gMv ?_
   refine gNk ?_
   refine gFp Tryd.underlying60 Tryd.sizeOf22 4 ?_
   refine GoH.v (Vop.ld (p := ⟨bv, 4, none⟩) rfl rfl rfl rfl Tryd.isAgg22 (fun w _ hS => HB hS.ext rfl)) ?_
   refine gBl Tryd.underlying22 ?_
   refine gMv ?_
   refine gE (gB ?_)
   refine GoH.loop (σ := Nat) (fun j => [(0, .pointer (some ⟨bv, 0, none⟩)), (3, .map (some b11)), (4, .slice (some ⟨b17, 0, none⟩) n n), (5, .int .i64 k), (6, .slice (some ⟨b28, 0, none⟩) sets.length sets.length), (19, .int .i64 n), (20, .int .i64 k), (32, osv q sets.length cap), (33, .int .i64 sets.length), (34, .int .i64 j)])
     (fun j => [(some b28, ob I8 5 (prt sets.length (fun i => bt (sets.getD i 0#64) k) 0 j) []), (some b17, ob I64 3 l []), (some b11, mobj bstr evN Lm)])
     (fun j => j ≤ sets.length) (fun j => sets.length - j) 0 (Nat.zero_le _) ⟨rfl, rfl, rfl, rfl, rfl, rfl, rfl, rfl, rfl, rfl, trivial⟩ (by rw [prt_zero]; exact List.Sublist.refl _) (fun j hj IH2 => ?_)
   refine gS (gR ?_)
   refine gBi bLt ?_
   refine gE (gS ?_)
   refine GoH.cond rfl (fun hc => ?_) (fun hc => ?_)
   ·
    have hltj : j < sets.length := by simpa using hc
    refine gK (gS (gB (gS (gR ?_))))
    refine gMv ?_
    refine GoH.v (Vop.idx rfl rfl rfl rfl rfl Tryd.underlying22 Tryd.sizeOf37 ⟨_, hs⟩ (by simp) (j) ⟨rfl, by simpa using hltj⟩) ?_
    refine GoH.v (Vop.ld rfl rfl rfl rfl Tryd.isAgg37 (fun w _ hS => (SlU.ex0 hs hS.ext).at (j) hltj)) ?_
    iterate 2 refine gAs ?_
    refine gE (gR ?_)
    iterate 4 refine gMv ?_
    refine GoH.v (Vop.bin rfl rfl rfl rfl (bShr k rfl) rfl) ?_
    refine GoH.v (Vop.bin (b := U 1#64) rfl rfl rfl rfl bAnd rfl) ?_
    refine GoH.v (Vop.conv (v := I8 (bt (sets.getD j 0#64) k)) rfl rfl rfl (cBt (sets.getD j 0#64) k Tryd.underlying37 Tryd.underlying5) rfl) ?_
    refine GoH.v (Vop.idxS rfl rfl rfl rfl rfl Tryd.underlying62 Tryd.sizeOf5 (j) ⟨rfl, hltj⟩) ?_
    refine GoH.stE I8 (bt (sets.getD j 0#64) k) rfl rfl rfl rfl Tryd.sizeOf5 rfl 0 rfl (by rw [prt_len]; exact hltj) ?_
    refine gE (gIb (gR ?_))
    refine GoH.v (Vop.bin rfl rfl rfl rfl (bAdd (by omega)) rfl) ?_
    refine gMv ?_
    refine gE ?_
    exact IH2 (j + 1) _ _ hltj (by omega) ⟨rfl, rfl, rfl, rfl, rfl, rfl, rfl, rfl, rfl, rfl, trivial⟩ (by rw [← prt_set (P := fun i => bt (sets.getD i 0#64) k) hltj]; exact List.Sublist.refl _)
   ·
    have hge : ¬ j < sets.length := by simpa using hc
    obtain rfl : j = sets.length := by omega
    rw [keyB_prt]
    have hkl : (keyB sets k).length = sets.length := by simp [keyB]
    refine GoH.exit rfl (gS (gS (gR ?_)))
    iterate 2 refine gMv ?_
    refine GoH.v (Vop.cStr rfl rfl rfl rfl Tryd.underlying62 Tryd.underlying9 Tryd.underlying5 0 rfl (by rw [Nat.zero_add]; exact hkl.symm) (keyB sets k) rfl) ?_
    refine GoH.v (Vop.lkup (ev := evN) (a := keyB sets k) (z := .int .i64 0) (L := Lm) hKs rfl rfl rfl rfl rfl Tryd.underlying61 (fun _ => Tryd.zeroValue3 _) 2 rfl) ?_
    refine gMv ?_
    iterate 2 refine gEx ?_
    iterate 2 refine gAs ?_
    refine gE (gS (gR ?_))
    refine gMv ?_
    refine gUn uNot ?_
    refine gE ?_
    refine GoH.cond rfl (fun hc => ?_) (fun hc => ?_)
    ·
     have hno : mget (fun a b => a == b) Lm (keyB sets k) = none := by
       cases h : mget (fun a b => a == b) Lm (keyB sets k) with
       | none => rfl
       | some v => rw [h] at hc; simp at hc
     obtain ⟨hI2, hnew⟩ := hI.new hlt hno
     refine gR ?_
     iterate 2 refine gMv ?_
     refine GoH.v (Vop.cStr rfl rfl rfl rfl Tryd.underlying62 Tryd.underlying9 Tryd.underlying5 0 rfl (by rw [Nat.zero_add]; exact hkl.symm) (keyB sets k) rfl) ?_
     refine gMv ?_
     refine GoH.mapIns hKs rfl (.inl rfl) rfl rfl rfl (a := keyB sets k) (v := k) rfl rfl Tryd.underlying61 2 rfl hno ?_
     refine gE (gR ?_)
     iterate 4 refine gMv ?_
     refine GoH.v (Vop.cStr rfl rfl rfl rfl Tryd.underlying62 Tryd.underlying9 Tryd.underlying5 0 rfl (by rw [Nat.zero_add]; exact hkl.symm) (keyB sets k) rfl) ?_
     refine GoH.v (Vop.lkup1 (ev := evN) (a := keyB sets k) (v := k) hKs rfl rfl rfl rfl rfl Tryd.underlying61 2 rfl hnew) ?_
     refine GoH.v (Vop.idxS rfl rfl rfl rfl rfl Tryd.underlying29 Tryd.sizeOf3 (k) ⟨rfl, (by simpa using hlt)⟩) ?_
     refine GoH.stE (Value.int .i64) _ rfl rfl rfl rfl Tryd.sizeOf3 rfl 1 rfl (by rw [hIl]; exact hlt) ?_
     refine gE (gIb (gR ?_))
     refine GoH.v (Vop.bin rfl rfl rfl rfl (bAdd (by omega)) rfl) ?_
     refine gMv ?_
     refine gE ?_
     exact IH (k + 1, Lm ++ [(keyB sets k, k)], l.set k (k : Int)) _ _ hI2 (by dsimp only; omega) ⟨rfl, rfl, rfl, rfl, rfl, trivial⟩ (.cons _ (List.Sublist.refl _))
    ·
     obtain ⟨v, hv⟩ : ∃ v, mget (fun a b => a == b) Lm (keyB sets k) = some v := by
       cases h : mget (fun a b => a == b) Lm (keyB sets k) with
       | none => rw [h] at hc; simp at hc
       | some v => exact ⟨v, rfl⟩
     refine gK (gR ?_)
     iterate 4 refine gMv ?_
     refine GoH.v (Vop.cStr rfl rfl rfl rfl Tryd.underlying62 Tryd.underlying9 Tryd.underlying5 0 rfl (by rw [Nat.zero_add]; exact hkl.symm) (keyB sets k) rfl) ?_
     refine GoH.v (Vop.lkup1 (ev := evN) (a := keyB sets k) (v := v) hKs rfl rfl rfl rfl rfl Tryd.underlying61 2 rfl hv) ?_
     refine GoH.v (Vop.idxS rfl rfl rfl rfl rfl Tryd.underlying29 Tryd.sizeOf3 (k) ⟨rfl, (by simpa using hlt)⟩) ?_
     refine GoH.stE (Value.int .i64) _ rfl rfl rfl rfl Tryd.sizeOf3 rfl 1 rfl (by rw [hIl]; exact hlt) ?_
     refine gE (gIb (gR ?_))
     refine GoH.v (Vop.bin rfl rfl rfl rfl (bAdd (by omega)) rfl) ?_
     refine gMv ?_
     refine gE ?_
     exact IH (k + 1, Lm, l.set k (v : Int)) _ _ (hI.old hlt hv) (by dsimp only; omega) ⟨rfl, rfl, rfl, rfl, rfl, trivial⟩ (.cons _ (List.Sublist.refl _))
  ·
   have hge : ¬ k < n := by simpa using hc
   obtain rfl : n = k := by omega
   refine GoH.exit rfl (gS (gR ?_))
   refine gMv ?_
   refine gAs ?_
   refine gE ?_
   refine GoH.ret Tryd.f13 Tryd.func13 rfl (fun w' hS => ?_)
   exact ⟨hS.ext, l, b17, rfl, hI.done, (NewH.of hS).own _ (List.mem_cons_self ..) b17 rfl |>.2.2, hS.get (j := 0) rfl⟩
end Go.Proofs.YthojdcaojjmoaaaDoor
