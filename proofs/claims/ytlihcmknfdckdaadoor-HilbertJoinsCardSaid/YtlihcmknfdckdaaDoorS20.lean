/- What calls of the program return, under the conditions that each theorem states. -/
import Derived.Test.YtlihcmknfdckdaaDoorS17
import Derived.Test.YtlihcmknfdckdaaDoorS18
import Derived.Test.YtlihcmknfdckdaaDoorS19
import Derived.Test.YtlihcmknfdckdaaDoorS04
import Derived.Test.YtlihcmknfdckdaaDoorS16
namespace Go.Proofs.YtlihcmknfdckdaaDoor
open Go.RowKit Go.Proofs.Wit Tryd
/-! the reference of proofs: formulas, tops, parts -/
theorem gnot_c (x : FV) (t : Tr) (w : World) (ha : FA w x.a x.f) (hf : x.f = bT t) (ht : t.ok) : Cn Tryd.prog 35 [x.v] w (fun v w' => OwnN 80 w w' v (bT (ntT t))) := by
 refine Cn.of func35 rfl rfl ?_
 refine gS (gR ?_); refine gAs ?_; refine gE (gS (gR ?_))
 refine GoH.v (Vop.bld rfl rfl rfl rfl (bld (c := [_, _, _, _, _, _]) underlying80 (Szs.cons sizeOf3 (Szs.cons sizeOf3 (Szs.cons sizeOf3 (Szs.cons sizeOf3 (Szs.cons sizeOf3 (Szs.cons sizeOf3 Szs.nil)))))) zeroValue80 rfl)) ?_
 refine gMv ?_
 refine gM rfl rfl rfl rfl rfl call70 (fun w _ hS => (by exact runary_c 4 0 0 0 x.a x.c x.f t w (by decide) rfl rfl rfl (ha.ex0 hS.ext) hf ht)) ?_
 rintro v w1 w2 Y' hS he ho
 obtain ⟨q, cap, sp, rfl, hq, hcap, hS'⟩ := gainN hS he ho
 refine ⟨_, hS', ?_⟩
 refine gAs ?_; refine gE ?_
 refine gT func35 fun w' hS => ?_
 exact ⟨hS.ext, OwnN.mk hS 0 rfl rfl hq hcap⟩
theorem gknow_c (i : Int) (hi : 0 ≤ i ∧ i < 4) (x : FV) (t : Tr) (w : World) (ha : FA w x.a x.f) (hf : x.f = bT t) (ht : t.ok) : Cn Tryd.prog 36 [.int .i64 i, x.v] w (fun v w' => OwnN 80 w w' v (bT (kwT i t))) := by
 refine Cn.of func36 rfl rfl ?_
 refine gS (gR ?_); refine gAs ?_; refine gE (gS (gR ?_)); refine gMv ?_
 refine GoH.v (Vop.bld rfl rfl rfl rfl (bld (c := [_, _, _, _, _, _]) underlying80 (Szs.cons sizeOf3 (Szs.cons sizeOf3 (Szs.cons sizeOf3 (Szs.cons sizeOf3 (Szs.cons sizeOf3 (Szs.cons sizeOf3 Szs.nil)))))) zeroValue80 rfl)) ?_
 refine gMv ?_
 refine gM rfl rfl rfl rfl rfl call70 (fun w _ hS => (by exact runary_c 9 i 0 0 x.a x.c x.f t w (by decide) rfl rfl (fld_kw hi) (ha.ex0 hS.ext) hf ht)) ?_
 rintro v w1 w2 Y' hS he ho
 obtain ⟨q, cap, sp, rfl, hq, hcap, hS'⟩ := gainN hS he ho
 refine ⟨_, hS', ?_⟩
 refine gAs ?_; refine gE ?_
 refine gT func36 fun w' hS => ?_
 exact ⟨hS.ext, OwnN.mk hS 0 rfl rfl hq hcap⟩
theorem gevery_c (g : Int) (hg : 1 ≤ g ∧ g < 16) (x : FV) (t : Tr) (w : World) (ha : FA w x.a x.f) (hf : x.f = bT t) (ht : t.ok) : Cn Tryd.prog 104 [.int .i64 g, x.v] w (fun v w' => OwnN 80 w w' v (bT (evT g t))) := by
 refine Cn.of func104 rfl rfl ?_
 refine gS (gR ?_); refine gAs ?_; refine gE (gS (gR ?_)); refine gMv ?_
 refine GoH.v (Vop.bld rfl rfl rfl rfl (bld (c := [_, _, _, _, _, _]) underlying80 (Szs.cons sizeOf3 (Szs.cons sizeOf3 (Szs.cons sizeOf3 (Szs.cons sizeOf3 (Szs.cons sizeOf3 (Szs.cons sizeOf3 Szs.nil)))))) zeroValue80 rfl)) ?_
 refine gMv ?_
 refine gM rfl rfl rfl rfl rfl call70 (fun w _ hS => (by exact runary_c 11 0 0 g x.a x.c x.f t w (by decide) rfl rfl (fld_ev hg) (ha.ex0 hS.ext) hf ht)) ?_
 rintro v w1 w2 Y' hS he ho
 obtain ⟨q, cap, sp, rfl, hq, hcap, hS'⟩ := gainN hS he ho
 refine ⟨_, hS', ?_⟩
 refine gAs ?_; refine gE ?_
 refine gT func104 fun w' hS => ?_
 exact ⟨hS.ext, OwnN.mk hS 0 rfl rfl hq hcap⟩
theorem gand_c (x y : FV) (t u : Tr) (w : World) (ha : FA w x.a x.f) (hf : x.f = bT t) (ht : t.ok) (hb : FA w y.a y.f) (hg : y.f = bT u) (hu : u.ok) : Cn Tryd.prog 71 [x.v, y.v] w (fun v w' => OwnN 80 w w' v (bT (adT t u))) := by
 refine Cn.of func71 rfl rfl ?_
 refine gS (gR ?_); refine gAs ?_; refine gE (gS (gR ?_))
 refine GoH.v (Vop.bld rfl rfl rfl rfl (bld (c := [_, _, _, _, _, _]) underlying80 (Szs.cons sizeOf3 (Szs.cons sizeOf3 (Szs.cons sizeOf3 (Szs.cons sizeOf3 (Szs.cons sizeOf3 (Szs.cons sizeOf3 Szs.nil)))))) zeroValue80 rfl)) ?_
 iterate 2 refine gMv ?_
 refine gM rfl rfl rfl rfl rfl call58 (fun w _ hS => (by exact rbinary_c 5 0 0 0 x.a x.c x.f t y.a y.c y.f u w (by decide) rfl rfl (ha.ex0 hS.ext) hf ht (hb.ex0 hS.ext) hg hu)) ?_
 rintro v w1 w2 Y' hS he ho
 obtain ⟨q, cap, sp, rfl, hq, hcap, hS'⟩ := gainN hS he ho
 refine ⟨_, hS', ?_⟩
 refine gAs ?_; refine gE ?_
 refine gT func71 fun w' hS => ?_
 exact ⟨hS.ext, OwnN.mk hS 0 rfl rfl hq hcap⟩
theorem gor_c (x y : FV) (t u : Tr) (w : World) (ha : FA w x.a x.f) (hf : x.f = bT t) (ht : t.ok) (hb : FA w y.a y.f) (hg : y.f = bT u) (hu : u.ok) : Cn Tryd.prog 28 [x.v, y.v] w (fun v w' => OwnN 80 w w' v (bT (.bin 6 0 0 0 t u))) := by
 refine Cn.of func28 rfl rfl ?_
 refine gS (gR ?_); refine gAs ?_; refine gE (gS (gR ?_))
 refine GoH.v (Vop.bld rfl rfl rfl rfl (bld (c := [_, _, _, _, _, _]) underlying80 (Szs.cons sizeOf3 (Szs.cons sizeOf3 (Szs.cons sizeOf3 (Szs.cons sizeOf3 (Szs.cons sizeOf3 (Szs.cons sizeOf3 Szs.nil)))))) zeroValue80 rfl)) ?_
 iterate 2 refine gMv ?_
 refine gM rfl rfl rfl rfl rfl call58 (fun w _ hS => (by exact rbinary_c 6 0 0 0 x.a x.c x.f t y.a y.c y.f u w (by decide) rfl rfl (ha.ex0 hS.ext) hf ht (hb.ex0 hS.ext) hg hu)) ?_
 rintro v w1 w2 Y' hS he ho
 obtain ⟨q, cap, sp, rfl, hq, hcap, hS'⟩ := gainN hS he ho
 refine ⟨_, hS', ?_⟩
 refine gAs ?_; refine gE ?_
 refine gT func28 fun w' hS => ?_
 exact ⟨hS.ext, OwnN.mk hS 0 rfl rfl hq hcap⟩
theorem gimp_c (x y : FV) (t u : Tr) (w : World) (ha : FA w x.a x.f) (hf : x.f = bT t) (ht : t.ok) (hb : FA w y.a y.f) (hg : y.f = bT u) (hu : u.ok) : Cn Tryd.prog 27 [x.v, y.v] w (fun v w' => OwnN 80 w w' v (bT (imT t u))) := by
 refine Cn.of func27 rfl rfl ?_
 refine gS (gR ?_); refine gAs ?_; refine gE (gS (gR ?_))
 refine GoH.v (Vop.bld rfl rfl rfl rfl (bld (c := [_, _, _, _, _, _]) underlying80 (Szs.cons sizeOf3 (Szs.cons sizeOf3 (Szs.cons sizeOf3 (Szs.cons sizeOf3 (Szs.cons sizeOf3 (Szs.cons sizeOf3 Szs.nil)))))) zeroValue80 rfl)) ?_
 iterate 2 refine gMv ?_
 refine gM rfl rfl rfl rfl rfl call58 (fun w _ hS => (by exact rbinary_c 7 0 0 0 x.a x.c x.f t y.a y.c y.f u w (by decide) rfl rfl (ha.ex0 hS.ext) hf ht (hb.ex0 hS.ext) hg hu)) ?_
 rintro v w1 w2 Y' hS he ho
 obtain ⟨q, cap, sp, rfl, hq, hcap, hS'⟩ := gainN hS he ho
 refine ⟨_, hS', ?_⟩
 refine gAs ?_; refine gE ?_
 refine gT func27 fun w' hS => ?_
 exact ⟨hS.ext, OwnN.mk hS 0 rfl rfl hq hcap⟩
theorem ghas_c (l r : Int) (w : World) (_hl : 0 ≤ l ∧ l ≤ 6) : Cn Tryd.prog 46 [.int .i64 l, .int .i64 r] w (fun v _ => v = .bool (hasL49 l r)) := by
  refine Cn.of func46 rfl rfl ?_
  refine gS (gR ?_); refine gAs ?_; refine gE (gS (gS (gR ?_))); refine gMv ?_; refine gE (gB (gS (gR ?_))); refine gBi bEq ?_; refine gAs ?_; refine gE ?_
  refine gC (fun hc => ?_) fun hc => ?_
  ·
   have hr3 : r = 3 := by simpa using hc
   refine gS (gR ?_); refine gMv ?_; refine gBi bEq ?_; refine gMv ?_
   refine gCs 10 (fun hc => ?_) fun hc => ?_
   ·
    have h2 : l = 2 := by simpa using hc
    iterate 2 refine gNo ?_
    refine gPt ?_; refine gMv ?_
    iterate 2 refine gNo ?_
    refine gPt ?_; refine gAs ?_; refine gE ?_
    refine gT func46 fun w' hS => ?_
    exact ⟨hS.ext, by rw [hr3, h2]; rfl⟩
   ·
    have h2 : ¬ l = 2 := by simpa using hc
    refine gMv ?_; refine gBi bEq ?_; refine gPf ?_; refine gMv ?_
    refine gCs 14 (fun hc => ?_) fun hc => ?_
    ·
     have h4 : l = 4 := by simpa using hc
     iterate 2 refine gNo ?_
     refine gPt ?_; refine gAs ?_; refine gE ?_
     refine gT func46 fun w' hS => ?_
     exact ⟨hS.ext, by rw [hr3, h4]; rfl⟩
    ·
     have h4 : ¬ l = 4 := by simpa using hc
     have e6 : (l == 6) = hasL49 l 3 := by
       rw [Bool.eq_iff_iff, hasL49, if_pos rfl, decide_eq_true_eq, beq_iff_eq]
       omega
     refine gMv ?_; refine gBi bEq ?_; refine gPf ?_; refine gAs ?_; refine gE ?_
     refine gT func46 fun w' hS => ?_
     exact ⟨hS.ext, by rw [hr3, ← e6]; rfl⟩
  ·
   have hr3 : ¬ r = 3 := by simpa using hc
   refine gS (gR ?_); refine gBi bEq ?_; refine gAs ?_; refine gE ?_
   refine gC (fun hc => ?_) fun hc => ?_
   ·
    have hr4 : r = 4 := by simpa using hc
    refine gS (gR ?_); refine gMv ?_; refine gBi bGe ?_; refine gAs ?_; refine gE ?_
    refine gT func46 fun w' hS => ?_
    exact ⟨hS.ext, by rw [hr4]; rfl⟩
   ·
    have hr4 : ¬ r = 4 := by simpa using hc
    refine gS (gR ?_); refine gBi bEq ?_; refine gAs ?_; refine gE ?_
    refine gC (fun hc => ?_) fun hc => ?_
    ·
     have hr5 : r = 5 := by simpa using hc
     refine gS (gR ?_); refine gMv ?_; refine gBi bGe ?_; refine gAs ?_; refine gE ?_
     refine gT func46 fun w' hS => ?_
     exact ⟨hS.ext, by rw [hr5]; rfl⟩
    ·
     have hr5 : ¬ r = 5 := by simpa using hc
     refine gS (gR ?_); refine gBi bEq ?_; refine gAs ?_; refine gE ?_
     refine gC (fun hc => ?_) fun hc => ?_
     ·
      have hr6 : r = 6 := by simpa using hc
      refine gS (gR ?_); refine gMv ?_; refine gBi bEq ?_; refine gMv ?_
      refine gCs 30 (fun hc => ?_) fun hc => ?_
      ·
       have h1 : l = 1 := by simpa using hc
       iterate 2 refine gNo ?_
       refine gPt ?_; refine gAs ?_; refine gE ?_
       refine gT func46 fun w' hS => ?_
       exact ⟨hS.ext, by rw [hr6, h1]; rfl⟩
      ·
       have h1 : ¬ l = 1 := by simpa using hc
       have e5 : (l == 5) = hasL49 l 6 := by
         rw [Bool.eq_iff_iff, beq_iff_eq]
         show l = 5 ↔ decide (l = 1 ∨ l = 5) = true
         rw [decide_eq_true_eq]
         omega
       refine gMv ?_; refine gBi bEq ?_; refine gPf ?_; refine gAs ?_; refine gE ?_
       refine gT func46 fun w' hS => ?_
       exact ⟨hS.ext, by rw [hr6, ← e5]; rfl⟩
     ·
      have hr6 : ¬ r = 6 := by simpa using hc
      refine gK (gIb (gS (gR ?_))); refine gAs ?_; refine gE ?_
      refine gT func46 fun w' hS => ?_
      exact ⟨hS.ext, by rw [hasL49, if_neg hr3, if_neg hr4, if_neg hr5, if_neg hr6]; rfl⟩
set_option maxRecDepth 8000 in
theorem gtop_c (a : Option Addr) (ca : Nat) (f : List NV) (o : Option Tr) (op : Int) (w : World) (h0 : op ≠ 0) (ha : FA w a f) (hf : Bf f o) :
    Cn Tryd.prog 101 [.slice a f.length ca, .int .i64 op] w (fun v _ => ∃ nd : NV, v = .tuple #[nd.v, .bool (opP o == op)] ∧ (opP o = op → ∃ hlt : f.length - 1 < f.length, nd = f[f.length - 1])) := by
  have hfl := hf.le
  refine Cn.of func101 rfl rfl ?_
  refine gS (gR ?_)
  refine GoH.alc rfl rfl rfl (fun _ => zeroValue80 _) (fun b4 => ?_)
  refine gAs ?_; refine gE (gS (gS (gR ?_))); refine gMv ?_; refine gBl underlying23 ?_; refine gBi bEq ?_; refine gMv ?_
  refine gCs 9 (fun hc => ?_) fun hc => ?_
  ·
   have hn : f.length = 0 := by simpa using hc
   have ho : opP o = 0 := by
     cases o with
     | none => rfl
     | some t => have := Cf.pos (show Cf f t from hf); omega
   have hb : (opP o == op) = false := by rw [ho, beq_eq_false_iff_ne]; exact fun e => h0 e.symm
   iterate 9 refine gNo ?_
   refine gPt ?_; refine gE (GoH.condT rfl (gS (gR ?_)))
   refine GoH.v (Vop.bld rfl rfl rfl rfl (bld (c := [_, _, _, _, _, _]) underlying80 (Szs.cons sizeOf3 (Szs.cons sizeOf3 (Szs.cons sizeOf3 (Szs.cons sizeOf3 (Szs.cons sizeOf3 (Szs.cons sizeOf3 Szs.nil)))))) zeroValue80 rfl)) ?_
   refine GoH.stB rfl rfl rfl rfl sizeOf80 0 rfl rfl rfl rfl ?_
   refine gAs ?_; refine gE ?_
   refine GoH.retH Tryd.f101 func101 _ (resH.cell rfl isAgg80 sizeOf80 (j := 0) rfl rfl (resH.tmp rfl resH.nil)) (fun w' hS => ?_)
   exact ⟨hS.ext, ⟨0, 0, 0, 0, 0, 0⟩, by rw [hb]; rfl, fun e => absurd (ho.symm.trans e).symm h0⟩
  ·
   have hp : 0 < f.length := by
     have : ¬ f.length = 0 := by simpa using hc
     omega
   obtain ⟨t, rfl⟩ : ∃ t, o = some t := by
     cases o with
     | none => rw [show f = [] from hf] at hp; exact absurd hp (by decide)
     | some t => exact ⟨t, rfl⟩
   have hF : Cf f t := hf
   have hlt : f.length - 1 < f.length := by omega
   obtain ⟨hfo, _, _⟩ := hF.flds hlt
   iterate 2 refine gMv ?_
   refine gBl underlying23 ?_
   refine gBx rfl rfl rfl rfl (bSubE (c := ((f.length - 1 : Nat) : Int)) (by omega) (by omega)) ?_
   refine GoH.v (Vop.idxN rfl rfl rfl rfl rfl underlying23 sizeOf80 ⟨_, (ha).at_⟩ (flat_len (enc := NV.cells) (sz := 6) (fun _ => rfl)) (by decide) ((f.length - 1)) ⟨rfl, hlt⟩) ?_
   refine GoH.v (Vop.fldA rfl rfl rfl rfl underlying80 rfl sizeOf3 (((f.length - 1)) * 6 + 0) rfl) ?_
   refine GoH.v (Vop.ld rfl rfl rfl rfl isAgg3 (fun w _ hS => Sl.fld (enc := NV.cells) (sz := 6) ((ha).ex0 hS.ext).at_ (fun _ => rfl) hlt rfl)) ?_
   refine gMv ?_; refine gBi bNe ?_; refine gPf ?_; refine gE ?_
   refine gC (fun hc => ?_) fun hc => ?_
   ·
    have hne : f[f.length - 1].op ≠ op := by simpa using hc
    have hb : (opP (some t) == op) = false := by rw [beq_eq_false_iff_ne]; show topO t ≠ op; rw [← hfo]; exact hne
    refine gS (gR ?_)
    refine GoH.v (Vop.bld rfl rfl rfl rfl (bld (c := [_, _, _, _, _, _]) underlying80 (Szs.cons sizeOf3 (Szs.cons sizeOf3 (Szs.cons sizeOf3 (Szs.cons sizeOf3 (Szs.cons sizeOf3 (Szs.cons sizeOf3 Szs.nil)))))) zeroValue80 rfl)) ?_
    refine GoH.stB rfl rfl rfl rfl sizeOf80 0 rfl rfl rfl rfl ?_
    refine gAs ?_; refine gE ?_
    refine GoH.retH Tryd.f101 func101 _ (resH.cell rfl isAgg80 sizeOf80 (j := 0) rfl rfl (resH.tmp rfl resH.nil)) (fun w' hS => ?_)
    exact ⟨hS.ext, ⟨0, 0, 0, 0, 0, 0⟩, by rw [hb]; rfl, fun e => absurd (hfo.trans e) hne⟩
   ·
    have hne : f[f.length - 1].op = op := by simpa using hc
    have hb : (opP (some t) == op) = true := by rw [beq_iff_eq]; show topO t = op; rw [← hfo]; exact hne
    refine gK (gS (gR ?_))
    iterate 2 refine gMv ?_
    refine gBl underlying23 ?_
    refine gBx rfl rfl rfl rfl (bSubE (c := ((f.length - 1 : Nat) : Int)) (by omega) (by omega)) ?_
    refine GoH.v (Vop.idxN rfl rfl rfl rfl rfl underlying23 sizeOf80 ⟨_, (ha).at_⟩ (flat_len (enc := NV.cells) (sz := 6) (fun _ => rfl)) (by decide) ((f.length - 1)) ⟨rfl, hlt⟩) ?_
    refine GoH.v (Vop.ldN (cs := NV.cells f[f.length - 1]) rfl rfl rfl rfl isAgg80 sizeOf80 (fun w _ hS => Sl.many (enc := NV.cells) (sz := 6) (ha.ex0 hS.ext).at_ (fun _ => rfl) hlt)) ?_
    refine GoH.stB rfl rfl rfl rfl sizeOf80 0 rfl rfl rfl rfl ?_
    refine gAs ?_; refine gE ?_
    refine GoH.retH Tryd.f101 func101 _ (resH.cell rfl isAgg80 sizeOf80 (j := 0) rfl rfl (resH.tmp rfl resH.nil)) (fun w' hS => ?_)
    exact ⟨hS.ext, f[f.length - 1], by rw [hb]; rfl, fun _ => ⟨hlt, rfl⟩⟩
end Go.Proofs.YtlihcmknfdckdaaDoor
namespace Go.Proofs.YtlihcmknfdckdaaDoor
open Go.RowKit Go.Proofs.Wit Tryd
/-! the reference of proofs: parts -/
def GPartsP (w w' : World) (v : Value) (o : Option Tr) (op : Int) : Prop := ∃ (qa : Option Nat) (ca : Nat) (fa : List NV) (spa : List Value) (qb : Option Nat) (cb : Nat) (fb : List NV) (spb : List Value),
 v = .tuple #[osv qa fa.length ca, osv qb fb.length cb, .bool (opP o == op)] ∧ (qa = none → fa.length = 0 ∧ ca = 0) ∧ (qb = none → fb.length = 0 ∧ cb = 0) ∧ NewH w w' [(qa, obN 80 fa spa), (qb, obN 80 fb spb)] ∧
 Bf fa (if opP o = op then kdA o else none) ∧ Bf fb (if opP o = op ∧ usY op = true then kdB o else none)
set_option maxRecDepth 8000 in
theorem gparts_c (a : Option Addr) (ca : Nat) (f : List NV) (o : Option Tr) (op : Int) (w : World) (hop : op = 4 ∨ op = 7 ∨ op = 8) (ha : FA w a f) (hf : Bf f o) :
    Cn Tryd.prog 68 [.slice a f.length ca, .int .i64 op] w (fun v w' => GPartsP w w' v o op) := by
  have hl := hf.max
  refine Cn.of func68 rfl rfl ?_
  refine gS (gR ?_)
  iterate 3 refine gAs ?_
  refine gE (gS (gR ?_))
  iterate 2 refine gMv ?_
  refine gM rfl rfl rfl rfl rfl call101 (fun w _ hS => (by exact gtop_c a ca f o op w (by omega) (ha.ex0 hS.ext) hf)) ?_
  rintro v w1 w2 Y' hS he ⟨nd, rfl, hnd⟩
  refine ⟨_, hS.later he, ?_⟩
  refine gMv ?_
  iterate 2 refine gEx ?_
  refine GoH.alc rfl rfl rfl (fun _ => zeroValue80 _) (fun b7 => ?_)
  refine GoH.stB rfl rfl rfl rfl sizeOf80 0 rfl rfl rfl rfl ?_
  refine gAs ?_; refine gE (gS (gS (gR ?_))); refine gMv ?_; refine gUn uNot ?_; refine gE ?_
  refine gC (fun hc => ?_) fun hc => ?_
  ·
   have h1 : ¬ opP o = op := by simpa using hc
   have hb : (opP o == op) = false := beq_eq_false_iff_ne.2 h1
   refine gS (gR ?_)
   iterate 3 refine gAs ?_
   refine gE ?_
   refine gT func68 fun w' hS => ?_
   exact ⟨hS.ext, none, 0, [], [], none, 0, [], [], by rw [hb]; rfl, fun _ => ⟨rfl, rfl⟩, fun _ => ⟨rfl, rfl⟩, NewH.nn2, by rw [if_neg h1]; rfl, by rw [if_neg (fun h => h1 h.1)]; rfl⟩
  ·
   have h1 : opP o = op := by simpa using hc
   have hb : (opP o == op) = true := beq_iff_eq.2 h1
   obtain ⟨hlt, hn⟩ := hnd h1
   obtain ⟨t, rfl, ht⟩ := opP_some h1 (by omega)
   have hF : Cf f t := hf
   have hA := hF.kidA hlt (by omega)
   rw [← hn] at hA
   refine gK (gS (gR ?_)); refine gMv ?_; refine gFp underlying80 sizeOf3 4 ?_; refine gLo isAgg3 0 ?_
   refine gM rfl rfl rfl rfl rfl call95 (fun w _ hS => (by exact rsub_c a ca f nd.x w (ha.ex0 hS.ext) hl)) ?_
   rintro v w1 w2 Y' hS he ho
   obtain ⟨qa, cA, spa, rfl, hqa, hcA, hS'⟩ := gainN hS he ho
   refine ⟨_, hS', ?_⟩
   refine gAs ?_; refine gE (gS (gS (gR ?_))); refine gMv ?_
   refine gP rfl rfl rfl rfl rfl call93 (fun w _ hS => (by exact usesY_c op w)) ?_
   refine gUn uNot ?_; refine gE ?_
   refine gC (fun hc => ?_) fun hc => ?_
   ·
    have hY : usY op = false := by simpa using hc
    refine gS (gR ?_); refine gMv ?_
    iterate 3 refine gAs ?_
    refine gE ?_
    refine gT func68 fun w' hS => ?_
    exact ⟨hS.ext, qa, cA, _, spa, none, 0, [], [], by rw [hb]; rfl, hqa, fun _ => ⟨rfl, rfl⟩, (NewH.of (hS.addNone.pickT (pre := [_, _]) (pre' := [(qa, obN 80 _ spa), (none, obN 80 [] [])]) (HR := [_]) [1, 0] (by decide) rfl)).sub (.cons_cons _ (.cons_cons _ (.cons _ .slnil))), by rw [if_pos h1]; exact hA, by rw [if_neg (fun h => by rw [hY] at h; cases h.2)]; rfl⟩
   ·
    have hY : usY op = true := by simpa using hc
    have hB := hF.kidB hlt (by rw [ht]; rcases hop with e | e | e <;> rw [e] at hY ⊢ <;> first | exact absurd hY (by decide) | decide)
    rw [← hn] at hB
    refine gK (gS (gR ?_))
    iterate 2 refine gMv ?_
    refine gFp underlying80 sizeOf3 5 ?_; refine gLo isAgg3 1 ?_
    refine gM rfl rfl rfl rfl rfl call95 (fun w _ hS => (by exact rsub_c a ca f nd.y w (ha.ex0 hS.ext) hl)) ?_
    rintro v w1 w2 Y' hS he ho
    obtain ⟨qb, cB, spb, rfl, hqb, hcB, hS'⟩ := gainN hS he ho
    refine ⟨_, hS', ?_⟩
    iterate 3 refine gAs ?_
    refine gE ?_
    refine gT func68 fun w' hS => ?_
    exact ⟨hS.ext, qa, cA, _, spa, qb, cB, _, spb, by rw [hb]; rfl, hqa, hqb, (NewH.of (hS.pickT (pre := [_, _]) (pre' := [(qa, obN 80 _ spa), (qb, obN 80 _ spb)]) (HR := [_]) [1, 0] (by decide) rfl)).sub (.cons_cons _ (.cons_cons _ (.cons _ .slnil))), by rw [if_pos h1]; exact hA, by rw [if_pos ⟨h1, hY⟩]; exact hB⟩
theorem gsameF_c (a : Option Addr) (ca : Nat) (f : List NV) (b : Option Addr) (cb : Nat) (g : List NV) (w : World) (ha : FA w a f) (hb : FA w b g) (hl : f.length ≤ maxLen) (hl2 : g.length ≤ maxLen) : Cn Tryd.prog 42 [.slice a f.length ca, .slice b g.length cb] w (fun v _ => v = .bool (sameB f g)) := by
  refine Cn.of func42 rfl rfl ?_
  refine gS (gR ?_); refine gAs ?_; refine gE (gS (gR ?_)); refine gMv ?_
  refine gP rfl rfl rfl rfl rfl call25 (fun w _ hS => (by exact rchk_c a ca f w (ha.ex0 hS.ext) hl)) ?_
  refine gBi bEq ?_; refine gMv ?_
  refine gCs 8 (fun hc => ?_) fun hc => ?_
  ·
   have h1 : chkF f = 0 := by simpa using hc
   refine gMv ?_
   refine gP rfl rfl rfl rfl rfl call25 (fun w _ hS => (by exact rchk_c b cb g w (hb.ex0 hS.ext) hl2)) ?_
   refine gBi bEq ?_; refine gPt ?_; refine gMv ?_
   refine gCs 13 (fun hc => ?_) fun hc => ?_
   ·
    have h2 : chkF g = 0 := by simpa using hc
    refine gMv ?_
    refine gM rfl rfl rfl rfl rfl call54 (fun w _ hS => (by exact rcompact_c a ca f w (ha.ex0 hS.ext) hl)) ?_
    rintro v w1 w2 Y' hS he ho
    rw [subF_top] at ho
    obtain ⟨q1, cap1, sp1, rfl, hq1, hcap1, hS'⟩ := gainN hS he ho
    refine ⟨_, hS', ?_⟩
    refine gMv ?_
    refine gM rfl rfl rfl rfl rfl call54 (fun w _ hS => (by exact rcompact_c b cb g w (hb.ex0 hS.ext) hl2)) ?_
    rintro v w1 w2 Y' hS he ho
    rw [subF_top] at ho
    obtain ⟨q2, cap2, sp2, rfl, hq2, hcap2, hS'⟩ := gainN hS he ho
    refine ⟨_, hS', ?_⟩
    refine gP rfl rfl rfl rfl rfl call67 (fun w _ hS => (by exact rEqual_c (q1.map (fun b => ⟨b, 0, none⟩)) cap1 (compF f) (q2.map (fun b => ⟨b, 0, none⟩)) cap2 (compF g) w (faAt hS 1 rfl (fun e => (hq1 e).1)) (faAt hS 0 rfl (fun e => (hq2 e).1)) (by have := compF_le f; unfold maxLen; omega))) ?_
    refine gPt ?_; refine gAs ?_; refine gE ?_
    refine gT func42 fun w' hS => ?_
    refine ⟨hS.ext, ?_⟩
    unfold sameB
    rw [decide_eq_decide.2 (show (compF f = compF g) ↔ (chkF f = 0 ∧ chkF g = 0 ∧ compF f = compF g) from ⟨fun h => ⟨h1, h2, h⟩, fun h => h.2.2⟩)]; rfl
   ·
    have h2 : chkF g ≠ 0 := by simpa using hc
    iterate 5 refine gNo ?_
    refine gPf ?_; refine gAs ?_; refine gE ?_
    refine gT func42 fun w' hS => ?_
    exact ⟨hS.ext, by rw [sameB, decide_eq_false (fun h => h2 h.2.1)]; rfl⟩
  ·
   have h1 : chkF f ≠ 0 := by simpa using hc
   iterate 3 refine gNo ?_
   refine gPf ?_; refine gMv ?_
   iterate 5 refine gNo ?_
   refine gPf ?_; refine gAs ?_; refine gE ?_
   refine gT func42 fun w' hS => ?_
   exact ⟨hS.ext, by rw [sameB, decide_eq_false (fun h => h1 h.1)]; rfl⟩
end Go.Proofs.YtlihcmknfdckdaaDoor
