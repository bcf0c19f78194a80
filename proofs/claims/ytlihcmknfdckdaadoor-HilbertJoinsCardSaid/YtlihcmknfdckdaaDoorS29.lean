/- What calls of the program return, under the conditions that each theorem states. -/
import Derived.Test.YtlihcmknfdckdaaDoorS27
import Derived.Test.YtlihcmknfdckdaaDoorS28
import Derived.Test.YtlihcmknfdckdaaDoorS03
import Derived.Test.YtlihcmknfdckdaaDoorS04
import Derived.Test.YtlihcmknfdckdaaDoorS24
namespace Go.Proofs.YtlihcmknfdckdaaDoor
open Go.RowKit Go.Proofs.Wit Tryd
/-! lines of proofs: the program -/
def proofCs (l : Int) (A : Option Addr) (n cA : Nat) : Array Value := #[.int .i64 l, .slice A n cA]
def two (a b : Int) : Array Value := #[.int .i64 a, .int .i64 b]
theorem two_get {a b : Int} {k : Nat} (h : k < 2) : (two a b)[k]? = some (.int .i64 ([a, b].getD k 0)) := by
 match k, h with
 | 0, _ => rfl
 | 1, _ => rfl
 | k + 2, h => omega
set_option maxRecDepth 8000 in
theorem numbers_c (bp : Nat) (l : Int) (A : Option Addr) (cA : Nat) (ls : List LV) (i : Nat) (w : World) (hb : w.heap[bp]? = some (.cells (proofCs l A ls.length cA) 64 (0, 0))) (hA : LA w A ls) (hi : i < ls.length) :
    Cn Tryd.prog 72 [.pointer (some ⟨bp, 0, none⟩), .int .i64 i] w (fun v _ => v = .int .i64 (numE i ls[i])) := by
  have HB : ∀ {w' : World} {j : Nat} {u : Value}, Ex [] w w' → (proofCs l A ls.length cA)[j]? = some u → w'.cell? ⟨bp, j, none⟩ = some u := fun e h => Ex.cell e hb h
  obtain ⟨x, hx⟩ : ∃ x, x = ls[i] := ⟨_, rfl⟩
  refine Cn.of func72 rfl rfl ?_
  refine gS (gR ?_); refine gAs ?_; refine gE (gS (gR ?_)); refine gMv ?_; refine gNk ?_; refine gFp underlying64 sizeOf22 1 ?_
  refine GoH.v (Vop.ld (p := ⟨bp, 1, none⟩) rfl rfl rfl rfl isAgg22 (fun w _ hS => HB hS.ext rfl)) ?_
  refine gMv ?_
  refine GoH.v (Vop.idxN rfl rfl rfl rfl rfl underlying22 sizeOf40 ⟨_, (hA).at_⟩ (flat_len (enc := LV.cells) (sz := 5) (fun _ => rfl)) (by decide) (i) ⟨rfl, hi⟩) ?_
  refine GoH.v (Vop.ldN (cs := LV.cells x) rfl rfl rfl rfl isAgg40 sizeOf40 (fun w _ hS => by rw [hx]; exact Sl.many (enc := LV.cells) (sz := 5) (hA.ex0 hS.ext).at_ (fun _ => rfl) hi)) ?_
  refine GoH.alc rfl rfl rfl (fun _ => zeroValue40 _) (fun b5 => ?_)
  refine GoH.stB rfl rfl rfl rfl sizeOf40 0 rfl rfl rfl rfl ?_
  refine gE (gS (gS (gR ?_))); refine gFp underlying40 sizeOf3 2 ?_; refine gLo isAgg3 0 ?_; refine gFp underlying40 sizeOf3 3 ?_; refine gLo isAgg3 0 ?_
  refine GoH.v (Vop.bld rfl rfl rfl rfl (bldA (c := [_, _]) underlying45 sizeOf3 zeroValue45 rfl)) ?_
  refine gMv ?_; refine gE (gB ?_)
  refine GoH.loop (σ := Nat) (fun k => [(1, .int .i64 i), (5, .pointer (some ⟨b5, 0, none⟩)), (19, .agg (two x.a x.b)), (20, .int .i64 k)]) (fun _ => [(some b5, .cells (LV.cells x).toArray 40 (0, 0))])
    (fun k => k ≤ 2 ∧ ∀ j : Nat, j < k → badN (premN x.r) j ([x.a, x.b].getD j 0) i = false) (fun k => 2 - k) 0 ⟨Nat.zero_le _, fun j hj => absurd hj (Nat.not_lt_zero _)⟩ ⟨rfl, rfl, rfl, rfl, trivial⟩ (List.Sublist.refl _) (fun k hI IH => ?_)
  obtain ⟨hk, hall⟩ := hI
  refine gS (gR ?_); refine gBi bLt ?_; refine gE (gS ?_)
  refine gC (fun hc => ?_) fun hc => ?_
  ·
   have hk2 : k < 2 := by simp at hc; omega
   obtain ⟨nn, hnn⟩ : ∃ nn, nn = [x.a, x.b].getD k 0 := ⟨_, rfl⟩
   have hbad : badN (premN x.r) k nn i = true → numE i x = 3 := fun h => by
     refine if_pos ?_
     rw [hnn] at h
     rcases (by omega : k = 0 ∨ k = 1) with e | e <;> subst e
     · exact Bool.or_eq_true_iff.2 (.inl h)
     · exact Bool.or_eq_true_iff.2 (.inr h)
   have hstep : badN (premN x.r) k nn i = false → ∀ j : Nat, j < k + 1 → badN (premN x.r) j ([x.a, x.b].getD j 0) i = false := fun h j hj => by
     by_cases e : j = k
     · subst e; rw [← hnn]; exact h
     · exact hall j (by omega)
   refine gK (gS (gB (gS (gR ?_)))); refine gMv ?_
   refine GoH.v (Vop.ixA (v := .int .i64 nn) rfl rfl rfl rfl rfl underlying45 sizeOf3 isAgg3 k ⟨rfl, hk2⟩ (by rw [hnn]; exact two_get hk2)) ?_
   iterate 2 refine gAs ?_
   refine gE (gS (gR ?_)); refine gMv ?_; refine gFp underlying40 sizeOf3 1 ?_; refine gLo isAgg3 0 ?_
   refine gP rfl rfl rfl rfl rfl call65 (fun w _ hS => (by exact prem_c x.r w)) ?_
   refine gBi bGe ?_; refine gMv ?_
   refine gCs 29 (fun hc => ?_) fun hc => ?_
   ·
    have h1 : (k : Int) ≥ premN x.r := by simpa using hc
    refine gMv ?_; refine gBi bNe ?_; refine gPt ?_; refine gMv ?_
    refine gCs 33 (fun hc => ?_) fun hc => ?_
    ·
     have h2 : nn ≠ 0 := by simpa using hc
     iterate 14 refine gNo ?_
     refine gPt ?_; refine gE (GoH.condT rfl (gS (gR ?_))); refine gAs ?_; refine gE ?_
     refine gT func72 fun w' hS => ?_
     exact ⟨hS.ext, by rw [← hx, hbad (by unfold badN; simp; left; exact ⟨h1, h2⟩)]; rfl⟩
    ·
     have h2 : nn = 0 := by simpa using hc
     refine gMv ?_; refine gFp underlying40 sizeOf3 1 ?_; refine gLo isAgg3 0 ?_
     refine gP rfl rfl rfl rfl rfl call65 (fun w _ hS => (by exact prem_c x.r w)) ?_
     refine gBx rfl rfl rfl rfl (bLtV (v := false) (decide_eq_false (by omega))) ?_
     refine gMv ?_
     iterate 7 refine gNo ?_
     iterate 2 refine gPf ?_
     refine gE (GoH.condF rfl (gK (gIb (gR ?_)))); refine gBx rfl rfl rfl rfl (bAdd (by omega)) ?_; refine gMv ?_; refine gE ?_
     exact IH (k + 1) _ _ ⟨hk2, hstep (by unfold badN; simp; omega)⟩ (by omega) ⟨rfl, rfl, rfl, rfl, trivial⟩ (List.Sublist.refl _)
   ·
    have h1 : ¬ (k : Int) ≥ premN x.r := by simpa using hc
    iterate 2 refine gNo ?_
    refine gPf ?_
    iterate 2 refine gMv ?_
    refine gFp underlying40 sizeOf3 1 ?_; refine gLo isAgg3 0 ?_
    refine gP rfl rfl rfl rfl rfl call65 (fun w _ hS => (by exact prem_c x.r w)) ?_
    refine gBx rfl rfl rfl rfl (bLtV (v := true) (decide_eq_true (by omega))) ?_
    iterate 2 refine gMv ?_
    refine gBi bLt ?_; refine gMv ?_
    refine gCs 42 (fun hc => ?_) fun hc => ?_
    ·
     have h2 : nn < 0 := by simpa using hc
     iterate 3 refine gNo ?_
     iterate 2 refine gPt ?_
     refine gPf ?_; refine gE (GoH.condT rfl (gS (gR ?_))); refine gAs ?_; refine gE ?_
     refine gT func72 fun w' hS => ?_
     exact ⟨hS.ext, by rw [← hx, hbad (by unfold badN; simp; omega)]; rfl⟩
    ·
     have h2 : ¬ nn < 0 := by simpa using hc
     iterate 2 refine gMv ?_
     refine gBi bGe ?_; refine gPf ?_; refine gPt ?_; refine gPf ?_; refine gE ?_
     refine gC (fun hc => ?_) fun hc => ?_
     ·
      have h3 : nn ≥ i := by simpa using hc
      refine gS (gR ?_); refine gAs ?_; refine gE ?_
      refine gT func72 fun w' hS => ?_
      exact ⟨hS.ext, by rw [← hx, hbad (by unfold badN; simp; omega)]; rfl⟩
     ·
      have h3 : ¬ nn ≥ i := by simpa using hc
      refine gK (gIb (gR ?_)); refine gBx rfl rfl rfl rfl (bAdd (by omega)) ?_; refine gMv ?_; refine gE ?_
      exact IH (k + 1) _ _ ⟨hk2, hstep (by unfold badN; simp; omega)⟩ (by omega) ⟨rfl, rfl, rfl, rfl, trivial⟩ (List.Sublist.refl _)
  ·
   have hge : ¬ k < 2 := by simp at hc; omega
   have hno : (badN (premN x.r) 0 x.a i || badN (premN x.r) 1 x.b i) = false := by
     rw [Bool.or_eq_false_iff]
     exact ⟨hall 0 (by omega), hall 1 (by omega)⟩
   refine GoH.exit rfl (gS (gS (gR ?_)))
   refine gFp underlying40 sizeOf3 1 ?_; refine gLo isAgg3 0 ?_; refine gBi bNe ?_; refine gE ?_
   refine gC (fun hc => ?_) fun hc => ?_
   ·
    have hr : x.r ≠ 11 := by simpa using hc
    refine gS (gS (gR ?_)); refine gFp underlying40 sizeOf3 4 ?_; refine gLo isAgg3 0 ?_; refine gBi bNe ?_; refine gE ?_
    refine gC (fun hc => ?_) fun hc => ?_
    ·
     have hg : x.g ≠ 0 := by simpa using hc
     refine gS (gR ?_); refine gAs ?_; refine gE ?_
     refine gT func72 fun w' hS => ?_
     exact ⟨hS.ext, by rw [← hx, numE, if_neg (by rw [hno]; simp), if_pos hr, if_pos hg]; rfl⟩
    ·
     have hg : x.g = 0 := by simpa using hc
     refine gK (gS (gR ?_)); refine gAs ?_; refine gE ?_
     refine gT func72 fun w' hS => ?_
     exact ⟨hS.ext, by rw [← hx, numE, if_neg (by rw [hno]; simp), if_pos hr, if_neg (by simp [hg])]; rfl⟩
   ·
    have hr : x.r = 11 := by simpa using hc
    refine gK (gS (gS (gR ?_))); refine gFp underlying40 sizeOf3 4 ?_; refine gLo isAgg3 0 ?_; refine gBi bLt ?_; refine gMv ?_
    refine gCs 59 (fun hc => ?_) fun hc => ?_
    ·
     have hg : x.g < 0 := by simpa using hc
     iterate 3 refine gNo ?_
     refine gPt ?_; refine gE (GoH.condT rfl (gS (gR ?_))); refine gAs ?_; refine gE ?_
     refine gT func72 fun w' hS => ?_
     exact ⟨hS.ext, by rw [← hx, numE, if_neg (by rw [hno]; simp), if_neg (by simp [hr]), if_pos (.inl hg)]; rfl⟩
    ·
     have hg : ¬ x.g < 0 := by simpa using hc
     refine gFp underlying40 sizeOf3 4 ?_; refine gLo isAgg3 0 ?_; refine gBi bGe ?_; refine gPf ?_; refine gE ?_
     refine gC (fun hc => ?_) fun hc => ?_
     ·
      have hg4 : x.g ≥ 4 := by simpa using hc
      refine gS (gR ?_); refine gAs ?_; refine gE ?_
      refine gT func72 fun w' hS => ?_
      exact ⟨hS.ext, by rw [← hx, numE, if_neg (by rw [hno]; simp), if_neg (by simp [hr]), if_pos (.inr hg4)]; rfl⟩
     ·
      have hg4 : ¬ x.g ≥ 4 := by simpa using hc
      refine gK (gS (gR ?_)); refine gAs ?_; refine gE ?_
      refine gT func72 fun w' hS => ?_
      exact ⟨hS.ext, by rw [← hx, numE, if_neg (by rw [hno]; simp), if_neg (by simp [hr]), if_neg (by omega)]; rfl⟩
end Go.Proofs.YtlihcmknfdckdaaDoor
namespace Go.Proofs.YtlihcmknfdckdaaDoor
open Go.RowKit Go.Proofs.Wit Tryd
/-! what a line follows from: the program -/
/-- what is known of a line whose numbers are right -/
structure LnOk (ls : List LV) (i : Nat) (x : LV) : Prop where
  chk : chkF x.f.f = 0
  r1 : 1 ≤ x.r
  r12 : x.r ≤ 12
  aIn : 10 ≤ x.r → 0 ≤ x.a ∧ x.a < i
  bIn : x.r = 10 → 0 ≤ x.b ∧ x.b < i
  ag : x.r = 11 → 0 ≤ x.g ∧ x.g < 4
  bef : ∀ (j : Nat) (hj : j < ls.length), j < i → chkF ls[j].f.f = 0
  il : i < ls.length
set_option maxRecDepth 8000 in
theorem follows_c (bp : Nat) (l : Int) (A : Option Addr) (cA : Nat) (ls : List LV) (i : Nat) (x : LV) (w : World) (hb : w.heap[bp]? = some (.cells (proofCs l A ls.length cA) 64 (0, 0))) (hA : LA w A ls) (hT : Axs w) (hx : LnOk ls i x) (hf : FA w x.f.a x.f.f) (hfl : x.f.f.length ≤ maxLen) :
    Cn Tryd.prog 73 [.pointer (some ⟨bp, 0, none⟩), .agg (LV.cells x).toArray] w (fun v _ => ∃ b, v = .bool b ∧ (b = true ↔ FolP ls x)) := by
  have HB : ∀ {w' : World} {j : Nat} {u : Value}, Ex [] w w' → (proofCs l A ls.length cA)[j]? = some u → w'.cell? ⟨bp, j, none⟩ = some u := fun e h => Ex.cell e hb h
  obtain ⟨t, ht⟩ : ∃ t, t = topT x.f.f := ⟨_, rfl⟩
  have hto : t.ok := by rw [ht]; exact (chkF_zero.1 hx.chk).top
  have hcc : Cf (compF x.f.f) t := by
    rw [compF_eq hx.chk, ← ht]
    exact Cf.of hto (by have := lf_fit hx.chk; rw [← ht] at this; exact this)
  have hxl := hx.il
  refine Cn.of func73 rfl rfl ?_
  refine gS (gR ?_)
  refine GoH.bx rfl rfl rfl rfl (fun b3 => ?_)
  refine gAs ?_; refine gE (gS (gR ?_)); refine gFp underlying40 sizeOf23 0 ?_; refine gLo isAgg23 0 ?_
  refine gM rfl rfl rfl rfl rfl call44 (fun w _ hS => (by exact fcompact_c x.f.a x.f.c x.f.f w (hf.ex0 hS.ext) hfl)) ?_
  rintro v w1 w2 Y' hS he ho
  rw [subF_top] at ho
  obtain ⟨qc, cc, spc, rfl, hqc, hcapc, hS'⟩ := gainN hS he ho
  refine ⟨_, hS', ?_⟩
  refine gAs ?_; refine gE (gS (gS (gR ?_))); refine gFp underlying40 sizeOf3 1 ?_; refine gLo isAgg3 1 ?_; refine gE (gB (gS (gR ?_))); refine gBi bEq ?_; refine gAs ?_; refine gE ?_
  refine gC (fun hc => ?_) fun hc => ?_
  ·
   have hr : x.r = 10 := by simpa using hc
   obtain ⟨ha0, hai⟩ := hx.aIn (by omega)
   obtain ⟨hb0, hbi⟩ := hx.bIn hr
   obtain ⟨ja, hja⟩ : ∃ j : Nat, x.a = (j : Int) := ⟨x.a.toNat, by omega⟩
   obtain ⟨jb, hjb⟩ : ∃ j : Nat, x.b = (j : Int) := ⟨x.b.toNat, by omega⟩
   have hjal : ja < ls.length := by omega
   have hjbl : jb < ls.length := by omega
   obtain ⟨hfa, hla⟩ := hA.fs ls[ja] (List.getElem_mem hjal)
   obtain ⟨hfb, hlb⟩ := hA.fs ls[jb] (List.getElem_mem hjbl)
   have hca := hx.bef ja hjal (by omega)
   have hcb := hx.bef jb hjbl (by omega)
   have hao : (topT ls[ja].f.f).ok := (chkF_zero.1 hca).top
   have hfol : FolP ls x ↔ topT ls[jb].f.f = imT (topT ls[ja].f.f) t := by rw [FolP, if_pos hr, lnT_get hjal hja, lnT_get hjbl hjb, ← ht]
   refine gS ?_
   refine GoH.drawCh 23 mixed ?_
   refine cV 0 (Vop.mv rfl rfl rfl rfl) ?_
   refine cV 1 (Vop.nilCk rfl rfl rfl rfl) ?_
   refine cV 2 (Vop.fldP rfl rfl rfl rfl underlying64 rfl (by exact sizeOf22) 1 rfl) ?_
   refine cV 3 (Vop.ld (p := ⟨bp, 1, none⟩) rfl rfl rfl rfl isAgg22 (fun w _ hS => HB hS.ext rfl)) ?_
   refine cV 4 (Vop.fldP rfl rfl rfl rfl underlying40 rfl (by exact sizeOf3) 3 rfl) ?_
   refine cV 5 (Vop.ldo rfl rfl rfl rfl isAgg3 1 rfl rfl) ?_
   refine cV 6 (Vop.idxN rfl rfl rfl rfl rfl underlying22 sizeOf40 ⟨_, (hA).at_⟩ (flat_len (enc := LV.cells) (sz := 5) (fun _ => rfl)) (by decide) (jb) ⟨hjb, hjbl⟩) ?_
   refine cV 7 (Vop.fldA rfl rfl rfl rfl underlying40 rfl sizeOf23 ((jb) * 5 + 0) rfl) ?_
   refine cV 8 (Vop.ld rfl rfl rfl rfl isAgg23 (fun w _ hS => Sl.fld (enc := LV.cells) (sz := 5) ((hA).ex0 hS.ext).at_ (fun _ => rfl) hjbl rfl)) ?_
   refine cV 9 (Vop.mv rfl rfl rfl rfl) ?_
   refine cV 10 (Vop.nilCk rfl rfl rfl rfl) ?_
   refine cV 11 (Vop.fldP rfl rfl rfl rfl underlying64 rfl (by exact sizeOf22) 1 rfl) ?_
   refine cV 12 (Vop.ld (p := ⟨bp, 1, none⟩) rfl rfl rfl rfl isAgg22 (fun w _ hS => HB hS.ext rfl)) ?_
   refine cV 13 (Vop.fldP rfl rfl rfl rfl underlying40 rfl (by exact sizeOf3) 2 rfl) ?_
   refine cV 14 (Vop.ldo rfl rfl rfl rfl isAgg3 1 rfl rfl) ?_
   refine cV 15 (Vop.idxN rfl rfl rfl rfl rfl underlying22 sizeOf40 ⟨_, (hA).at_⟩ (flat_len (enc := LV.cells) (sz := 5) (fun _ => rfl)) (by decide) (ja) ⟨hja, hjal⟩) ?_
   refine cV 16 (Vop.fldA rfl rfl rfl rfl underlying40 rfl sizeOf23 ((ja) * 5 + 0) rfl) ?_
   refine cV 17 (Vop.ld rfl rfl rfl rfl isAgg23 (fun w _ hS => Sl.fld (enc := LV.cells) (sz := 5) ((hA).ex0 hS.ext).at_ (fun _ => rfl) hjal rfl)) ?_
   refine cV 18 (Vop.mv rfl rfl rfl rfl) ?_
   refine RdC.call (i := 19) _ rfl rfl rfl rfl rfl rfl (fun _ _ => call60 _ _) (fun w _ hS => (by exact imp_c ls[ja].f.a ls[ja].f.c ls[ja].f.f (qc.map (fun b => ⟨b, 0, none⟩)) cc (compF x.f.f) w (hfa.ex0 hS.ext) hla (faAt hS 0 rfl (fun e => (hqc e).1)) (bT_max hcc.eq))) ?_
   rintro v w1 w2 Y' hS he ho
   rw [show bldF ⟨7, 0, 0, 0, 0, 0⟩ [ls[ja].f.f, compF x.f.f] = bT (imT (topT ls[ja].f.f) t) from by have := bld2 (n := ⟨7, 0, 0, 0, 0, 0⟩) hca hcc.chk (by decide) rfl rfl; rw [hcc.top] at this; exact this] at ho
   obtain ⟨q, cq, spq, rfl, hq, hcq, hS'⟩ := gainN hS he ho
   refine ⟨_, hS', (by repeat (first | exact List.Sublist.refl _ | refine List.Sublist.cons _ ?_)), ?_⟩
   refine RdC.callP (i := 20) rfl rfl rfl rfl rfl rfl (fun _ _ => call41 _ _) (fun w _ hS => (by exact fsame_c ls[jb].f.a ls[jb].f.c ls[jb].f.f (q.map (fun b => ⟨b, 0, none⟩)) cq _ w (hfb.ex0 hS.ext) (faAt hS 0 rfl (fun e => (hq e).1)) hlb (bT_max rfl))) (by repeat (first | exact List.Sublist.refl _ | exact List.nil_sublist _ | refine List.Sublist.cons_cons _ ?_ | refine List.Sublist.cons _ ?_)) ?_
   refine cV 21 (Vop.asg rfl rfl rfl rfl) ?_
   refine RdC.done rfl ?_
   refine gE ?_
   refine gT func73 fun w' hS => ?_
   exact ⟨hS.ext, _, rfl, by rw [sameB_bT hcb (im_ok hao hto), decide_eq_true_eq, hfol]⟩
  ·
   have hr : ¬ x.r = 10 := by simpa using hc
   refine gS (gR ?_); refine gBi bEq ?_; refine gAs ?_; refine gE ?_
   refine gC (fun hc => ?_) fun hc => ?_
   ·
    have hr2 : x.r = 11 := by simpa using hc
    obtain ⟨ha0, hai⟩ := hx.aIn (by omega)
    have hag := hx.ag hr2
    obtain ⟨ja, hja⟩ : ∃ j : Nat, x.a = (j : Int) := ⟨x.a.toNat, by omega⟩
    have hjal : ja < ls.length := by omega
    obtain ⟨hfa, hla⟩ := hA.fs ls[ja] (List.getElem_mem hjal)
    have hca := hx.bef ja hjal (by omega)
    have hao : (topT ls[ja].f.f).ok := (chkF_zero.1 hca).top
    have hfol : FolP ls x ↔ t = kwT x.g (topT ls[ja].f.f) := by rw [FolP, if_neg hr, if_pos hr2, lnT_get hjal hja, ← ht]
    refine gS ?_
    refine GoH.drawCh 16 mixed ?_
    refine cV 0 (Vop.mv rfl rfl rfl rfl) ?_
    refine cV 1 (Vop.fldP rfl rfl rfl rfl underlying40 rfl (by exact sizeOf3) 4 rfl) ?_
    refine cV 2 (Vop.ldo rfl rfl rfl rfl isAgg3 1 rfl rfl) ?_
    refine cV 3 (Vop.mv rfl rfl rfl rfl) ?_
    refine cV 4 (Vop.nilCk rfl rfl rfl rfl) ?_
    refine cV 5 (Vop.fldP rfl rfl rfl rfl underlying64 rfl (by exact sizeOf22) 1 rfl) ?_
    refine cV 6 (Vop.ld (p := ⟨bp, 1, none⟩) rfl rfl rfl rfl isAgg22 (fun w _ hS => HB hS.ext rfl)) ?_
    refine cV 7 (Vop.fldP rfl rfl rfl rfl underlying40 rfl (by exact sizeOf3) 2 rfl) ?_
    refine cV 8 (Vop.ldo rfl rfl rfl rfl isAgg3 1 rfl rfl) ?_
    refine cV 9 (Vop.idxN rfl rfl rfl rfl rfl underlying22 sizeOf40 ⟨_, (hA).at_⟩ (flat_len (enc := LV.cells) (sz := 5) (fun _ => rfl)) (by decide) (ja) ⟨hja, hjal⟩) ?_
    refine cV 10 (Vop.fldA rfl rfl rfl rfl underlying40 rfl sizeOf23 ((ja) * 5 + 0) rfl) ?_
    refine cV 11 (Vop.ld rfl rfl rfl rfl isAgg23 (fun w _ hS => Sl.fld (enc := LV.cells) (sz := 5) ((hA).ex0 hS.ext).at_ (fun _ => rfl) hjal rfl)) ?_
    refine RdC.call (i := 12) _ rfl rfl rfl rfl rfl rfl (fun _ _ => call102 _ _) (fun w _ hS => (by exact know_c x.g ls[ja].f.a ls[ja].f.c ls[ja].f.f w (hfa.ex0 hS.ext) hla)) ?_
    rintro v w1 w2 Y' hS he ho
    rw [show bldF ⟨9, x.g, 0, 0, 0, 0⟩ [ls[ja].f.f] = bT (kwT x.g (topT ls[ja].f.f)) from bld1 (n := ⟨9, x.g, 0, 0, 0, 0⟩) hca (show 1 ≤ (9 : Int) ∧ (9 : Int) ≤ 21 by decide) rfl rfl (fld_kw hag) rfl] at ho
    obtain ⟨q, cq, spq, rfl, hq, hcq, hS'⟩ := gainN hS he ho
    refine ⟨_, hS', (by repeat (first | exact List.Sublist.refl _ | refine List.Sublist.cons _ ?_)), ?_⟩
    refine RdC.callP (i := 13) rfl rfl rfl rfl rfl rfl (fun _ _ => call41 _ _) (fun w _ hS => (by exact fsame_c (qc.map (fun b => ⟨b, 0, none⟩)) cc (compF x.f.f) (q.map (fun b => ⟨b, 0, none⟩)) cq _ w (faAt hS 1 rfl (fun e => (hqc e).1)) (faAt hS 0 rfl (fun e => (hq e).1)) (bT_max hcc.eq) (bT_max rfl))) (by repeat (first | exact List.Sublist.refl _ | exact List.nil_sublist _ | refine List.Sublist.cons_cons _ ?_ | refine List.Sublist.cons _ ?_)) ?_
    refine cV 14 (Vop.asg rfl rfl rfl rfl) ?_
    refine RdC.done rfl ?_
    refine gE ?_
    refine gT func73 fun w' hS => ?_
    exact ⟨hS.ext, _, rfl, by rw [sameB_cf hcc (kw_ok hag hao), decide_eq_true_eq, hfol]⟩
   ·
    have hr2 : ¬ x.r = 11 := by simpa using hc
    refine gS (gR ?_); refine gBi bEq ?_; refine gAs ?_; refine gE ?_
    refine gC (fun hc => ?_) fun hc => ?_
    ·
     have hr3 : x.r = 12 := by simpa using hc
     obtain ⟨ha0, hai⟩ := hx.aIn (by omega)
     obtain ⟨ja, hja⟩ : ∃ j : Nat, x.a = (j : Int) := ⟨x.a.toNat, by omega⟩
     have hjal : ja < ls.length := by omega
     obtain ⟨hfa, hla⟩ := hA.fs ls[ja] (List.getElem_mem hjal)
     have hca := hx.bef ja hjal (by omega)
     have hfol : FolP ls x ↔ AxI (topT ls[ja].f.f) t := by rw [FolP, if_neg hr, if_neg hr2, if_pos hr3, lnT_get hjal hja, ← ht]
     refine gS ?_
     refine GoH.drawCh 13 mixed ?_
     refine cV 0 (Vop.mv rfl rfl rfl rfl) ?_
     refine cV 1 (Vop.mv rfl rfl rfl rfl) ?_
     refine cV 2 (Vop.nilCk rfl rfl rfl rfl) ?_
     refine cV 3 (Vop.fldP rfl rfl rfl rfl underlying64 rfl (by exact sizeOf22) 1 rfl) ?_
     refine cV 4 (Vop.ld (p := ⟨bp, 1, none⟩) rfl rfl rfl rfl isAgg22 (fun w _ hS => HB hS.ext rfl)) ?_
     refine cV 5 (Vop.fldP rfl rfl rfl rfl underlying40 rfl (by exact sizeOf3) 2 rfl) ?_
     refine cV 6 (Vop.ldo rfl rfl rfl rfl isAgg3 1 rfl rfl) ?_
     refine cV 7 (Vop.idxN rfl rfl rfl rfl rfl underlying22 sizeOf40 ⟨_, (hA).at_⟩ (flat_len (enc := LV.cells) (sz := 5) (fun _ => rfl)) (by decide) (ja) ⟨hja, hjal⟩) ?_
     refine cV 8 (Vop.fldA rfl rfl rfl rfl underlying40 rfl sizeOf23 ((ja) * 5 + 0) rfl) ?_
     refine cV 9 (Vop.ld rfl rfl rfl rfl isAgg23 (fun w _ hS => Sl.fld (enc := LV.cells) (sz := 5) ((hA).ex0 hS.ext).at_ (fun _ => rfl) hjal rfl)) ?_
     refine RdC.call (i := 10) _ rfl rfl rfl rfl rfl rfl (fun _ _ => call103 _ _) (fun w _ hS => (by exact induces_c (qc.map (fun b => ⟨b, 0, none⟩)) cc (compF x.f.f) t ls[ja].f.a ls[ja].f.c ls[ja].f.f w (faAt hS 0 rfl (fun e => (hqc e).1)) hcc (hfa.ex0 hS.ext) hca hla)) ?_
     rintro v w1 w2 Y' hS he ⟨b, rfl, hb⟩
     refine ⟨_, hS.later he, (by repeat (first | exact List.Sublist.refl _ | refine List.Sublist.cons _ ?_)), ?_⟩
     refine cV 11 (Vop.asg rfl rfl rfl rfl) ?_
     refine RdC.done rfl ?_
     refine gE ?_
     refine gT func73 fun w' hS => ?_
     exact ⟨hS.ext, _, rfl, by rw [hb, hfol]⟩
    ·
     have hr3 : ¬ x.r = 12 := by simpa using hc
     have h9 : x.r ≤ 9 := by have := hx.r12; omega
     have h1 := hx.r1
     have hfol : FolP ls x ↔ InstT x.r t := by rw [FolP, if_neg hr, if_neg hr2, if_neg hr3, ← ht]
     refine gK (gIb (gS (gR ?_))); refine gFp underlying40 sizeOf3 1 ?_; refine gLo isAgg3 1 ?_
     refine GoH.v (Vop.idxA rfl rfl rfl rfl rfl underlying69 sizeOf49 x.r.toNat (by omega) (by omega)) ?_
     refine GoH.v (Vop.ld rfl rfl rfl rfl isAgg49 (fun w _ hS => (by rw [Nat.zero_add, (hT.ex hS.ext).cell _ (by omega) (by omega), Int.toNat_of_nonneg (by omega)]))) ?_
     refine gMv ?_
     refine GoH.callM (gf := axFn x.r) (fun _ v _ => ∃ b, v = .bool b ∧ (b = true ↔ InstT x.r t)) rfl rfl rfl rfl rfl (axEnter h1 h9) (fun w _ hS => axInst_c x.r (qc.map (fun b => ⟨b, 0, none⟩)) cc (compF x.f.f) t w h1 h9 (faAt hS 0 rfl (fun e => (hqc e).1)) hcc) ?_
     rintro v w1 w2 Y' hS he ⟨b, rfl, hb⟩
     refine ⟨_, hS.later he, ?_⟩
     refine gAs ?_; refine gE ?_
     refine gT func73 fun w' hS => ?_
     exact ⟨hS.ext, _, rfl, by rw [hb, hfol]⟩
end Go.Proofs.YtlihcmknfdckdaaDoor
namespace Go.Proofs.YtlihcmknfdckdaaDoor
open Go.RowKit Go.Proofs.Wit Tryd
/-! instances of axioms and what a line follows from: the reference -/
theorem cf_comp {f : List NV} {t : Tr} (h : chkF f = 0) (ht : t = topT f) : Cf (compF f) t := by
 rw [compF_eq h, ← ht]
 exact Cf.of (by rw [ht]; exact (chkF_zero.1 h).top) (by have := lf_fit h; rw [← ht] at this; exact this)
set_option maxRecDepth 8000 in
theorem ginst_c (r : Int) (a : Option Addr) (ca : Nat) (f : List NV) (w : World) (h1 : 1 ≤ r) (h9 : r ≤ 9) (ha : FA w a f) (hl : f.length ≤ maxLen) (hck : chkF f = 0) :
    Cn Tryd.prog 47 [.int .i64 r, .slice a f.length ca] w (fun v _ => ∃ b, v = .bool b ∧ (b = true ↔ InstT r (topT f))) := by
  obtain ⟨t, ht⟩ : ∃ t, t = topT f := ⟨_, rfl⟩
  have hcc := cf_comp hck ht
  rw [← ht]
  refine Cn.of func47 rfl rfl ?_
  refine gS (gR ?_); refine gAs ?_; refine gE (gS (gR ?_)); refine gMv ?_
  refine gM rfl rfl rfl rfl rfl call54 (fun w _ hS => (by exact rcompact_c a ca f w (ha.ex0 hS.ext) hl)) ?_
  rintro v w1 w2 Y' hS he ho
  rw [subF_top] at ho
  obtain ⟨qc, cc, spc, rfl, hqc, hcapc, hS'⟩ := gainN hS he ho
  refine ⟨_, hS', ?_⟩
  refine gAs ?_; refine gE (gS (gS (gR ?_))); refine gMv ?_; refine gE (gB (gS (gR ?_))); refine gBi bEq ?_; refine gAs ?_; refine gE ?_
  refine gC (fun hc => ?_) fun hc => ?_
  ·
   have e1 : r = 1 := by simpa using hc
   subst e1
   refine gS (gR ?_); refine gMv ?_
   refine gM rfl rfl rfl rfl rfl call80 (fun w _ hS => (by exact gtau_c (qc.map (fun b => ⟨b, 0, none⟩)) cc (compF f) w (faAt hS 0 rfl (fun e => (hqc e).1)) (bT_max hcc.eq) hcc.chk)) ?_
   rintro v w1 w2 Y' hS he ⟨b, e, rfl, hb⟩
   rw [hcc.top] at hb
   refine ⟨_, hS.later he, ?_⟩
   refine gMv ?_
   iterate 2 refine gEx ?_
   iterate 2 refine gAs ?_
   refine gE (gS (gR ?_))
   iterate 2 refine gMv ?_
   refine gCs 19 (fun hc => ?_) fun hc => ?_
   ·
    have hbt : b = true := hc
    refine gMv ?_; refine gBi bEq ?_; refine gPt ?_; refine gAs ?_; refine gE ?_
    refine gT func47 fun w' hS => ?_
    exact ⟨hS.ext, _, rfl, by rw [beq_iff_eq]; exact ⟨fun h => hb.1 ⟨hbt, h⟩, fun h => (hb.2 h).2⟩⟩
   ·
    have hbt : b = false := hc
    iterate 2 refine gNo ?_
    refine gPf ?_; refine gAs ?_; refine gE ?_
    refine gT func47 fun w' hS => ?_
    exact ⟨hS.ext, false, rfl, fun h => (by cases h), fun h => by have := (hb.2 h).1; rw [hbt] at this; cases this⟩
  ·
   have e1 : ¬ r = 1 := by simpa using hc
   refine gS (gR ?_); refine gBi bEq ?_; refine gAs ?_; refine gE ?_
   refine gC (fun hc => ?_) fun hc => ?_
   ·
    have e2 : r = 2 := by simpa using hc
    subst e2
    refine gS (gR ?_); refine gMv ?_
    refine gM rfl rfl rfl rfl rfl call81 (fun w _ hS => (by exact gaxK_c (qc.map (fun b => ⟨b, 0, none⟩)) cc (compF f) t w (faAt hS 0 rfl (fun e => (hqc e).1)) hcc)) ?_
    rintro v w1 w2 Y' hS he ⟨b, rfl, hb⟩
    refine ⟨_, hS.later he, ?_⟩
    refine gAs ?_; refine gE ?_
    refine gT func47 fun w' hS => ?_
    exact ⟨hS.ext, _, rfl, hb⟩
   ·
    have e2 : ¬ r = 2 := by simpa using hc
    refine gS (gS (gR ?_)); refine gBi bEq ?_; refine gAs ?_; refine gE ?_
    refine gC (fun hc => ?_) fun hc => ?_
    ·
     have e3 : r = 3 := by simpa using hc
     subst e3
     refine gK ?_
     refine GoH.cond rfl (fun _ => ?_) (fun hc => by exfalso; simp at hc)
     refine gS (gR ?_)
     iterate 2 refine gMv ?_
     refine gM rfl rfl rfl rfl rfl call82 (fun w _ hS => (by exact gaxKnow_c 3 (by decide) (qc.map (fun b => ⟨b, 0, none⟩)) cc (compF f) t w (faAt hS 0 rfl (fun e => (hqc e).1)) hcc)) ?_
     rintro v w1 w2 Y' hS he ⟨b, rfl, hb⟩
     refine ⟨_, hS.later he, ?_⟩
     refine gAs ?_; refine gE ?_
     refine gT func47 fun w' hS => ?_
     exact ⟨hS.ext, _, rfl, hb⟩
    ·
     have e3 : ¬ r = 3 := by simpa using hc
     refine gS (gR ?_); refine gBi bEq ?_; refine gAs ?_; refine gE ?_
     refine gC (fun hc => ?_) fun hc => ?_
     ·
      have e4 : r = 4 := by simpa using hc
      subst e4
      refine gK ?_
      refine GoH.cond rfl (fun _ => ?_) (fun hc => by exfalso; simp at hc)
      refine gS (gR ?_)
      iterate 2 refine gMv ?_
      refine gM rfl rfl rfl rfl rfl call82 (fun w _ hS => (by exact gaxKnow_c 4 (by decide) (qc.map (fun b => ⟨b, 0, none⟩)) cc (compF f) t w (faAt hS 0 rfl (fun e => (hqc e).1)) hcc)) ?_
      rintro v w1 w2 Y' hS he ⟨b, rfl, hb⟩
      refine ⟨_, hS.later he, ?_⟩
      refine gAs ?_; refine gE ?_
      refine gT func47 fun w' hS => ?_
      exact ⟨hS.ext, _, rfl, hb⟩
     ·
      have e4 : ¬ r = 4 := by simpa using hc
      refine gR ?_; refine gBi bEq ?_; refine gAs ?_; refine gE ?_
      refine gC (fun hc => ?_) fun hc => ?_
      ·
       have e6 : r = 6 := by simpa using hc
       subst e6
       refine gS (gR ?_)
       iterate 2 refine gMv ?_
       refine gM rfl rfl rfl rfl rfl call82 (fun w _ hS => (by exact gaxKnow_c 6 (by decide) (qc.map (fun b => ⟨b, 0, none⟩)) cc (compF f) t w (faAt hS 0 rfl (fun e => (hqc e).1)) hcc)) ?_
       rintro v w1 w2 Y' hS he ⟨b, rfl, hb⟩
       refine ⟨_, hS.later he, ?_⟩
       refine gAs ?_; refine gE ?_
       refine gT func47 fun w' hS => ?_
       exact ⟨hS.ext, _, rfl, hb⟩
      ·
       have e6 : ¬ r = 6 := by simpa using hc
       refine gS (gR ?_); refine gBi bEq ?_; refine gAs ?_; refine gE ?_
       refine gC (fun hc => ?_) fun hc => ?_
       ·
        have e5 : r = 5 := by simpa using hc
        subst e5
        refine gS (gR ?_); refine gMv ?_
        refine gM rfl rfl rfl rfl rfl call83 (fun w _ hS => (by exact gax5_c (qc.map (fun b => ⟨b, 0, none⟩)) cc (compF f) t w (faAt hS 0 rfl (fun e => (hqc e).1)) hcc)) ?_
        rintro v w1 w2 Y' hS he ⟨b, rfl, hb⟩
        refine ⟨_, hS.later he, ?_⟩
        refine gAs ?_; refine gE ?_
        refine gT func47 fun w' hS => ?_
        exact ⟨hS.ext, _, rfl, hb⟩
       ·
        have e5 : ¬ r = 5 := by simpa using hc
        refine gS (gR ?_); refine gBi bEq ?_; refine gAs ?_; refine gE ?_
        refine gC (fun hc => ?_) fun hc => ?_
        ·
         have e7 : r = 7 := by simpa using hc
         subst e7
         refine gS (gR ?_); refine gMv ?_
         refine gM rfl rfl rfl rfl rfl call84 (fun w _ hS => (by exact gaxP_c (qc.map (fun b => ⟨b, 0, none⟩)) cc (compF f) t w (faAt hS 0 rfl (fun e => (hqc e).1)) hcc)) ?_
         rintro v w1 w2 Y' hS he ⟨b, rfl, hb⟩
         refine ⟨_, hS.later he, ?_⟩
         refine gAs ?_; refine gE ?_
         refine gT func47 fun w' hS => ?_
         exact ⟨hS.ext, _, rfl, hb⟩
        ·
         have e7 : ¬ r = 7 := by simpa using hc
         refine gS (gR ?_); refine gBi bEq ?_; refine gAs ?_; refine gE ?_
         refine gC (fun hc => ?_) fun hc => ?_
         ·
          have e8 : r = 8 := by simpa using hc
          subst e8
          refine gS (gR ?_); refine gMv ?_
          refine gM rfl rfl rfl rfl rfl call85 (fun w _ hS => (by exact gaxE_c (qc.map (fun b => ⟨b, 0, none⟩)) cc (compF f) t w (faAt hS 0 rfl (fun e => (hqc e).1)) hcc)) ?_
          rintro v w1 w2 Y' hS he ⟨b, rfl, hb⟩
          refine ⟨_, hS.later he, ?_⟩
          refine gAs ?_; refine gE ?_
          refine gT func47 fun w' hS => ?_
          exact ⟨hS.ext, _, rfl, hb⟩
         ·
          have e8 : ¬ r = 8 := by simpa using hc
          refine gS (gR ?_); refine gBi bEq ?_; refine gAs ?_; refine gE ?_
          refine gC (fun hc => ?_) fun hc => ?_
          ·
           have e9 : r = 9 := by simpa using hc
           subst e9
           refine gS (gR ?_); refine gMv ?_
           refine gM rfl rfl rfl rfl rfl call86 (fun w _ hS => (by exact gaxC_c (qc.map (fun b => ⟨b, 0, none⟩)) cc (compF f) t w (faAt hS 0 rfl (fun e => (hqc e).1)) hcc)) ?_
           rintro v w1 w2 Y' hS he ⟨b, rfl, hb⟩
           refine ⟨_, hS.later he, ?_⟩
           refine gAs ?_; refine gE ?_
           refine gT func47 fun w' hS => ?_
           exact ⟨hS.ext, _, rfl, hb⟩
          ·
           have e9 : ¬ r = 9 := by simpa using hc
           omega
set_option maxRecDepth 8000 in
theorem gfol_c (A : Option Addr) (cA : Nat) (ls : List LV) (i : Nat) (x : LV) (w : World) (hA : LA w A ls) (hx : LnOk ls i x) (h10 : 10 ≤ x.r) (hf : FA w x.f.a x.f.f) (hfl : x.f.f.length ≤ maxLen) :
    Cn Tryd.prog 74 [.slice A ls.length cA, .agg (LV.cells x).toArray] w (fun v _ => ∃ b, v = .bool b ∧ (b = true ↔ FolP ls x)) := by
  obtain ⟨t, ht⟩ : ∃ t, t = topT x.f.f := ⟨_, rfl⟩
  have hto : t.ok := by rw [ht]; exact (chkF_zero.1 hx.chk).top
  have hcc := cf_comp hx.chk ht
  have hxl := hx.il
  have h12 := hx.r12
  obtain ⟨ha0, hai⟩ := hx.aIn h10
  obtain ⟨ja, hja⟩ : ∃ j : Nat, x.a = (j : Int) := ⟨x.a.toNat, by omega⟩
  have hjal : ja < ls.length := by omega
  obtain ⟨hfa, hla⟩ := hA.fs ls[ja] (List.getElem_mem hjal)
  have hca := hx.bef ja hjal (by omega)
  obtain ⟨u, hu⟩ : ∃ u, u = topT ls[ja].f.f := ⟨_, rfl⟩
  have hao : u.ok := by rw [hu]; exact (chkF_zero.1 hca).top
  have hcu := cf_comp hca hu
  refine Cn.of func74 rfl rfl ?_
  refine gS (gR ?_)
  refine GoH.bx rfl rfl rfl rfl (fun b3 => ?_)
  refine gAs ?_; refine gE (gS ?_)
  refine GoH.drawCh 13 mixed ?_
  refine cV 0 (Vop.fldP rfl rfl rfl rfl underlying40 rfl (by exact sizeOf23) 0 rfl) ?_
  refine cV 1 (Vop.ldo rfl rfl rfl rfl isAgg23 0 rfl rfl) ?_
  refine cV 3 (Vop.mv rfl rfl rfl rfl) ?_
  refine cV 4 (Vop.fldP rfl rfl rfl rfl underlying40 rfl (by exact sizeOf3) 2 rfl) ?_
  refine cV 5 (Vop.ldo rfl rfl rfl rfl isAgg3 0 rfl rfl) ?_
  refine cV 6 (Vop.idxN rfl rfl rfl rfl rfl underlying22 sizeOf40 ⟨_, (hA).at_⟩ (flat_len (enc := LV.cells) (sz := 5) (fun _ => rfl)) (by decide) (ja) ⟨hja, hjal⟩) ?_
  refine cV 7 (Vop.fldA rfl rfl rfl rfl underlying40 rfl sizeOf23 ((ja) * 5 + 0) rfl) ?_
  refine cV 8 (Vop.ld rfl rfl rfl rfl isAgg23 (fun w _ hS => Sl.fld (enc := LV.cells) (sz := 5) ((hA).ex0 hS.ext).at_ (fun _ => rfl) hjal rfl)) ?_
  refine RdC.call (i := 2) _ rfl rfl rfl rfl rfl rfl (fun _ _ => call54 _ _) (fun w _ hS => (by exact rcompact_c x.f.a x.f.c x.f.f w (hf.ex0 hS.ext) hfl)) ?_
  rintro v w1 w2 Y' hS he ho
  rw [subF_top] at ho
  obtain ⟨qc, cc, spc, rfl, hqc, hcapc, hS'⟩ := gainN hS he ho
  refine ⟨_, hS', (by repeat (first | exact List.Sublist.refl _ | refine List.Sublist.cons _ ?_)), ?_⟩
  refine RdC.call (i := 9) _ rfl rfl rfl rfl rfl rfl (fun _ _ => call54 _ _) (fun w _ hS => (by exact rcompact_c ls[ja].f.a ls[ja].f.c ls[ja].f.f w (hfa.ex0 hS.ext) hla)) ?_
  rintro v w1 w2 Y' hS he ho
  rw [subF_top] at ho
  obtain ⟨qa, cu, spu, rfl, hqa, hcapa, hS'⟩ := gainN hS he ho
  refine ⟨_, hS', (by repeat (first | exact List.Sublist.refl _ | refine List.Sublist.cons _ ?_)), ?_⟩
  refine cV 10 (Vop.asg rfl rfl rfl rfl) ?_
  refine cV 11 (Vop.asg rfl rfl rfl rfl) ?_
  refine RdC.done rfl ?_
  refine gE (gS (gS (gR ?_))); refine gFp underlying40 sizeOf3 1 ?_; refine gLo isAgg3 2 ?_; refine gE (gB (gS (gR ?_))); refine gBi bEq ?_; refine gAs ?_; refine gE ?_
  refine gC (fun hc => ?_) fun hc => ?_
  ·
   have hr : x.r = 10 := by simpa using hc
   obtain ⟨hb0, hbi⟩ := hx.bIn hr
   obtain ⟨jb, hjb⟩ : ∃ j : Nat, x.b = (j : Int) := ⟨x.b.toNat, by omega⟩
   have hjbl : jb < ls.length := by omega
   obtain ⟨hfb, hlb⟩ := hA.fs ls[jb] (List.getElem_mem hjbl)
   have hcb := hx.bef jb hjbl (by omega)
   obtain ⟨y, hy⟩ : ∃ y, y = topT ls[jb].f.f := ⟨_, rfl⟩
   have hcy := cf_comp hcb hy
   have hfol : FolP ls x ↔ y = imT u t := by rw [FolP, if_pos hr, lnT_get hjal hja, lnT_get hjbl hjb, ← ht, ← hu, ← hy]
   refine gS (gR ?_); refine gMv ?_; refine gFp underlying40 sizeOf3 3 ?_; refine gLo isAgg3 2 ?_
   refine GoH.v (Vop.idxN rfl rfl rfl rfl rfl underlying22 sizeOf40 ⟨_, (hA).at_⟩ (flat_len (enc := LV.cells) (sz := 5) (fun _ => rfl)) (by decide) (jb) ⟨hjb, hjbl⟩) ?_
   refine GoH.v (Vop.fldA rfl rfl rfl rfl underlying40 rfl sizeOf23 ((jb) * 5 + 0) rfl) ?_
   refine GoH.v (Vop.ld rfl rfl rfl rfl isAgg23 (fun w _ hS => Sl.fld (enc := LV.cells) (sz := 5) ((hA).ex0 hS.ext).at_ (fun _ => rfl) hjbl rfl)) ?_
   refine gM rfl rfl rfl rfl rfl call54 (fun w _ hS => (by exact rcompact_c ls[jb].f.a ls[jb].f.c ls[jb].f.f w (hfb.ex0 hS.ext) hlb)) ?_
   rintro v w1 w2 Y' hS he ho
   rw [subF_top] at ho
   obtain ⟨qy, cy, spy, rfl, hqy, hcapy, hS'⟩ := gainN hS he ho
   refine ⟨_, hS', ?_⟩
   refine gM rfl rfl rfl rfl rfl call68 (fun w _ hS => (by exact gparts_c (qy.map (fun b => ⟨b, 0, none⟩)) cy (compF ls[jb].f.f) (some y) 7 w (by decide) (faAt hS 0 rfl (fun e => (hqy e).1)) hcy)) ?_
   rintro v w1 w2 Y' hS he ⟨pa, cA2, fa, spa, pb, cb, fb, spb, rfl, hpa, hpb, hnew, hBa, hBb⟩
   refine ⟨_, hS.gainL he hnew, ?_⟩
   refine gMv ?_
   iterate 3 refine gEx ?_
   iterate 3 refine gAs ?_
   refine gE (gS (gR ?_))
   iterate 2 refine gMv ?_
   refine gCs 44 (fun hc => ?_) fun hc => ?_
   ·
    have h7 : opP (some y) = 7 := by simpa using hc
    rw [if_pos h7] at hBa
    rw [if_pos ⟨h7, rfl⟩] at hBb
    obtain ⟨P0, Q0, rfl⟩ := top_bin hcy.ok h7 (.inr (.inr (.inl rfl)))
    have hBa' : Cf fa P0 := hBa
    have hBb' : Cf fb Q0 := hBb
    have hfol2 : FolP ls x ↔ P0 = u ∧ Q0 = t := hfol.trans ⟨fun e => (by injection e; exact ⟨by assumption, by assumption⟩), fun e => by rw [e.1, e.2]⟩
    iterate 2 refine gMv ?_
    refine gP rfl rfl rfl rfl rfl call42 (fun w _ hS => (by exact gsameF_c (pa.map (fun b => ⟨b, 0, none⟩)) cA2 fa (qa.map (fun b => ⟨b, 0, none⟩)) cu (compF ls[ja].f.f) w (faAt hS 0 rfl (fun e => (hpa e).1)) (faAt hS 3 rfl (fun e => (hqa e).1)) (bT_max (Cf.eq hBa')) (bT_max hcu.eq))) ?_
    refine gPt ?_; refine gMv ?_
    refine gCs 49 (fun hc => ?_) fun hc => ?_
    ·
     have hs1 : P0 = u := by
       have h : sameB fa (compF ls[ja].f.f) = true := hc
       rw [hcu.eq, sameB_cf hBa' hao, decide_eq_true_eq] at h; exact h
     iterate 2 refine gMv ?_
     refine gP rfl rfl rfl rfl rfl call42 (fun w _ hS => (by exact gsameF_c (pb.map (fun b => ⟨b, 0, none⟩)) cb fb (qc.map (fun b => ⟨b, 0, none⟩)) cc (compF x.f.f) w (faAt hS 1 rfl (fun e => (hpb e).1)) (faAt hS 4 rfl (fun e => (hqc e).1)) (bT_max (Cf.eq hBb')) (bT_max hcc.eq))) ?_
     refine gPt ?_; refine gAs ?_; refine gE ?_
     refine gT func74 fun w' hS => ?_
     exact ⟨hS.ext, _, rfl, by rw [hcc.eq, sameB_cf hBb' hto, decide_eq_true_eq, hfol2]; exact ⟨fun h => ⟨hs1, h⟩, fun h => h.2⟩⟩
    ·
     have hs1 : ¬ P0 = u := by
       have h : sameB fa (compF ls[ja].f.f) = false := hc
       rw [hcu.eq, sameB_cf hBa' hao, decide_eq_false_iff_not] at h; exact h
     iterate 3 refine gNo ?_
     refine gPf ?_; refine gAs ?_; refine gE ?_
     refine gT func74 fun w' hS => ?_
     exact ⟨hS.ext, false, rfl, fun h => (by cases h), fun h => absurd (hfol2.1 h).1 hs1⟩
   ·
    have h7 : ¬ opP (some y) = 7 := by simpa using hc
    iterate 3 refine gNo ?_
    refine gPf ?_; refine gMv ?_
    iterate 3 refine gNo ?_
    refine gPf ?_; refine gAs ?_; refine gE ?_
    refine gT func74 fun w' hS => ?_
    exact ⟨hS.ext, false, rfl, fun h => (by cases h), fun h => absurd (by rw [hfol.1 h]; rfl) h7⟩
  ·
   have hr : ¬ x.r = 10 := by simpa using hc
   refine gS (gR ?_); refine gBi bEq ?_; refine gAs ?_; refine gE ?_
   refine gC (fun hc => ?_) fun hc => ?_
   ·
    have hr2 : x.r = 11 := by simpa using hc
    have hag := hx.ag hr2
    have hfol : FolP ls x ↔ t = kwT x.g u := by rw [FolP, if_neg hr, if_pos hr2, lnT_get hjal hja, ← ht, ← hu]
    refine gS (gR ?_); refine gMv ?_; refine gFp underlying40 sizeOf3 4 ?_; refine gLo isAgg3 2 ?_; refine gMv ?_
    refine gM rfl rfl rfl rfl rfl call36 (fun w _ hS => (by exact gknow_c x.g hag ⟨(qa.map (fun b => ⟨b, 0, none⟩)), cu, compF ls[ja].f.f⟩ u w (faAt hS 0 rfl (fun e => (hqa e).1)) hcu.eq hao)) ?_
    rintro v w1 w2 Y' hS he ho
    obtain ⟨q, cq, spq, rfl, hq, hcq, hS'⟩ := gainN hS he ho
    refine ⟨_, hS', ?_⟩
    refine gP rfl rfl rfl rfl rfl call42 (fun w _ hS => (by exact gsameF_c (qc.map (fun b => ⟨b, 0, none⟩)) cc (compF x.f.f) (q.map (fun b => ⟨b, 0, none⟩)) cq _ w (faAt hS 2 rfl (fun e => (hqc e).1)) (faAt hS 0 rfl (fun e => (hq e).1)) (bT_max hcc.eq) (bT_max rfl))) ?_
    refine gAs ?_; refine gE ?_
    refine gT func74 fun w' hS => ?_
    exact ⟨hS.ext, _, rfl, by rw [sameB_cf hcc (kw_ok hag hao), decide_eq_true_eq, hfol]⟩
   ·
    have hr2 : ¬ x.r = 11 := by simpa using hc
    have hr3 : x.r = 12 := by omega
    have hfol : FolP ls x ↔ AxI u t := by rw [FolP, if_neg hr, if_neg hr2, if_pos hr3, lnT_get hjal hja, ← ht, ← hu]
    refine gK (gIb (gS (gR ?_))); refine gMv ?_
    refine gM rfl rfl rfl rfl rfl call68 (fun w _ hS => (by exact gparts_c (qc.map (fun b => ⟨b, 0, none⟩)) cc (compF x.f.f) (some t) 7 w (by decide) (faAt hS 1 rfl (fun e => (hqc e).1)) hcc)) ?_
    rintro v w1 w2 Y' hS he ⟨pa, cA2, fa, spa, pb, cb, fb, spb, rfl, hpa, hpb, hnew, hBa, hBb⟩
    refine ⟨_, hS.gainL he hnew, ?_⟩
    refine gMv ?_
    iterate 3 refine gEx ?_
    iterate 3 refine gAs ?_
    refine gE (gS (gR ?_)); refine gMv ?_
    refine gM rfl rfl rfl rfl rfl call101 (fun w _ hS => (by exact gtop_c (pb.map (fun b => ⟨b, 0, none⟩)) cb fb (_) 13 w (by decide) (faAt hS 1 rfl (fun e => (hpb e).1)) hBb)) ?_
    rintro v w1 w2 Y' hS he ⟨nd, rfl, hnd⟩
    refine ⟨_, hS.later he, ?_⟩
    refine gMv ?_
    iterate 2 refine gEx ?_
    refine GoH.alc rfl rfl rfl (fun _ => zeroValue80 _) (fun b13 => ?_)
    refine GoH.stB rfl rfl rfl rfl sizeOf80 0 rfl rfl rfl rfl ?_
    refine gAs ?_; refine gE (gS (gS (gR ?_))); refine gMv ?_; refine gUn uNot ?_; refine gMv ?_
    refine gCs 75 (fun hc => ?_) fun hc => ?_
    ·
     have hno : ¬ opP (some t) = 7 := by simpa using hc
     iterate 2 refine gNo ?_
     refine gPt ?_; refine gE (GoH.condT rfl (gS (gR ?_))); refine gAs ?_; refine gE ?_
     refine gT func74 fun w' hS => ?_
     exact ⟨hS.ext, false, rfl, fun h => (by cases h), fun h => absurd (AxI.im (hfol.1 h)) hno⟩
    ·
     have h7 : opP (some t) = 7 := by simpa using hc
     rw [if_pos h7] at hBa
     rw [if_pos ⟨h7, rfl⟩] at hBb hnd ⊢
     refine gMv ?_; refine gUn uNot ?_; refine gPf ?_; refine gE ?_
     refine gC (fun hc => ?_) fun hc => ?_
     ·
      have hno : ¬ opP (kdB (some t)) = 13 := by simpa using hc
      refine gS (gR ?_); refine gAs ?_; refine gE ?_
      refine gT func74 fun w' hS => ?_
      exact ⟨hS.ext, false, rfl, fun h => (by cases h), fun h => absurd (AxI.gd (hfol.1 h)) hno⟩
     ·
      have h13 : opP (kdB (some t)) = 13 := by simpa using hc
      obtain ⟨z, Q0, rfl⟩ := top_bin hto h7 (.inr (.inr (.inl rfl)))
      obtain ⟨g, p, q, hB, hg0, hp, hq⟩ := (OkP'.of hto).b.co h13
      obtain rfl : Q0 = coT g p q := Option.some.inj hB
      have hBa' : Cf fa z := hBa
      have hBb' : Cf fb (coT g p q) := hBb
      have hz := hBa'.ok
      obtain ⟨hlt, hn⟩ := hnd h13
      have hng : nd.g = g := by rw [hn]; exact (hBb'.flds hlt).2.2
      have hkx : Cf (subF fb nd.x) p := by have := hBb'.kidA hlt (by show (4 : Int) ≤ 13; decide); rw [← hn] at this; exact this
      have hky : Cf (subF fb nd.y) q := by have := hBb'.kidB hlt (.inr (.inr (.inr (.inr rfl)))); rw [← hn] at this; exact this
      obtain rfl : nd.g = g := hng
      refine gK (gS ?_)
      refine GoH.drawCh 11 mixed ?_
      refine cV 0 (Vop.mv rfl rfl rfl rfl) ?_
      refine cV 1 (Vop.fldP rfl rfl rfl rfl underlying80 rfl (by exact sizeOf3) 4 rfl) ?_
      refine cV 2 (Vop.ldo rfl rfl rfl rfl isAgg3 0 rfl rfl) ?_
      refine cV 4 (Vop.mv rfl rfl rfl rfl) ?_
      refine cV 5 (Vop.fldP rfl rfl rfl rfl underlying80 rfl (by exact sizeOf3) 5 rfl) ?_
      refine cV 6 (Vop.ldo rfl rfl rfl rfl isAgg3 0 rfl rfl) ?_
      refine RdC.call (i := 3) _ rfl rfl rfl rfl rfl rfl (fun _ _ => call95 _ _) (fun w _ hS => (by exact rsub_c (pb.map (fun b => ⟨b, 0, none⟩)) cb fb nd.x w (faAt hS 2 rfl (fun e => (hpb e).1)) (bT_max hBb'.eq))) ?_
      rintro v w1 w2 Y' hS he ho
      obtain ⟨r0, cr0, spr0, rfl, hr0, hcr0, hS'⟩ := gainN hS he ho
      refine ⟨_, hS', (by repeat (first | exact List.Sublist.refl _ | refine List.Sublist.cons _ ?_)), ?_⟩
      refine RdC.call (i := 7) _ rfl rfl rfl rfl rfl rfl (fun _ _ => call95 _ _) (fun w _ hS => (by exact rsub_c (pb.map (fun b => ⟨b, 0, none⟩)) cb fb nd.y w (faAt hS 3 rfl (fun e => (hpb e).1)) (bT_max hBb'.eq))) ?_
      rintro v w1 w2 Y' hS he ho
      obtain ⟨r9, cr9, spr9, rfl, hr9, hcr9, hS'⟩ := gainN hS he ho
      refine ⟨_, hS', (by repeat (first | exact List.Sublist.refl _ | refine List.Sublist.cons _ ?_)), ?_⟩
      refine cV 8 (Vop.asg rfl rfl rfl rfl) ?_
      refine cV 9 (Vop.asg rfl rfl rfl rfl) ?_
      refine RdC.done rfl ?_
      refine gE (gS ?_)
      refine GoH.drawCh 14 mixed ?_
      refine cV 0 (Vop.mv rfl rfl rfl rfl) ?_
      refine cV 1 (Vop.mv rfl rfl rfl rfl) ?_
      refine cV 2 (Vop.fldP rfl rfl rfl rfl underlying80 rfl (by exact sizeOf3) 3 rfl) ?_
      refine cV 3 (Vop.ldo rfl rfl rfl rfl isAgg3 2 rfl rfl) ?_
      refine cV 4 (Vop.mv rfl rfl rfl rfl) ?_
      refine cV 5 (Vop.mv rfl rfl rfl rfl) ?_
      refine cV 6 (Vop.mv rfl rfl rfl rfl) ?_
      refine RdC.call (i := 7) _ rfl rfl rfl rfl rfl rfl (fun _ _ => call71 _ _) (fun w _ hS => (by exact gand_c ⟨(r9.map (fun b => ⟨b, 0, none⟩)), cr9, _⟩ ⟨(pa.map (fun b => ⟨b, 0, none⟩)), cA2, fa⟩ q z w (faAt hS 0 rfl (fun e => (hr9 e).1)) hky.eq hq (faAt hS 3 rfl (fun e => (hpa e).1)) hBa'.eq hz)) ?_
      rintro v w1 w2 Y' hS he ho
      obtain ⟨r1, cr1, spr1, rfl, hr1, hcr1, hS'⟩ := gainN hS he ho
      refine ⟨_, hS', (by repeat (first | exact List.Sublist.refl _ | refine List.Sublist.cons _ ?_)), ?_⟩
      refine RdC.call (i := 8) _ rfl rfl rfl rfl rfl rfl (fun _ _ => call27 _ _) (fun w _ hS => (by exact gimp_c ⟨(r0.map (fun b => ⟨b, 0, none⟩)), cr0, _⟩ ⟨(r1.map (fun b => ⟨b, 0, none⟩)), cr1, bT (adT q z)⟩ p (adT q z) w (faAt hS 2 rfl (fun e => (hr0 e).1)) hkx.eq hp (faAt hS 0 rfl (fun e => (hr1 e).1)) rfl (ad_ok hq hz))) ?_
      rintro v w1 w2 Y' hS he ho
      obtain ⟨r2, cr2, spr2, rfl, hr2, hcr2, hS'⟩ := gainN hS he ho
      refine ⟨_, hS', (by repeat (first | exact List.Sublist.refl _ | refine List.Sublist.cons _ ?_)), ?_⟩
      refine RdC.call (i := 9) _ rfl rfl rfl rfl rfl rfl (fun _ _ => call104 _ _) (fun w _ hS => (by exact gevery_c nd.g hg0 ⟨(r2.map (fun b => ⟨b, 0, none⟩)), cr2, bT (imT p (adT q z))⟩ (imT p (adT q z)) w (faAt hS 0 rfl (fun e => (hr2 e).1)) rfl (im_ok hp (ad_ok hq hz)))) ?_
      rintro v w1 w2 Y' hS he ho
      obtain ⟨r3, cr3, spr3, rfl, hr3, hcr3, hS'⟩ := gainN hS he ho
      refine ⟨_, hS', (by repeat (first | exact List.Sublist.refl _ | refine List.Sublist.cons _ ?_)), ?_⟩
      refine RdC.call (i := 10) _ rfl rfl rfl rfl rfl rfl (fun _ _ => call27 _ _) (fun w _ hS => (by exact gimp_c ⟨(pa.map (fun b => ⟨b, 0, none⟩)), cA2, fa⟩ ⟨(r3.map (fun b => ⟨b, 0, none⟩)), cr3, bT (evT nd.g (imT p (adT q z)))⟩ z (evT nd.g (imT p (adT q z))) w (faAt hS 6 rfl (fun e => (hpa e).1)) hBa'.eq hz (faAt hS 0 rfl (fun e => (hr3 e).1)) rfl (ev_ok hg0 (im_ok hp (ad_ok hq hz))))) ?_
      rintro v w1 w2 Y' hS he ho
      obtain ⟨r4, cr4, spr4, rfl, hr4, hcr4, hS'⟩ := gainN hS he ho
      refine ⟨_, hS', (by repeat (first | exact List.Sublist.refl _ | refine List.Sublist.cons _ ?_)), ?_⟩
      refine RdC.callP (i := 11) rfl rfl rfl rfl rfl rfl (fun _ _ => call42 _ _) (fun w _ hS => (by exact gsameF_c (qa.map (fun b => ⟨b, 0, none⟩)) cu (compF ls[ja].f.f) (r4.map (fun b => ⟨b, 0, none⟩)) cr4 _ w (faAt hS 9 rfl (fun e => (hqa e).1)) (faAt hS 0 rfl (fun e => (hr4 e).1)) (bT_max hcu.eq) (bT_max rfl))) (by repeat (first | exact List.Sublist.refl _ | exact List.nil_sublist _ | refine List.Sublist.cons_cons _ ?_ | refine List.Sublist.cons _ ?_)) ?_
      refine cV 12 (Vop.asg rfl rfl rfl rfl) ?_
      refine RdC.done rfl ?_
      refine gE ?_
      refine gT func74 fun w' hS => ?_
      refine ⟨hS.ext, _, rfl, ?_⟩
      rw [sameB_cf hcu (im_ok hz (ev_ok hg0 (im_ok hp (ad_ok hq hz)))), decide_eq_true_eq, hfol]
      exact Iff.trans ⟨fun h => ⟨rfl, h⟩, fun h => h.2⟩ (AxI.iff (t := imT z (coT nd.g p q)) rfl rfl)
end Go.Proofs.YtlihcmknfdckdaaDoor
namespace Go.Proofs.YtlihcmknfdckdaaDoor
open Go.RowKit Go.Proofs.Wit Tryd
/-! checking proofs: the program -/
theorem formE_chk {f : List NV} (h : formE f = 0) : chkF f = 0 := by
 unfold formE at h
 by_cases h1 : chkF f = 0
 ·exact h1
 ·rw [if_pos h1] at h; exact h
theorem lnOk_of {ls : List LV} {i : Nat} (hi : i < ls.length) (hbef : ∀ (j : Nat) (hj : j < ls.length), j < i → chkF ls[j].f.f = 0) (h1 : formE ls[i].f.f = 0) (h2 : ¬ (ls[i].r < 1 ∨ 12 < ls[i].r)) (h3 : numE i ls[i] = 0) : LnOk ls i ls[i] := by
 obtain ⟨ka, kb, _, kg⟩ := numE_zero h3
 refine ⟨formE_chk h1, by omega, by omega, fun h => ?_, fun h => ?_, kg, hbef, hi⟩
 ·refine badN_in ka ?_
  unfold premN
  by_cases e : ls[i].r = 10
  ·rw [if_pos e]; decide
  ·rw [if_neg e, if_pos (by omega)]; decide
 ·refine badN_in kb ?_
  rw [premN, if_pos h]; decide
set_option maxRecDepth 8000 in
theorem line_c (bp : Nat) (l : Int) (A : Option Addr) (cA : Nat) (ls : List LV) (i : Nat) (w : World) (hb : w.heap[bp]? = some (.cells (proofCs l A ls.length cA) 64 (0, 0))) (hA : LA w A ls) (hT : Axs w) (hl : 0 ≤ l ∧ l ≤ 6) (hi : i < ls.length) (hbef : ∀ (j : Nat) (hj : j < ls.length), j < i → chkF ls[j].f.f = 0) :
    Cn Tryd.prog 39 [.pointer (some ⟨bp, 0, none⟩), .int .i64 i] w (fun v _ => v = .int .i64 (lineE l ls i ls[i])) := by
  have HB : ∀ {w' : World} {j : Nat} {u : Value}, Ex [] w w' → (proofCs l A ls.length cA)[j]? = some u → w'.cell? ⟨bp, j, none⟩ = some u := fun e h => Ex.cell e hb h
  obtain ⟨x, hx⟩ : ∃ x, x = ls[i] := ⟨_, rfl⟩
  obtain ⟨hfa, hla⟩ := hA.fs ls[i] (List.getElem_mem hi)
  rw [← hx] at hfa hla
  refine Cn.of func39 rfl rfl ?_
  refine gS (gR ?_); refine gAs ?_; refine gE (gS (gR ?_)); refine gMv ?_; refine gNk ?_; refine gFp underlying64 sizeOf22 1 ?_
  refine GoH.v (Vop.ld (p := ⟨bp, 1, none⟩) rfl rfl rfl rfl isAgg22 (fun w _ hS => HB hS.ext rfl)) ?_
  refine gMv ?_
  refine GoH.v (Vop.idxN rfl rfl rfl rfl rfl underlying22 sizeOf40 ⟨_, (hA).at_⟩ (flat_len (enc := LV.cells) (sz := 5) (fun _ => rfl)) (by decide) (i) ⟨rfl, hi⟩) ?_
  refine GoH.v (Vop.ldN (cs := LV.cells x) rfl rfl rfl rfl isAgg40 sizeOf40 (fun w _ hS => by rw [hx]; exact Sl.many (enc := LV.cells) (sz := 5) (hA.ex0 hS.ext).at_ (fun _ => rfl) hi)) ?_
  refine GoH.alc rfl rfl rfl (fun _ => zeroValue40 _) (fun b5 => ?_)
  refine GoH.stB rfl rfl rfl rfl sizeOf40 0 rfl rfl rfl rfl ?_
  refine gE (gS (gS (gR ?_))); refine gFp underlying40 sizeOf23 0 ?_; refine gLo isAgg23 0 ?_
  refine gP rfl rfl rfl rfl rfl call43 (fun w _ hS => (by exact formed_c x.f.a x.f.c x.f.f w (hfa.ex0 hS.ext) hla)) ?_
  refine gAs ?_; refine gE (gS (gR ?_)); refine gMv ?_; refine gBi bNe ?_; refine gE ?_
  refine gC (fun hc => ?_) fun hc => ?_
  ·
   have h1 : formE x.f.f ≠ 0 := by simpa using hc
   refine gS (gR ?_); refine gMv ?_; refine gAs ?_; refine gE ?_
   refine gT func39 fun w' hS => ?_
   exact ⟨hS.ext, by rw [← hx, lineE, if_pos h1]; rfl⟩
  ·
   have h1 : formE x.f.f = 0 := by simpa using hc
   refine gK (gS (gS (gR ?_))); refine gFp underlying40 sizeOf3 1 ?_; refine gLo isAgg3 0 ?_; refine gBi bLt ?_; refine gMv ?_
   refine gCs 24 (fun hc => ?_) fun hc => ?_
   ·
    have h2 : x.r < 1 := by simpa using hc
    iterate 3 refine gNo ?_
    refine gPt ?_; refine gE (GoH.condT rfl (gS (gR ?_))); refine gAs ?_; refine gE ?_
    refine gT func39 fun w' hS => ?_
    exact ⟨hS.ext, by rw [← hx, lineE, if_neg (by simp [h1]), if_pos (.inl h2)]; rfl⟩
   ·
    have h2 : ¬ x.r < 1 := by simpa using hc
    refine gFp underlying40 sizeOf3 1 ?_; refine gLo isAgg3 0 ?_; refine gBi bGt ?_; refine gPf ?_; refine gE ?_
    refine gC (fun hc => ?_) fun hc => ?_
    ·
     have h3 : 12 < x.r := by simpa using hc
     refine gS (gR ?_); refine gAs ?_; refine gE ?_
     refine gT func39 fun w' hS => ?_
     exact ⟨hS.ext, by rw [← hx, lineE, if_neg (by simp [h1]), if_pos (.inr h3)]; rfl⟩
    ·
     have h3 : ¬ 12 < x.r := by simpa using hc
     have h23 : ¬ (x.r < 1 ∨ 12 < x.r) := by omega
     refine gK (gS (gS (gR ?_)))
     iterate 2 refine gMv ?_
     refine gP rfl rfl rfl rfl rfl call72 (fun w _ hS => (by have := numbers_c bp l A cA ls i w (hS.ext.keep hb) (hA.ex0 hS.ext) hi; rw [← hx] at this; exact this)) ?_
     refine gAs ?_; refine gE (gS (gR ?_)); refine gMv ?_; refine gBi bNe ?_; refine gE ?_
     refine gC (fun hc => ?_) fun hc => ?_
     ·
      have h4 : numE i x ≠ 0 := by simpa using hc
      refine gS (gR ?_); refine gMv ?_; refine gAs ?_; refine gE ?_
      refine gT func39 fun w' hS => ?_
      exact ⟨hS.ext, by rw [← hx, lineE, if_neg (by simp [h1]), if_neg h23, if_pos h4]; rfl⟩
     ·
      have h4 : numE i x = 0 := by simpa using hc
      have hok : LnOk ls i x := by rw [hx] at h1 h23 h4 ⊢; exact lnOk_of hi hbef h1 h23 h4
      refine gK (gS (gS ?_))
      refine GoH.drawCh 9 mixed ?_
      refine cV 0 (Vop.mv rfl rfl rfl rfl) ?_
      refine cV 1 (Vop.nilCk rfl rfl rfl rfl) ?_
      refine cV 2 (Vop.fldP rfl rfl rfl rfl underlying64 rfl (by exact sizeOf3) 0 rfl) ?_
      refine cV 3 (Vop.ld (p := ⟨bp, 0, none⟩) rfl rfl rfl rfl isAgg3 (fun w _ hS => HB hS.ext rfl)) ?_
      refine cV 4 (Vop.fldP rfl rfl rfl rfl underlying40 rfl (by exact sizeOf3) 1 rfl) ?_
      refine cV 5 (Vop.ldo rfl rfl rfl rfl isAgg3 0 rfl rfl) ?_
      refine RdC.callP (i := 6) rfl rfl rfl rfl rfl rfl (fun _ _ => call45 _ _) (fun w _ hS => (by exact hhas_c l x.r w hl)) (by repeat (first | exact List.Sublist.refl _ | exact List.nil_sublist _ | refine List.Sublist.cons_cons _ ?_ | refine List.Sublist.cons _ ?_)) ?_
      refine cV 7 (Vop.un rfl rfl rfl uNot rfl) ?_
      refine RdC.done rfl ?_
      refine gE ?_
      refine gC (fun hc => ?_) fun hc => ?_
      ·
       have h5 : hasL49 l x.r = false := by simpa using hc
       refine gS (gR ?_); refine gAs ?_; refine gE ?_
       refine gT func39 fun w' hS => ?_
       exact ⟨hS.ext, by rw [← hx, lineE, if_neg (by simp [h1]), if_neg h23, if_neg (by simp [h4]), if_pos h5]; rfl⟩
      ·
       have h5 : hasL49 l x.r = true := by simpa using hc
       refine gK (gS (gS (gR ?_))); refine gMv ?_
       refine GoH.v (Vop.ldB rfl rfl rfl rfl isAgg40 0 rfl sizeOf40 rfl) ?_
       refine gM rfl rfl rfl rfl rfl call73 (fun w _ hS => (by exact follows_c bp l A cA ls i x w (hS.ext.keep hb) (hA.ex0 hS.ext) (hT.ex hS.ext) hok (hfa.ex0 hS.ext) hla)) ?_
       rintro v w1 w2 Y' hS he ⟨b, rfl, hb2⟩
       refine ⟨_, hS.later he, ?_⟩
       refine gUn uNot ?_; refine gE ?_
       refine gC (fun hc => ?_) fun hc => ?_
       ·
        have hbf : b = false := by simpa using hc
        have h6 : ¬ FolP ls x := fun h => by rw [hb2.2 h] at hbf; cases hbf
        refine gS (gR ?_); refine gAs ?_; refine gE ?_
        refine gT func39 fun w' hS => ?_
        exact ⟨hS.ext, by rw [← hx, lineE, if_neg (by simp [h1]), if_neg h23, if_neg (by simp [h4]), if_neg (by simp [h5]), if_neg h6]; rfl⟩
       ·
        have hbt : b = true := by simpa using hc
        refine gK (gS (gR ?_)); refine gAs ?_; refine gE ?_
        refine gT func39 fun w' hS => ?_
        exact ⟨hS.ext, by rw [← hx, lineE, if_neg (by simp [h1]), if_neg h23, if_neg (by simp [h4]), if_neg (by simp [h5]), if_pos (hb2.1 hbt)]; rfl⟩
theorem linesE_succ {l : Int} {ls : List LV} {k : Nat} (h : linesE l ls k = 0) (hk : k < ls.length) : linesE l ls (k + 1) = lineE l ls k ls[k] := by
 show (if linesE l ls k ≠ 0 then linesE l ls k else match ls[k]? with | some x => lineE l ls k x | none => 0) = _
 rw [if_neg (by simp [h]), List.getElem?_eq_getElem hk]
theorem linesE_bad {l : Int} {ls : List LV} {k : Nat} (h : linesE l ls k ≠ 0) : ∀ d, linesE l ls (k + d) = linesE l ls k
 | 0 => rfl
 | d + 1 => by
  have ih := linesE_bad h d
  show (if linesE l ls (k + d) ≠ 0 then linesE l ls (k + d) else _) = _
  rw [if_pos (by rw [ih]; exact h), ih]
theorem lineE_form {l : Int} {ls : List LV} {k : Nat} {x : LV} (h : lineE l ls k x = 0) : formE x.f.f = 0 := by
 unfold lineE at h
 by_cases h1 : formE x.f.f = 0
 ·exact h1
 ·rw [if_pos h1] at h; exact h
theorem linesE_chk {l : Int} {ls : List LV} : ∀ {k : Nat}, linesE l ls k = 0 → k ≤ ls.length → ∀ (j : Nat) (hj : j < ls.length), j < k → lineE l ls j ls[j] = 0
 | 0, _, _, j, _, h => absurd h (Nat.not_lt_zero _)
 | k + 1, h, hk, j, hj, hjk => by
  have h0 : linesE l ls k = 0 := Classical.byContradiction (fun hne => hne (by have := linesE_bad hne 1; rw [h] at this; exact this.symm))
  by_cases e : j = k
  ·subst e; rw [← linesE_succ h0 hj]; exact h
  ·exact linesE_chk h0 (by omega) j hj (by omega)
set_option maxRecDepth 8000 in
theorem hcheck_c (l : Int) (A : Option Addr) (cA : Nat) (ls : List LV) (w : World) (hA : LA w A ls) (hT : Axs w) :
    Cn Tryd.prog 14 [.int .i64 l, .slice A ls.length cA] w (fun v _ => v = .int .i64 (checkH l ls)) := by
  refine Cn.of func14 rfl rfl ?_
  refine gS (gR ?_); refine gAs ?_; refine gE (gS (gB (gS (gR ?_)))); refine gMv ?_
  refine gP rfl rfl rfl rfl rfl call38 (fun w _ hS => (by exact there_c l w)) ?_
  refine gUn uNot ?_; refine gAs ?_; refine gE ?_
  refine gC (fun hc => ?_) fun hc => ?_
  ·
   have h1 : ¬ (0 ≤ l ∧ l ≤ 6) := by simp at hc; omega
   refine gS (gR ?_); refine gAs ?_; refine gE ?_
   refine gT func14 fun w' hS => ?_
   exact ⟨hS.ext, by rw [checkH, if_pos h1]; rfl⟩
  ·
   have h1 : 0 ≤ l ∧ l ≤ 6 := by simp at hc; omega
   refine gS (gR ?_); refine gMv ?_; refine gBl underlying22 ?_; refine gBi bEq ?_; refine gAs ?_; refine gE ?_
   refine gC (fun hc => ?_) fun hc => ?_
   ·
    have h2 : ls.length = 0 := by simpa using hc
    refine gS (gR ?_); refine gAs ?_; refine gE ?_
    refine gT func14 fun w' hS => ?_
    exact ⟨hS.ext, by rw [checkH, if_neg (by omega), if_pos h2]; rfl⟩
   ·
    have h2 : ¬ ls.length = 0 := by simpa using hc
    refine gS (gR ?_); refine gMv ?_; refine gBl underlying22 ?_; refine gBi bGt ?_; refine gAs ?_; refine gE ?_
    refine gC (fun hc => ?_) fun hc => ?_
    ·
     have h3 : 400 < ls.length := by simp at hc; omega
     refine gS (gR ?_); refine gAs ?_; refine gE ?_
     refine gT func14 fun w' hS => ?_
     exact ⟨hS.ext, by rw [checkH, if_neg (by omega), if_neg h2, if_pos h3]; rfl⟩
    ·
     have h3 : ¬ 400 < ls.length := by simp at hc; omega
     have hE : checkH l ls = linesE l ls ls.length := by rw [checkH, if_neg (by omega), if_neg h2, if_neg h3]
     refine gK (gIb (gS (gR ?_)))
     iterate 2 refine gMv ?_
     refine GoH.v (Vop.bld rfl rfl rfl rfl (bld (c := [_, _]) underlying64 (Szs.cons sizeOf3 (Szs.cons sizeOf22 Szs.nil)) zeroValue64 rfl)) ?_
     refine GoH.bx rfl rfl rfl rfl (fun b23 => ?_)
     refine gAs ?_; refine gE (gS (gS (gR ?_))); refine gMv ?_; refine gBl underlying22 ?_; refine gMv ?_; refine gE (gB ?_)
     refine GoH.loop (σ := Nat) (fun k => [(5, .pointer (some ⟨b23, 0, none⟩)), (25, .int .i64 ls.length), (26, .int .i64 k)]) (fun _ => [(some b23, .cells (proofCs l A ls.length cA) 64 (0, 0))])
       (fun k => k ≤ ls.length ∧ linesE l ls k = 0) (fun k => ls.length - k) 0 ⟨Nat.zero_le _, rfl⟩ ⟨rfl, rfl, rfl, trivial⟩ (List.Sublist.refl _) (fun k hI IH => ?_)
     obtain ⟨hk, h0⟩ := hI
     refine gS (gR ?_); refine gBi bLt ?_; refine gE (gS ?_)
     refine gC (fun hc => ?_) fun hc => ?_
     ·
      have hlt : k < ls.length := by simpa using hc
      have hs := linesE_succ h0 hlt
      refine gK (gS (gB (gS (gR ?_)))); refine gMv ?_; refine gAs ?_; refine gE (gS (gR ?_))
      iterate 2 refine gMv ?_
      refine gP rfl rfl rfl rfl rfl call39 (fun w _ hS => (by exact line_c b23 l A cA ls k w (hS.get (j := 0) rfl) (hA.ex0 hS.ext) (hT.ex hS.ext) h1 hlt (fun j hj hjk => formE_chk (lineE_form (linesE_chk h0 hk j hj hjk))))) ?_
      refine gAs ?_; refine gE (gS (gR ?_)); refine gMv ?_; refine gBi bNe ?_; refine gE ?_
      refine gC (fun hc => ?_) fun hc => ?_
      ·
       have h4 : lineE l ls k ls[k] ≠ 0 := by simpa using hc
       refine gS (gR ?_); refine gMv ?_; refine gAs ?_; refine gE ?_
       refine gT func14 fun w' hS => ?_
       exact ⟨hS.ext, by rw [hE]; have := linesE_bad (l := l) (ls := ls) (k := k + 1) (by rw [hs]; exact h4) (ls.length - (k + 1)); rw [show k + 1 + (ls.length - (k + 1)) = ls.length by omega, hs] at this; rw [this]; rfl⟩
      ·
       have h4 : lineE l ls k ls[k] = 0 := by simpa using hc
       refine gK (gIb (gR ?_)); refine gBx rfl rfl rfl rfl (bAdd (by omega)) ?_; refine gMv ?_; refine gE ?_
       exact IH (k + 1) _ _ ⟨hlt, by rw [hs]; exact h4⟩ (by omega) ⟨rfl, rfl, rfl, trivial⟩ (List.Sublist.refl _)
     ·
      have hge : ¬ k < ls.length := by simpa using hc
      obtain rfl : k = ls.length := by omega
      refine GoH.exit rfl (gS (gR ?_))
      refine gAs ?_; refine gE ?_
      refine gT func14 fun w' hS => ?_
      exact ⟨hS.ext, by rw [hE, h0]; rfl⟩
theorem checkH_len {l : Int} {ls : List LV} (h : checkH l ls = 0) : 0 < ls.length ∧ ls.length ≤ 400 := by
 unfold checkH at h
 by_cases h1 : ¬ (0 ≤ l ∧ l ≤ 6)
 ·rw [if_pos h1] at h; exact absurd h (by decide)
 ·rw [if_neg h1] at h
  by_cases h2 : ls.length = 0
  ·rw [if_pos h2] at h; exact absurd h (by decide)
  ·rw [if_neg h2] at h
   by_cases h3 : 400 < ls.length
   ·rw [if_pos h3] at h; exact absurd h (by decide)
   ·omega
set_option maxRecDepth 8000 in
theorem hproves_c (l : Int) (A : Option Addr) (cA : Nat) (ls : List LV) (a : Option Addr) (ca : Nat) (f : List NV) (w : World) (hA : LA w A ls) (hT : Axs w) (ha : FA w a f) (hl : f.length ≤ maxLen) :
    Cn Tryd.prog 16 [.int .i64 l, .slice A ls.length cA, .slice a f.length ca] w (fun v _ => v = .bool (decide (checkH l ls = 0) && sameB ((ls.map (fun x => x.f.f)).getD (ls.length - 1) []) f)) := by
  refine Cn.of func16 rfl rfl ?_
  refine gS (gR ?_); refine gAs ?_; refine gE (gS (gR ?_))
  iterate 2 refine gMv ?_
  refine gP rfl rfl rfl rfl rfl call14 (fun w _ hS => (by exact hcheck_c l A cA ls w (hA.ex0 hS.ext) (hT.ex hS.ext))) ?_
  refine gBi bEq ?_; refine gMv ?_
  refine gCs 11 (fun hc => ?_) fun hc => ?_
  ·
   have h0 : checkH l ls = 0 := by simpa using hc
   obtain ⟨hp, hp4⟩ := checkH_len h0
   have hlt : ls.length - 1 < ls.length := by omega
   obtain ⟨hfa, hla⟩ := hA.fs ls[ls.length - 1] (List.getElem_mem hlt)
   have hg : (ls.map (fun x => x.f.f)).getD (ls.length - 1) [] = ls[ls.length - 1].f.f := by simp [List.getD_eq_getElem?_getD, hlt]
   iterate 2 refine gMv ?_
   refine gBl underlying22 ?_
   refine gBx rfl rfl rfl rfl (bSubE (c := ((ls.length - 1 : Nat) : Int)) (by omega) (by omega)) ?_
   refine GoH.v (Vop.idxN rfl rfl rfl rfl rfl underlying22 sizeOf40 ⟨_, (hA).at_⟩ (flat_len (enc := LV.cells) (sz := 5) (fun _ => rfl)) (by decide) ((ls.length - 1)) ⟨rfl, hlt⟩) ?_
   refine GoH.v (Vop.fldA rfl rfl rfl rfl underlying40 rfl sizeOf23 (((ls.length - 1)) * 5 + 0) rfl) ?_
   refine GoH.v (Vop.ld rfl rfl rfl rfl isAgg23 (fun w _ hS => Sl.fld (enc := LV.cells) (sz := 5) ((hA).ex0 hS.ext).at_ (fun _ => rfl) hlt rfl)) ?_
   refine gMv ?_
   refine gP rfl rfl rfl rfl rfl call41 (fun w _ hS => (by exact fsame_c ls[ls.length - 1].f.a ls[ls.length - 1].f.c ls[ls.length - 1].f.f a ca f w (hfa.ex0 hS.ext) (ha.ex0 hS.ext) hla hl)) ?_
   refine gPt ?_; refine gAs ?_; refine gE ?_
   refine gT func16 fun w' hS => ?_
   exact ⟨hS.ext, by rw [h0, hg]; rfl⟩
  ·
   have h0 : ¬ checkH l ls = 0 := by simpa using hc
   iterate 9 refine gNo ?_
   refine gPf ?_; refine gAs ?_; refine gE ?_
   refine gT func16 fun w' hS => ?_
   exact ⟨hS.ext, by rw [decide_eq_false h0]; rfl⟩
open Classical in
/-- the rule that is found -/
noncomputable def ruleF (l : Int) (t : Tr) : Nat → Int
 | 0 => 0
 | k + 1 => if ruleF l t k ≠ 0 then ruleF l t k else if hasL49 l ((k : Int) + 1) = true ∧ InstT ((k : Int) + 1) t then (k : Int) + 1 else 0
noncomputable def axR (l : Int) (f : List NV) : Int := if ¬ (0 ≤ l ∧ l ≤ 6) ∨ formE f ≠ 0 then 0 else ruleF l (topT f) 9
def axE (l : Int) (f : List NV) : Int := if ¬ (0 ≤ l ∧ l ≤ 6) then 1 else formE f
theorem ruleF_bad {l : Int} {t : Tr} {k : Nat} (h : ruleF l t k ≠ 0) : ∀ d, ruleF l t (k + d) = ruleF l t k
 | 0 => rfl
 | d + 1 => by
  have ih := ruleF_bad h d
  show (if ruleF l t (k + d) ≠ 0 then ruleF l t (k + d) else _) = _
  rw [if_pos (by rw [ih]; exact h), ih]
end Go.Proofs.YtlihcmknfdckdaaDoor
namespace Go.Proofs.YtlihcmknfdckdaaDoor
open Go.RowKit Go.Proofs.Wit Tryd
/-! checking proofs: the reference -/
set_option maxRecDepth 8000 in
theorem gline_c (l : Int) (A : Option Addr) (cA : Nat) (ls : List LV) (i : Nat) (w : World) (hA : LA w A ls) (hl : 0 ≤ l ∧ l ≤ 6) (hi : i < ls.length) (hbef : ∀ (j : Nat) (hj : j < ls.length), j < i → chkF ls[j].f.f = 0) :
    Cn Tryd.prog 40 [.int .i64 l, .slice A ls.length cA, .int .i64 i] w (fun v _ => v = .int .i64 (lineE l ls i ls[i])) := by
  obtain ⟨x, hx⟩ : ∃ x, x = ls[i] := ⟨_, rfl⟩
  obtain ⟨hfa, hla⟩ := hA.fs ls[i] (List.getElem_mem hi)
  rw [← hx] at hfa hla
  refine Cn.of func40 rfl rfl ?_
  refine gS (gR ?_); refine gAs ?_; refine gE (gS (gR ?_))
  iterate 2 refine gMv ?_
  refine GoH.v (Vop.idxN rfl rfl rfl rfl rfl underlying22 sizeOf40 ⟨_, (hA).at_⟩ (flat_len (enc := LV.cells) (sz := 5) (fun _ => rfl)) (by decide) (i) ⟨rfl, hi⟩) ?_
  refine GoH.v (Vop.ldN (cs := LV.cells x) rfl rfl rfl rfl isAgg40 sizeOf40 (fun w _ hS => by rw [hx]; exact Sl.many (enc := LV.cells) (sz := 5) (hA.ex0 hS.ext).at_ (fun _ => rfl) hi)) ?_
  refine GoH.alc rfl rfl rfl (fun _ => zeroValue40 _) (fun b7 => ?_)
  refine GoH.stB rfl rfl rfl rfl sizeOf40 0 rfl rfl rfl rfl ?_
  refine gE (gS (gS (gR ?_))); refine gFp underlying40 sizeOf23 0 ?_; refine gLo isAgg23 0 ?_
  refine gP rfl rfl rfl rfl rfl call25 (fun w _ hS => (by exact rchk_c x.f.a x.f.c x.f.f w (hfa.ex0 hS.ext) hla)) ?_
  refine gAs ?_; refine gE (gS (gR ?_)); refine gMv ?_; refine gBi bNe ?_; refine gE ?_
  refine gC (fun hc => ?_) fun hc => ?_
  ·
   have h1 : chkF x.f.f ≠ 0 := by simpa using hc
   have h1' : formE x.f.f ≠ 0 := by rw [formE, if_pos h1]; exact h1
   refine gS (gR ?_); refine gMv ?_; refine gAs ?_; refine gE ?_
   refine gT func40 fun w' hS => ?_
   exact ⟨hS.ext, by rw [← hx, lineE, if_pos h1', formE, if_pos h1]; rfl⟩
  ·
   have h1 : chkF x.f.f = 0 := by simpa using hc
   refine gK (gS (gS (gR ?_))); refine gFp underlying40 sizeOf23 0 ?_; refine gLo isAgg23 0 ?_
   refine gP rfl rfl rfl rfl rfl call26 (fun w _ hS => (by exact glang2_c x.f.a x.f.c x.f.f w (hfa.ex0 hS.ext) hla)) ?_
   refine gUn uNot ?_; refine gE ?_
   refine gC (fun hc => ?_) fun hc => ?_
   ·
    have h2 : ¬ andN (frgL (compF x.f.f)) 11 = 0 := by simpa using hc
    have h2' : formE x.f.f = 10 := by rw [formE, if_neg (by simp [h1]), if_pos h2]
    refine gS (gR ?_); refine gAs ?_; refine gE ?_
    refine gT func40 fun w' hS => ?_
    exact ⟨hS.ext, by rw [← hx, lineE, if_pos (by rw [h2']; decide), h2']; rfl⟩
   ·
    have h2 : andN (frgL (compF x.f.f)) 11 = 0 := by simpa using hc
    have h2' : formE x.f.f = 0 := by rw [formE, if_neg (by simp [h1]), if_neg (by simp [h2])]
    refine gK (gS (gS (gR ?_))); refine gFp underlying40 sizeOf3 1 ?_; refine gLo isAgg3 0 ?_; refine gBi bLt ?_; refine gMv ?_
    refine gCs 26 (fun hc => ?_) fun hc => ?_
    ·
     have h3 : x.r < 1 := by simpa using hc
     iterate 3 refine gNo ?_
     refine gPt ?_; refine gE (GoH.condT rfl (gS (gR ?_))); refine gAs ?_; refine gE ?_
     refine gT func40 fun w' hS => ?_
     exact ⟨hS.ext, by rw [← hx, lineE, if_neg (by simp [h2']), if_pos (.inl h3)]; rfl⟩
    ·
     have h3 : ¬ x.r < 1 := by simpa using hc
     refine gFp underlying40 sizeOf3 1 ?_; refine gLo isAgg3 0 ?_; refine gBi bGt ?_; refine gPf ?_; refine gE ?_
     refine gC (fun hc => ?_) fun hc => ?_
     ·
      have h4 : 12 < x.r := by simpa using hc
      refine gS (gR ?_); refine gAs ?_; refine gE ?_
      refine gT func40 fun w' hS => ?_
      exact ⟨hS.ext, by rw [← hx, lineE, if_neg (by simp [h2']), if_pos (.inr h4)]; rfl⟩
     ·
      have h4 : ¬ 12 < x.r := by simpa using hc
      have h34 : ¬ (x.r < 1 ∨ 12 < x.r) := by omega
      have hr1 : 1 ≤ x.r := by omega
      have hr12 : x.r ≤ 12 := by omega
      refine gK (gS (gS ?_))
      refine GoH.regionK (α := {b : Bool // b = true ↔ numC1 x}) []
        (fun z => [(0, .int .i64 l), (1, .slice A ls.length cA), (2, .int .i64 i), (7, .pointer (some ⟨b7, 0, none⟩)), (58, .bool z.1)])
        (fun z => [(some b7, .cells (LV.cells x).toArray 40 (0, 0))])
        (fun z => ?_) (fun K => ?_)
      · -- what comes behind the region
       obtain ⟨bC1, hC1⟩ := z
       dsimp only at hC1 ⊢
       refine gE ?_
       refine gC (fun hc => ?_) fun hc => ?_
       ·
        have h5 : numC1 x := hC1.1 hc
        have h5' : numE i x = 3 := numE_3 hr1 hr12 (.inl h5)
        refine gS (gR ?_); refine gAs ?_; refine gE ?_
        refine gT func40 fun w' hS => ?_
        exact ⟨hS.ext, by rw [← hx, lineE, if_neg (by simp [h2']), if_neg h34, if_pos (by rw [h5']; decide), h5']; rfl⟩
       ·
        have h5 : ¬ numC1 x := fun h => by have h6 := hC1.2 h; rw [show bC1 = false from hc] at h6; cases h6
        refine gK (gS (gS ?_))
        refine GoH.regionK (α := {b : Bool // b = true ↔ numC2 i x}) []
          (fun z => [(0, .int .i64 l), (1, .slice A ls.length cA), (2, .int .i64 i), (7, .pointer (some ⟨b7, 0, none⟩)), (88, .bool z.1)])
          (fun z => [(some b7, .cells (LV.cells x).toArray 40 (0, 0))])
          (fun z => ?_) (fun K => ?_)
        · -- what comes behind the region
         obtain ⟨bC2, hC2⟩ := z
         dsimp only at hC2 ⊢
         refine gE ?_
         refine gC (fun hc => ?_) fun hc => ?_
         ·
          have h6 : numC2 i x := hC2.1 hc
          have h6' : numE i x = 3 := numE_3 hr1 hr12 (.inr h6)
          refine gS (gR ?_); refine gAs ?_; refine gE ?_
          refine gT func40 fun w' hS => ?_
          exact ⟨hS.ext, by rw [← hx, lineE, if_neg (by simp [h2']), if_neg h34, if_pos (by rw [h6']; decide), h6']; rfl⟩
         ·
          have h6 : ¬ numC2 i x := fun h => by have h7 := hC2.2 h; rw [show bC2 = false from hc] at h7; cases h7
          have hnum := numE_2 hr1 hr12 h5 h6
          refine gK (gS (gS (gR ?_))); refine gFp underlying40 sizeOf3 4 ?_; refine gLo isAgg3 0 ?_; refine gBi bLt ?_; refine gMv ?_
          refine gCs 92 (fun hc => ?_) fun hc => ?_
          ·
           have h7 : x.g < 0 := by simpa using hc
           rw [if_pos (.inl h7)] at hnum
           iterate 3 refine gNo ?_
           refine gPt ?_; refine gE (GoH.condT rfl (gS (gR ?_))); refine gAs ?_; refine gE ?_
           refine gT func40 fun w' hS => ?_
           exact ⟨hS.ext, by rw [← hx, lineE, if_neg (by simp [h2']), if_neg h34, if_pos (by rw [hnum]; decide), hnum]; rfl⟩
          ·
           have h7 : ¬ x.g < 0 := by simpa using hc
           refine gFp underlying40 sizeOf3 4 ?_; refine gLo isAgg3 0 ?_; refine gBi bGe ?_; refine gPf ?_; refine gE ?_
           refine gC (fun hc => ?_) fun hc => ?_
           ·
            have h8 : x.g ≥ 4 := by simpa using hc
            rw [if_pos (.inr h8)] at hnum
            refine gS (gR ?_); refine gAs ?_; refine gE ?_
            refine gT func40 fun w' hS => ?_
            exact ⟨hS.ext, by rw [← hx, lineE, if_neg (by simp [h2']), if_neg h34, if_pos (by rw [hnum]; decide), hnum]; rfl⟩
           ·
            have h8 : ¬ x.g ≥ 4 := by simpa using hc
            rw [if_neg (by omega)] at hnum
            have hok : LnOk ls i x := by rw [hx] at h2' h34 hnum ⊢; exact lnOk_of hi hbef h2' h34 hnum
            refine gK (gS (gS (gR ?_))); refine gMv ?_; refine gFp underlying40 sizeOf3 1 ?_; refine gLo isAgg3 0 ?_
            refine gP rfl rfl rfl rfl rfl call46 (fun w _ hS => (by exact ghas_c l x.r w hl)) ?_
            refine gUn uNot ?_; refine gE ?_
            refine gC (fun hc => ?_) fun hc => ?_
            ·
             have h9 : hasL49 l x.r = false := by simpa using hc
             refine gS (gR ?_); refine gAs ?_; refine gE ?_
             refine gT func40 fun w' hS => ?_
             exact ⟨hS.ext, by rw [← hx, lineE, if_neg (by simp [h2']), if_neg h34, if_neg (by simp [hnum]), if_pos h9]; rfl⟩
            ·
             have h9 : hasL49 l x.r = true := by simpa using hc
             refine gK (gS (gS (gR ?_))); refine gFp underlying40 sizeOf3 1 ?_; refine gLo isAgg3 0 ?_; refine gBi bLt ?_; refine gMv ?_
             refine gCs 105 (fun hc => ?_) fun hc => ?_
             ·
              have h10 : x.r < 10 := by simpa using hc
              have hfol : FolP ls x ↔ InstT x.r (topT x.f.f) := by rw [FolP, if_neg (by omega), if_neg (by omega), if_neg (by omega)]
              refine gFp underlying40 sizeOf3 1 ?_; refine gLo isAgg3 0 ?_; refine gFp underlying40 sizeOf23 0 ?_; refine gLo isAgg23 0 ?_
              refine gM rfl rfl rfl rfl rfl call47 (fun w _ hS => (by exact ginst_c x.r x.f.a x.f.c x.f.f w hr1 (by omega) (hfa.ex0 hS.ext) hla h1)) ?_
              rintro v w1 w2 Y' hS he ⟨b, rfl, hb2⟩
              refine ⟨_, hS.later he, ?_⟩
              refine gUn uNot ?_; refine gPt ?_; refine gMv ?_
              refine gCs 113 (fun hc => ?_) fun hc => ?_
              ·
               have hbf : b = false := by simpa using hc
               have h11 : ¬ FolP ls x := fun h => by rw [hb2.2 (hfol.1 h)] at hbf; cases hbf
               iterate 9 refine gNo ?_
               refine gPt ?_; refine gE (GoH.condT rfl (gS (gR ?_))); refine gAs ?_; refine gE ?_
               refine gT func40 fun w' hS => ?_
               exact ⟨hS.ext, by rw [← hx, lineE, if_neg (by simp [h2']), if_neg h34, if_neg (by simp [hnum]), if_neg (by simp [h9]), if_neg h11]; rfl⟩
              ·
               have hbt : b = true := by simpa using hc
               refine gFp underlying40 sizeOf3 1 ?_; refine gLo isAgg3 0 ?_; refine gBi bGe ?_; refine gMv ?_
               refine gCs 117 (fun hc => ?_) fun hc => ?_
               ·
                have h12 : x.r ≥ 10 := by simpa using hc
                exfalso; omega
               ·
                have h12 : ¬ x.r ≥ 10 := by simpa using hc
                iterate 4 refine gNo ?_
                iterate 2 refine gPf ?_
                refine gE (GoH.condF rfl (gK (gS (gR ?_)))); refine gAs ?_; refine gE ?_
                refine gT func40 fun w' hS => ?_
                exact ⟨hS.ext, by rw [← hx, lineE, if_neg (by simp [h2']), if_neg h34, if_neg (by simp [hnum]), if_neg (by simp [h9]), if_pos (hfol.2 (hb2.1 hbt))]; rfl⟩
             ·
              have h10 : ¬ x.r < 10 := by simpa using hc
              iterate 6 refine gNo ?_
              refine gPf ?_; refine gMv ?_; refine gFp underlying40 sizeOf3 1 ?_; refine gLo isAgg3 0 ?_; refine gBi bGe ?_; refine gMv ?_
              refine gCs 117 (fun hc => ?_) fun hc => ?_
              ·
               have h12 : x.r ≥ 10 := by simpa using hc
               refine gMv ?_
               refine GoH.v (Vop.ldB rfl rfl rfl rfl isAgg40 0 rfl sizeOf40 rfl) ?_
               refine gM rfl rfl rfl rfl rfl call74 (fun w _ hS => (by exact gfol_c A cA ls i x w (hA.ex0 hS.ext) hok h12 (hfa.ex0 hS.ext) hla)) ?_
               rintro v w1 w2 Y' hS he ⟨b, rfl, hb2⟩
               refine ⟨_, hS.later he, ?_⟩
               refine gUn uNot ?_; refine gPt ?_; refine gPf ?_; refine gE ?_
               refine gC (fun hc => ?_) fun hc => ?_
               ·
                have hbf : b = false := by simpa using hc
                have h6 : ¬ FolP ls x := fun h => by rw [hb2.2 h] at hbf; cases hbf
                refine gS (gR ?_); refine gAs ?_; refine gE ?_
                refine gT func40 fun w' hS => ?_
                exact ⟨hS.ext, by rw [← hx, lineE, if_neg (by simp [h2']), if_neg h34, if_neg (by simp [hnum]), if_neg (by simp [h9]), if_neg h6]; rfl⟩
               ·
                have hbt : b = true := by simpa using hc
                refine gK (gS (gR ?_)); refine gAs ?_; refine gE ?_
                refine gT func40 fun w' hS => ?_
                exact ⟨hS.ext, by rw [← hx, lineE, if_neg (by simp [h2']), if_neg h34, if_neg (by simp [hnum]), if_neg (by simp [h9]), if_pos (hb2.1 hbt)]; rfl⟩
              ·
               have h12 : ¬ x.r ≥ 10 := by simpa using hc
               exfalso; omega
        · -- the region
         refine gR ?_; refine gFp underlying40 sizeOf3 1 ?_; refine gLo isAgg3 0 ?_; refine gBi bGe ?_; refine gMv ?_
         refine gCs 62 (fun hc => ?_) fun hc => ?_
         ·
          have k1 : 10 ≤ x.r := by simpa using hc
          refine gFp underlying40 sizeOf3 2 ?_; refine gLo isAgg3 0 ?_; refine gBi bLt ?_; refine gMv ?_
          refine gCs 66 (fun hc => ?_) fun hc => ?_
          ·
           have k2 : x.a < 0 := by simpa using hc
           iterate 4 refine gNo ?_
           iterate 2 refine gPt ?_
           refine gMv ?_
           iterate 14 refine gNo ?_
           refine gPt ?_
           exact K ⟨true, by unfold numC2; simp; omega⟩ _ _ (by repeat (first | exact SubF.nil | refine SubF.cons rfl ?_)) (fun _ _ hS => hS)
          ·
           have k2 : ¬ x.a < 0 := by simpa using hc
           refine gFp underlying40 sizeOf3 2 ?_; refine gLo isAgg3 0 ?_; refine gMv ?_; refine gBi bGe ?_; refine gPf ?_; refine gPt ?_; refine gMv ?_
           refine gCs 73 (fun hc => ?_) fun hc => ?_
           ·
            have k3 : x.a ≥ i := by simpa using hc
            iterate 14 refine gNo ?_
            refine gPt ?_
            exact K ⟨true, by unfold numC2; simp; omega⟩ _ _ (by repeat (first | exact SubF.nil | refine SubF.cons rfl ?_)) (fun _ _ hS => hS)
           ·
            have k3 : ¬ x.a ≥ i := by simpa using hc
            refine gFp underlying40 sizeOf3 1 ?_; refine gLo isAgg3 0 ?_; refine gBi bEq ?_; refine gMv ?_
            refine gCs 77 (fun hc => ?_) fun hc => ?_
            ·
             have k4 : x.r = 10 := by simpa using hc
             refine gFp underlying40 sizeOf3 3 ?_; refine gLo isAgg3 0 ?_; refine gBi bLt ?_; refine gMv ?_
             refine gCs 81 (fun hc => ?_) fun hc => ?_
             ·
              have k5 : x.b < 0 := by simpa using hc
              iterate 4 refine gNo ?_
              iterate 2 refine gPt ?_
              refine gPf ?_
              exact K ⟨true, by unfold numC2; simp; omega⟩ _ _ (by repeat (first | exact SubF.nil | refine SubF.cons rfl ?_)) (fun _ _ hS => hS)
             ·
              have k5 : ¬ x.b < 0 := by simpa using hc
              refine gFp underlying40 sizeOf3 3 ?_; refine gLo isAgg3 0 ?_; refine gMv ?_; refine gBi bGe ?_; refine gPf ?_; refine gPt ?_; refine gPf ?_
              exact K ⟨decide (x.b ≥ i), by unfold numC2; simp; omega⟩ _ _ (by repeat (first | exact SubF.nil | refine SubF.cons rfl ?_)) (fun _ _ hS => hS)
            ·
             have k4 : ¬ x.r = 10 := by simpa using hc
             iterate 9 refine gNo ?_
             iterate 2 refine gPf ?_
             exact K ⟨false, by unfold numC2; simp; omega⟩ _ _ (by repeat (first | exact SubF.nil | refine SubF.cons rfl ?_)) (fun _ _ hS => hS)
         ·
          have k1 : ¬ 10 ≤ x.r := by simpa using hc
          iterate 9 refine gNo ?_
          refine gPf ?_; refine gMv ?_; refine gFp underlying40 sizeOf3 1 ?_; refine gLo isAgg3 0 ?_; refine gBi bEq ?_; refine gMv ?_
          refine gCs 77 (fun hc => ?_) fun hc => ?_
          ·
           have k4 : x.r = 10 := by simpa using hc
           exfalso; omega
          ·
           have k4 : ¬ x.r = 10 := by simpa using hc
           iterate 9 refine gNo ?_
           iterate 2 refine gPf ?_
           exact K ⟨false, by unfold numC2; simp; omega⟩ _ _ (by repeat (first | exact SubF.nil | refine SubF.cons rfl ?_)) (fun _ _ hS => hS)
      · -- the region
       refine gR ?_; refine gFp underlying40 sizeOf3 1 ?_; refine gLo isAgg3 0 ?_; refine gBi bLt ?_; refine gMv ?_
       refine gCs 34 (fun hc => ?_) fun hc => ?_
       ·
        have k1 : x.r < 10 := by simpa using hc
        refine gFp underlying40 sizeOf3 2 ?_; refine gLo isAgg3 0 ?_; refine gBi bNe ?_; refine gPt ?_; refine gMv ?_
        refine gCs 39 (fun hc => ?_) fun hc => ?_
        ·
         have k2 : x.a ≠ 0 := by simpa using hc
         iterate 8 refine gNo ?_
         refine gPt ?_; refine gMv ?_
         iterate 8 refine gNo ?_
         refine gPt ?_
         exact K ⟨true, by unfold numC1; simp; omega⟩ _ _ (by repeat (first | exact SubF.nil | refine SubF.cons rfl ?_)) (fun _ _ hS => hS)
        ·
         have k2 : x.a = 0 := by simpa using hc
         refine gFp underlying40 sizeOf3 1 ?_; refine gLo isAgg3 0 ?_; refine gBi bNe ?_; refine gMv ?_
         refine gCs 43 (fun hc => ?_) fun hc => ?_
         ·
          have k3 : x.r ≠ 10 := by simpa using hc
          refine gFp underlying40 sizeOf3 3 ?_; refine gLo isAgg3 0 ?_; refine gBi bNe ?_; refine gPt ?_; refine gPf ?_; refine gMv ?_
          refine gCs 49 (fun hc => ?_) fun hc => ?_
          ·
           have k4 : x.b ≠ 0 := by simpa using hc
           iterate 8 refine gNo ?_
           refine gPt ?_
           exact K ⟨true, by unfold numC1; simp; omega⟩ _ _ (by repeat (first | exact SubF.nil | refine SubF.cons rfl ?_)) (fun _ _ hS => hS)
          ·
           have k4 : x.b = 0 := by simpa using hc
           refine gFp underlying40 sizeOf3 1 ?_; refine gLo isAgg3 0 ?_; refine gBi bNe ?_; refine gMv ?_
           refine gCs 53 (fun hc => ?_) fun hc => ?_
           ·
            have k5 : x.r ≠ 11 := by simpa using hc
            refine gFp underlying40 sizeOf3 4 ?_; refine gLo isAgg3 0 ?_; refine gBi bNe ?_; refine gPt ?_; refine gPf ?_
            exact K ⟨x.g != 0, by unfold numC1; simp; omega⟩ _ _ (by repeat (first | exact SubF.nil | refine SubF.cons rfl ?_)) (fun _ _ hS => hS)
           ·
            have k5 : x.r = 11 := by simpa using hc
            exfalso; omega
         ·
          have k3 : x.r = 10 := by simpa using hc
          exfalso; omega
       ·
        have k1 : ¬ x.r < 10 := by simpa using hc
        iterate 3 refine gNo ?_
        refine gPf ?_; refine gMv ?_; refine gFp underlying40 sizeOf3 1 ?_; refine gLo isAgg3 0 ?_; refine gBi bNe ?_; refine gMv ?_
        refine gCs 43 (fun hc => ?_) fun hc => ?_
        ·
         have k3 : x.r ≠ 10 := by simpa using hc
         refine gFp underlying40 sizeOf3 3 ?_; refine gLo isAgg3 0 ?_; refine gBi bNe ?_; refine gPt ?_; refine gPf ?_; refine gMv ?_
         refine gCs 49 (fun hc => ?_) fun hc => ?_
         ·
          have k4 : x.b ≠ 0 := by simpa using hc
          iterate 8 refine gNo ?_
          refine gPt ?_
          exact K ⟨true, by unfold numC1; simp; omega⟩ _ _ (by repeat (first | exact SubF.nil | refine SubF.cons rfl ?_)) (fun _ _ hS => hS)
         ·
          have k4 : x.b = 0 := by simpa using hc
          refine gFp underlying40 sizeOf3 1 ?_; refine gLo isAgg3 0 ?_; refine gBi bNe ?_; refine gMv ?_
          refine gCs 53 (fun hc => ?_) fun hc => ?_
          ·
           have k5 : x.r ≠ 11 := by simpa using hc
           refine gFp underlying40 sizeOf3 4 ?_; refine gLo isAgg3 0 ?_; refine gBi bNe ?_; refine gPt ?_; refine gPf ?_
           exact K ⟨x.g != 0, by unfold numC1; simp; omega⟩ _ _ (by repeat (first | exact SubF.nil | refine SubF.cons rfl ?_)) (fun _ _ hS => hS)
          ·
           have k5 : x.r = 11 := by simpa using hc
           iterate 3 refine gNo ?_
           iterate 2 refine gPf ?_
           exact K ⟨false, by unfold numC1; simp; omega⟩ _ _ (by repeat (first | exact SubF.nil | refine SubF.cons rfl ?_)) (fun _ _ hS => hS)
        ·
         have k3 : x.r = 10 := by simpa using hc
         iterate 3 refine gNo ?_
         iterate 2 refine gPf ?_
         refine gMv ?_; refine gFp underlying40 sizeOf3 1 ?_; refine gLo isAgg3 0 ?_; refine gBi bNe ?_; refine gMv ?_
         refine gCs 53 (fun hc => ?_) fun hc => ?_
         ·
          have k5 : x.r ≠ 11 := by simpa using hc
          refine gFp underlying40 sizeOf3 4 ?_; refine gLo isAgg3 0 ?_; refine gBi bNe ?_; refine gPt ?_; refine gPf ?_
          exact K ⟨x.g != 0, by unfold numC1; simp; omega⟩ _ _ (by repeat (first | exact SubF.nil | refine SubF.cons rfl ?_)) (fun _ _ hS => hS)
         ·
          have k5 : x.r = 11 := by simpa using hc
          exfalso; omega
end Go.Proofs.YtlihcmknfdckdaaDoor
namespace Go.Proofs.YtlihcmknfdckdaaDoor
open Go.RowKit Go.Proofs.Wit Tryd
/-! finding an axiom's rule: the program -/
open Classical in
theorem ruleF_step {l : Int} {t : Tr} {k : Nat} (h : ruleF l t k = 0) : (hasL49 l ((k : Int) + 1) = true ∧ InstT ((k : Int) + 1) t → ruleF l t (k + 1) = (k : Int) + 1) ∧ (¬ (hasL49 l ((k : Int) + 1) = true ∧ InstT ((k : Int) + 1) t) → ruleF l t (k + 1) = 0) := by
 have e : ruleF l t (k + 1) = if ruleF l t k ≠ 0 then ruleF l t k else if hasL49 l ((k : Int) + 1) = true ∧ InstT ((k : Int) + 1) t then (k : Int) + 1 else 0 := rfl
 rw [e, if_neg (by simp [h])]
 exact ⟨fun h => if_pos h, fun h => if_neg h⟩
theorem ruleF_at {l : Int} {t : Tr} {k : Nat} (hk : k < 9) (h : ruleF l t k = 0) (h2 : hasL49 l ((k : Int) + 1) = true ∧ InstT ((k : Int) + 1) t) : ruleF l t 9 = (k : Int) + 1 := by
 have h3 := (ruleF_step h).1 h2
 have := ruleF_bad (l := l) (t := t) (k := k + 1) (by rw [h3]; omega) (9 - (k + 1))
 rw [show k + 1 + (9 - (k + 1)) = 9 by omega, h3] at this
 exact this
set_option maxRecDepth 8000 in
theorem haxiom_c (l : Int) (a : Option Addr) (ca : Nat) (f : List NV) (w : World) (hT : Axs w) (ha : FA w a f) (hl : f.length ≤ maxLen) :
    Cn Tryd.prog 18 [.int .i64 l, .slice a f.length ca] w (fun v _ => v = .tuple #[.int .i64 (axR l f), .int .i64 (axE l f)]) := by
  refine Cn.of func18 rfl rfl ?_
  refine gS (gR ?_)
  iterate 2 refine gAs ?_
  refine gE (gS (gS (gR ?_))); refine gMv ?_
  refine gP rfl rfl rfl rfl rfl call38 (fun w _ hS => (by exact there_c l w)) ?_
  refine gUn uNot ?_; refine gE ?_
  refine gC (fun hc => ?_) fun hc => ?_
  ·
   have h1 : ¬ (0 ≤ l ∧ l ≤ 6) := by simp at hc; omega
   refine gS (gR ?_)
   iterate 2 refine gAs ?_
   refine gE ?_
   refine gT func18 fun w' hS => ?_
   exact ⟨hS.ext, by rw [axR, if_pos (.inl h1), axE, if_pos h1]; rfl⟩
  ·
   have h1 : 0 ≤ l ∧ l ≤ 6 := by simp at hc; omega
   refine gK (gS (gS (gR ?_))); refine gMv ?_
   refine gP rfl rfl rfl rfl rfl call43 (fun w _ hS => (by exact formed_c a ca f w (ha.ex0 hS.ext) hl)) ?_
   refine gAs ?_; refine gE (gS (gR ?_)); refine gMv ?_; refine gBi bNe ?_; refine gE ?_
   refine gC (fun hc => ?_) fun hc => ?_
   ·
    have h2 : formE f ≠ 0 := by simpa using hc
    refine gS (gR ?_); refine gMv ?_
    iterate 2 refine gAs ?_
    refine gE ?_
    refine gT func18 fun w' hS => ?_
    exact ⟨hS.ext, by rw [axR, if_pos (.inr h2), axE, if_neg (by omega)]; rfl⟩
   ·
    have h2 : formE f = 0 := by simpa using hc
    have hck := formE_chk h2
    obtain ⟨t, ht⟩ : ∃ t, t = topT f := ⟨_, rfl⟩
    have hR : axR l f = ruleF l t 9 := by rw [axR, if_neg (by rintro (h | h); · exact h h1
                                                              · exact h h2), ht]
    have hE : axE l f = 0 := by rw [axE, if_neg (by omega), h2]
    have hcc : Cf (compF f) t := by
      rw [compF_eq hck, ← ht]
      exact Cf.of (by rw [ht]; exact (chkF_zero.1 hck).top) (by have := lf_fit hck; rw [← ht] at this; exact this)
    refine gK (gS (gR ?_)); refine gMv ?_
    refine gM rfl rfl rfl rfl rfl call44 (fun w _ hS => (by exact fcompact_c a ca f w (ha.ex0 hS.ext) hl)) ?_
    rintro v w1 w2 Y' hS he ho
    rw [subF_top] at ho
    obtain ⟨qc, cc, spc, rfl, hqc, hcapc, hS'⟩ := gainN hS he ho
    refine ⟨_, hS', ?_⟩
    refine gAs ?_; refine gE (gS (gS (gR ?_))); refine gAs ?_; refine gE (gB ?_)
    refine GoH.loop (σ := Nat) (fun k => [(0, .int .i64 l), (7, osv qc (compF f).length cc), (8, .int .i64 ((k : Int) + 1))]) (fun _ => [(qc, obN 80 (compF f) spc)])
      (fun k => k ≤ 9 ∧ ruleF l t k = 0) (fun k => 9 - k) 0 ⟨Nat.zero_le _, rfl⟩ ⟨rfl, rfl, rfl, trivial⟩ (List.Sublist.refl _) (fun k hI IH => ?_)
    obtain ⟨hk, h0⟩ := hI
    refine gS (gS (gR ?_)); refine gMv ?_; refine gBi bLe ?_; refine gE ?_
    refine gC (fun hc => ?_) fun hc => ?_
    ·
     have hk9 : k < 9 := by simp at hc; omega
     refine gK (gS (gB (gS (gR ?_))))
     iterate 2 refine gMv ?_
     refine gP rfl rfl rfl rfl rfl call45 (fun w _ hS => (by exact hhas_c l ((k : Int) + 1) w h1)) ?_
     refine gMv ?_
     refine gCs 26 (fun hc => ?_) fun hc => ?_
     ·
      have hh : hasL49 l ((k : Int) + 1) = true := hc
      refine gMv ?_
      refine GoH.v (Vop.idxA rfl rfl rfl rfl rfl underlying69 sizeOf49 (k + 1) (by omega) (by omega)) ?_
      refine GoH.v (Vop.ld rfl rfl rfl rfl isAgg49 (fun w _ hS => (by rw [Nat.zero_add, (hT.ex hS.ext).cell _ (by omega) (by omega)]))) ?_
      refine gMv ?_
      refine GoH.callM (gf := axFn ((k + 1 : Nat) : Int)) (fun _ v _ => ∃ b, v = .bool b ∧ (b = true ↔ InstT ((k + 1 : Nat) : Int) t)) rfl rfl rfl rfl rfl (axEnter (by omega) (by omega)) (fun w _ hS => axInst_c ((k + 1 : Nat) : Int) (qc.map (fun b => ⟨b, 0, none⟩)) cc (compF f) t w (by omega) (by omega) (faAt hS 0 rfl (fun e => (hqc e).1)) hcc) ?_
      rintro v w1 w2 Y' hS he ⟨b, rfl, hb⟩
      refine ⟨_, hS.later he, ?_⟩
      refine gPt ?_; refine gE ?_
      refine gC (fun hc => ?_) fun hc => ?_
      ·
       have hbt : InstT ((k : Int) + 1) t := hb.1 hc
       refine gS (gR ?_); refine gMv ?_
       iterate 2 refine gAs ?_
       refine gE ?_
       refine gT func18 fun w' hS => ?_
       exact ⟨hS.ext, by rw [hR, hE, ruleF_at hk9 h0 ⟨hh, hbt⟩]; rfl⟩
      ·
       have hbf : ¬ InstT ((k : Int) + 1) t := fun h => by
         have h3 : b = true := hb.2 h
         have h4 : b = false := hc
         rw [h3] at h4; cases h4
       refine gK (gIb (gR ?_)); refine gMv ?_; refine gBx rfl rfl rfl rfl (bAdd (by omega)) ?_; refine gAs ?_; refine gE ?_
       exact IH (k + 1) _ _ ⟨hk9, (ruleF_step h0).2 (fun h => hbf h.2)⟩ (by omega) ⟨rfl, rfl, rfl, trivial⟩ (List.Sublist.refl _)
     ·
      have hh : ¬ hasL49 l ((k : Int) + 1) = true := by rw [show hasL49 l ((k : Int) + 1) = false from hc]; simp
      iterate 5 refine gNo ?_
      refine gPf ?_; refine gE (GoH.condF rfl (gK (gIb (gR ?_)))); refine gMv ?_; refine gBx rfl rfl rfl rfl (bAdd (by omega)) ?_; refine gAs ?_; refine gE ?_
      exact IH (k + 1) _ _ ⟨hk9, (ruleF_step h0).2 (fun h => hh h.1)⟩ (by omega) ⟨rfl, rfl, rfl, trivial⟩ (List.Sublist.refl _)
    ·
     have hge : ¬ k < 9 := by simp at hc; omega
     obtain rfl : k = 9 := by omega
     refine GoH.exit rfl (gS (gR ?_))
     iterate 2 refine gAs ?_
     refine gE ?_
     refine gT func18 fun w' hS => ?_
     exact ⟨hS.ext, by rw [hR, hE, h0]; rfl⟩
end Go.Proofs.YtlihcmknfdckdaaDoor
namespace Go.Proofs.YtlihcmknfdckdaaDoor
open Go.RowKit Go.Proofs.Wit Tryd
/-! checking proofs: the reference, 2 -/
set_option maxRecDepth 8000 in
theorem gcheck_c (l : Int) (A : Option Addr) (cA : Nat) (ls : List LV) (w : World) (hA : LA w A ls) :
    Cn Tryd.prog 15 [.int .i64 l, .slice A ls.length cA] w (fun v _ => v = .int .i64 (checkH l ls)) := by
  refine Cn.of func15 rfl rfl ?_
  refine gS (gR ?_); refine gAs ?_; refine gE (gS (gS (gR ?_))); refine gMv ?_; refine gBi bLt ?_; refine gMv ?_
  refine gCs 9 (fun hc => ?_) fun hc => ?_
  ·
   have h1 : l < 0 := by simpa using hc
   iterate 2 refine gNo ?_
   refine gPt ?_; refine gE (GoH.condT rfl (gS (gR ?_))); refine gAs ?_; refine gE ?_
   refine gT func15 fun w' hS => ?_
   exact ⟨hS.ext, by rw [checkH, if_pos (by omega)]; rfl⟩
  ·
   have h1 : ¬ l < 0 := by simpa using hc
   refine gMv ?_; refine gBi bGt ?_; refine gPf ?_; refine gE ?_
   refine gC (fun hc => ?_) fun hc => ?_
   ·
    have h1 : 6 < l := by simpa using hc
    refine gS (gR ?_); refine gAs ?_; refine gE ?_
    refine gT func15 fun w' hS => ?_
    exact ⟨hS.ext, by rw [checkH, if_pos (by omega)]; rfl⟩
   ·
    have h1' : ¬ 6 < l := by simpa using hc
    have h16 : 0 ≤ l ∧ l ≤ 6 := by omega
    refine gK (gS (gS (gR ?_))); refine gMv ?_; refine gBl underlying22 ?_; refine gBi bEq ?_; refine gE ?_
    refine gC (fun hc => ?_) fun hc => ?_
    ·
     have h2 : ls.length = 0 := by simpa using hc
     refine gS (gR ?_); refine gAs ?_; refine gE ?_
     refine gT func15 fun w' hS => ?_
     exact ⟨hS.ext, by rw [checkH, if_neg (by omega), if_pos h2]; rfl⟩
    ·
     have h2 : ¬ ls.length = 0 := by simpa using hc
     refine gK (gS (gS (gR ?_))); refine gMv ?_; refine gBl underlying22 ?_; refine gBi bGt ?_; refine gE ?_
     refine gC (fun hc => ?_) fun hc => ?_
     ·
      have h3 : 400 < ls.length := by simp at hc; omega
      refine gS (gR ?_); refine gAs ?_; refine gE ?_
      refine gT func15 fun w' hS => ?_
      exact ⟨hS.ext, by rw [checkH, if_neg (by omega), if_neg h2, if_pos h3]; rfl⟩
     ·
      have h3 : ¬ 400 < ls.length := by simp at hc; omega
      have hE : checkH l ls = linesE l ls ls.length := by rw [checkH, if_neg (by omega), if_neg h2, if_neg h3]
      refine gK (gS (gS (gR ?_))); refine gMv ?_; refine gBl underlying22 ?_; refine gMv ?_; refine gE (gB ?_)
      refine GoH.loop (σ := Nat) (fun k => [(0, .int .i64 l), (1, .slice A ls.length cA), (20, .int .i64 ls.length), (21, .int .i64 k)]) (fun _ => [])
        (fun k => k ≤ ls.length ∧ linesE l ls k = 0) (fun k => ls.length - k) 0 ⟨Nat.zero_le _, rfl⟩ ⟨rfl, rfl, rfl, rfl, trivial⟩ (List.nil_sublist _) (fun k hI IH => ?_)
      obtain ⟨hk, h0⟩ := hI
      refine gS (gR ?_); refine gBi bLt ?_; refine gE (gS ?_)
      refine gC (fun hc => ?_) fun hc => ?_
      ·
       have hlt : k < ls.length := by simpa using hc
       have hs := linesE_succ h0 hlt
       refine gK (gS (gB (gS (gR ?_)))); refine gMv ?_; refine gAs ?_; refine gE (gS (gR ?_))
       iterate 3 refine gMv ?_
       refine gP rfl rfl rfl rfl rfl call40 (fun w _ hS => (by exact gline_c l A cA ls k w (hA.ex0 hS.ext) h16 hlt (fun j hj hjk => formE_chk (lineE_form (linesE_chk h0 hk j hj hjk))))) ?_
       refine gAs ?_; refine gE (gS (gR ?_)); refine gMv ?_; refine gBi bNe ?_; refine gE ?_
       refine gC (fun hc => ?_) fun hc => ?_
       ·
        have h4 : lineE l ls k ls[k] ≠ 0 := by simpa using hc
        refine gS (gR ?_); refine gMv ?_; refine gAs ?_; refine gE ?_
        refine gT func15 fun w' hS => ?_
        exact ⟨hS.ext, by rw [hE]; have := linesE_bad (l := l) (ls := ls) (k := k + 1) (by rw [hs]; exact h4) (ls.length - (k + 1)); rw [show k + 1 + (ls.length - (k + 1)) = ls.length by omega, hs] at this; rw [this]; rfl⟩
       ·
        have h4 : lineE l ls k ls[k] = 0 := by simpa using hc
        refine gK (gIb (gR ?_)); refine gBx rfl rfl rfl rfl (bAdd (by omega)) ?_; refine gMv ?_; refine gE ?_
        exact IH (k + 1) _ _ ⟨hlt, by rw [hs]; exact h4⟩ (by omega) ⟨rfl, rfl, rfl, rfl, trivial⟩ (List.nil_sublist _)
      ·
       have hge : ¬ k < ls.length := by simpa using hc
       obtain rfl : k = ls.length := by omega
       refine GoH.exit rfl (gS (gR ?_))
       refine gAs ?_; refine gE ?_
       refine gT func15 fun w' hS => ?_
       exact ⟨hS.ext, by rw [hE, h0]; rfl⟩
end Go.Proofs.YtlihcmknfdckdaaDoor
