/- What calls of the program return, under the conditions that each theorem states. -/
import Derived.Test.YtkoipdlkkchmiaaE31
import Derived.Test.YtkoipdlkkchmiaaE29
import Derived.Test.YtkoipdlkkchmiaaE32
import Derived.Test.YtkoipdlkkchmiaaE03
namespace Go.Proofs.Ytkoipdlkkchmiaa
open Go.RowKit Go.Proofs.Wit
/-! the law RewriteForms -/
set_option maxRecDepth 8000 in
theorem forms08_c (a : Option Addr) (ca : Nat) (f : List NV) (w : World) (ha : FA w a f) (hl : f.length ≤ maxLen) : Cn Try.prog 9 [.slice a f.length ca] w (fun v _ => v = .bool true) := by
  refine Cn.of Try.func9 rfl rfl ?_
  refine gS (gR ?_)
  refine gAs ?_
  refine gE (gS (gS (gR ?_)))
  refine gMv ?_
  refine GoH.callP rfl rfl rfl rfl rfl (fun _ _ => Try.call10 _ _) (fun w _ hS => (by exact rfew_c a ca f 40 w)) ?_
  refine gUn uNot ?_
  refine gMv ?_
  refine GoH.cases (d := 19) rfl (fun hc => ?_) (fun hc => ?_)
  ·
   iterate 3 refine gNo ?_
   refine gPt ?_
   refine gE (GoH.condT rfl (gS (gR ?_)))
   refine GoH.callP rfl rfl rfl rfl rfl (fun _ _ => Try.call11 _ _) (fun w _ hS => (by exact awake08_c w)) ?_
   refine gAs ?_
   refine gE ?_
   refine GoH.ret Try.f9 Try.func9 rfl (fun w' hS => ?_)
   exact ⟨hS.ext, rfl⟩
  ·
   have hfl : f.length ≤ 40 := by simp at hc; omega
   refine gMv ?_
   refine GoH.callP rfl rfl rfl rfl rfl (fun _ _ => Try.call17 _ _) (fun w _ hS => (by exact rchk_c a ca f w (ha.ex0 hS.ext) hl)) ?_
   refine gBi bNe ?_
   refine gPf ?_
   refine gE ?_
   refine GoH.cond rfl (fun hc => ?_) (fun hc => ?_)
   ·
    refine gS (gR ?_)
    refine GoH.callP rfl rfl rfl rfl rfl (fun _ _ => Try.call11 _ _) (fun w _ hS => (by exact awake08_c w)) ?_
    refine gAs ?_
    refine gE ?_
    refine GoH.ret Try.f9 Try.func9 rfl (fun w' hS => ?_)
    exact ⟨hS.ext, rfl⟩
   ·
    have h0 : chkF f = 0 := by simpa using hc
    have hT := (chkF_zero.1 h0).top
    refine gK (gS (gR ?_))
    refine gMv ?_
    refine GoH.callM _ rfl rfl rfl rfl rfl (fun _ _ => Try.call32 _ _) (fun w _ hS => (by exact nnf_c a ca f w (ha.ex0 hS.ext) hl)) ?_
    rintro v w1 w2 Y' hS he ⟨sv, o1, e1, rfl, ho, hP1⟩
    obtain ⟨q1, cap1, sp1, rfl, hq1, hcap1, hS'⟩ := gainN hS he ho
    obtain ⟨h1o, h1⟩ := hP1.cases0 h0
    refine ⟨_, hS', ?_⟩
    refine gMv ?_
    iterate 2 refine gEx ?_
    iterate 2 refine gAs ?_
    refine gE (gS (gR ?_))
    refine gMv ?_
    refine GoH.callM _ rfl rfl rfl rfl rfl (fun _ _ => Try.call33 _ _) (fun w _ hS => (by exact core_c a ca f w (ha.ex0 hS.ext) hl)) ?_
    rintro v w1 w2 Y' hS he ⟨sv, o2, e2, rfl, ho, hP2⟩
    obtain ⟨q2, cap2, sp2, rfl, hq2, hcap2, hS'⟩ := gainN hS he ho
    have h2 := hP2.cases0 corR_ok h0
    refine ⟨_, hS', ?_⟩
    refine gMv ?_
    iterate 2 refine gEx ?_
    iterate 2 refine gAs ?_
    refine gE (gS (gR ?_))
    refine gMv ?_
    refine GoH.callM _ rfl rfl rfl rfl rfl (fun _ _ => Try.call12 _ _) (fun w _ hS => (by exact simplify_c a ca f w (ha.ex0 hS.ext) hl)) ?_
    rintro v w1 w2 Y' hS he ⟨sv, o3, e3, rfl, ho, hP3⟩
    obtain ⟨q3, cap3, sp3, rfl, hq3, hcap3, hS'⟩ := gainN hS he ho
    obtain ⟨rfl, h3⟩ := hP3.sim0 h0
    refine ⟨_, hS', ?_⟩
    refine gMv ?_
    iterate 2 refine gEx ?_
    iterate 2 refine gAs ?_
    refine gE (gS (gR ?_))
    refine gMv ?_
    refine GoH.callM _ rfl rfl rfl rfl rfl (fun _ _ => Try.call12 _ _) (fun w _ hS => (by exact simplify_c (q3.map (fun b => ⟨b, 0, none⟩)) cap3 o3 w (faAt hS 0 rfl (fun e => (hq3 e).1)) (by have := h3.le; unfold maxLen; omega))) ?_
    rintro v w1 w2 Y' hS he ⟨sv, o4, e4, rfl, ho, hP4⟩
    obtain ⟨q4, cap4, sp4, rfl, hq4, hcap4, hS'⟩ := gainN hS he ho
    obtain ⟨rfl, h4⟩ := hP4.sim0 h3.chk
    rw [h3.top, sim_twice hT] at h4
    have h34 : o3 = o4 := h3.eq.trans h4.eq.symm
    refine ⟨_, hS', ?_⟩
    refine gMv ?_
    iterate 2 refine gEx ?_
    iterate 2 refine gAs ?_
    refine gE (gS (gS ?_))
    refine GoH.regionK (α := Unit) [] (fun _ => [(3, osv q1 o1.length cap1), (5, osv q2 o2.length cap2), (95, .bool false)]) (fun _ => [(q4, obN 49 o4 sp4), (q3, obN 49 o3 sp3), (q2, obN 49 o2 sp2), (q1, obN 49 o1 sp1)]) (fun _ => ?_) (fun K => ?_)
    · -- what comes behind the region
     refine gE (GoH.condF rfl (gK (gS (gS (gR ?_)))))
     refine gMv ?_
     refine gBl Try.underlying22 ?_
     refine gMv ?_
     refine gE (gB ?_)
     have hlen1 : o1.length ≤ 200 := by rw [h1o]; exact bT_le _
     refine GoH.loop (σ := Nat) (fun i => [(3, osv q1 o1.length cap1), (5, osv q2 o2.length cap2), (96, osv q1 o1.length cap1), (97, .int .i64 o1.length), (98, .int .i64 i)]) (fun _ => [(q4, obN 49 o4 sp4), (q3, obN 49 o3 sp3), (q2, obN 49 o2 sp2), (q1, obN 49 o1 sp1)]) (fun i => i ≤ o1.length) (fun i => o1.length - i) 0 (Nat.zero_le _) ⟨rfl, rfl, rfl, rfl, rfl, trivial⟩ (List.Sublist.refl _) (fun i hi IH => ?_)
     refine gS (gR ?_)
     refine gBi bLt ?_
     refine gE (gS ?_)
     refine GoH.cond rfl (fun hc => ?_) (fun hc => ?_)
     ·
      have hm : i < o1.length := by simp at hc; omega
      obtain ⟨b1, rfl⟩ : ∃ b, q1 = some b := by
        cases q1 with
        | none => have := (hq1 rfl).1; omega
        | some b => exact ⟨b, rfl⟩
      obtain ⟨hn7, hn8, hn4⟩ := nf_node (nnT_ok hT).1 (nn_form hT).1 h1o hm
      refine gK (gS (gB (gS (gR ?_))))
      refine GoH.v (Vop.idxS rfl rfl rfl rfl rfl Try.underlying22 Try.sizeOf49 i ⟨rfl, hm⟩) ?_
      refine GoH.v (Vop.ldN (cs := NV.cells o1[i]) rfl rfl rfl rfl Try.isAgg49 Try.sizeOf49 (fun w _ hS => Sl.many (enc := NV.cells) (sz := 6) (a := some ⟨b1, 0, none⟩) (Sl.blk (hS.get (j := 3) rfl)) (fun _ => rfl) hm)) ?_
      refine GoH.alc rfl rfl rfl (fun _ => Try.zeroValue49 _) (fun b12 => ?_)
      refine GoH.stB rfl rfl rfl rfl Try.sizeOf49 0 rfl rfl rfl rfl ?_
      refine gE (gS (gS (gR ?_)))
      refine gFp Try.underlying49 Try.sizeOf3 0 ?_
      refine gLo Try.isAgg3 0 ?_
      refine GoH.v (Vop.bin rfl rfl rfl rfl (bEqV (v := false) (by simpa using hn7)) rfl) ?_
      refine gMv ?_
      refine gFp Try.underlying49 Try.sizeOf3 0 ?_
      refine gLo Try.isAgg3 0 ?_
      refine GoH.v (Vop.bin rfl rfl rfl rfl (bEqV (v := false) (by simpa using hn8)) rfl) ?_
      refine gPf ?_
      refine gE (GoH.condF rfl (gK (gS (gR ?_))))
      refine gAs ?_
      refine gE (gS (gR ?_))
      refine gFp Try.underlying49 Try.sizeOf3 0 ?_
      refine gLo Try.isAgg3 0 ?_
      refine gBi bEq ?_
      refine gE ?_
      refine GoH.cond rfl (fun hc => ?_) (fun hc => ?_)
      ·
       have h4 : o1[i].op = 4 := by simpa using hc
       obtain ⟨k, hkx, hki, hkl, hk⟩ := hn4 h4
       refine gS (gR ?_)
       refine gMv ?_
       refine gFp Try.underlying49 Try.sizeOf3 4 ?_
       refine gLo Try.isAgg3 0 ?_
       refine GoH.v (Vop.idxS rfl rfl rfl rfl rfl Try.underlying22 Try.sizeOf49 (k) ⟨hkx, hkl⟩) ?_
       refine GoH.v (Vop.fldA (a := some ⟨b1, 0, none⟩) (o := (k) * 6) rfl rfl rfl rfl Try.underlying49 rfl Try.sizeOf3 ((k) * 6 + 0) rfl) ?_
       refine GoH.v (Vop.ld rfl rfl rfl rfl Try.isAgg3 (fun w _ hS => Sl.fld (enc := NV.cells) (sz := 6) (a := some ⟨b1, 0, none⟩) (Sl.blk (hS.get (j := 4) rfl)) (fun _ => rfl) hkl rfl)) ?_
       refine gAs ?_
       refine gE (gS (gR ?_))
       refine gMv ?_
       refine gBi bNe ?_
       refine gMv ?_
       refine GoH.cases (d := 121) rfl (fun hc => ?_) (fun hc => ?_)
       ·
        have hk3 : ¬ o1[k].op = 3 := by simpa using hc
        refine gMv ?_
        refine gBi bLt ?_
        refine gPt ?_
        refine gE ?_
        refine GoH.cond rfl (fun hc => ?_) (fun hc => ?_)
        ·
         exact absurd hc (by simp; omega)
        ·
         refine gK (gIb (gR ?_))
         refine GoH.v (Vop.bin rfl rfl rfl rfl (bAdd (by omega)) rfl) ?_
         refine gMv ?_
         refine gE ?_
         refine GoH.subH (.cons _ (List.Sublist.refl _)) ?_
         exact IH (i + 1) _ _ hm (by omega) ⟨rfl, rfl, rfl, rfl, rfl, trivial⟩ (List.Sublist.refl _)
       ·
        iterate 2 refine gNo ?_
        refine gPf ?_
        refine gE (GoH.condF rfl (gK (gIb (gR ?_))))
        refine GoH.v (Vop.bin rfl rfl rfl rfl (bAdd (by omega)) rfl) ?_
        refine gMv ?_
        refine gE ?_
        refine GoH.subH (.cons _ (List.Sublist.refl _)) ?_
        exact IH (i + 1) _ _ hm (by omega) ⟨rfl, rfl, rfl, rfl, rfl, trivial⟩ (List.Sublist.refl _)
      ·
       refine gK (gIb (gR ?_))
       refine GoH.v (Vop.bin rfl rfl rfl rfl (bAdd (by omega)) rfl) ?_
       refine gMv ?_
       refine gE ?_
       refine GoH.subH (.cons _ (List.Sublist.refl _)) ?_
       exact IH (i + 1) _ _ hm (by omega) ⟨rfl, rfl, rfl, rfl, rfl, trivial⟩ (List.Sublist.refl _)
     ·
      refine GoH.exit rfl (gS (gS (gR ?_)))
      refine gMv ?_
      refine gBl Try.underlying22 ?_
      refine gMv ?_
      refine gE (gB ?_)
      have hlen2 : o2.length ≤ 200 := by rcases h2 with ⟨_, h⟩ | ⟨_, h, _⟩ <;> rw [h]; exact Nat.zero_le _; exact bT_le _
      refine GoH.loop (σ := Nat) (fun i => [(5, osv q2 o2.length cap2), (126, osv q2 o2.length cap2), (127, .int .i64 o2.length), (128, .int .i64 i)]) (fun _ => [(q4, obN 49 o4 sp4), (q3, obN 49 o3 sp3), (q2, obN 49 o2 sp2), (q1, obN 49 o1 sp1)]) (fun i => i ≤ o2.length) (fun i => o2.length - i) 0 (Nat.zero_le _) ⟨rfl, rfl, rfl, rfl, trivial⟩ (List.Sublist.refl _) (fun i hi IH => ?_)
      refine gS (gR ?_)
      refine gBi bLt ?_
      refine gE (gS ?_)
      refine GoH.cond rfl (fun hc => ?_) (fun hc => ?_)
      ·
       have hm : i < o2.length := by simp at hc; omega
       obtain ⟨b2, rfl⟩ : ∃ b, q2 = some b := by
         cases q2 with
         | none => have := (hq2 rfl).1; omega
         | some b => exact ⟨b, rfl⟩
       obtain ⟨c1, c6, c7, c8, c10⟩ : o2[i].op ≠ 1 ∧ o2[i].op ≠ 6 ∧ o2[i].op ≠ 7 ∧ o2[i].op ≠ 8 ∧ o2[i].op ≠ 10 := by
         rcases h2 with ⟨_, h⟩ | ⟨_, h, h'⟩
         · subst h; exact absurd hm (Nat.not_lt_zero _)
         · exact cf_node h'.ok (cor_form hT) h hm
       refine gK (gS (gB (gS (gR ?_))))
       refine GoH.v (Vop.idxS rfl rfl rfl rfl rfl Try.underlying22 Try.sizeOf49 i ⟨rfl, hm⟩) ?_
       refine GoH.v (Vop.ldN (cs := NV.cells o2[i]) rfl rfl rfl rfl Try.isAgg49 Try.sizeOf49 (fun w _ hS => Sl.many (enc := NV.cells) (sz := 6) (a := some ⟨b2, 0, none⟩) (Sl.blk (hS.get (j := 2) rfl)) (fun _ => rfl) hm)) ?_
       refine GoH.alc rfl rfl rfl (fun _ => Try.zeroValue49 _) (fun b15 => ?_)
       refine GoH.stB rfl rfl rfl rfl Try.sizeOf49 0 rfl rfl rfl rfl ?_
       refine gE (gS (gR ?_))
       refine gFp Try.underlying49 Try.sizeOf3 0 ?_
       refine gLo Try.isAgg3 0 ?_
       refine GoH.v (Vop.bin rfl rfl rfl rfl (bEqV (v := false) (by simpa using c1)) rfl) ?_
       refine gMv ?_
       refine gFp Try.underlying49 Try.sizeOf3 0 ?_
       refine gLo Try.isAgg3 0 ?_
       refine GoH.v (Vop.bin rfl rfl rfl rfl (bEqV (v := false) (by simpa using c6)) rfl) ?_
       refine gPf ?_
       refine gMv ?_
       refine gFp Try.underlying49 Try.sizeOf3 0 ?_
       refine gLo Try.isAgg3 0 ?_
       refine GoH.v (Vop.bin rfl rfl rfl rfl (bEqV (v := false) (by simpa using c7)) rfl) ?_
       refine gPf ?_
       refine gMv ?_
       refine gFp Try.underlying49 Try.sizeOf3 0 ?_
       refine gLo Try.isAgg3 0 ?_
       refine GoH.v (Vop.bin rfl rfl rfl rfl (bEqV (v := false) (by simpa using c8)) rfl) ?_
       refine gPf ?_
       refine gMv ?_
       refine gFp Try.underlying49 Try.sizeOf3 0 ?_
       refine gLo Try.isAgg3 0 ?_
       refine GoH.v (Vop.bin rfl rfl rfl rfl (bEqV (v := false) (by simpa using c10)) rfl) ?_
       refine gPf ?_
       refine gE (GoH.condF rfl (gK (gIb (gR ?_))))
       refine GoH.v (Vop.bin rfl rfl rfl rfl (bAdd (by omega)) rfl) ?_
       refine gMv ?_
       refine gE ?_
       refine GoH.subH (.cons _ (List.Sublist.refl _)) ?_
       exact IH (i + 1) _ _ hm (by omega) ⟨rfl, rfl, rfl, rfl, trivial⟩ (List.Sublist.refl _)
      ·
       refine GoH.exit rfl (gS (gR ?_))
       refine GoH.callP rfl rfl rfl rfl rfl (fun _ _ => Try.call11 _ _) (fun w _ hS => (by exact awake08_c w)) ?_
       refine gAs ?_
       refine gE ?_
       refine GoH.ret Try.f9 Try.func9 rfl (fun w' hS => ?_)
       exact ⟨hS.ext, rfl⟩
    · -- the region
     refine gR ?_
     refine gMv ?_
     refine gBi bNe ?_
     refine gMv ?_
     refine GoH.cases (d := 47) rfl (fun hc => ?_) (fun hc => ?_)
     ·
      have h1e : e1 = 8 := by
        rcases h1 with h | h
        · exact h.1
        · rw [h.1] at hc; exact absurd hc (by decide)
      refine gMv ?_
      refine GoH.v (Vop.bin rfl rfl rfl rfl (bNeV (v := false) (by rw [h1e]; rfl)) rfl) ?_
      refine gPt ?_
      iterate 2 refine gMv ?_
      refine GoH.v (Vop.bin rfl rfl rfl rfl (bNeV (v := false) rfl) rfl) ?_
      refine gPf ?_
      iterate 2 refine gMv ?_
      refine GoH.v (Vop.bin rfl rfl rfl rfl (bNeV (v := false) rfl) rfl) ?_
      refine gPf ?_
      iterate 3 refine gMv ?_
      refine GoH.callP rfl rfl rfl rfl rfl (fun _ _ => Try.call14 _ _) (fun w _ hS => (by exact eq_c (q3.map (fun b => ⟨b, 0, none⟩)) cap3 o3 (q4.map (fun b => ⟨b, 0, none⟩)) cap4 o4 w (faAt hS 1 rfl (fun e => (hq3 e).1)) (faAt hS 0 rfl (fun e => (hq4 e).1)) h3.le h34)) ?_
      refine gUn uNot ?_
      refine gPf ?_
      iterate 2 refine gMv ?_
      refine GoH.callP rfl rfl rfl rfl rfl (fun _ _ => Try.call17 _ _) (fun w _ hS => (by
      have := rchk_c (q3.map (fun b => ⟨b, 0, none⟩)) cap3 o3 w (faAt hS 1 rfl (fun e => (hq3 e).1)) (by have := h3.le; unfold maxLen; omega)
      rw [h3.chk] at this; exact this)) ?_
      refine GoH.v (Vop.bin rfl rfl rfl rfl (bNeV (v := false) rfl) rfl) ?_
      refine gPf ?_
      iterate 2 refine gMv ?_
      refine GoH.v (Vop.bin rfl rfl rfl rfl (bEqV (v := false) (by rw [h1e]; rfl)) rfl) ?_
      refine gMv ?_
      iterate 3 refine gNo ?_
      iterate 2 refine gPf ?_
      iterate 2 refine gMv ?_
      refine gBi bNe ?_
      refine gMv ?_
      refine GoH.cases (d := 82) rfl (fun hc => ?_) (fun hc => ?_)
      ·
       have h2e : e2 = 8 := by
         rcases h2 with h | h
         · exact h.1
         · rw [h.1] at hc; exact absurd hc (by decide)
       refine gMv ?_
       refine GoH.v (Vop.bin rfl rfl rfl rfl (bNeV (v := false) (by rw [h2e]; rfl)) rfl) ?_
       refine gPt ?_
       refine gPf ?_
       iterate 2 refine gMv ?_
       refine GoH.v (Vop.bin rfl rfl rfl rfl (bEqV (v := false) (by rw [h2e]; rfl)) rfl) ?_
       refine gMv ?_
       iterate 3 refine gNo ?_
       iterate 2 refine gPf ?_
       exact K () _ _ (by repeat (first | exact SubF.nil | refine SubF.cons rfl ?_)) (fun _ _ hS => hS)
      ·
       obtain ⟨h2e, h2c⟩ : e2 = 0 ∧ Cf o2 (upT corR (topT f)) := by
         rcases h2 with h | h
         · rw [h.1] at hc; exact absurd hc (by decide)
         · exact ⟨h.1, h.2.2⟩
       iterate 2 refine gNo ?_
       iterate 2 refine gPf ?_
       iterate 2 refine gMv ?_
       refine GoH.v (Vop.bin rfl rfl rfl rfl (bEqV (v := true) (by rw [h2e]; rfl)) rfl) ?_
       iterate 2 refine gMv ?_
       refine GoH.callP rfl rfl rfl rfl rfl (fun _ _ => Try.call17 _ _) (fun w _ hS => (by
       have := rchk_c (q2.map (fun b => ⟨b, 0, none⟩)) cap2 o2 w (faAt hS 2 rfl (fun e => (hq2 e).1)) (by have := h2c.le; unfold maxLen; omega)
       rw [h2c.chk] at this; exact this)) ?_
       refine GoH.v (Vop.bin rfl rfl rfl rfl (bNeV (v := false) rfl) rfl) ?_
       refine gPt ?_
       refine gPf ?_
       exact K () _ _ (by repeat (first | exact SubF.nil | refine SubF.cons rfl ?_)) (fun _ _ hS => hS)
     ·
      obtain ⟨h1e, h1c⟩ : e1 = 0 ∧ Cf o1 (nnT (topT f)).1 := by
        rcases h1 with h | h
        · rw [h.1] at hc; exact absurd hc (by decide)
        · exact h
      iterate 2 refine gNo ?_
      refine gPf ?_
      iterate 2 refine gMv ?_
      refine GoH.v (Vop.bin rfl rfl rfl rfl (bNeV (v := false) rfl) rfl) ?_
      refine gPf ?_
      iterate 2 refine gMv ?_
      refine GoH.v (Vop.bin rfl rfl rfl rfl (bNeV (v := false) rfl) rfl) ?_
      refine gPf ?_
      iterate 3 refine gMv ?_
      refine GoH.callP rfl rfl rfl rfl rfl (fun _ _ => Try.call14 _ _) (fun w _ hS => (by exact eq_c (q3.map (fun b => ⟨b, 0, none⟩)) cap3 o3 (q4.map (fun b => ⟨b, 0, none⟩)) cap4 o4 w (faAt hS 1 rfl (fun e => (hq3 e).1)) (faAt hS 0 rfl (fun e => (hq4 e).1)) h3.le h34)) ?_
      refine gUn uNot ?_
      refine gPf ?_
      iterate 2 refine gMv ?_
      refine GoH.callP rfl rfl rfl rfl rfl (fun _ _ => Try.call17 _ _) (fun w _ hS => (by
      have := rchk_c (q3.map (fun b => ⟨b, 0, none⟩)) cap3 o3 w (faAt hS 1 rfl (fun e => (hq3 e).1)) (by have := h3.le; unfold maxLen; omega)
      rw [h3.chk] at this; exact this)) ?_
      refine GoH.v (Vop.bin rfl rfl rfl rfl (bNeV (v := false) rfl) rfl) ?_
      refine gPf ?_
      iterate 2 refine gMv ?_
      refine GoH.v (Vop.bin rfl rfl rfl rfl (bEqV (v := true) (by rw [h1e]; rfl)) rfl) ?_
      iterate 2 refine gMv ?_
      refine GoH.callP rfl rfl rfl rfl rfl (fun _ _ => Try.call17 _ _) (fun w _ hS => (by
      have := rchk_c (q1.map (fun b => ⟨b, 0, none⟩)) cap1 o1 w (faAt hS 3 rfl (fun e => (hq1 e).1)) (by have := h1c.le; unfold maxLen; omega)
      rw [h1c.chk] at this; exact this)) ?_
      refine GoH.v (Vop.bin rfl rfl rfl rfl (bNeV (v := false) rfl) rfl) ?_
      refine gPt ?_
      refine gPf ?_
      iterate 2 refine gMv ?_
      refine gBi bNe ?_
      refine gMv ?_
      refine GoH.cases (d := 82) rfl (fun hc => ?_) (fun hc => ?_)
      ·
       have h2e : e2 = 8 := by
         rcases h2 with h | h
         · exact h.1
         · rw [h.1] at hc; exact absurd hc (by decide)
       refine gMv ?_
       refine GoH.v (Vop.bin rfl rfl rfl rfl (bNeV (v := false) (by rw [h2e]; rfl)) rfl) ?_
       refine gPt ?_
       refine gPf ?_
       iterate 2 refine gMv ?_
       refine GoH.v (Vop.bin rfl rfl rfl rfl (bEqV (v := false) (by rw [h2e]; rfl)) rfl) ?_
       refine gMv ?_
       iterate 3 refine gNo ?_
       iterate 2 refine gPf ?_
       exact K () _ _ (by repeat (first | exact SubF.nil | refine SubF.cons rfl ?_)) (fun _ _ hS => hS)
      ·
       obtain ⟨h2e, h2c⟩ : e2 = 0 ∧ Cf o2 (upT corR (topT f)) := by
         rcases h2 with h | h
         · rw [h.1] at hc; exact absurd hc (by decide)
         · exact ⟨h.1, h.2.2⟩
       iterate 2 refine gNo ?_
       iterate 2 refine gPf ?_
       iterate 2 refine gMv ?_
       refine GoH.v (Vop.bin rfl rfl rfl rfl (bEqV (v := true) (by rw [h2e]; rfl)) rfl) ?_
       iterate 2 refine gMv ?_
       refine GoH.callP rfl rfl rfl rfl rfl (fun _ _ => Try.call17 _ _) (fun w _ hS => (by
       have := rchk_c (q2.map (fun b => ⟨b, 0, none⟩)) cap2 o2 w (faAt hS 2 rfl (fun e => (hq2 e).1)) (by have := h2c.le; unfold maxLen; omega)
       rw [h2c.chk] at this; exact this)) ?_
       refine GoH.v (Vop.bin rfl rfl rfl rfl (bNeV (v := false) rfl) rfl) ?_
       refine gPt ?_
       refine gPf ?_
       exact K () _ _ (by repeat (first | exact SubF.nil | refine SubF.cons rfl ?_)) (fun _ _ hS => hS)
end Go.Proofs.Ytkoipdlkkchmiaa
