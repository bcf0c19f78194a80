/- What calls of the program return, under the conditions that each theorem states. -/
import Derived.Test.YthojdcaojjmoaaaGreatDoorB09
import Derived.Test.YthojdcaojjmoaaaGreatDoorB10
import Derived.Test.YthojdcaojjmoaaaGreatDoorB04
namespace Go.Proofs.YthojdcaojjmoaaaGreatDoor
open Go.RowKit Go.Proofs.Wit
theorem bboth_c (a b : MV) (w : World) (ha : a.At w) (hb : b.At w) : Cn Tryz.prog 54 [a.v, b.v] w (fun v _ => v = .int .i64 (bothE a.n a.val a.rel b.n b.val b.rel)) := by
  have hra : a.rel.length = a.rows.length := by simp [MV.rel]
  have hrb : b.rel.length = b.rows.length := by simp [MV.rel]
  refine Cn.of Tryz.func54 rfl rfl ?_
  refine gS (gR ?_)
  refine GoH.bx rfl rfl rfl rfl (fun b2 => ?_)
  refine GoH.bx rfl rfl rfl rfl (fun b3 => ?_)
  refine gAs ?_
  refine gE (gS (gS (gR ?_)))
  refine GoH.v (Vop.ldB rfl rfl rfl rfl Tryz.isAgg25 1 rfl Tryz.sizeOf25 rfl) ?_
  refine GoH.callP rfl rfl rfl rfl rfl (fun _ _ => Tryz.call27 _ _) (fun w _ hS => (by exact mcheck_c a w (ha.ex0 hS.ext))) ?_
  refine gAs ?_
  refine gE (gS (gR ?_))
  refine gMv ?_
  refine gBi bNe ?_
  refine gE ?_
  refine GoH.cond rfl (fun hc => ?_) (fun hc => ?_)
  ·
   have h1 : checkM a.n a.val a.rel ≠ 0 := by simpa using hc
   refine gS (gR ?_)
   refine gMv ?_
   refine gAs ?_
   refine gE ?_
   refine GoH.ret Tryz.f54 Tryz.func54 rfl (fun w' hS => ?_)
   exact ⟨hS.ext, by rw [bothE, if_pos h1]; rfl⟩
  ·
   have h1 : checkM a.n a.val a.rel = 0 := by simpa using hc
   refine gK (gS (gS (gR ?_)))
   refine GoH.v (Vop.ldB rfl rfl rfl rfl Tryz.isAgg25 0 rfl Tryz.sizeOf25 rfl) ?_
   refine GoH.callP rfl rfl rfl rfl rfl (fun _ _ => Tryz.call27 _ _) (fun w _ hS => (by exact mcheck_c b w (hb.ex0 hS.ext))) ?_
   refine gAs ?_
   refine gE (gS (gR ?_))
   refine gMv ?_
   refine gBi bNe ?_
   refine gE ?_
   refine GoH.cond rfl (fun hc => ?_) (fun hc => ?_)
   ·
    have h2 : checkM b.n b.val b.rel ≠ 0 := by simpa using hc
    refine gS (gR ?_)
    refine gMv ?_
    refine gAs ?_
    refine gE ?_
    refine GoH.ret Tryz.f54 Tryz.func54 rfl (fun w' hS => ?_)
    exact ⟨hS.ext, by rw [bothE, if_neg (by simp [h1]), if_pos h2]; rfl⟩
   ·
    have h2 : checkM b.n b.val b.rel = 0 := by simpa using hc
    refine gK (gS (gS (gR ?_)))
    refine gFp Tryz.underlying25 Tryz.sizeOf23 2 ?_
    refine GoH.v (Vop.ldo (v := .slice a.ra a.rows.length a.rc) rfl rfl rfl rfl Tryz.isAgg23 1 rfl rfl) ?_
    refine gBl Tryz.underlying23 ?_
    refine gFp Tryz.underlying25 Tryz.sizeOf23 2 ?_
    refine GoH.v (Vop.ldo (v := .slice b.ra b.rows.length b.rc) rfl rfl rfl rfl Tryz.isAgg23 0 rfl rfl) ?_
    refine gBl Tryz.underlying23 ?_
    refine gBi bNe ?_
    refine gMv ?_
    refine GoH.cases (d := 24) rfl (fun hc => ?_) (fun hc => ?_)
    ·
     have h3 : a.rows.length ≠ b.rows.length := by simp at hc; omega
     iterate 7 refine gNo ?_
     refine gPt ?_
     refine gE (GoH.condT rfl (gS (gR ?_)))
     refine gAs ?_
     refine gE ?_
     refine GoH.ret Tryz.f54 Tryz.func54 rfl (fun w' hS => ?_)
     exact ⟨hS.ext, by rw [bothE, if_neg (by simp [h1]), if_neg (by simp [h2]), if_pos (.inl (by omega))]; rfl⟩
    ·
     have h3 : a.rows.length = b.rows.length := by simp at hc; omega
     refine gFp Tryz.underlying25 Tryz.sizeOf22 1 ?_
     refine GoH.v (Vop.ldo (v := .slice a.va a.val.length a.vc) rfl rfl rfl rfl Tryz.isAgg22 1 rfl rfl) ?_
     refine gBl Tryz.underlying22 ?_
     refine gFp Tryz.underlying25 Tryz.sizeOf22 1 ?_
     refine GoH.v (Vop.ldo (v := .slice b.va b.val.length b.vc) rfl rfl rfl rfl Tryz.isAgg22 0 rfl rfl) ?_
     refine gBl Tryz.underlying22 ?_
     refine gBi bNe ?_
     refine gPf ?_
     refine gE ?_
     refine GoH.cond rfl (fun hc => ?_) (fun hc => ?_)
     ·
      have h4 : a.val.length ≠ b.val.length := by simp at hc; omega
      refine gS (gR ?_)
      refine gAs ?_
      refine gE ?_
      refine GoH.ret Tryz.f54 Tryz.func54 rfl (fun w' hS => ?_)
      exact ⟨hS.ext, by rw [bothE, if_neg (by simp [h1]), if_neg (by simp [h2]), if_pos (.inr (by omega))]; rfl⟩
     ·
      have h4 : a.val.length = b.val.length := by simp at hc; omega
      refine gK (gS (gR ?_))
      refine gAs ?_
      refine gE ?_
      refine GoH.ret Tryz.f54 Tryz.func54 rfl (fun w' hS => ?_)
      exact ⟨hS.ext, by rw [bothE, if_neg (by simp [h1]), if_neg (by simp [h2]), if_neg (by omega)]; rfl⟩
theorem relD {m : MV} {i : Nat} (h : i < m.rows.length) : m.rel.getD i [] = m.rows[i].xs := by simp [MV.rel, List.getD_eq_getElem?_getD, h]
set_option maxRecDepth 8000 in
theorem matched_c (a b : MV) (za : Option Addr) (zc : Nat) (z : List W64) (v x : Nat) (w : World) (hT : Tab w) (ha : a.At w) (hb : b.At w) (hva : ValM a.n a.val a.rel) (hvb : ValM b.n b.val b.rel) (hlr : a.rel.length = b.rel.length)
    (hz : SlU w za z) (hzl : (z.length : Int) = a.n) (hv : (v : Int) < a.n) (hx : (x : Int) < b.n) :
    Cn Tryz.prog 56 [a.v, b.v, .slice za z.length zc, .int .i64 v, .int .i64 x] w (fun r _ => r = .bool (matB a.val b.val a.rel b.rel z v x)) := by
  have hra : a.rel.length = a.rows.length := by simp [MV.rel]
  have hrb : b.rel.length = b.rows.length := by simp [MV.rel]
  have hn64 := hva.n64
  have hag := hva.agents
  refine Cn.of Tryz.func56 rfl rfl ?_
  refine gS (gR ?_)
  refine GoH.bx rfl rfl rfl rfl (fun b5 => ?_)
  refine GoH.bx rfl rfl rfl rfl (fun b6 => ?_)
  refine GoH.bx rfl rfl rfl rfl (fun b7 => ?_)
  refine GoH.bx rfl rfl rfl rfl (fun b9 => ?_)
  refine GoH.alc rfl rfl rfl (fun _ => Tryz.zeroValue4 _) (fun b10 => ?_)
  refine gE (gS (gS ?_))
  refine GoH.draw 7 mixed rfl ?_
  refine RdGo.v (Vop.ldB rfl rfl rfl rfl Tryz.isAgg25 4 rfl Tryz.sizeOf25 rfl) ?_
  refine rMv ?_
  refine RdGo.callP rfl rfl rfl rfl rfl (fun _ _ => Tryz.call48 _ _) (fun w _ hS => facts_c a v w (ha.ex0 hS.ext) hva hv) ?_
  refine RdGo.v (Vop.ldB rfl rfl rfl rfl Tryz.isAgg25 3 rfl Tryz.sizeOf25 rfl) ?_
  refine rLo Tryz.isAgg3 1 ?_
  refine RdGo.callP rfl rfl rfl rfl rfl (fun _ _ => Tryz.call48 _ _) (fun w _ hS => facts_c b x w (hb.ex0 hS.ext) hvb hx) ?_
  refine rBi bNe ?_
  refine RdGo.nil ?_
  refine gE ?_
  refine GoH.cond rfl (fun hc => ?_) (fun hc => ?_)
  ·
   have h1 : fm a.val v ≠ fm b.val x := by simp at hc; omega
   refine gS (gR ?_)
   refine GoH.st rfl rfl rfl rfl Tryz.sizeOf4 rfl 0 rfl rfl ?_
   refine gE ?_
   refine GoH.retC Tryz.f56 Tryz.func56 0 rfl rfl Tryz.isAgg4 rfl rfl (fun w' hS => ?_)
   exact ⟨hS.ext, by rw [matB, beq_false_of_ne h1]; rfl⟩
  ·
   have h1 : fm a.val v = fm b.val x := by simp at hc; omega
   refine gK (gS (gS (gR ?_)))
   refine gFp Tryz.underlying25 Tryz.sizeOf23 2 ?_
   refine GoH.v (Vop.ldo (v := .slice a.ra a.rows.length a.rc) rfl rfl rfl rfl Tryz.isAgg23 4 rfl rfl) ?_
   refine gBl Tryz.underlying23 ?_
   refine gMv ?_
   refine gE (gB ?_)
   refine GoH.loop (σ := Nat) (fun i => [(3, .int .i64 v), (5, .pointer (some ⟨b5, 0, none⟩)), (6, .pointer (some ⟨b6, 0, none⟩)), (7, .pointer (some ⟨b7, 0, none⟩)), (9, .pointer (some ⟨b9, 0, none⟩)), (10, .pointer (some ⟨b10, 0, none⟩)), (23, .int .i64 a.rows.length), (24, .int .i64 i)])
     (fun _ => [(some b10, .cells #[.bool false] 4 (0, 0)), (some b9, .cells #[.int .i64 x] 3 (0, 0)), (some b7, .cells #[.slice za z.length zc] 22 (0, 0)), (some b6, .cells b.v.cells 25 (0, 0)), (some b5, .cells a.v.cells 25 (0, 0))])
     (fun i => i ≤ a.rows.length ∧ ∀ j, j < i → forB (a.rel.getD j []) (b.rel.getD j []) z v x = true) (fun i => a.rows.length - i) 0 ⟨Nat.zero_le _, fun j hj => absurd hj (Nat.not_lt_zero _)⟩ ⟨rfl, rfl, rfl, rfl, rfl, rfl, rfl, rfl, trivial⟩ (List.Sublist.refl _) (fun i hI IH => ?_)
   obtain ⟨hi, hall⟩ := hI
   refine gS (gR ?_)
   refine gBi bLt ?_
   refine gE (gS ?_)
   refine GoH.cond rfl (fun hc => ?_) (fun hc => ?_)
   ·
    have hlt : i < a.rows.length := by simpa using hc
    have hlt2 : i < b.rows.length := by omega
    have hrowA := ha.row a.rows[i] (List.getElem_mem hlt)
    have hrowB := hb.row b.rows[i] (List.getElem_mem hlt2)
    have hrA : a.rows[i].xs ∈ a.rel := List.mem_map.2 ⟨_, List.getElem_mem hlt, rfl⟩
    have hlA := hva.len a.rows[i].xs hrA
    have hlB := hvb.len b.rows[i].xs (List.mem_map.2 ⟨_, List.getElem_mem hlt2, rfl⟩)
    have hpA := (hva.rels a.rows[i].xs hrA).pts v
    have hvr : v < a.rows[i].xs.length := by omega
    have hxr : x < b.rows[i].xs.length := by omega
    have hdA := relD hlt
    have hdB := relD hlt2
    refine gK (gS (gB (gS (gR ?_))))
    refine gMv ?_
    refine GoH.alc rfl rfl rfl (fun _ => Tryz.zeroValue3 _) (fun b11 => ?_)
    refine GoH.st rfl rfl rfl rfl Tryz.sizeOf3 rfl 0 rfl rfl ?_
    refine gE (gS (gR ?_))
    refine GoH.alc rfl rfl rfl (fun _ => Tryz.zeroValue33 _) (fun b12 => ?_)
    refine gE (gS (gS (gR ?_)))
    refine gFp Tryz.underlying25 Tryz.sizeOf23 2 ?_
    refine GoH.v (Vop.ldo (v := .slice a.ra a.rows.length a.rc) rfl rfl rfl rfl Tryz.isAgg23 6 rfl rfl) ?_
    refine gLo Tryz.isAgg3 1 ?_
    refine GoH.v (Vop.idx rfl rfl rfl rfl rfl Tryz.underlying23 Tryz.sizeOf22 ⟨_, ha.rel⟩ (by simp) (i) ⟨rfl, by simpa using hlt⟩) ?_
    refine GoH.v (Vop.ld rfl rfl rfl rfl Tryz.isAgg22 (fun w _ hS => (SlR.ex0 ha.rel hS.ext).at (i) hlt)) ?_
    refine gMv ?_
    refine GoH.v (Vop.idx rfl rfl rfl rfl rfl Tryz.underlying22 Tryz.sizeOf33 ⟨_, hrowA.at_⟩ (by simp) (v) ⟨rfl, by simpa using hvr⟩) ?_
    refine GoH.v (Vop.ld rfl rfl rfl rfl Tryz.isAgg33 (fun w _ hS => (SlU.ex0 hrowA.at_ hS.ext).at (v) hvr)) ?_
    refine GoH.callM _ rfl rfl rfl rfl rfl (fun _ _ => Tryz.call55 _ _) (fun w _ hS => members_c (a.rows[i].xs.getD v 0#64) w) ?_
    rintro r w1 w2 Y' hS he ⟨bp, rfl, hbp, hh⟩
    refine ⟨_, hS.gain he hh rfl hbp, ?_⟩
    refine gE (gB ?_)
    refine GoH.rangeF (σ := W64) (cap := [(some bp, .cells #[U (a.rows[i].xs.getD v 0#64)] 33 (0, 0))]) (fun acc => [(some b12, .cells #[U acc] 33 (0, 0)), (some b11, .cells #[.int .i64 i] 3 (0, 0)), (some b10, .cells #[.bool false] 4 (0, 0)), (some b9, .cells #[.int .i64 x] 3 (0, 0)), (some b7, .cells #[.slice za z.length zc] 22 (0, 0)), (some b6, .cells b.v.cells 25 (0, 0)), (some b5, .cells a.v.cells 25 (0, 0))])
      (fun q acc => acc = ((pts (a.rows[i].xs.getD v 0#64)).take q).foldl (fun o y => o ||| z.getD y 0#64) 0#64 ∧ ∀ y ∈ (pts (a.rows[i].xs.getD v 0#64)).take q, (z.getD y 0#64 &&& b.rows[i].xs.getD x 0#64 != 0#64) = true)
      (fun c _ => c = .ret ∧ forB (a.rel.getD i []) (b.rel.getD i []) z v x = false) 0#64
      rfl (fun _ _ => Tryz.call81 _ _) (members1_it w [] hT (by simp) _ bp) (args1 rfl) rfl ⟨rfl, fun y hy => by simp at hy⟩ (List.Sublist.refl _) ?_ ?_ ?_
    · -- a round
     intro L Y' rec hi' q az acc haz hI hrec
     obtain ⟨hacc, hmet⟩ := hI
     rw [List.getElem?_map] at haz
     obtain ⟨y, hy, rfl⟩ := Option.map_eq_some_iff.1 haz
     have hyr : y < z.length := by have := hpA y (List.mem_of_getElem? hy); omega
     obtain ⟨hq1, hq2⟩ := List.getElem?_eq_some_iff.1 hy
     refine gR ?_
     refine gAs ?_
     refine gE ?_
     refine GoH.beginRound hrec ?_
     refine gB (gS (gS ?_))
     refine GoH.draw 14 mixed rfl ?_
     refine rLo Tryz.isAgg22 4 ?_
     refine rMv ?_
     refine RdGo.v (Vop.idx rfl rfl rfl rfl rfl Tryz.underlying22 Tryz.sizeOf33 ⟨_, hz⟩ (by simp) (y) ⟨rfl, by simpa using hyr⟩) ?_
     refine RdGo.v (Vop.ld rfl rfl rfl rfl Tryz.isAgg33 (fun w _ hS => (SlU.ex0 hz hS.ext).at (y) hyr)) ?_
     refine rFp Tryz.underlying25 Tryz.sizeOf23 2 ?_
     refine RdGo.v (Vop.ldo (v := .slice b.ra b.rows.length b.rc) rfl rfl rfl rfl Tryz.isAgg23 5 rfl rfl) ?_
     refine rLo Tryz.isAgg3 1 ?_
     refine RdGo.v (Vop.idx rfl rfl rfl rfl rfl Tryz.underlying23 Tryz.sizeOf22 ⟨_, hb.rel⟩ (by simp) (i) ⟨rfl, by simpa using hlt2⟩) ?_
     refine RdGo.v (Vop.ld rfl rfl rfl rfl Tryz.isAgg22 (fun w _ hS => (SlR.ex0 hb.rel hS.ext).at (i) hlt2)) ?_
     refine rLo Tryz.isAgg3 3 ?_
     refine RdGo.v (Vop.idx rfl rfl rfl rfl rfl Tryz.underlying22 Tryz.sizeOf33 ⟨_, hrowB.at_⟩ (by simp) (x) ⟨rfl, by simpa using hxr⟩) ?_
     refine RdGo.v (Vop.ld rfl rfl rfl rfl Tryz.isAgg33 (fun w _ hS => (SlU.ex0 hrowB.at_ hS.ext).at (x) hxr)) ?_
     refine rBi bAnd ?_
     refine RdGo.v (Vop.bin (b := U 0#64) rfl rfl rfl rfl bEqU rfl) ?_
     refine RdGo.nil ?_
     refine gE ?_
     refine GoH.cond rfl (fun hc => ?_) (fun hc => ?_)
     ·
      have h2 : z.getD y 0#64 &&& b.rows[i].xs.getD x 0#64 = 0#64 := by simpa using hc
      refine gS (gR ?_)
      refine GoH.st rfl rfl rfl rfl Tryz.sizeOf4 rfl 2 rfl rfl ?_
      refine gE ?_
      refine GoH.rRet acc ⟨rfl, ?_⟩ (List.Sublist.refl _)
      rw [Bool.eq_false_iff]
      intro hf
      unfold forB at hf
      rw [hdA, hdB, Bool.and_eq_true, List.all_eq_true] at hf
      have h3 := hf.1 y (List.mem_of_getElem? hy)
      rw [h2] at h3
      simp at h3
     ·
      have h2 : z.getD y 0#64 &&& b.rows[i].xs.getD x 0#64 ≠ 0#64 := by simpa using hc
      refine gK ?_
      refine GoH.draw 6 mixed rfl ?_
      refine rLo Tryz.isAgg33 0 ?_
      refine rLo Tryz.isAgg22 4 ?_
      refine rMv ?_
      refine RdGo.v (Vop.idx rfl rfl rfl rfl rfl Tryz.underlying22 Tryz.sizeOf33 ⟨_, hz⟩ (by simp) (y) ⟨rfl, by simpa using hyr⟩) ?_
      refine RdGo.v (Vop.ld rfl rfl rfl rfl Tryz.isAgg33 (fun w _ hS => (SlU.ex0 hz hS.ext).at (y) hyr)) ?_
      refine rBi bOr ?_
      refine RdGo.nil ?_
      refine GoH.st rfl rfl rfl rfl Tryz.sizeOf33 rfl 0 rfl rfl ?_
      refine gE (gIb ?_)
      exact GoH.rEnd (acc ||| z.getD y 0#64) ⟨by rw [List.take_succ_eq_append_getElem hq1, List.foldl_append, ← hacc, hq2]; rfl, fun u hu => by
        rw [List.take_succ_eq_append_getElem hq1] at hu
        rcases List.mem_append.1 hu with hu | hu
        · exact hmet u hu
        · rw [List.mem_singleton.1 hu, hq2]; simpa using h2⟩ (List.Sublist.refl _)
    · -- all have come
     rintro acc ⟨hacc, hmet⟩
     rw [List.length_map, List.take_length] at hacc hmet
     have hmr : acc = mapR z (a.rows[i].xs.getD v 0#64) := by rw [hacc]; rfl
     refine gIb (gS ?_)
     refine GoH.draw 11 mixed rfl ?_
     refine rFp Tryz.underlying25 Tryz.sizeOf23 2 ?_
     refine RdGo.v (Vop.ldo (v := .slice b.ra b.rows.length b.rc) rfl rfl rfl rfl Tryz.isAgg23 5 rfl rfl) ?_
     refine rLo Tryz.isAgg3 1 ?_
     refine RdGo.v (Vop.idx rfl rfl rfl rfl rfl Tryz.underlying23 Tryz.sizeOf22 ⟨_, hb.rel⟩ (by simp) (i) ⟨rfl, by simpa using hlt2⟩) ?_
     refine RdGo.v (Vop.ld rfl rfl rfl rfl Tryz.isAgg22 (fun w _ hS => (SlR.ex0 hb.rel hS.ext).at (i) hlt2)) ?_
     refine rLo Tryz.isAgg3 3 ?_
     refine RdGo.v (Vop.idx rfl rfl rfl rfl rfl Tryz.underlying22 Tryz.sizeOf33 ⟨_, hrowB.at_⟩ (by simp) (x) ⟨rfl, by simpa using hxr⟩) ?_
     refine RdGo.v (Vop.ld rfl rfl rfl rfl Tryz.isAgg33 (fun w _ hS => (SlU.ex0 hrowB.at_ hS.ext).at (x) hxr)) ?_
     refine rLo Tryz.isAgg33 0 ?_
     refine rBi bAndNot ?_
     refine RdGo.v (Vop.bin (b := U 0#64) rfl rfl rfl rfl bNeU rfl) ?_
     refine RdGo.nil ?_
     refine gE ?_
     refine GoH.cond rfl (fun hc => ?_) (fun hc => ?_)
     ·
      have h2 : b.rows[i].xs.getD x 0#64 &&& ~~~acc ≠ 0#64 := by simpa using hc
      refine gS (gR ?_)
      refine GoH.st rfl rfl rfl rfl Tryz.sizeOf4 rfl 2 rfl rfl ?_
      refine gE ?_
      refine GoH.retC Tryz.f56 Tryz.func56 2 rfl rfl Tryz.isAgg4 rfl rfl (fun w' hS => ?_)
      refine ⟨hS.ext, ?_⟩
      have hf : forB (a.rel.getD i []) (b.rel.getD i []) z v x = false := by
        unfold forB
        rw [hdA, hdB, ← hmr, beq_false_of_ne h2, Bool.and_false]
      rw [matB, List.all_eq_false.2 ⟨i, List.mem_range.2 (by omega), by rw [hf]; decide⟩, Bool.and_false]
      rfl
     ·
      have h2 : b.rows[i].xs.getD x 0#64 &&& ~~~acc = 0#64 := by simpa using hc
      have hf : forB (a.rel.getD i []) (b.rel.getD i []) z v x = true := by
        unfold forB
        rw [hdA, hdB, ← hmr, h2, Bool.and_eq_true, List.all_eq_true]
        exact ⟨fun y hy => hmet y hy, rfl⟩
      refine gK (gIb (gR ?_))
      refine GoH.v (Vop.bin rfl rfl rfl rfl (bAdd (by omega)) rfl) ?_
      refine gMv ?_
      refine gE ?_
      exact IH (i + 1) _ _ ⟨hlt, fun j hj => by
      by_cases e : j = i
      · subst e; exact hf
      · exact hall j (by omega)⟩ (by omega) ⟨rfl, rfl, rfl, rfl, rfl, rfl, rfl, rfl, trivial⟩ (.cons _ (.cons _ (List.Sublist.refl _)))
    · -- stopped
     rintro c acc ⟨rfl, hf⟩
     refine GoH.retC Tryz.f56 Tryz.func56 2 rfl rfl Tryz.isAgg4 rfl rfl (fun w' hS => ?_)
     refine ⟨hS.ext, ?_⟩
     rw [matB, List.all_eq_false.2 ⟨i, List.mem_range.2 (by omega), by rw [hf]; decide⟩, Bool.and_false]
     rfl
   ·
    have hge : ¬ i < a.rows.length := by simpa using hc
    refine GoH.exit rfl (gS (gR ?_))
    refine GoH.st rfl rfl rfl rfl Tryz.sizeOf4 rfl 0 rfl rfl ?_
    refine gE ?_
    refine GoH.retC Tryz.f56 Tryz.func56 0 rfl rfl Tryz.isAgg4 rfl rfl (fun w' hS => ?_)
    refine ⟨hS.ext, ?_⟩
    rw [matB_iff.2 ⟨h1, fun j hj => hall j (by omega)⟩]
    rfl
end Go.Proofs.YthojdcaojjmoaaaGreatDoor
namespace Go.Proofs.YthojdcaojjmoaaaGreatDoor
open Go.RowKit Go.Proofs.Wit
/-! Check: whether a relation is a bisimulation -/
set_option maxRecDepth 8000 in
theorem between_c (a b : MV) (w : World) (hT : Tab w) (ha : a.At w) (hb : b.At w) :
    Cn Tryz.prog 35 [a.v, b.v] w (fun r w' => ∃ (sv : Value) (z : List W64), r = .tuple #[sv, .int .i64 (bothE a.n a.val a.rel b.n b.val b.rel)] ∧ OwnS U 33 w w' sv z ∧ BetZ a.n a.val a.rel b.n b.val b.rel z) := by
  obtain ⟨i0, hi, hz, hsz, hby⟩ := info_parts infoU
  refine Cn.of Tryz.func35 rfl rfl ?_
  refine gS (gR ?_)
  refine GoH.bx rfl rfl rfl rfl (fun b2 => ?_)
  refine GoH.bx rfl rfl rfl rfl (fun b3 => ?_)
  iterate 2 refine gAs ?_
  refine gE (gS (gS (gR ?_)))
  refine GoH.v (Vop.ldB rfl rfl rfl rfl Tryz.isAgg25 1 rfl Tryz.sizeOf25 rfl) ?_
  refine GoH.v (Vop.ldB rfl rfl rfl rfl Tryz.isAgg25 0 rfl Tryz.sizeOf25 rfl) ?_
  refine GoH.callP rfl rfl rfl rfl rfl (fun _ _ => Tryz.call54 _ _) (fun w _ hS => (by exact bboth_c a b w (ha.ex0 hS.ext) (hb.ex0 hS.ext))) ?_
  refine gAs ?_
  refine gE (gS (gR ?_))
  refine gMv ?_
  refine gBi bNe ?_
  refine gE ?_
  refine GoH.cond rfl (fun hc => ?_) (fun hc => ?_)
  ·
   have h1 : bothE a.n a.val a.rel b.n b.val b.rel ≠ 0 := by simpa using hc
   refine gS (gR ?_)
   refine gMv ?_
   iterate 2 refine gAs ?_
   refine gE ?_
   refine GoH.ret Tryz.f35 Tryz.func35 rfl (fun w' hS => ?_)
   exact ⟨hS.ext, _, [], rfl, OwnS.nil0, fun _ => rfl, fun e => absurd e h1⟩
  ·
   have h1 : bothE a.n a.val a.rel b.n b.val b.rel = 0 := by simpa using hc
   obtain ⟨hva, hvb, hlr, hlv⟩ := bothE_zero.1 h1
   have ha1 := hva.n1
   have ha64 := hva.n64
   have hb1 := hvb.n1
   have hb64 := hvb.n64
   obtain ⟨na, hna⟩ : ∃ n : Nat, a.n = n := ⟨a.n.toNat, by omega⟩
   obtain ⟨nb, hnb⟩ : ∃ n : Nat, b.n = n := ⟨b.n.toNat, by omega⟩
   refine gK (gS (gR ?_))
   refine gFp Tryz.underlying25 Tryz.sizeOf3 0 ?_
   refine GoH.v (Vop.ldo (v := .int .i64 a.n) rfl rfl rfl rfl Tryz.isAgg3 1 rfl rfl) ?_
   refine GoH.mkE U 0#64 (m := na) rfl rfl (by rw [← hna]; rfl) (by rw [← hna]; rfl) rfl Tryz.underlying22 hi hz rfl hsz (by rw [hby]; omega) (by unfold maxLen; omega) (fun b21 => ?_)
   refine GoH.alc rfl rfl rfl (fun _ => Tryz.zeroValue22 _) (fun b7 => ?_)
   refine GoH.st rfl rfl rfl rfl Tryz.sizeOf22 rfl 0 rfl rfl ?_
   refine gE (gS (gS (gR ?_)))
   refine gLo Tryz.isAgg22 0 ?_
   refine gBl Tryz.underlying22 ?_
   refine gMv ?_
   refine gE (gB ?_)
   refine GoH.loop (σ := Nat) (fun k => [(2, .pointer (some ⟨b2, 0, none⟩)), (3, .pointer (some ⟨b3, 0, none⟩)), (7, .pointer (some ⟨b7, 0, none⟩)), (23, .int .i64 na), (24, .int .i64 k)])
     (fun k => [(some b7, .cells #[.slice (some ⟨b21, 0, none⟩) na na] 22 (0, 0)), (some b21, ob U 33 (flm (fun _ _ => allW nb) (List.replicate na 0#64) k) []), (some b3, .cells b.v.cells 25 (0, 0)), (some b2, .cells a.v.cells 25 (0, 0))])
     (fun k => k ≤ na) (fun k => na - k) 0 (Nat.zero_le _) ⟨rfl, rfl, rfl, rfl, rfl, trivial⟩ (by rw [flm_zero]; exact List.Sublist.refl _) (fun k hI IH => ?_)
   refine gS (gR ?_)
   refine gBi bLt ?_
   refine gE (gS ?_)
   refine GoH.cond rfl (fun hc => ?_) (fun hc => ?_)
   ·
    have hlt : k < na := by simpa using hc
    have hls : k < (flm (fun _ _ => allW nb) (List.replicate na 0#64) k).length := by rw [flm_length]; simpa using hlt
    refine gK (gS (gB (gS (gR ?_))))
    refine gMv ?_
    refine gAs ?_
    refine gE ?_
    refine GoH.draw 7 mixed rfl ?_
    refine rLo Tryz.isAgg22 0 ?_
    refine rMv ?_
    refine rFp Tryz.underlying25 Tryz.sizeOf3 0 ?_
    refine RdGo.v (Vop.ldo (v := .int .i64 b.n) rfl rfl rfl rfl Tryz.isAgg3 2 rfl rfl) ?_
    refine RdGo.v (Vop.bin (a := U 1#64) rfl rfl rfl rfl (bShl nb hnb) rfl) ?_
    refine RdGo.v (Vop.bin (b := U 1#64) rfl rfl rfl rfl bSubU rfl) ?_
    refine RdGo.v (Vop.idxS rfl rfl rfl rfl rfl Tryz.underlying22 Tryz.sizeOf33 (k) ⟨rfl, hlt⟩) ?_
    refine RdGo.nil ?_
    refine GoH.stE U _ rfl rfl rfl rfl Tryz.sizeOf33 rfl 1 rfl hls ?_
    refine gE (gIb (gR ?_))
    refine GoH.v (Vop.bin rfl rfl rfl rfl (bAdd (by omega)) rfl) ?_
    refine gMv ?_
    refine gE ?_
    exact IH (k + 1) _ _ hlt (by omega) ⟨rfl, rfl, rfl, rfl, rfl, trivial⟩ (by rw [← flm_succ (by simpa using hlt), allW_sub (by omega)]; exact List.Sublist.refl _)
   ·
    have hge : ¬ k < na := by simpa using hc
    obtain rfl : na = k := by omega
    rw [flm_const]
    refine GoH.exit rfl (gS (gS (gR ?_)))
    refine GoH.alc rfl rfl rfl (fun _ => Tryz.zeroValue4 _) (fun b9 => ?_)
    refine GoH.st rfl rfl rfl rfl Tryz.sizeOf4 rfl 0 rfl rfl ?_
    refine gE (gB ?_)
    refine GoH.loop (σ := List W64 × Bool × Nat) (fun s => [(2, .pointer (some ⟨b2, 0, none⟩)), (3, .pointer (some ⟨b3, 0, none⟩)), (7, .pointer (some ⟨b7, 0, none⟩)), (9, .pointer (some ⟨s.2.2, 0, none⟩))])
      (fun s => [(some s.2.2, .cells #[.bool s.2.1] 4 (0, 0)), (some b7, .cells #[.slice (some ⟨b21, 0, none⟩) na na] 22 (0, 0)), (some b21, ob U 33 s.1 []), (some b3, .cells b.v.cells 25 (0, 0)), (some b2, .cells a.v.cells 25 (0, 0))])
      (fun s => InvZ a.val b.val a.rel b.rel na nb s.1 ∧ (s.2.1 = false → Grt a.val b.val a.rel b.rel na nb s.1)) (fun s => 2 * sumZ s.1 + s.2.1.toNat) (List.replicate na (allW nb), true, b9) ⟨InvZ.start (by omega), (fun e => by cases e)⟩ ⟨rfl, rfl, rfl, rfl, trivial⟩ (List.Sublist.refl _) (fun s hI IH => ?_)
    obtain ⟨z0, ch0, b9⟩ := s
    obtain ⟨hinv, hgr⟩ := hI
    dsimp only at hinv hgr IH ⊢
    refine gS (gS (gR ?_))
    refine gLo Tryz.isAgg4 0 ?_
    refine gE ?_
    refine GoH.cond rfl (fun hc => ?_) (fun hc => ?_)
    ·
     obtain rfl : ch0 = true := hc
     refine gK (gS (gB (gS (gR ?_))))
     refine GoH.st rfl rfl rfl rfl Tryz.sizeOf4 rfl 0 rfl rfl ?_
     refine gE (gS (gR ?_))
     refine gLo Tryz.isAgg22 1 ?_
     refine gBl Tryz.underlying22 ?_
     refine gMv ?_
     refine gE (gB ?_)
     refine GoH.loop (σ := Nat × List W64 × Bool) (fun s => [(2, .pointer (some ⟨b2, 0, none⟩)), (3, .pointer (some ⟨b3, 0, none⟩)), (7, .pointer (some ⟨b7, 0, none⟩)), (9, .pointer (some ⟨b9, 0, none⟩)), (36, .slice (some ⟨b21, 0, none⟩) na na), (37, .int .i64 na), (38, .int .i64 s.1)])
       (fun s => [(some b9, .cells #[.bool s.2.2] 4 (0, 0)), (some b7, .cells #[.slice (some ⟨b21, 0, none⟩) na na] 22 (0, 0)), (some b21, ob U 33 s.2.1 []), (some b3, .cells b.v.cells 25 (0, 0)), (some b2, .cells a.v.cells 25 (0, 0))])
       (fun s => s.1 ≤ na ∧ TurnZ a.val b.val a.rel b.rel na nb z0 s.2.1 s.2.2 s.1) (fun s => na - s.1) (0, z0, false) ⟨Nat.zero_le _, TurnZ.start hinv⟩ ⟨rfl, rfl, rfl, rfl, rfl, rfl, rfl, trivial⟩ (List.Sublist.refl _) (fun s hI IH2 => ?_)
     obtain ⟨k, z, ch⟩ := s
     obtain ⟨hk, hturn⟩ := hI
     dsimp only at hk hturn IH2 ⊢
     refine gS (gR ?_)
     refine gBi bLt ?_
     refine gE (gS ?_)
     refine GoH.cond rfl (fun hc => ?_) (fun hc => ?_)
     ·
      have hlt : k < na := by simpa using hc
      have hzl := hturn.inv.len
      have hls : k < z.length := by omega
      refine gK (gS (gB (gS (gR ?_))))
      refine gMv ?_
      refine GoH.v (Vop.idxS rfl rfl rfl rfl rfl Tryz.underlying22 Tryz.sizeOf33 (k) ⟨rfl, hlt⟩) ?_
      refine GoH.v (Vop.ldE U 0#64 rfl rfl rfl rfl Tryz.isAgg33 2 rfl hls) ?_
      refine GoH.alc rfl rfl rfl (fun _ => Tryz.zeroValue3 _) (fun b10 => ?_)
      refine GoH.st rfl rfl rfl rfl Tryz.sizeOf3 rfl 0 rfl rfl ?_
      refine gAs ?_
      refine gE (gS (gR ?_))
      refine gMv ?_
      refine GoH.callM _ rfl rfl rfl rfl rfl (fun _ _ => Tryz.call55 _ _) (fun w _ hS => members_c (z.getD k 0#64) w) ?_
      rintro r w1 w2 Y' hS he ⟨bp, rfl, hbp, hh⟩
      refine ⟨_, hS.gain he hh rfl hbp, ?_⟩
      refine gE (gB ?_)
      refine GoH.rangeF (σ := List W64 × Bool) (cap := [(some bp, .cells #[U (z.getD k 0#64)] 33 (0, 0))]) (fun s => [(some b10, .cells #[.int .i64 k] 3 (0, 0)), (some b9, .cells #[.bool s.2] 4 (0, 0)), (some b7, .cells #[.slice (some ⟨b21, 0, none⟩) na na] 22 (0, 0)), (some b21, ob U 33 s.1 []), (some b3, .cells b.v.cells 25 (0, 0)), (some b2, .cells a.v.cells 25 (0, 0))])
        (fun i s => RowZ a.val b.val a.rel b.rel na nb z0 k (z.getD k 0#64) i s.1 s.2)
        (fun _ _ => False) (z, ch)
        rfl (fun _ _ => Tryz.call81 _ _) (members1_it w [] hT (by simp) _ bp) (args1 rfl) rfl hturn.row (List.Sublist.refl _) ?_ ?_ ?_
      · -- a round
       rintro L Y' rec hi' i az ⟨z2, ch2⟩ haz hI hrec
       dsimp only at hI ⊢
       rw [List.getElem?_map] at haz
       obtain ⟨x, hx, rfl⟩ := Option.map_eq_some_iff.1 haz
       have hz2 := hI.turn.inv.len
       have hx64 := (mem_pts.1 (List.mem_of_getElem? hx)).1
       have hxb := hturn.inv.rng k x (mem_pts.1 (List.mem_of_getElem? hx)).2
       have hls2 : k < z2.length := by omega
       refine gR ?_
       refine gAs ?_
       refine gE ?_
       refine GoH.beginRound hrec ?_
       refine gB (gS (gR ?_))
       refine GoH.v (Vop.ldB rfl rfl rfl rfl Tryz.isAgg25 5 rfl Tryz.sizeOf25 rfl) ?_
       refine GoH.v (Vop.ldB rfl rfl rfl rfl Tryz.isAgg25 4 rfl Tryz.sizeOf25 rfl) ?_
       refine gLo Tryz.isAgg22 2 ?_
       refine gLo Tryz.isAgg3 0 ?_
       refine gMv ?_
       refine GoH.callP rfl rfl rfl rfl rfl (fun _ _ => Tryz.call56 _ _) (fun w _ hS => (by
       have := matched_c a b (some ⟨b21, 0, none⟩) na z2 k x w (hT.ex hS.ext) (ha.ex0 hS.ext) (hb.ex0 hS.ext) hva hvb hlr (SlU.own hS (j := 3) rfl) (by omega) (by omega) (by omega)
       rw [hz2] at this
       exact this)) ?_
       refine gUn uNot ?_
       refine gE ?_
       refine GoH.cond rfl (fun hc => ?_) (fun hc => ?_)
       ·
        have h5 : matB a.val b.val a.rel b.rel z2 k x = false := by simpa using hc
        refine gS ?_
        refine GoH.draw 8 mixed rfl ?_
        refine rLo Tryz.isAgg22 2 ?_
        refine rLo Tryz.isAgg3 0 ?_
        refine RdGo.v (Vop.idxS rfl rfl rfl rfl rfl Tryz.underlying22 Tryz.sizeOf33 (k) ⟨rfl, hlt⟩) ?_
        refine RdGo.v (Vop.ldE U 0#64 rfl rfl rfl rfl Tryz.isAgg33 3 rfl hls2) ?_
        refine rMv ?_
        refine RdGo.v (Vop.bin (a := U 1#64) rfl rfl rfl rfl (bShl x rfl) rfl) ?_
        refine rBi bAndNot ?_
        refine RdGo.v (Vop.idxS rfl rfl rfl rfl rfl Tryz.underlying22 Tryz.sizeOf33 (k) ⟨rfl, hlt⟩) ?_
        refine RdGo.nil ?_
        refine GoH.stE U _ rfl rfl rfl rfl Tryz.sizeOf33 rfl 3 rfl hls2 ?_
        refine gE (gR ?_)
        refine GoH.st rfl rfl rfl rfl Tryz.sizeOf4 rfl 1 rfl rfl ?_
        refine gE (gIb ?_)
        exact GoH.rEnd (delZ z2 k x, true) (hI.del hx h5) (List.Sublist.refl _)
       ·
        have h5 : matB a.val b.val a.rel b.rel z2 k x = true := by simpa using hc
        refine gK (gIb ?_)
        exact GoH.rEnd (z2, ch2) (hI.keep hx h5) (List.Sublist.refl _)
      · -- all have come
       rintro ⟨z2, ch2⟩ hI
       rw [List.length_map] at hI
       refine gIb (gIb (gR ?_))
       refine GoH.v (Vop.bin rfl rfl rfl rfl (bAdd (by omega)) rfl) ?_
       refine gMv ?_
       refine gE ?_
       exact IH2 (k + 1, z2, ch2) _ _ ⟨hlt, hI.end⟩ (by dsimp only; omega) ⟨rfl, rfl, rfl, rfl, rfl, rfl, rfl, trivial⟩ (.cons _ (List.Sublist.refl _))
      · -- stopped
       intro c s h; exact h.elim
     ·
      have hge : ¬ k < na := by simpa using hc
      refine GoH.exit rfl (gIb (gS (gR ?_)))
      refine gLo Tryz.isAgg4 0 ?_
      refine gE (gR ?_)
      refine GoH.alc rfl rfl rfl (fun _ => Tryz.zeroValue4 _) (fun b9 => ?_)
      refine GoH.st rfl rfl rfl rfl Tryz.sizeOf4 rfl 0 rfl rfl ?_
      refine gE ?_
      exact IH (z, ch, _) _ _ ⟨hturn.inv, fun e => by subst e; exact hturn.grt (by omega)⟩ hturn.meas ⟨rfl, rfl, rfl, rfl, trivial⟩ (.cons_cons _ (.cons _ (List.Sublist.refl _)))
    ·
     obtain rfl : ch0 = false := hc
     have hg := hgr rfl
     refine GoH.exit rfl (gS (gR ?_))
     refine gLo Tryz.isAgg22 1 ?_
     iterate 2 refine gAs ?_
     refine gE ?_
     refine GoH.ret Tryz.f35 Tryz.func35 rfl (fun w' hS => ?_)
     refine ⟨hS.ext, _, z0, by rw [h1]; rfl, OwnS.one hS 2 rfl hg.len.symm, fun e => absurd h1 e, fun _ => ?_⟩
     rw [hna, hnb]
     exact hg
end Go.Proofs.YthojdcaojjmoaaaGreatDoor
namespace Go.Proofs.YthojdcaojjmoaaaGreatDoor
open Go.RowKit Go.Proofs.Wit
/-! two worlds -/
set_option maxRecDepth 8000 in
theorem bisimilar_c (a b : MV) (v x : Int) (w : World) (hT : Tab w) (ha : a.At w) (hb : b.At w) :
    Cn Tryz.prog 16 [a.v, .int .i64 v, b.v, .int .i64 x] w (fun r _ => ∃ y : Bool, r = .tuple #[.bool y, .int .i64 (bisE a.n a.val a.rel b.n b.val b.rel v x)] ∧ BisY a.n a.val a.rel b.n b.val b.rel v x y) := by
  refine Cn.of Tryz.func16 rfl rfl ?_
  refine gS (gR ?_)
  refine GoH.bx rfl rfl rfl rfl (fun b4 => ?_)
  refine GoH.bx rfl rfl rfl rfl (fun b6 => ?_)
  iterate 2 refine gAs ?_
  refine gE (gS (gR ?_))
  refine GoH.v (Vop.ldB rfl rfl rfl rfl Tryz.isAgg25 1 rfl Tryz.sizeOf25 rfl) ?_
  refine GoH.v (Vop.ldB rfl rfl rfl rfl Tryz.isAgg25 0 rfl Tryz.sizeOf25 rfl) ?_
  refine GoH.callM _ rfl rfl rfl rfl rfl (fun _ _ => Tryz.call35 _ _) (fun w _ hS => between_c a b w (hT.ex hS.ext) (ha.ex0 hS.ext) (hb.ex0 hS.ext)) ?_
  rintro r w1 w2 Y' hS he ⟨sv, z, rfl, ho, hz⟩
  obtain ⟨q, cap, sp, rfl, hq, hcap, hS'⟩ := gainS hS he ho
  refine ⟨_, hS', ?_⟩
  refine gMv ?_
  iterate 2 refine gEx ?_
  iterate 2 refine gAs ?_
  refine gE (gS (gS (gR ?_)))
  refine gMv ?_
  refine gBi bNe ?_
  refine gE ?_
  refine GoH.cond rfl (fun hc => ?_) (fun hc => ?_)
  ·
   have h1 : bothE a.n a.val a.rel b.n b.val b.rel ≠ 0 := by simpa using hc
   have h2 : bisE a.n a.val a.rel b.n b.val b.rel v x = bothE a.n a.val a.rel b.n b.val b.rel := if_pos h1
   refine gS (gR ?_)
   refine gMv ?_
   iterate 2 refine gAs ?_
   refine gE ?_
   refine GoH.ret Tryz.f16 Tryz.func16 rfl (fun w' hS => ?_)
   exact ⟨hS.ext, false, by rw [h2]; rfl, fun _ => rfl, fun e => absurd (h2.symm.trans e) h1⟩
  ·
   have h1 : bothE a.n a.val a.rel b.n b.val b.rel = 0 := by simpa using hc
   refine gK (gS (gS (gR ?_)))
   refine gMv ?_
   refine gBi bLt ?_
   refine gMv ?_
   refine GoH.cases (d := 23) rfl (fun hc => ?_) (fun hc => ?_)
   ·
    have h2 : bisE a.n a.val a.rel b.n b.val b.rel v x = 2 := by rw [bisE, if_neg (by simp [h1]), if_pos (.inl (by simpa using hc))]
    iterate 4 refine gNo ?_
    refine gPt ?_
    refine gMv ?_
    iterate 2 refine gNo ?_
    refine gPt ?_
    refine gMv ?_
    iterate 4 refine gNo ?_
    refine gPt ?_
    refine gE (GoH.condT rfl (gS (gR ?_)))
    iterate 2 refine gAs ?_
    refine gE ?_
    refine GoH.ret Tryz.f16 Tryz.func16 rfl (fun w' hS => ?_)
    exact ⟨hS.ext, false, by rw [h2]; rfl, fun _ => rfl, fun e => absurd (h2.symm.trans e) (by decide)⟩
   ·
    have hv0 : ¬ v < 0 := by simpa using hc
    refine gMv ?_
    refine gFp Tryz.underlying25 Tryz.sizeOf3 0 ?_
    refine GoH.v (Vop.ldo (v := .int .i64 a.n) rfl rfl rfl rfl Tryz.isAgg3 2 rfl rfl) ?_
    refine gBi bGe ?_
    refine gPf ?_
    refine gMv ?_
    refine GoH.cases (d := 29) rfl (fun hc => ?_) (fun hc => ?_)
    ·
     have h2 : bisE a.n a.val a.rel b.n b.val b.rel v x = 2 := by rw [bisE, if_neg (by simp [h1]), if_pos (.inr (.inl (by simpa using hc)))]
     iterate 2 refine gNo ?_
     refine gPt ?_
     refine gMv ?_
     iterate 4 refine gNo ?_
     refine gPt ?_
     refine gE (GoH.condT rfl (gS (gR ?_)))
     iterate 2 refine gAs ?_
     refine gE ?_
     refine GoH.ret Tryz.f16 Tryz.func16 rfl (fun w' hS => ?_)
     exact ⟨hS.ext, false, by rw [h2]; rfl, fun _ => rfl, fun e => absurd (h2.symm.trans e) (by decide)⟩
    ·
     have hv1 : ¬ a.n ≤ v := by simpa using hc
     refine gMv ?_
     refine gBi bLt ?_
     refine gPf ?_
     refine gMv ?_
     refine GoH.cases (d := 33) rfl (fun hc => ?_) (fun hc => ?_)
     ·
      have h2 : bisE a.n a.val a.rel b.n b.val b.rel v x = 2 := by rw [bisE, if_neg (by simp [h1]), if_pos (.inr (.inr (.inl (by simpa using hc))))]
      iterate 4 refine gNo ?_
      refine gPt ?_
      refine gE (GoH.condT rfl (gS (gR ?_)))
      iterate 2 refine gAs ?_
      refine gE ?_
      refine GoH.ret Tryz.f16 Tryz.func16 rfl (fun w' hS => ?_)
      exact ⟨hS.ext, false, by rw [h2]; rfl, fun _ => rfl, fun e => absurd (h2.symm.trans e) (by decide)⟩
     ·
      have hx0 : ¬ x < 0 := by simpa using hc
      refine gMv ?_
      refine gFp Tryz.underlying25 Tryz.sizeOf3 0 ?_
      refine GoH.v (Vop.ldo (v := .int .i64 b.n) rfl rfl rfl rfl Tryz.isAgg3 1 rfl rfl) ?_
      refine gBi bGe ?_
      refine gPf ?_
      refine gE ?_
      refine GoH.cond rfl (fun hc => ?_) (fun hc => ?_)
      ·
       have h2 : bisE a.n a.val a.rel b.n b.val b.rel v x = 2 := by rw [bisE, if_neg (by simp [h1]), if_pos (.inr (.inr (.inr (by simpa using hc))))]
       refine gS (gR ?_)
       iterate 2 refine gAs ?_
       refine gE ?_
       refine GoH.ret Tryz.f16 Tryz.func16 rfl (fun w' hS => ?_)
       exact ⟨hS.ext, false, by rw [h2]; rfl, fun _ => rfl, fun e => absurd (h2.symm.trans e) (by decide)⟩
      ·
       have hx1 : ¬ b.n ≤ x := by simpa using hc
       have h2 : bisE a.n a.val a.rel b.n b.val b.rel v x = 0 := by rw [bisE, if_neg (by simp [h1]), if_neg (by omega)]
       obtain ⟨v, rfl⟩ : ∃ V : Nat, v = V := ⟨v.toNat, by omega⟩
       obtain ⟨x, rfl⟩ : ∃ V : Nat, x = V := ⟨x.toNat, by omega⟩
       have hg := hz.2 h1
       have hzl := hg.len
       obtain ⟨b0, rfl⟩ : ∃ b0, q = some b0 := by
         cases q with
         | none => have := (hq rfl).1; omega
         | some b0 => exact ⟨b0, rfl⟩
       have hlt : v < z.length := by omega
       refine gK (gS (gR ?_))
       iterate 2 refine gMv ?_
       refine GoH.v (Vop.idxS rfl rfl rfl rfl rfl Tryz.underlying22 Tryz.sizeOf33 (v) ⟨rfl, hlt⟩) ?_
       refine GoH.v (Vop.ldE U 0#64 rfl rfl rfl rfl Tryz.isAgg33 0 rfl hlt) ?_
       refine gMv ?_
       refine GoH.v (Vop.bin rfl rfl rfl rfl (bShr x rfl) rfl) ?_
       refine GoH.v (Vop.bin (b := U 1#64) rfl rfl rfl rfl bAnd rfl) ?_
       refine GoH.v (Vop.bin (b := U 1#64) rfl rfl rfl rfl bEqU rfl) ?_
       iterate 2 refine gAs ?_
       refine gE ?_
       refine GoH.ret Tryz.f16 Tryz.func16 rfl (fun w' hS => ?_)
       refine ⟨hS.ext, (z.getD v 0#64).getLsbD x, ?_, fun e => absurd h2 e, fun _ z' hz' => by rw [hz.uniq hz']; rfl⟩
       rw [h2, ← in_bit]
       rfl
end Go.Proofs.YthojdcaojjmoaaaGreatDoor
