/- What calls of the program return, under the conditions that each theorem states. -/
import Derived.Test.YthojdcaojjmoaaaGreatDoorB38
import Derived.Test.YthojdcaojjmoaaaGreatDoorB39
import Derived.Test.YthojdcaojjmoaaaGreatDoorB04
import Derived.Test.YthojdcaojjmoaaaGreatDoorB11
import Derived.Test.YthojdcaojjmoaaaGreatDoorB12
import Derived.Test.YthojdcaojjmoaaaGreatDoorB37
import Derived.Test.YthojdcaojjmoaaaGreatDoorB35
import Derived.Test.YthojdcaojjmoaaaGreatDoorB27
namespace Go.Proofs.YthojdcaojjmoaaaGreatDoor
open Go.RowKit Go.Proofs.Wit
/-! the union of two models -/
theorem infoRw : (Tryz.prog.info? 22).map (fun i => (i.zero, i.size, i.bytes)) = some (some (Value.slice none 0 0), 1, 24) := by kernel_rfl
def UnionIs (w w' : World) (v : Value) (a b : MV) : Prop :=
  ∃ (mu : MV) (H : Hl), v = .tuple #[mu.v, .int .i64 0] ∧ NewH w w' H ∧ mu.In H ∧ mu.n = a.n + b.n ∧ mu.val = unV a.n.toNat a.val b.val ∧ mu.rel = unR a.n.toNat a.rel b.rel
theorem unV_take {na k : Nat} {va vb : List W64} (_h : va.length = vb.length) (hk : k < va.length) : (unV na va vb).take k ++ [va.getD k 0#64 ||| (vb.getD k 0#64 <<< na)] = (unV na va vb).take (k + 1) := by
  have h1 : k < (unV na va vb).length := by rw [unV_len]; exact hk
  rw [List.take_succ_eq_append_getElem h1]
  congr 2
  simp [unV]
set_option maxRecDepth 8000 in
theorem punion_c (a b : MV) (w : World) (ha : a.At w) (hb : b.At w) (hva : ValM a.n a.val a.rel) (hvb : ValM b.n b.val b.rel) (hr : a.rel.length = b.rel.length) (hvl : a.val.length = b.val.length) (hle : a.n + b.n ≤ 64) : Cn Tryz.prog 15 [a.v, b.v] w (fun v w' => UnionIs w w' v a b) := by
  obtain ⟨i0, hi, hz, hsz, hby⟩ := info_parts infoU
  obtain ⟨i1, hi1, hz1, hsz1, hby1⟩ := info_parts infoRw
  have hfa := hva.facts
  have hag := hva.agents
  have hna1 := hva.n1
  have hnb1 := hvb.n1
  have hra : a.rel.length = a.rows.length := by simp [MV.rel]
  have hrb : b.rel.length = b.rows.length := by simp [MV.rel]
  obtain ⟨na, hna⟩ : ∃ n : Nat, a.n = (n : Int) := ⟨a.n.toNat, by omega⟩
  obtain ⟨uv, huv⟩ : ∃ uv, uv = unV na a.val b.val := ⟨_, rfl⟩
  have huvl : uv.length = a.val.length := by rw [huv, unV_len]
  refine Cn.of Tryz.func15 rfl rfl ?_
  refine gS (gR ?_)
  refine GoH.bx rfl rfl rfl rfl (fun b2 => ?_)
  refine GoH.bx rfl rfl rfl rfl (fun b3 => ?_)
  refine GoH.alc rfl rfl rfl (fun _ => Tryz.zeroValue25 _) (fun b4 => ?_)
  refine gAs ?_
  refine gE (gS (gS (gR ?_)))
  refine GoH.v (Vop.ldB rfl rfl rfl rfl Tryz.isAgg25 2 rfl Tryz.sizeOf25 rfl) ?_
  refine GoH.callP rfl rfl rfl rfl rfl (fun _ _ => Tryz.call27 _ _) (fun w _ hS => (by exact (mcheck_c a w (ha.ex0 hS.ext)).mono (fun v w' _ e => by rw [e, checkM_zero.2 hva]))) ?_
  refine gAs ?_
  refine gE (gS (gR ?_))
  refine gMv ?_
  refine GoH.v (Vop.bin rfl rfl rfl rfl (bNeV (v := false) rfl) rfl) ?_
  refine gE (GoH.condF rfl (gK (gS (gS (gR ?_)))))
  refine GoH.v (Vop.ldB rfl rfl rfl rfl Tryz.isAgg25 1 rfl Tryz.sizeOf25 rfl) ?_
  refine GoH.callP rfl rfl rfl rfl rfl (fun _ _ => Tryz.call27 _ _) (fun w _ hS => (by exact (mcheck_c b w (hb.ex0 hS.ext)).mono (fun v w' _ e => by rw [e, checkM_zero.2 hvb]))) ?_
  refine gAs ?_
  refine gE (gS (gR ?_))
  refine gMv ?_
  refine GoH.v (Vop.bin rfl rfl rfl rfl (bNeV (v := false) rfl) rfl) ?_
  refine gE (GoH.condF rfl (gK (gS (gS (gR ?_)))))
  refine gFp Tryz.underlying25 Tryz.sizeOf23 2 ?_
  refine GoH.v (Vop.ldo (v := .slice a.ra a.rows.length a.rc) rfl rfl rfl rfl Tryz.isAgg23 2 rfl rfl) ?_
  refine gBl Tryz.underlying23 ?_
  refine gFp Tryz.underlying25 Tryz.sizeOf23 2 ?_
  refine GoH.v (Vop.ldo (v := .slice b.ra b.rows.length b.rc) rfl rfl rfl rfl Tryz.isAgg23 1 rfl rfl) ?_
  refine gBl Tryz.underlying23 ?_
  refine GoH.v (Vop.bin rfl rfl rfl rfl (bNeV (v := false) (by rw [bne_eq_false_iff_eq]; omega)) rfl) ?_
  refine gMv ?_
  refine gFp Tryz.underlying25 Tryz.sizeOf22 1 ?_
  refine GoH.v (Vop.ldo (v := .slice a.va a.val.length a.vc) rfl rfl rfl rfl Tryz.isAgg22 2 rfl rfl) ?_
  refine gBl Tryz.underlying22 ?_
  refine gFp Tryz.underlying25 Tryz.sizeOf22 1 ?_
  refine GoH.v (Vop.ldo (v := .slice b.va b.val.length b.vc) rfl rfl rfl rfl Tryz.isAgg22 1 rfl rfl) ?_
  refine gBl Tryz.underlying22 ?_
  refine GoH.v (Vop.bin rfl rfl rfl rfl (bNeV (v := false) (by rw [bne_eq_false_iff_eq]; omega)) rfl) ?_
  refine gPf ?_
  refine gE (GoH.condF rfl (gK (gS (gS (gR ?_)))))
  refine gFp Tryz.underlying25 Tryz.sizeOf3 0 ?_
  refine GoH.v (Vop.ldo (v := .int .i64 a.n) rfl rfl rfl rfl Tryz.isAgg3 2 rfl rfl) ?_
  refine gFp Tryz.underlying25 Tryz.sizeOf3 0 ?_
  refine GoH.v (Vop.ldo (v := .int .i64 b.n) rfl rfl rfl rfl Tryz.isAgg3 1 rfl rfl) ?_
  refine GoH.v (Vop.bin rfl rfl rfl rfl (bAddE (c := a.n + b.n) rfl (by omega)) rfl) ?_
  refine GoH.v (Vop.bin rfl rfl rfl rfl (bGtV (v := false) (decide_eq_false (by omega))) rfl) ?_
  refine gE (GoH.condF rfl (gK (gS (gR ?_))))
  refine gFp Tryz.underlying25 Tryz.sizeOf3 0 ?_
  refine GoH.v (Vop.ldo (v := .int .i64 a.n) rfl rfl rfl rfl Tryz.isAgg3 2 rfl rfl) ?_
  refine gFp Tryz.underlying25 Tryz.sizeOf3 0 ?_
  refine GoH.v (Vop.ldo (v := .int .i64 b.n) rfl rfl rfl rfl Tryz.isAgg3 1 rfl rfl) ?_
  refine GoH.v (Vop.bin rfl rfl rfl rfl (bAddE (c := a.n + b.n) rfl (by omega)) rfl) ?_
  refine GoH.v (Vop.bld rfl rfl rfl rfl (bld (c := [_, _, _]) Tryz.underlying25 (Szs.cons Tryz.sizeOf3 (Szs.cons Tryz.sizeOf22 (Szs.cons Tryz.sizeOf23 Szs.nil))) Tryz.zeroValue25 rfl)) ?_
  refine GoH.alc rfl rfl rfl (fun _ => Tryz.zeroValue25 _) (fun b8 => ?_)
  refine GoH.stB rfl rfl rfl rfl Tryz.sizeOf25 0 rfl rfl rfl rfl ?_
  refine gE (gS (gS (gR ?_)))
  refine gFp Tryz.underlying25 Tryz.sizeOf22 1 ?_
  refine GoH.v (Vop.ldo (v := .slice a.va a.val.length a.vc) rfl rfl rfl rfl Tryz.isAgg22 3 rfl rfl) ?_
  refine gBl Tryz.underlying22 ?_
  refine gMv ?_
  refine gE (gB ?_)
  refine GoH.addNone (ob U 33 [] []) ?_
  refine GoH.loop (σ := Nat × Option Nat × Nat × List Value) (fun z => [(2, .pointer (some ⟨b2, 0, none⟩)), (3, .pointer (some ⟨b3, 0, none⟩)), (4, .pointer (some ⟨b4, 0, none⟩)), (8, .pointer (some ⟨b8, 0, none⟩)), (59, .slice a.va a.val.length a.vc), (60, .int .i64 a.val.length), (61, .int .i64 z.1)])
    (fun z => [(z.2.1, ob U 33 (uv.take z.1) z.2.2.2), (some b8, .cells #[.int .i64 (a.n + b.n), osv z.2.1 (uv.take z.1).length z.2.2.1, .slice none 0 0] 25 (0, 0)), (some b4, .cells #[.int .i64 0, .slice none 0 0, .slice none 0 0] 25 (0, 0)), (some b3, .cells b.cs 25 (0, 0)), (some b2, .cells a.cs 25 (0, 0))])
    (fun z => z.1 ≤ a.val.length ∧ (z.2.1 = none → (uv.take z.1).length = 0 ∧ z.2.2.1 = 0) ∧ ((uv.take z.1).map U ++ z.2.2.2).length = z.2.2.1) (fun z => a.val.length - z.1) (0, none, 0, []) ⟨Nat.zero_le _, fun _ => ⟨rfl, rfl⟩, rfl⟩ ⟨rfl, rfl, rfl, rfl, rfl, rfl, rfl, trivial⟩ (List.Sublist.refl _) (fun z hI IH => ?_)
  obtain ⟨k, qV, capV, spV⟩ := z
  obtain ⟨hk, hqV, hcapV⟩ := hI
  dsimp only at hk hqV hcapV IH ⊢
  refine gS (gR ?_)
  refine gBi bLt ?_
  refine gE (gS ?_)
  refine GoH.cond rfl (fun hc => ?_) (fun hc => ?_)
  ·
   have hlt : k < a.val.length := by simpa using hc
   have hlt2 : k < b.val.length := by omega
   have htl : (uv.take k).length = k := by simp; omega
   have htk : uv.take k ++ [a.val.getD k 0#64 ||| (b.val.getD k 0#64 <<< na)] = uv.take (k + 1) := by rw [huv]; exact unV_take hvl hlt
   refine gK (gS (gB (gS (gR ?_))))
   refine gMv ?_
   refine GoH.v (Vop.idx rfl rfl rfl rfl rfl Tryz.underlying22 Tryz.sizeOf33 ⟨_, ha.val⟩ (by simp) (k) ⟨rfl, by simpa using hlt⟩) ?_
   refine GoH.v (Vop.ld rfl rfl rfl rfl Tryz.isAgg33 (fun w _ hS => (SlU.ex0 ha.val hS.ext).at (k) hlt)) ?_
   iterate 2 refine gAs ?_
   refine gE ?_
   refine GoH.drawT 12 17 mixed rfl ?_
   refine RdT.v (Vop.fldP rfl rfl rfl rfl Tryz.underlying25 rfl (by exact Tryz.sizeOf22) 1 rfl) ?_
   refine RdT.v (Vop.ldo rfl rfl rfl rfl Tryz.isAgg22 1 rfl rfl) ?_
   refine RdT.v (Vop.mv rfl rfl rfl rfl) ?_
   refine RdT.v (Vop.fldP rfl rfl rfl rfl Tryz.underlying25 rfl (by exact Tryz.sizeOf22) 1 rfl) ?_
   refine RdT.v (Vop.ldo (v := .slice b.va b.val.length b.vc) rfl rfl rfl rfl Tryz.isAgg22 3 rfl rfl) ?_
   refine RdT.v (Vop.mv rfl rfl rfl rfl) ?_
   refine RdT.v (Vop.idx rfl rfl rfl rfl rfl Tryz.underlying22 Tryz.sizeOf33 ⟨_, hb.val⟩ (by simp) (k) ⟨rfl, by simpa using hlt2⟩) ?_
   refine RdT.v (Vop.ld rfl rfl rfl rfl Tryz.isAgg33 (fun w _ hS => (SlU.ex0 hb.val hS.ext).at (k) hlt2)) ?_
   refine RdT.v (Vop.fldP rfl rfl rfl rfl Tryz.underlying25 rfl (by exact Tryz.sizeOf3) 0 rfl) ?_
   refine RdT.v (Vop.ldo (v := .int .i64 a.n) rfl rfl rfl rfl Tryz.isAgg3 4 rfl rfl) ?_
   refine RdT.v (Vop.bin rfl rfl rfl rfl (bShl na hna) rfl) ?_
   refine RdT.v (Vop.bin rfl rfl rfl rfl bOr rfl) ?_
   refine RdT.nil ?_
   refine Tl.one (d := 78) rfl ?_
   refine Mop.bsN (c := [_]) rfl rfl rfl rfl Tryz.underlying22 Tryz.sizeOf33 Tryz.zeroValue33 rfl rfl (fun b78 => ⟨by repeat (first | exact List.Sublist.refl _ | exact List.nil_sublist _ | refine List.Sublist.cons_cons _ ?_ | refine List.Sublist.cons _ ?_), ?_⟩)
   refine Tl.sw [13, 14, 15] rfl rfl ?_
   refine GoH.appE U (news := [a.val.getD k 0#64 ||| (b.val.getD k 0#64 <<< na)]) (spn := []) (xs := uv.take k) (sp := spV) (q := qV) rfl rfl rfl rfl rfl Tryz.underlying22 hi hz hsz rfl hqV 1 rfl 0 rfl hcapV rfl (by decide) (fun _ => rfl) (by simp [maxLen]; omega) (by simp [hby]; omega) (fun b' sp' cap' hlen => ?_)
   rw [htk] at hlen ⊢
   refine gFp Tryz.underlying25 Tryz.sizeOf22 1 ?_
   refine GoH.st rfl rfl rfl rfl Tryz.sizeOf22 rfl 2 rfl rfl ?_
   refine gE (gIb (gR ?_))
   refine GoH.v (Vop.bin rfl rfl rfl rfl (bAdd (by omega)) rfl) ?_
   refine gMv ?_
   refine gE ?_
   exact IH (k + 1, some b', cap', sp') _ _ ⟨hlt, (fun e => by cases e), hlen⟩ (by dsimp only; omega) ⟨rfl, rfl, rfl, rfl, rfl, rfl, rfl, trivial⟩ (.cons _ (List.Sublist.refl _))
  ·
   have hge : ¬ k < a.val.length := by simpa using hc
   obtain rfl : k = a.val.length := by omega
   rw [show uv.take a.val.length = uv from by rw [← huvl, List.take_length]] at hqV hcapV ⊢
   refine GoH.exit rfl (gS (gS (gR ?_)))
   refine gFp Tryz.underlying25 Tryz.sizeOf23 2 ?_
   refine GoH.v (Vop.ldo (v := .slice a.ra a.rows.length a.rc) rfl rfl rfl rfl Tryz.isAgg23 4 rfl rfl) ?_
   refine gBl Tryz.underlying23 ?_
   refine gMv ?_
   refine gE (gB ?_)
   refine GoH.addNone (ob Row.v 22 [] []) ?_
   refine GoH.pick (pre' := [(none, ob Row.v 22 [] []), (some b8, .cells #[.int .i64 (a.n + b.n), osv qV uv.length capV, .slice none 0 0] 25 (0, 0)), (qV, ob U 33 uv spV), (some b4, .cells #[.int .i64 0, .slice none 0 0, .slice none 0 0] 25 (0, 0)), (some b3, .cells b.cs 25 (0, 0)), (some b2, .cells a.cs 25 (0, 0))]) [0, 2, 1, 3, 4, 5] (by decide) rfl ?_
   refine GoH.loop (σ := Nat × List Row × Option Nat × Nat × List Value × Hl) (fun z => [(2, .pointer (some ⟨b2, 0, none⟩)), (3, .pointer (some ⟨b3, 0, none⟩)), (4, .pointer (some ⟨b4, 0, none⟩)), (8, .pointer (some ⟨b8, 0, none⟩)), (83, .slice a.ra a.rows.length a.rc), (84, .int .i64 a.rows.length), (85, .int .i64 z.1)])
     (fun z => [(z.2.2.1, ob Row.v 22 z.2.1 z.2.2.2.2.1), (some b8, .cells #[.int .i64 (a.n + b.n), osv qV uv.length capV, osv z.2.2.1 z.2.1.length z.2.2.2.1] 25 (0, 0)), (qV, ob U 33 uv spV), (some b4, .cells #[.int .i64 0, .slice none 0 0, .slice none 0 0] 25 (0, 0)), (some b3, .cells b.cs 25 (0, 0)), (some b2, .cells a.cs 25 (0, 0))] ++ z.2.2.2.2.2)
     (fun z => z.1 ≤ a.rows.length ∧ z.2.1.length = z.1 ∧ (z.2.2.1 = none → z.2.1.length = 0 ∧ z.2.2.2.1 = 0) ∧ (z.2.1.map Row.v ++ z.2.2.2.2.1).length = z.2.2.2.1 ∧ (∀ r ∈ z.2.1, InS U z.2.2.2.2.2 r.a r.xs ∧ r.xs.length ≤ maxLen ∧ r.xs.length ≤ r.cap) ∧ z.2.1.map Row.xs = (List.range z.1).map (fun i => unL na (a.rel.getD i []) (b.rel.getD i [])))
     (fun z => a.rows.length - z.1) (0, [], none, 0, [], []) ⟨Nat.zero_le _, rfl, fun _ => ⟨rfl, rfl⟩, rfl, by simp, rfl⟩ ⟨rfl, rfl, rfl, rfl, rfl, rfl, rfl, trivial⟩ (List.Sublist.refl _) (fun z hI IH => ?_)
   obtain ⟨k, rows, qR, capR, spR, HR⟩ := z
   obtain ⟨hk, hrl, hqR, hcapR, hrows, hxs⟩ := hI
   dsimp only at hk hrl hqR hcapR hrows hxs IH ⊢
   refine gS (gR ?_)
   refine gBi bLt ?_
   refine gE (gS ?_)
   refine GoH.cond rfl (fun hc => ?_) (fun hc => ?_)
   ·
    have hlt : k < a.rows.length := by simpa using hc
    have hlt2 : k < b.rows.length := by omega
    have hrowa := ha.row a.rows[k] (List.getElem_mem hlt)
    have hrowb := hb.row b.rows[k] (List.getElem_mem hlt2)
    have hrla : (a.rows[k].xs.length : Int) = a.n := hva.len _ (List.mem_map.2 ⟨_, List.getElem_mem hlt, rfl⟩)
    have hrlb : (b.rows[k].xs.length : Int) = b.n := hvb.len _ (List.mem_map.2 ⟨_, List.getElem_mem hlt2, rfl⟩)
    have hrda : a.rel.getD k [] = a.rows[k].xs := relD hlt
    have hrdb : b.rel.getD k [] = b.rows[k].xs := relD hlt2
    refine gK (gS (gB (gS (gR ?_))))
    refine gMv ?_
    refine GoH.v (Vop.idx rfl rfl rfl rfl rfl Tryz.underlying23 Tryz.sizeOf22 ⟨_, ha.rel⟩ (by simp) (k) ⟨rfl, by simpa using hlt⟩) ?_
    refine GoH.v (Vop.ld rfl rfl rfl rfl Tryz.isAgg22 (fun w _ hS => (SlR.ex0 ha.rel hS.ext).at (k) hlt)) ?_
    iterate 2 refine gAs ?_
    refine gE (gS (gR ?_))
    refine gMv ?_
    refine GoH.callM _ rfl rfl rfl rfl rfl (fun _ _ => Tryz.call34 _ _) (fun w _ hS => cloneRow_c a.rows[k] w (hrowa.ex0 hS.ext) (by omega)) ?_
    rintro v w1 w2 Y' hS he ho
    obtain ⟨q0, cap0, sp0, rfl, hq0, hcap0, hS'⟩ := gainO hS he ho
    refine ⟨_, hS', ?_⟩
    refine gAs ?_
    refine gE (gS (gS (gR ?_)))
    refine gFp Tryz.underlying25 Tryz.sizeOf23 2 ?_
    refine GoH.v (Vop.ldo (v := .slice b.ra b.rows.length b.rc) rfl rfl rfl rfl Tryz.isAgg23 5 rfl rfl) ?_
    refine gMv ?_
    refine GoH.v (Vop.idx rfl rfl rfl rfl rfl Tryz.underlying23 Tryz.sizeOf22 ⟨_, hb.rel⟩ (by simp) (k) ⟨rfl, by simpa using hlt2⟩) ?_
    refine GoH.v (Vop.ld rfl rfl rfl rfl Tryz.isAgg22 (fun w _ hS => (SlR.ex0 hb.rel hS.ext).at (k) hlt2)) ?_
    refine gBl Tryz.underlying22 ?_
    refine gMv ?_
    refine gE (gB ?_)
    refine GoH.loop (σ := Nat × Option Nat × Nat × List Value) (fun z => [(2, .pointer (some ⟨b2, 0, none⟩)), (3, .pointer (some ⟨b3, 0, none⟩)), (4, .pointer (some ⟨b4, 0, none⟩)), (8, .pointer (some ⟨b8, 0, none⟩)), (13, osv z.2.1 (unL na a.rows[k].xs (b.rows[k].xs.take z.1)).length z.2.2.1), (83, .slice a.ra a.rows.length a.rc), (84, .int .i64 a.rows.length), (85, .int .i64 k), (96, b.rows[k].v), (97, .int .i64 b.rows[k].xs.length), (98, .int .i64 z.1)])
      (fun z => [(z.2.1, ob U 33 (unL na a.rows[k].xs (b.rows[k].xs.take z.1)) z.2.2.2), (qR, ob Row.v 22 rows spR), (some b8, .cells #[.int .i64 (a.n + b.n), osv qV uv.length capV, osv qR rows.length capR] 25 (0, 0)), (qV, ob U 33 uv spV), (some b4, .cells #[.int .i64 0, .slice none 0 0, .slice none 0 0] 25 (0, 0)), (some b3, .cells b.cs 25 (0, 0)), (some b2, .cells a.cs 25 (0, 0))] ++ HR)
      (fun z => z.1 ≤ b.rows[k].xs.length ∧ (z.2.1 = none → (unL na a.rows[k].xs (b.rows[k].xs.take z.1)).length = 0 ∧ z.2.2.1 = 0) ∧ ((unL na a.rows[k].xs (b.rows[k].xs.take z.1)).map U ++ z.2.2.2).length = z.2.2.1) (fun z => b.rows[k].xs.length - z.1) (0, q0, cap0, sp0) ⟨Nat.zero_le _, fun e => by have := hq0 e; simpa [unL] using this, by simpa [unL] using hcap0⟩ ⟨rfl, rfl, rfl, rfl, (by simp only [unL, List.take_zero, List.map_nil, List.append_nil]; rfl), rfl, rfl, rfl, rfl, rfl, rfl, trivial⟩ (by simp only [unL, List.take_zero, List.map_nil, List.append_nil]; exact List.Sublist.refl _) (fun z hI IH2 => ?_)
    obtain ⟨j, q6, cap6, sp6⟩ := z
    obtain ⟨hj, hq6, hcap6⟩ := hI
    dsimp only at hj hq6 hcap6 IH2 ⊢
    refine gS (gR ?_)
    refine gBi bLt ?_
    refine gE (gS ?_)
    refine GoH.cond rfl (fun hc => ?_) (fun hc => ?_)
    ·
     have hjl : j < b.rows[k].xs.length := by simpa using hc
     have htl : (unL na a.rows[k].xs (b.rows[k].xs.take j)).length = a.rows[k].xs.length + j := by simp [unL]; omega
     have htk : unL na a.rows[k].xs (b.rows[k].xs.take j) ++ [b.rows[k].xs.getD j 0#64 <<< na] = unL na a.rows[k].xs (b.rows[k].xs.take (j + 1)) := by rw [List.take_succ_eq_append_getElem hjl, unL, unL, List.map_append, List.append_assoc, List.map_singleton, List.getD_eq_getElem?_getD, List.getElem?_eq_getElem hjl]; rfl
     refine gK (gS (gB (gS (gR ?_))))
     refine GoH.v (Vop.idx rfl rfl rfl rfl rfl Tryz.underlying22 Tryz.sizeOf33 ⟨_, hrowb.at_⟩ (by simp) (j) ⟨rfl, by simpa using hjl⟩) ?_
     refine GoH.v (Vop.ld rfl rfl rfl rfl Tryz.isAgg33 (fun w _ hS => (SlU.ex0 hrowb.at_ hS.ext).at (j) hjl)) ?_
     refine gAs ?_
     refine gE (gR ?_)
     iterate 2 refine gMv ?_
     refine gFp Tryz.underlying25 Tryz.sizeOf3 0 ?_
     refine GoH.v (Vop.ldo (v := .int .i64 a.n) rfl rfl rfl rfl Tryz.isAgg3 6 rfl rfl) ?_
     refine GoH.v (Vop.bin rfl rfl rfl rfl (bShl na hna) rfl) ?_
     refine GoH.bsN (c := [_]) rfl rfl rfl rfl Tryz.underlying22 Tryz.sizeOf33 Tryz.zeroValue33 rfl rfl (fun b107 => ?_)
     refine GoH.appE U (news := [b.rows[k].xs.getD j 0#64 <<< na]) (spn := []) (xs := unL na a.rows[k].xs (b.rows[k].xs.take j)) (sp := sp6) (q := q6) rfl rfl rfl rfl rfl Tryz.underlying22 hi hz hsz rfl hq6 1 rfl 0 rfl hcap6 rfl (by decide) (fun _ => rfl) (by simp [maxLen]; omega) (by simp [hby]; omega) (fun b' sp' cap' hlen => ?_)
     rw [htk] at hlen ⊢
     refine gAs ?_
     refine gE (gIb (gR ?_))
     refine GoH.v (Vop.bin rfl rfl rfl rfl (bAdd (by omega)) rfl) ?_
     refine gMv ?_
     refine gE ?_
     exact IH2 (j + 1, some b', cap', sp') _ _ ⟨hjl, (fun e => by cases e), hlen⟩ (by dsimp only; omega) ⟨rfl, rfl, rfl, rfl, rfl, rfl, rfl, rfl, rfl, rfl, rfl, trivial⟩ (.cons _ (List.Sublist.refl _))
    ·
     have hge : ¬ j < b.rows[k].xs.length := by simpa using hc
     obtain rfl : j = b.rows[k].xs.length := by omega
     rw [List.take_length] at hq6 hcap6 ⊢
     have hul : (unL na a.rows[k].xs b.rows[k].xs).length = a.rows[k].xs.length + b.rows[k].xs.length := by simp [unL]
     refine GoH.exit rfl (gR ?_)
     refine gFp Tryz.underlying25 Tryz.sizeOf23 2 ?_
     refine gLo Tryz.isAgg23 2 ?_
     refine gMv ?_
     refine GoH.bsN (c := [_]) rfl rfl rfl rfl Tryz.underlying23 Tryz.sizeOf22 Tryz.zeroValue22 rfl rfl (fun b113 => ?_)
     refine GoH.appE Row.v (news := [⟨q6.map (fun b => ⟨b, 0, none⟩), cap6, unL na a.rows[k].xs b.rows[k].xs⟩]) (spn := []) (xs := rows) (sp := spR) (q := qR) rfl rfl rfl rfl rfl Tryz.underlying23 hi1 hz1 hsz1 rfl hqR 2 rfl 0 rfl hcapR rfl (by decide) (fun _ => rfl) (by simp [maxLen]; omega) (by simp [hby1]; omega) (fun b' sp' cap' hlen => ?_)
     refine gFp Tryz.underlying25 Tryz.sizeOf23 2 ?_
     refine GoH.st rfl rfl rfl rfl Tryz.sizeOf23 rfl 3 rfl rfl ?_
     refine gE (gIb (gR ?_))
     refine GoH.v (Vop.bin rfl rfl rfl rfl (bAdd (by omega)) rfl) ?_
     refine gMv ?_
     refine gE ?_
     refine GoH.pickT (pre := [_, _, _, _, _, _, _, _]) (pre' := [_, _, _, _, _, _, _]) HR [2, 3, 4, 5, 6, 7, 1] (by decide) rfl ?_
     exact IH (k + 1, rows ++ [⟨q6.map (fun b => ⟨b, 0, none⟩), cap6, unL na a.rows[k].xs b.rows[k].xs⟩], some b', cap', sp', (q6, ob U 33 (unL na a.rows[k].xs b.rows[k].xs) sp6) :: HR) _ _ ⟨hlt, by simp [hrl], (fun e => by cases e), hlen, fun r hr => by
       rcases List.mem_append.1 hr with hr | hr
       · obtain ⟨a1, a2⟩ := hrows r hr
         exact ⟨a1.mono (List.subset_cons_self _ _), a2⟩
       · obtain rfl := List.mem_singleton.1 hr
         exact ⟨InS.at (fun e => (hq6 e).1) (List.mem_cons_self ..), by show (unL na a.rows[k].xs b.rows[k].xs).length ≤ maxLen; unfold maxLen; omega, by rw [← hcap6]; simp⟩, by rw [List.map_append, hxs, List.range_succ, List.map_append, List.map_singleton, List.map_singleton, hrda, hrdb]⟩ (by dsimp only; omega) ⟨rfl, rfl, rfl, rfl, rfl, rfl, rfl, trivial⟩ (List.Sublist.refl _)
   ·
    have hge : ¬ k < a.rows.length := by simpa using hc
    obtain rfl : k = a.rows.length := by omega
    refine GoH.exit rfl (gS (gR ?_))
    refine GoH.v (Vop.ldB rfl rfl rfl rfl Tryz.isAgg25 1 rfl Tryz.sizeOf25 rfl) ?_
    refine GoH.stB rfl rfl rfl rfl Tryz.sizeOf25 3 rfl rfl rfl rfl ?_
    refine gAs ?_
    refine gE ?_
    refine GoH.retH Tryz.f15 Tryz.func15 _ (resH.cell rfl Tryz.isAgg25 Tryz.sizeOf25 (j := 3) rfl rfl (resH.tmp rfl resH.nil)) (fun w' hS => ?_)
    refine ⟨hS.ext, ⟨a.n + b.n, qR.map (fun b => ⟨b, 0, none⟩), capR, rows, qV.map (fun b => ⟨b, 0, none⟩), capV, uv⟩, [(qR, ob Row.v 22 rows spR), (qV, ob U 33 uv spV)] ++ HR, rfl, (NewH.of hS).sub ?_, ⟨?_, ?_, ?_, ?_, ?_, ?_, ?_⟩, rfl, ?_, ?_⟩
    · exact .cons_cons _ (.cons _ (.cons_cons _ (.cons _ (.cons _ (.cons _ (List.Sublist.refl _))))))
    · exact InS.at (fun e => (hqR e).1) (List.mem_cons_self ..)
    · exact fun r hr => ⟨(hrows r hr).1.mono (List.subset_append_right [_, _] HR), (hrows r hr).2⟩
    · exact InS.at (fun e => (hqV e).1) (List.mem_cons_of_mem _ (List.mem_cons_self ..))
    · show rows.length ≤ maxLen; unfold maxLen; omega
    · show uv.length ≤ maxLen; unfold maxLen; omega
    · show rows.length ≤ capR; rw [← hcapR]; simp
    · show uv.length ≤ capV; rw [← hcapV]; simp
    · show uv = _; rw [huv, hna]; rfl
    · show rows.map Row.xs = _; rw [hxs, hna, unR, hra]; rfl
end Go.Proofs.YthojdcaojjmoaaaGreatDoor
namespace Go.Proofs.YthojdcaojjmoaaaGreatDoor
open Go.RowKit Go.Proofs.Wit
/-! few worlds, and the law DistinguishDivides -/
def FewP (m : MV) (x : Int) (b : Bool) : Prop := b = true → m.n ≤ x ∨ 64 < m.n
theorem few2_c (m : MV) (x : Int) (w : World) (hm : m.At w) : Cn Tryz.prog 5 [m.v, .int .i64 x] w (fun v _ => ∃ b, v = .bool b ∧ FewP m x b) := by
  have hlr := hm.lr
  unfold maxLen at hlr
  refine Cn.of Tryz.func5 rfl rfl ?_
  refine gS (gR ?_)
  refine GoH.bx rfl rfl rfl rfl (fun b2 => ?_)
  refine gAs ?_
  refine gE (gS (gS ?_))
  refine GoH.regionK (α := {b : Bool // b = false → m.n ≤ x ∨ 64 < m.n}) [] (fun b => [(2, .pointer (some ⟨b2, 0, none⟩)), (26, .bool b.1)]) (fun _ => [(some b2, .cells m.v.cells 25 (0, 0))]) (fun b => ?_) (fun K => ?_)
  · -- what comes behind the region
   refine gE ?_
   refine GoH.cond rfl (fun hc => ?_) (fun hc => ?_)
   ·
    refine gS (gR ?_)
    refine gAs ?_
    refine gE ?_
    refine GoH.ret Tryz.f5 Tryz.func5 rfl (fun w' hS => ?_)
    exact ⟨hS.ext, _, rfl, fun h => by cases h⟩
   ·
    have hfew := b.2 hc
    refine gK (gS (gS (gR ?_)))
    refine gAs ?_
    refine gE (gB ?_)
    refine GoH.loop (σ := Nat) (fun k => [(2, .pointer (some ⟨b2, 0, none⟩)), (5, .int .i64 k)]) (fun _ => [(some b2, .cells m.v.cells 25 (0, 0))])
      (fun k => k ≤ m.rows.length) (fun k => m.rows.length - k) 0 (Nat.zero_le _) ⟨rfl, rfl, trivial⟩ (List.Sublist.refl _) (fun k hI IH => ?_)
    refine gS (gS (gR ?_))
    refine gMv ?_
    refine gFp Tryz.underlying25 Tryz.sizeOf23 2 ?_
    refine gLo Tryz.isAgg23 0 ?_
    refine gBl Tryz.underlying23 ?_
    refine gBi bLt ?_
    refine gE ?_
    refine GoH.cond rfl (fun hc => ?_) (fun hc => ?_)
    ·
     have hlt : k < m.rows.length := by simpa using hc
     refine gK (gS (gB (gS (gR ?_))))
     refine gFp Tryz.underlying25 Tryz.sizeOf23 2 ?_
     refine gLo Tryz.isAgg23 0 ?_
     refine gMv ?_
     refine GoH.v (Vop.idx rfl rfl rfl rfl rfl Tryz.underlying23 Tryz.sizeOf22 ⟨_, hm.rel⟩ (by simp) (k) ⟨rfl, by simpa using hlt⟩) ?_
     refine GoH.v (Vop.ld rfl rfl rfl rfl Tryz.isAgg22 (fun w _ hS => (SlR.ex0 hm.rel hS.ext).at (k) hlt)) ?_
     refine gBl Tryz.underlying22 ?_
     refine gBi bGt ?_
     refine gE ?_
     refine GoH.cond rfl (fun hc => ?_) (fun hc => ?_)
     ·
      refine gS (gR ?_)
      refine gAs ?_
      refine gE ?_
      refine GoH.ret Tryz.f5 Tryz.func5 rfl (fun w' hS => ?_)
      exact ⟨hS.ext, _, rfl, fun h => by cases h⟩
     ·
      refine gK (gIb (gR ?_))
      refine gMv ?_
      refine GoH.v (Vop.bin rfl rfl rfl rfl (bAdd (by omega)) rfl) ?_
      refine gAs ?_
      refine gE ?_
      exact IH (k + 1) _ _ hlt (by omega) ⟨rfl, rfl, trivial⟩ (List.Sublist.refl _)
    ·
     refine GoH.exit rfl (gS (gR ?_))
     refine gAs ?_
     refine gE ?_
     refine GoH.ret Tryz.f5 Tryz.func5 rfl (fun w' hS => ?_)
     exact ⟨hS.ext, _, rfl, fun _ => hfew⟩
  · -- the region
   refine gR ?_
   refine gFp Tryz.underlying25 Tryz.sizeOf3 0 ?_
   refine gLo Tryz.isAgg3 0 ?_
   refine gMv ?_
   refine gBi bGt ?_
   refine gMv ?_
   refine GoH.cases (d := 10) rfl (fun hc => ?_) (fun hc => ?_)
   ·
    refine gFp Tryz.underlying25 Tryz.sizeOf3 0 ?_
    refine gLo Tryz.isAgg3 0 ?_
    refine gBi bLe ?_
    refine gPt ?_
    refine gMv ?_
    refine GoH.cases (d := 15) rfl (fun hc => ?_) (fun hc => ?_)
    ·
     iterate 4 refine gNo ?_
     refine gPt ?_
     refine gMv ?_
     iterate 4 refine gNo ?_
     refine gPt ?_
     exact K ⟨true, fun h => by cases h⟩ _ _ (by repeat (first | exact SubF.nil | refine SubF.cons rfl ?_)) (fun _ _ hS => hS)
    ·
     have h1 : 64 < m.n := by simpa using hc
     refine gFp Tryz.underlying25 Tryz.sizeOf22 1 ?_
     refine gLo Tryz.isAgg22 0 ?_
     refine gBl Tryz.underlying22 ?_
     refine gBi bGt ?_
     refine gPf ?_
     refine gMv ?_
     refine GoH.cases (d := 21) rfl (fun hc => ?_) (fun hc => ?_)
     ·
      iterate 4 refine gNo ?_
      refine gPt ?_
      exact K ⟨true, fun h => by cases h⟩ _ _ (by repeat (first | exact SubF.nil | refine SubF.cons rfl ?_)) (fun _ _ hS => hS)
     ·
      refine gFp Tryz.underlying25 Tryz.sizeOf23 2 ?_
      refine gLo Tryz.isAgg23 0 ?_
      refine gBl Tryz.underlying23 ?_
      refine gBi bGt ?_
      refine gPf ?_
      exact K ⟨_, fun _ => .inr h1⟩ _ _ (by repeat (first | exact SubF.nil | refine SubF.cons rfl ?_)) (fun _ _ hS => hS)
   ·
    have h1 : m.n ≤ x := by simpa using hc
    iterate 3 refine gNo ?_
    refine gPf ?_
    refine gMv ?_
    refine gFp Tryz.underlying25 Tryz.sizeOf22 1 ?_
    refine gLo Tryz.isAgg22 0 ?_
    refine gBl Tryz.underlying22 ?_
    refine gBi bGt ?_
    refine gPf ?_
    refine gMv ?_
    refine GoH.cases (d := 21) rfl (fun hc => ?_) (fun hc => ?_)
    ·
     iterate 4 refine gNo ?_
     refine gPt ?_
     exact K ⟨true, fun h => by cases h⟩ _ _ (by repeat (first | exact SubF.nil | refine SubF.cons rfl ?_)) (fun _ _ hS => hS)
    ·
     refine gFp Tryz.underlying25 Tryz.sizeOf23 2 ?_
     refine gLo Tryz.isAgg23 0 ?_
     refine gBl Tryz.underlying23 ?_
     refine gBi bGt ?_
     refine gPf ?_
     exact K ⟨_, fun _ => .inl h1⟩ _ _ (by repeat (first | exact SubF.nil | refine SubF.cons rfl ?_)) (fun _ _ hS => hS)
end Go.Proofs.YthojdcaojjmoaaaGreatDoor
namespace Go.Proofs.YthojdcaojjmoaaaGreatDoor
open Go.RowKit Go.Proofs.Wit
/-! the law TopHennessy -/
/-- what the guard leaves -/
structure HenG (a b : MV) (v x : Int) : Prop where
  va : ValM a.n a.val a.rel
  vb : ValM b.n b.val b.rel
  a5 : a.n ≤ 5
  b5 : b.n ≤ 5
  rl : a.rows.length = b.rows.length
  vl : a.val.length = b.val.length
  v0 : 0 ≤ v ∧ v < a.n
  x0 : 0 ≤ x ∧ x < b.n
set_option maxRecDepth 8000 in
theorem hennessy_c (a b : MV) (v x : Int) (w : World) (hT : Tab w) (ha : a.At w) (hb : b.At w) : Cn Tryz.prog 4 [a.v, b.v, .agg #[.int .i64 v, .int .i64 x]] w (fun u _ => u = .bool true) := by
  refine Cn.of Tryz.func4 rfl rfl ?_
  refine gS (gR ?_)
  refine GoH.bx rfl rfl rfl rfl (fun b3 => ?_)
  refine GoH.bx rfl rfl rfl rfl (fun b4 => ?_)
  refine GoH.bx rfl rfl rfl rfl (fun b5 => ?_)
  refine gAs ?_
  refine gE (gS (gS ?_))
  refine GoH.regionK (α := {c : Bool // c = false → HenG a b v x}) [] (fun c => [(3, .pointer (some ⟨b3, 0, none⟩)), (4, .pointer (some ⟨b4, 0, none⟩)), (5, .pointer (some ⟨b5, 0, none⟩)), (76, .bool c.1)]) (fun _ => [(some b5, .cells #[.int .i64 v, .int .i64 x] 43 (0, 0)), (some b4, .cells b.v.cells 25 (0, 0)), (some b3, .cells a.v.cells 25 (0, 0))]) (fun c => ?_) (fun K => ?_)
  · -- what comes behind the region
   refine gE ?_
   refine GoH.cond rfl (fun hc => ?_) (fun hc => ?_)
   ·
    refine gS (gR ?_)
    refine GoH.callP rfl rfl rfl rfl rfl (fun _ _ => Tryz.call10 _ _) (fun w _ hS => aawake11_c w (hT.ex hS.ext)) ?_
    refine gAs ?_
    refine gE ?_
    refine GoH.ret Tryz.f4 Tryz.func4 rfl (fun w' hS => ?_)
    exact ⟨hS.ext, rfl⟩
   ·
    obtain ⟨hva, hvb, ha5, hb5, hrl, hvl, hv0, hx0⟩ := c.2 hc
    have hna1 := hva.n1
    have hnb1 := hvb.n1
    obtain ⟨na, hna⟩ : ∃ n : Nat, a.n = (n : Int) := ⟨a.n.toNat, by omega⟩
    obtain ⟨nb, hnb⟩ : ∃ n : Nat, b.n = (n : Int) := ⟨b.n.toNat, by omega⟩
    obtain ⟨v, rfl⟩ : ∃ n : Nat, v = (n : Int) := ⟨v.toNat, by omega⟩
    obtain ⟨x, rfl⟩ : ∃ n : Nat, x = (n : Int) := ⟨x.toNat, by omega⟩
    have hra : a.rel.length = a.rows.length := by simp [MV.rel]
    have hrb : b.rel.length = b.rows.length := by simp [MV.rel]
    have hrr : a.rel.length = b.rel.length := by omega
    have hvaN : ValM (na : Int) a.val a.rel := by rw [← hna]; exact hva
    have hvbN : ValM (nb : Int) b.val b.rel := by rw [← hnb]; exact hvb
    have h2 : Two na nb a.val b.val a.rel b.rel := ⟨hvaN, hvbN, hrr, hvl, by omega⟩
    have hvu := h2.ok
    have hbE : bisE a.n a.val a.rel b.n b.val b.rel v x = 0 := by rw [bisE, bothE_zero.2 ⟨hva, hvb, hrr, hvl⟩, if_neg (by simp), if_neg (by omega)]
    obtain ⟨z, hz, hzall⟩ := h2.unZ
    have hBz : BetZ a.n a.val a.rel b.n b.val b.rel z := ⟨fun h => absurd (bothE_zero.2 ⟨hva, hvb, hrr, hvl⟩) h, fun _ => by rw [hna, hnb]; exact hz⟩
    have hdz := h2.bis_dst hz (x := v) (y := x) (by omega) (by omega)
    refine gK (gS (gR ?_))
    refine GoH.v (Vop.ldB rfl rfl rfl rfl Tryz.isAgg25 2 rfl Tryz.sizeOf25 rfl) ?_
    refine GoH.v (Vop.ldB rfl rfl rfl rfl Tryz.isAgg25 1 rfl Tryz.sizeOf25 rfl) ?_
    refine GoH.callM _ rfl rfl rfl rfl rfl (fun _ _ => Tryz.call15 _ _) (fun w _ hS => (by exact punion_c a b w (ha.ex0 hS.ext) (hb.ex0 hS.ext) hva hvb hrr hvl (by omega))) ?_
    rintro u w1 w2 Y' hS he ⟨mu, H, rfl, hnew, hin, hmn, hmv, hmr⟩
    have hmn2 : mu.n = ((na + nb : Nat) : Int) := by rw [hmn, hna, hnb]; rfl
    have hnaN : a.n.toNat = na := by omega
    rw [hnaN] at hmv hmr
    refine ⟨_, hS.gainPre (pre := []) he hnew, ?_⟩
    refine gMv ?_
    iterate 2 refine gEx ?_
    refine GoH.alc rfl rfl rfl (fun _ => Tryz.zeroValue25 _) (fun b7 => ?_)
    refine GoH.stB rfl rfl rfl rfl Tryz.sizeOf25 0 rfl rfl rfl rfl ?_
    refine gAs ?_
    refine gE (gS (gR ?_))
    refine GoH.v (Vop.ldB rfl rfl rfl rfl Tryz.isAgg25 3 rfl Tryz.sizeOf25 rfl) ?_
    refine gFp Tryz.underlying43 Tryz.sizeOf3 0 ?_
    refine gLo Tryz.isAgg3 1 ?_
    refine GoH.v (Vop.ldB rfl rfl rfl rfl Tryz.isAgg25 2 rfl Tryz.sizeOf25 rfl) ?_
    refine gFp Tryz.underlying43 Tryz.sizeOf3 1 ?_
    refine gLo Tryz.isAgg3 1 ?_
    refine GoH.callM _ rfl rfl rfl rfl rfl (fun _ _ => Tryz.call16 _ _) (fun w _ hS => (by exact bisimilar_c a b v x w (hT.ex hS.ext) (ha.ex0 hS.ext) (hb.ex0 hS.ext))) ?_
    rintro u w1 w2 Y' hS he ⟨y, rfl, hy⟩
    have hy2 : y = true ↔ dst (na + nb) mu.val mu.rel v (na + x) = none := by
      rw [hy.2 hbE z hBz, hmv, hmr]
      exact hdz
    refine ⟨_, hS.later he, ?_⟩
    rw [hbE]
    refine gMv ?_
    iterate 2 refine gEx ?_
    iterate 2 refine gAs ?_
    refine gE (gS (gS (gR ?_)))
    refine gMv ?_
    refine GoH.v (Vop.bin rfl rfl rfl rfl (bNeV (v := false) rfl) rfl) ?_
    iterate 2 refine gMv ?_
    refine GoH.v (Vop.bin rfl rfl rfl rfl (bNeV (v := false) rfl) rfl) ?_
    refine gPf ?_
    refine gE (GoH.condF rfl (gK (gS (gR ?_))))
    refine GoH.v (Vop.ldB rfl rfl rfl rfl Tryz.isAgg25 0 rfl Tryz.sizeOf25 rfl) ?_
    refine gFp Tryz.underlying43 Tryz.sizeOf3 0 ?_
    refine gLo Tryz.isAgg3 1 ?_
    refine gFp Tryz.underlying25 Tryz.sizeOf3 0 ?_
    refine GoH.v (Vop.ldo (v := .int .i64 a.n) rfl rfl rfl rfl Tryz.isAgg3 3 rfl rfl) ?_
    refine gFp Tryz.underlying43 Tryz.sizeOf3 1 ?_
    refine gLo Tryz.isAgg3 1 ?_
    refine GoH.v (Vop.bin rfl rfl rfl rfl (bAddE (c := ((na + x : Nat) : Int)) (by rw [hna]; rfl) (by omega)) rfl) ?_
    refine GoH.callM _ rfl rfl rfl rfl rfl (fun _ _ => Tryz.call14 _ _) (fun w _ hS => (by exact dFormula_c mu v ((na + x : Nat) : Int) w (hT.ex hS.ext) ((hin.mono (fun p hp => by simp [hp])).at hS))) ?_
    rintro u w1 w2 Y' hS he ⟨sv, f, e, rfl, ho, hF⟩
    obtain ⟨q, cap, sp, rfl, hq, hcap, hS'⟩ := gainN hS he ho
    have hvm : ValM mu.n mu.val mu.rel := by rw [hmn2, hmv, hmr]; exact hvu
    have hck2 : chkD mu [(v : Int), ((na + x : Nat) : Int)] = 0 := chkD_zero.2 ⟨hvm, fun y hy => by
      simp only [List.mem_cons, List.not_mem_nil, or_false] at hy
      rcases hy with rfl | rfl <;> omega⟩
    have hdp : dpD mu v ((na + x : Nat) : Int) = optR (dst (na + nb) mu.val mu.rel v (na + x)) := by rw [dpD_val hck2, hmn2]; rfl
    refine ⟨_, hS', ?_⟩
    refine gMv ?_
    iterate 2 refine gEx ?_
    iterate 2 refine gAs ?_
    refine gE (gS (gS (gR ?_)))
    refine gMv ?_
    refine gBi bEq ?_
    refine gE ?_
    refine GoH.cond rfl (fun hc => ?_) (fun hc => ?_)
    ·
     have he8 : e = 8 := by simpa using hc
     have h5 : 5 < mu.n := by
       rcases hF with h | h | h
       · have h1 := h.2.2
         rw [hdp, he8] at h1
         cases hd : dst (na + nb) mu.val mu.rel v (na + x) with
         | none => rw [hd] at h1; exact absurd h1 (by simp [optR])
         | some k => rw [hd] at h1; exact absurd h1 (by simp [optR])
       · exact h.2.2.2
       · rw [he8] at h; exact absurd h.2.1 (by decide)
     refine gS (gR ?_)
     refine gFp Tryz.underlying25 Tryz.sizeOf3 0 ?_
     refine gLo Tryz.isAgg3 1 ?_
     refine GoH.v (Vop.bin rfl rfl rfl rfl (bGtV (v := true) (decide_eq_true h5)) rfl) ?_
     refine gMv ?_
     refine GoH.callP rfl rfl rfl rfl rfl (fun _ _ => Tryz.call10 _ _) (fun w _ hS => aawake11_c w (hT.ex hS.ext)) ?_
     refine gPt ?_
     refine gAs ?_
     refine gE ?_
     refine GoH.ret Tryz.f4 Tryz.func4 rfl (fun w' hS => ?_)
     exact ⟨hS.ext, rfl⟩
    ·
     have he8 : e ≠ 8 := by simpa using hc
     refine gK (gS (gS (gR ?_)))
     refine gMv ?_
     refine gE ?_
     refine GoH.cond rfl (fun hc => ?_) (fun hc => ?_)
     ·
      have hd : dst (na + nb) mu.val mu.rel v (na + x) = none := hy2.1 hc
      have he6 : e = 6 := by
        rw [hd] at hdp
        rcases hF with h | h | h
        · rw [h.2.2, hdp]; rfl
        · rw [hdp] at h; exact absurd h.1 (by decide)
        · rw [hdp] at h; exact absurd h.1 (by decide)
      refine gS (gR ?_)
      refine gMv ?_
      refine GoH.v (Vop.bin rfl rfl rfl rfl (bEqV (v := true) (by rw [he6]; rfl)) rfl) ?_
      refine gMv ?_
      refine GoH.callP rfl rfl rfl rfl rfl (fun _ _ => Tryz.call10 _ _) (fun w _ hS => aawake11_c w (hT.ex hS.ext)) ?_
      refine gPt ?_
      refine gAs ?_
      refine gE ?_
      refine GoH.ret Tryz.f4 Tryz.func4 rfl (fun w' hS => ?_)
      exact ⟨hS.ext, rfl⟩
     ·
      obtain ⟨k, hd⟩ : ∃ k, dst (na + nb) mu.val mu.rel v (na + x) = some k := by
        cases hd : dst (na + nb) mu.val mu.rel v (na + x) with
        | none => have := hy2.2 hd; rw [this] at hc; cases hc
        | some k => exact ⟨k, rfl⟩
      rw [hd] at hdp
      obtain ⟨rfl, hne, t, ht, hf⟩ : e = 0 ∧ f ≠ [] ∧ ∃ t, TellT (na + nb) mu.val mu.rel v (na + x) k t ∧ f = bT t := by
        rcases hF with h | h | ⟨_, h1, h3, j, t, hj, ht, hf⟩
        · rw [hdp] at h; exact absurd rfl h.1
        · exact absurd h.2.2.1 he8
        · rw [hmn2, Int.toNat_natCast, Int.toNat_natCast, Int.toNat_natCast] at hj ht
          rw [hd] at hj
          obtain rfl := Option.some.inj hj
          exact ⟨h1, h3, t, ht, hf⟩
      have hmul : mu.rel.length = a.rel.length := by rw [hmr, unR_len]
      have hmuv : mu.val.length = a.val.length := by rw [hmv, unV_len]
      have hpa : Pln a.rel.length a.val.length t := by have := ht.pl; rw [hmul, hmuv] at this; exact this
      have hpb : Pln b.rel.length b.val.length t := by rw [← hrr, ← hvl]; exact hpa
      have hPa := PlnF.of hvaN ht.ok hpa hf hne
      have hPb := PlnF.of hvbN ht.ok hpb hf hne
      obtain ⟨hSa, hEa⟩ := holdS_of hPa hna
      obtain ⟨hSb, hEb⟩ := holdS_of hPb hnb
      have ht10 := hpa.mono (q' := fun op _ _ => op ≤ 10) (fun _ _ _ h => h.2)
      have hbA : (holdS a na f).getLsbD v = true := by
        rw [hSa]
        have h3 := ht.yes
        rw [hmv, hmr] at h3
        exact (h2.embA.sem t ht10 v (by omega)).1 h3
      have hbB : (holdS b nb f).getLsbD x = false := by
        rw [hSb]
        have h3 := ht.no
        rw [hmv, hmr] at h3
        cases h4 : (semT nb b.val b.rel t).getLsbD x with
        | false => rfl
        | true => have := (h2.embB.sem t ht10 x (by omega)).2 h4; rw [h3] at this; cases this
      have hfm : f.length ≤ maxLen := by rw [hf]; have := bT_le t; unfold maxLen; omega
      refine gK (gS (gS (gR ?_)))
      refine gMv ?_
      refine GoH.v (Vop.bin rfl rfl rfl rfl (bNeV (v := false) rfl) rfl) ?_
      refine gE (GoH.condF rfl (gK (gS (gR ?_))))
      refine GoH.v (Vop.ldB rfl rfl rfl rfl Tryz.isAgg25 4 rfl Tryz.sizeOf25 rfl) ?_
      refine gFp Tryz.underlying43 Tryz.sizeOf3 0 ?_
      refine gLo Tryz.isAgg3 2 ?_
      refine gMv ?_
      refine GoH.callP rfl rfl rfl rfl rfl (fun _ _ => Tryz.call17 _ _) (fun w _ hS => (by have := pat_c a na v (q.map (fun b => ⟨b, 0, none⟩)) cap f w (ha.ex0 hS.ext) hna (by omega) (faAt hS 0 rfl (fun e => (hq e).1)) hfm hEa; rw [hbA] at this; exact this)) ?_
      refine gMv ?_
      iterate 2 refine gEx ?_
      iterate 2 refine gAs ?_
      refine gE (gS (gR ?_))
      refine GoH.v (Vop.ldB rfl rfl rfl rfl Tryz.isAgg25 3 rfl Tryz.sizeOf25 rfl) ?_
      refine gFp Tryz.underlying43 Tryz.sizeOf3 1 ?_
      refine gLo Tryz.isAgg3 2 ?_
      refine gMv ?_
      refine GoH.callP rfl rfl rfl rfl rfl (fun _ _ => Tryz.call17 _ _) (fun w _ hS => (by have := pat_c b nb x (q.map (fun b => ⟨b, 0, none⟩)) cap f w (hb.ex0 hS.ext) hnb (by omega) (faAt hS 0 rfl (fun e => (hq e).1)) hfm hEb; rw [hbB] at this; exact this)) ?_
      refine gMv ?_
      iterate 2 refine gEx ?_
      iterate 2 refine gAs ?_
      refine gE (gS (gR ?_))
      refine gMv ?_
      refine GoH.v (Vop.bin rfl rfl rfl rfl (bEqV (v := true) rfl) rfl) ?_
      iterate 2 refine gMv ?_
      refine GoH.v (Vop.bin rfl rfl rfl rfl (bEqV (v := true) rfl) rfl) ?_
      refine gPt ?_
      iterate 2 refine gMv ?_
      refine gPt ?_
      refine gMv ?_
      refine GoH.cases (d := 153) rfl (fun hc => ?_) (fun hc => ?_)
      ·
       refine gMv ?_
       refine gUn uNot ?_
       refine gPt ?_
       refine gMv ?_
       refine GoH.cases (d := 157) rfl (fun hc => ?_) (fun hc => ?_)
       ·
        refine GoH.callP rfl rfl rfl rfl rfl (fun _ _ => Tryz.call10 _ _) (fun w _ hS => aawake11_c w (hT.ex hS.ext)) ?_
        refine gPt ?_
        refine gAs ?_
        refine gE ?_
        refine GoH.ret Tryz.f4 Tryz.func4 rfl (fun w' hS => ?_)
        exact ⟨hS.ext, rfl⟩
       ·
        exact absurd hc (by simp)
      ·
       exact absurd hc (by simp)
  · -- the region
   refine gR ?_
   refine GoH.v (Vop.ldB rfl rfl rfl rfl Tryz.isAgg25 2 rfl Tryz.sizeOf25 rfl) ?_
   refine GoH.callM _ rfl rfl rfl rfl rfl (fun _ _ => Tryz.call5 _ _) (fun w _ hS => few2_c a 5 w (ha.ex0 hS.ext)) ?_
   rintro u w1 w2 Y' hS he ⟨y1, rfl, hfa⟩
   refine ⟨_, hS.later he, ?_⟩
   refine gUn uNot ?_
   refine gMv ?_
   refine GoH.cases (d := 20) rfl (fun hc => ?_) (fun hc => ?_)
   ·
    iterate 3 refine gNo ?_
    refine gPt ?_
    refine gMv ?_
    iterate 3 refine gNo ?_
    refine gPt ?_
    refine gMv ?_
    iterate 3 refine gNo ?_
    refine gPt ?_
    refine gMv ?_
    iterate 7 refine gNo ?_
    refine gPt ?_
    refine gMv ?_
    iterate 7 refine gNo ?_
    refine gPt ?_
    refine gMv ?_
    iterate 3 refine gNo ?_
    refine gPt ?_
    refine gMv ?_
    iterate 5 refine gNo ?_
    refine gPt ?_
    refine gMv ?_
    iterate 3 refine gNo ?_
    refine gPt ?_
    refine gMv ?_
    iterate 5 refine gNo ?_
    refine gPt ?_
    exact K ⟨true, fun h => by cases h⟩ _ _ (by repeat (first | exact SubF.nil | refine SubF.cons rfl ?_)) (fun _ _ hS => hS)
   ·
    have hf1 : a.n ≤ 5 ∨ 64 < a.n := hfa (by simpa using hc)
    refine GoH.v (Vop.ldB rfl rfl rfl rfl Tryz.isAgg25 1 rfl Tryz.sizeOf25 rfl) ?_
    refine GoH.callM _ rfl rfl rfl rfl rfl (fun _ _ => Tryz.call5 _ _) (fun w _ hS => few2_c b 5 w (hb.ex0 hS.ext)) ?_
    rintro u w1 w2 Y' hS he ⟨y2, rfl, hfb⟩
    refine ⟨_, hS.later he, ?_⟩
    refine gUn uNot ?_
    refine gPf ?_
    refine gMv ?_
    refine GoH.cases (d := 25) rfl (fun hc => ?_) (fun hc => ?_)
    ·
     iterate 3 refine gNo ?_
     refine gPt ?_
     refine gMv ?_
     iterate 3 refine gNo ?_
     refine gPt ?_
     refine gMv ?_
     iterate 7 refine gNo ?_
     refine gPt ?_
     refine gMv ?_
     iterate 7 refine gNo ?_
     refine gPt ?_
     refine gMv ?_
     iterate 3 refine gNo ?_
     refine gPt ?_
     refine gMv ?_
     iterate 5 refine gNo ?_
     refine gPt ?_
     refine gMv ?_
     iterate 3 refine gNo ?_
     refine gPt ?_
     refine gMv ?_
     iterate 5 refine gNo ?_
     refine gPt ?_
     exact K ⟨true, fun h => by cases h⟩ _ _ (by repeat (first | exact SubF.nil | refine SubF.cons rfl ?_)) (fun _ _ hS => hS)
    ·
     have hf2 : b.n ≤ 5 ∨ 64 < b.n := hfb (by simpa using hc)
     refine GoH.v (Vop.ldB rfl rfl rfl rfl Tryz.isAgg25 2 rfl Tryz.sizeOf25 rfl) ?_
     refine GoH.callP rfl rfl rfl rfl rfl (fun _ _ => Tryz.call6 _ _) (fun w _ hS => (by exact rmCheck_c a w (ha.ex0 hS.ext))) ?_
     refine gBi bNe ?_
     refine gPf ?_
     refine gMv ?_
     refine GoH.cases (d := 30) rfl (fun hc => ?_) (fun hc => ?_)
     ·
      iterate 3 refine gNo ?_
      refine gPt ?_
      refine gMv ?_
      iterate 7 refine gNo ?_
      refine gPt ?_
      refine gMv ?_
      iterate 7 refine gNo ?_
      refine gPt ?_
      refine gMv ?_
      iterate 3 refine gNo ?_
      refine gPt ?_
      refine gMv ?_
      iterate 5 refine gNo ?_
      refine gPt ?_
      refine gMv ?_
      iterate 3 refine gNo ?_
      refine gPt ?_
      refine gMv ?_
      iterate 5 refine gNo ?_
      refine gPt ?_
      exact K ⟨true, fun h => by cases h⟩ _ _ (by repeat (first | exact SubF.nil | refine SubF.cons rfl ?_)) (fun _ _ hS => hS)
     ·
      have hva := checkM_zero.1 (by simpa using hc : checkM a.n a.val a.rel = 0)
      have hna64 := hva.n64
      refine GoH.v (Vop.ldB rfl rfl rfl rfl Tryz.isAgg25 1 rfl Tryz.sizeOf25 rfl) ?_
      refine GoH.callP rfl rfl rfl rfl rfl (fun _ _ => Tryz.call6 _ _) (fun w _ hS => (by exact rmCheck_c b w (hb.ex0 hS.ext))) ?_
      refine gBi bNe ?_
      refine gPf ?_
      refine gMv ?_
      refine GoH.cases (d := 35) rfl (fun hc => ?_) (fun hc => ?_)
      ·
       iterate 7 refine gNo ?_
       refine gPt ?_
       refine gMv ?_
       iterate 7 refine gNo ?_
       refine gPt ?_
       refine gMv ?_
       iterate 3 refine gNo ?_
       refine gPt ?_
       refine gMv ?_
       iterate 5 refine gNo ?_
       refine gPt ?_
       refine gMv ?_
       iterate 3 refine gNo ?_
       refine gPt ?_
       refine gMv ?_
       iterate 5 refine gNo ?_
       refine gPt ?_
       exact K ⟨true, fun h => by cases h⟩ _ _ (by repeat (first | exact SubF.nil | refine SubF.cons rfl ?_)) (fun _ _ hS => hS)
      ·
       have hvb := checkM_zero.1 (by simpa using hc : checkM b.n b.val b.rel = 0)
       have hnb64 := hvb.n64
       refine gFp Tryz.underlying25 Tryz.sizeOf23 2 ?_
       refine GoH.v (Vop.ldo (v := .slice a.ra a.rows.length a.rc) rfl rfl rfl rfl Tryz.isAgg23 2 rfl rfl) ?_
       refine gBl Tryz.underlying23 ?_
       refine gFp Tryz.underlying25 Tryz.sizeOf23 2 ?_
       refine GoH.v (Vop.ldo (v := .slice b.ra b.rows.length b.rc) rfl rfl rfl rfl Tryz.isAgg23 1 rfl rfl) ?_
       refine gBl Tryz.underlying23 ?_
       refine gBi bNe ?_
       refine gPf ?_
       refine gMv ?_
       refine GoH.cases (d := 44) rfl (fun hc => ?_) (fun hc => ?_)
       ·
        iterate 7 refine gNo ?_
        refine gPt ?_
        refine gMv ?_
        iterate 3 refine gNo ?_
        refine gPt ?_
        refine gMv ?_
        iterate 5 refine gNo ?_
        refine gPt ?_
        refine gMv ?_
        iterate 3 refine gNo ?_
        refine gPt ?_
        refine gMv ?_
        iterate 5 refine gNo ?_
        refine gPt ?_
        exact K ⟨true, fun h => by cases h⟩ _ _ (by repeat (first | exact SubF.nil | refine SubF.cons rfl ?_)) (fun _ _ hS => hS)
       ·
        have hrl : a.rows.length = b.rows.length := by simp at hc; omega
        refine gFp Tryz.underlying25 Tryz.sizeOf22 1 ?_
        refine GoH.v (Vop.ldo (v := .slice a.va a.val.length a.vc) rfl rfl rfl rfl Tryz.isAgg22 2 rfl rfl) ?_
        refine gBl Tryz.underlying22 ?_
        refine gFp Tryz.underlying25 Tryz.sizeOf22 1 ?_
        refine GoH.v (Vop.ldo (v := .slice b.va b.val.length b.vc) rfl rfl rfl rfl Tryz.isAgg22 1 rfl rfl) ?_
        refine gBl Tryz.underlying22 ?_
        refine gBi bNe ?_
        refine gPf ?_
        refine gMv ?_
        refine GoH.cases (d := 53) rfl (fun hc => ?_) (fun hc => ?_)
        ·
         iterate 3 refine gNo ?_
         refine gPt ?_
         refine gMv ?_
         iterate 5 refine gNo ?_
         refine gPt ?_
         refine gMv ?_
         iterate 3 refine gNo ?_
         refine gPt ?_
         refine gMv ?_
         iterate 5 refine gNo ?_
         refine gPt ?_
         exact K ⟨true, fun h => by cases h⟩ _ _ (by repeat (first | exact SubF.nil | refine SubF.cons rfl ?_)) (fun _ _ hS => hS)
        ·
         have hvl : a.val.length = b.val.length := by simp at hc; omega
         refine gFp Tryz.underlying43 Tryz.sizeOf3 0 ?_
         refine gLo Tryz.isAgg3 0 ?_
         refine gBi bLt ?_
         refine gPf ?_
         refine gMv ?_
         refine GoH.cases (d := 58) rfl (fun hc => ?_) (fun hc => ?_)
         ·
          iterate 5 refine gNo ?_
          refine gPt ?_
          refine gMv ?_
          iterate 3 refine gNo ?_
          refine gPt ?_
          refine gMv ?_
          iterate 5 refine gNo ?_
          refine gPt ?_
          exact K ⟨true, fun h => by cases h⟩ _ _ (by repeat (first | exact SubF.nil | refine SubF.cons rfl ?_)) (fun _ _ hS => hS)
         ·
          have hv0 : 0 ≤ v := by simpa using hc
          refine gFp Tryz.underlying43 Tryz.sizeOf3 0 ?_
          refine gLo Tryz.isAgg3 0 ?_
          refine gFp Tryz.underlying25 Tryz.sizeOf3 0 ?_
          refine GoH.v (Vop.ldo (v := .int .i64 a.n) rfl rfl rfl rfl Tryz.isAgg3 2 rfl rfl) ?_
          refine gBi bGe ?_
          refine gPf ?_
          refine gMv ?_
          refine GoH.cases (d := 65) rfl (fun hc => ?_) (fun hc => ?_)
          ·
           iterate 3 refine gNo ?_
           refine gPt ?_
           refine gMv ?_
           iterate 5 refine gNo ?_
           refine gPt ?_
           exact K ⟨true, fun h => by cases h⟩ _ _ (by repeat (first | exact SubF.nil | refine SubF.cons rfl ?_)) (fun _ _ hS => hS)
          ·
           have hv1 : v < a.n := by simpa using hc
           refine gFp Tryz.underlying43 Tryz.sizeOf3 1 ?_
           refine gLo Tryz.isAgg3 0 ?_
           refine gBi bLt ?_
           refine gPf ?_
           refine gMv ?_
           refine GoH.cases (d := 70) rfl (fun hc => ?_) (fun hc => ?_)
           ·
            iterate 5 refine gNo ?_
            refine gPt ?_
            exact K ⟨true, fun h => by cases h⟩ _ _ (by repeat (first | exact SubF.nil | refine SubF.cons rfl ?_)) (fun _ _ hS => hS)
           ·
            have hx0 : 0 ≤ x := by simpa using hc
            refine gFp Tryz.underlying43 Tryz.sizeOf3 1 ?_
            refine gLo Tryz.isAgg3 0 ?_
            refine gFp Tryz.underlying25 Tryz.sizeOf3 0 ?_
            refine GoH.v (Vop.ldo (v := .int .i64 b.n) rfl rfl rfl rfl Tryz.isAgg3 1 rfl rfl) ?_
            refine gBi bGe ?_
            refine gPf ?_
            exact K ⟨decide (x ≥ b.n), fun h => ⟨hva, hvb, by omega, by omega, hrl, hvl, ⟨hv0, hv1⟩, hx0, by simpa using h⟩⟩ _ _ (by repeat (first | exact SubF.nil | refine SubF.cons rfl ?_)) (fun _ _ hS => hS)
end Go.Proofs.YthojdcaojjmoaaaGreatDoor
