/- What calls of the program return, under the conditions that each theorem states. -/
import Derived.Test.YtlihcmknfdckdaaDoorR05
import Derived.Test.YtlihcmknfdckdaaDoorR03
import Derived.Test.YtlihcmknfdckdaaDoorR02
import Derived.Test.YtlihcmknfdckdaaDoorR15
import Derived.Test.YtlihcmknfdckdaaDoorR35
import Derived.Test.YtlihcmknfdckdaaDoorR04
import Derived.Test.YtlihcmknfdckdaaDoorR06
import Derived.Test.YtlihcmknfdckdaaDoorR20
namespace Go.Proofs.YtlihcmknfdckdaaDoor
open Go.RowKit Go.Proofs.Wit
/-! the laws of chapter 15, 4 -/
theorem rHasL_c (a : Option Addr) (ca : Nat) (r : List W64) (l : Int) (w : World) (ha : SlU w a r) (hl : r.length ≤ maxLen) :
    Cn Tryd.prog 50 [.slice a r.length ca, .int .i64 l] w (fun v _ => v = .bool (hasL r l)) := by
  refine Cn.of Tryd.func50 rfl rfl ?_
  refine gS (gR ?_); refine gAs ?_; refine gE (gS (gR ?_)); refine gMv ?_
  refine GoH.callM _ rfl rfl rfl rfl rfl (fun _ _ => Tryd.call48 _ _) (fun w _ hS => rProps_c l w) ?_
  rintro v w1 w2 Y' hS he ho
  obtain ⟨q, cap, sp, rfl, hq, hcap, hS'⟩ := gainP hS he ho
  refine ⟨_, hS', ?_⟩
  refine gMv ?_
  iterate 2 refine gEx ?_
  iterate 2 refine gAs ?_
  refine gE (gS (gS (gR ?_))); refine gMv ?_; refine gBi bNe ?_; refine gMv ?_
  refine GoH.cases (d := 15) rfl (fun hc => ?_) (fun hc => ?_)
  ·
   have h1 : propsE l ≠ 0 := by simpa using hc
   iterate 3 refine gNo ?_
   refine gPt ?_; refine gE (GoH.condT rfl (gS (gR ?_))); refine gAs ?_; refine gE ?_
   refine GoH.ret Tryd.f50 Tryd.func50 rfl (fun w' hS => ?_)
   exact ⟨hS.ext, by rw [hasL, beq_false_of_ne h1]; rfl⟩
  ·
   have h1 : propsE l = 0 := by simpa using hc
   have hpl := propsL_len l
   refine gMv ?_
   refine GoH.callP rfl rfl rfl rfl rfl (fun _ _ => Tryd.call88 _ _) (fun w _ hS => rValid_c a ca r w (ha.ex0 hS.ext) hl) ?_
   refine gUn uNot ?_; refine gPf ?_; refine gE ?_
   refine GoH.cond rfl (fun hc => ?_) (fun hc => ?_)
   ·
    have h2 : checkR r.length r ≠ 0 := by simpa using hc
    refine gS (gR ?_); refine gAs ?_; refine gE ?_
    refine GoH.ret Tryd.f50 Tryd.func50 rfl (fun w' hS => ?_)
    exact ⟨hS.ext, by rw [hasL, beq_false_of_ne h2, Bool.and_false]; rfl⟩
   ·
    have h2 : checkR r.length r = 0 := by simpa using hc
    refine gK (gS (gS (gR ?_))); refine gAs ?_; refine gE (gB ?_)
    refine GoH.loop (σ := Nat) (fun k => [(0, .slice a r.length ca), (5, osv q (propsL l).length cap), (7, .int .i64 k)]) (fun _ => [(q, ob I64 3 (propsL l) sp)])
      (fun k => k ≤ (propsL l).length ∧ ∀ (i : Nat) (p : Int), i < k → (propsL l)[i]? = some p → hasB r p = true) (fun k => (propsL l).length - k) 0 ⟨Nat.zero_le _, fun i p hi => by omega⟩ ⟨rfl, rfl, rfl, trivial⟩ (List.Sublist.refl _) (fun k hI IH => ?_)
    obtain ⟨hk, hall⟩ := hI
    refine gS (gS (gR ?_))
    iterate 2 refine gMv ?_
    refine gBl Tryd.underlying70 ?_; refine gBi bLt ?_; refine gE ?_
    refine GoH.cond rfl (fun hc => ?_) (fun hc => ?_)
    ·
     have hlt : k < (propsL l).length := by simpa using hc
     obtain ⟨bq, rfl⟩ : ∃ bq, q = some bq := by
       cases q with
       | none => have := (hq rfl).1; omega
       | some bq => exact ⟨bq, rfl⟩
     have hgd : (propsL l).getD k 0 = (propsL l)[k] := by simp [List.getD_eq_getElem?_getD, hlt]
     refine gK (gS (gB (gS (gR ?_))))
     iterate 3 refine gMv ?_
     refine GoH.v (Vop.idxS rfl rfl rfl rfl rfl Tryd.underlying70 Tryd.sizeOf3 (k) ⟨rfl, hlt⟩) ?_
     refine GoH.v (Vop.ldE I64 0 rfl rfl rfl rfl Tryd.isAgg3 0 rfl hlt) ?_
     refine GoH.callP rfl rfl rfl rfl rfl (fun _ _ => Tryd.call89 _ _) (fun w _ hS => (by exact rHas_c a ca r ((propsL l).getD k 0) w (ha.ex0 hS.ext) hl)) ?_
     refine gUn uNot ?_; refine gE ?_
     refine GoH.cond rfl (fun hc => ?_) (fun hc => ?_)
     ·
      have h3 : hasB r (propsL l)[k] = false := by rw [← hgd]; simpa using hc
      refine gS (gR ?_); refine gAs ?_; refine gE ?_
      refine GoH.ret Tryd.f50 Tryd.func50 rfl (fun w' hS => ?_)
      exact ⟨hS.ext, by rw [hasL, show (propsL l).all (hasB r) = false from by rw [List.all_eq_false]; exact ⟨_, List.getElem_mem hlt, by rw [h3]; simp⟩, Bool.and_false]; rfl⟩
     ·
      have h3 : hasB r (propsL l)[k] = true := by rw [← hgd]; simpa using hc
      refine gK (gIb (gR ?_)); refine gMv ?_
      refine GoH.v (Vop.bin rfl rfl rfl rfl (bAdd (by omega)) rfl) ?_
      refine gAs ?_; refine gE ?_
      exact IH (k + 1) _ _ ⟨hlt, fun i p hi hp => by
      by_cases e : i = k
      · subst e; rw [List.getElem?_eq_getElem hlt] at hp; cases hp; exact h3
      · exact hall i p (by omega) hp⟩ (by omega) ⟨rfl, rfl, rfl, trivial⟩ (List.Sublist.refl _)
    ·
     have hge : ¬ k < (propsL l).length := by simpa using hc
     obtain rfl : k = (propsL l).length := by omega
     refine GoH.exit rfl (gS (gR ?_))
     refine gAs ?_; refine gE ?_
     refine GoH.ret Tryd.f50 Tryd.func50 rfl (fun w' hS => ?_)
     exact ⟨hS.ext, by rw [hasL, h1, h2, show (propsL l).all (hasB r) = true from by
     rw [List.all_eq_true]
     intro p hp
     obtain ⟨i, hi, e⟩ := List.mem_iff_getElem.1 hp
     exact hall i p hi (by rw [List.getElem?_eq_getElem hi, e])]; rfl⟩
theorem rHasR_c (r : Row) (l : Int) (w : World) (ha : r.At w) : Cn Tryd.prog 50 [r.v, .int .i64 l] w (fun v _ => v = .bool (hasL r.xs l)) := rHasL_c r.a r.cap r.xs l w ha.at_ ha.len
theorem rIn15_c (m : MV) (l : Int) (w : World) (hm : m.At w) : Cn Tryd.prog 21 [m.v, .int .i64 l] w (fun v _ => v = .bool (inM m.n m.val m.rel l)) := by
  have hlr := hm.lr
  unfold maxLen at hlr
  refine Cn.of Tryd.func21 rfl rfl ?_
  refine gS (gR ?_)
  refine GoH.bx rfl rfl rfl rfl (fun b2 => ?_)
  refine gAs ?_; refine gE (gS (gS (gR ?_))); refine gMv ?_
  refine GoH.callM _ rfl rfl rfl rfl rfl (fun _ _ => Tryd.call48 _ _) (fun w _ hS => rProps_c l w) ?_
  rintro v w1 w2 Y' hS he ho
  obtain ⟨q, cap, sp, rfl, hq, hcap, hS'⟩ := gainP hS he ho
  refine ⟨_, hS', ?_⟩
  refine gMv ?_
  iterate 2 refine gEx ?_
  iterate 2 refine gAs ?_
  refine gE (gS (gR ?_)); refine gMv ?_; refine gBi bNe ?_; refine gMv ?_
  refine GoH.cases (d := 15) rfl (fun hc => ?_) (fun hc => ?_)
  ·
   have h1 : propsE l ≠ 0 := by simpa using hc
   iterate 3 refine gNo ?_
   refine gPt ?_; refine gE (GoH.condT rfl (gS (gR ?_))); refine gAs ?_; refine gE ?_
   refine GoH.ret Tryd.f21 Tryd.func21 rfl (fun w' hS => ?_)
   exact ⟨hS.ext, by rw [inM, beq_false_of_ne h1]; rfl⟩
  ·
   have h1 : propsE l = 0 := by simpa using hc
   refine GoH.v (Vop.ldB rfl rfl rfl rfl Tryd.isAgg35 1 rfl Tryd.sizeOf35 rfl) ?_
   refine GoH.callP rfl rfl rfl rfl rfl (fun _ _ => Tryd.call49 _ _) (fun w _ hS => rmCheck_c m w (hm.ex0 hS.ext)) ?_
   refine gBi bNe ?_; refine gPf ?_; refine gE ?_
   refine GoH.cond rfl (fun hc => ?_) (fun hc => ?_)
   ·
    have h2 : checkM m.n m.val m.rel ≠ 0 := by simpa using hc
    refine gS (gR ?_); refine gAs ?_; refine gE ?_
    refine GoH.ret Tryd.f21 Tryd.func21 rfl (fun w' hS => ?_)
    exact ⟨hS.ext, by rw [inM, beq_false_of_ne h2, Bool.and_false]; rfl⟩
   ·
    have h2 : checkM m.n m.val m.rel = 0 := by simpa using hc
    refine gK (gS (gS (gR ?_))); refine gAs ?_; refine gE (gB ?_)
    refine GoH.loop (σ := Nat) (fun k => [(1, .int .i64 l), (2, .pointer (some ⟨b2, 0, none⟩)), (7, .int .i64 k)]) (fun _ => [(some b2, .cells m.cs 35 (0, 0))])
      (fun k => k ≤ m.rows.length ∧ ∀ (i : Nat) (r : Row), i < k → m.rows[i]? = some r → hasL r.xs l = true) (fun k => m.rows.length - k) 0 ⟨Nat.zero_le _, fun i r hi => by omega⟩ ⟨rfl, rfl, rfl, trivial⟩ (.cons _ (List.Sublist.refl _)) (fun k hI IH => ?_)
    obtain ⟨hk, hall⟩ := hI
    refine gS (gS (gR ?_)); refine gMv ?_; refine gFp Tryd.underlying35 Tryd.sizeOf33 2 ?_
    refine GoH.v (Vop.ldo (v := .slice m.ra m.rows.length m.rc) rfl rfl rfl rfl Tryd.isAgg33 0 rfl rfl) ?_
    refine gBl Tryd.underlying33 ?_; refine gBi bLt ?_; refine gE ?_
    refine GoH.cond rfl (fun hc => ?_) (fun hc => ?_)
    ·
     have hlt : k < m.rows.length := by simpa using hc
     have hrow := hm.row m.rows[k] (List.getElem_mem hlt)
     refine gK (gS (gB (gS (gR ?_)))); refine gFp Tryd.underlying35 Tryd.sizeOf33 2 ?_
     refine GoH.v (Vop.ldo (v := .slice m.ra m.rows.length m.rc) rfl rfl rfl rfl Tryd.isAgg33 0 rfl rfl) ?_
     refine gMv ?_
     refine GoH.v (Vop.idx rfl rfl rfl rfl rfl Tryd.underlying33 Tryd.sizeOf32 ⟨_, hm.rel⟩ (by simp) (k) ⟨rfl, by simpa using hlt⟩) ?_
     refine GoH.v (Vop.ld rfl rfl rfl rfl Tryd.isAgg32 (fun w _ hS => (SlR.ex0 hm.rel hS.ext).at (k) hlt)) ?_
     refine gMv ?_
     refine GoH.callP rfl rfl rfl rfl rfl (fun _ _ => Tryd.call50 _ _) (fun w _ hS => (by exact rHasR_c m.rows[k] l w (hrow.ex0 hS.ext))) ?_
     refine gUn uNot ?_; refine gE ?_
     refine GoH.cond rfl (fun hc => ?_) (fun hc => ?_)
     ·
      have h3 : hasL m.rows[k].xs l = false := by simpa using hc
      refine gS (gR ?_); refine gAs ?_; refine gE ?_
      refine GoH.ret Tryd.f21 Tryd.func21 rfl (fun w' hS => ?_)
      exact ⟨hS.ext, by rw [inM, MV.rel, List.all_map, show m.rows.all ((fun r => hasL r l) ∘ Row.xs) = false from by rw [List.all_eq_false]; exact ⟨_, List.getElem_mem hlt, by show ¬ hasL m.rows[k].xs l = true; rw [h3]; simp⟩, Bool.and_false]; rfl⟩
     ·
      have h3 : hasL m.rows[k].xs l = true := by simpa using hc
      refine gK (gIb (gR ?_)); refine gMv ?_
      refine GoH.v (Vop.bin rfl rfl rfl rfl (bAdd (by omega)) rfl) ?_
      refine gAs ?_; refine gE ?_
      exact IH (k + 1) _ _ ⟨hlt, fun i r hi hr => by
      by_cases e : i = k
      · subst e; rw [List.getElem?_eq_getElem hlt] at hr; cases hr; exact h3
      · exact hall i r (by omega) hr⟩ (by omega) ⟨rfl, rfl, rfl, trivial⟩ (List.Sublist.refl _)
    ·
     have hge : ¬ k < m.rows.length := by simpa using hc
     obtain rfl : k = m.rows.length := by omega
     refine GoH.exit rfl (gS (gR ?_))
     refine gAs ?_; refine gE ?_
     refine GoH.ret Tryd.f21 Tryd.func21 rfl (fun w' hS => ?_)
     exact ⟨hS.ext, by rw [inM, h1, h2, MV.rel, List.all_map, show m.rows.all ((fun r => hasL r l) ∘ Row.xs) = true from by
     rw [List.all_eq_true]
     intro r hr
     obtain ⟨i, hi, e⟩ := List.mem_iff_getElem.1 hr
     exact hall i r hi (by rw [List.getElem?_eq_getElem hi, e])]; rfl⟩
end Go.Proofs.YtlihcmknfdckdaaDoor
namespace Go.Proofs.YtlihcmknfdckdaaDoor
open Go.RowKit Go.Proofs.Wit
/-- the letters that lie in the array -/
structure Fmt (x u : W64) (L : List UInt8) (i : Nat) : Prop where
  len : L.length = 65
  lo : 50 ≤ i
  hi : i ≤ 65
  sm : u.toNat < 16 ^ (i - 49)
  txt : hexN x.toNat = hexN u.toNat ++ L.drop i
end Go.Proofs.YtlihcmknfdckdaaDoor
namespace Go.Proofs.YtlihcmknfdckdaaDoor
open Go.RowKit Go.Proofs.Wit
/-- relations of n worlds, as a list of lists in memory -/
structure RelAt (w : World) (n : Nat) (ra : Option Addr) (rows : List Row) : Prop where
  rel : SlR w ra rows
  row : ∀ r ∈ rows, r.At w ∧ Val r.xs ∧ r.xs.length = n
  len : rows.length ≤ 20
end Go.Proofs.YtlihcmknfdckdaaDoor
namespace Go.Proofs.YtlihcmknfdckdaaDoor
open Go.RowKit Go.Proofs.Wit
/-! bisimulations -/
theorem relD {m : MV} {i : Nat} (h : i < m.rows.length) : m.rel.getD i [] = m.rows[i].xs := by simp [MV.rel, List.getD_eq_getElem?_getD, h]
end Go.Proofs.YtlihcmknfdckdaaDoor
namespace Go.Proofs.YtlihcmknfdckdaaDoor
open Go.RowKit Go.Proofs.Wit
/-! the reference on partitions -/
theorem rBit_c (s : W64) (i : Nat) (w : World) : Cn Tryd.prog 145 [U s, .int .i64 i] w (fun v _ => v = .bool (s.getLsbD i)) := by
  refine Cn.of Tryd.func145 rfl rfl ?_
  refine gS (gR ?_); refine gAs ?_; refine gE (gS (gR ?_)); refine gMv ?_
  refine GoH.v (Vop.bin rfl rfl rfl rfl (bGeV (v := true) (decide_eq_true (by omega))) rfl) ?_
  iterate 2 refine gMv ?_
  refine gBi bLt ?_; refine gPt ?_; refine gMv ?_
  refine GoH.cases (d := 11) rfl (fun hc => ?_) (fun hc => ?_)
  ·
   have hlt : i < 64 := by simp at hc; omega
   iterate 2 refine gMv ?_
   refine GoH.v (Vop.bin rfl rfl rfl rfl (bShr i rfl) rfl) ?_
   refine GoH.v (Vop.bin (b := U 2#64) rfl rfl rfl rfl bRem2 rfl) ?_
   refine GoH.v (Vop.bin (b := U 1#64) rfl rfl rfl rfl bEqU rfl) ?_
   refine gPt ?_; refine gAs ?_; refine gE ?_
   refine GoH.ret Tryd.f145 Tryd.func145 rfl (fun w' hS => ?_)
   exact ⟨hS.ext, by rw [← in_bit]; rfl⟩
  ·
   have hge : ¬ i < 64 := by simp at hc; omega
   iterate 5 refine gNo ?_
   refine gPf ?_; refine gAs ?_; refine gE ?_
   refine GoH.ret Tryd.f145 Tryd.func145 rfl (fun w' hS => ?_)
   refine ⟨hS.ext, ?_⟩
   cases h : s.getLsbD i with
   | false => rfl
   | true => exact absurd (bit_lt h) hge
end Go.Proofs.YtlihcmknfdckdaaDoor
namespace Go.Proofs.YtlihcmknfdckdaaDoor
open Go.RowKit Go.Proofs.Wit
/-! the reference's partition with groups -/
set_option maxRecDepth 4000 in
theorem rgroup_c (m : MV) (n g : Nat) (w : World) (hm : m.At w) (hv : ValM m.n m.val m.rel) (hn : m.n = (n : Int)) (hg : 1 ≤ g ∧ g < 2 ^ m.rows.length) :
    Cn Tryd.prog 139 [m.v, .int .i64 g, .bool true] w (fun v w' => Own w w' v (meetL n m.rel g)) := by
  obtain ⟨i0, hi, hz, hsz, hby⟩ := info_parts infoU
  have hn64 := hv.n64
  have hn1 := hv.n1
  have hag := hv.agents
  have hrl : m.rel.length = m.rows.length := by simp [MV.rel]
  have hp4 : (2 : Nat) ^ m.rows.length ≤ 2 ^ 4 := Nat.pow_le_pow_right (by decide) (by omega)
  have h16 : (2 : Nat) ^ 4 = 16 := by decide
  refine Cn.of Tryd.func139 rfl rfl ?_
  refine gS (gR ?_)
  refine GoH.bx rfl rfl rfl rfl (fun b3 => ?_)
  refine gAs ?_; refine gE (gS (gS (gR ?_)))
  refine GoH.v (Vop.ldB rfl rfl rfl rfl Tryd.isAgg35 0 rfl Tryd.sizeOf35 rfl) ?_
  refine GoH.callP rfl rfl rfl rfl rfl (fun _ _ => Tryd.call49 _ _) (fun w _ hS => (by exact (rmCheck_c m w (hm.ex0 hS.ext)).mono (fun v w' _ e => by rw [e, checkM_zero.2 hv]))) ?_
  refine GoH.v (Vop.bin rfl rfl rfl rfl (bNeV (v := false) rfl) rfl) ?_
  iterate 2 refine gMv ?_
  refine GoH.v (Vop.bin rfl rfl rfl rfl (bLtV (v := false) (decide_eq_false (by omega))) rfl) ?_
  refine gPf ?_
  iterate 2 refine gMv ?_
  refine gFp Tryd.underlying35 Tryd.sizeOf33 2 ?_
  refine GoH.v (Vop.ldo (v := .slice m.ra m.rows.length m.rc) rfl rfl rfl rfl Tryd.isAgg33 0 rfl rfl) ?_
  refine gBl Tryd.underlying33 ?_
  refine GoH.v (Vop.bin rfl rfl rfl rfl (bShlN (x := 1) (j := m.rows.length) rfl (by omega) (by omega)) rfl) ?_
  refine GoH.v (Vop.bin rfl rfl rfl rfl (bGeV (v := false) (decide_eq_false (by omega))) rfl) ?_
  refine gPf ?_; refine gE (GoH.condF rfl (gK (gS (gR ?_)))); refine gAs ?_; refine gE (gS (gS (gR ?_))); refine gAs ?_; refine gE (gB ?_)
  refine GoH.addNone (ob U 37 [] []) ?_
  refine GoH.loop (σ := Nat × Option Nat × Nat × List Value) (fun z => [(1, .int .i64 g), (2, .bool true), (3, .pointer (some ⟨b3, 0, none⟩)), (7, osv z.2.1 ((meetL n m.rel g).take z.1).length z.2.2.1), (8, .int .i64 z.1)]) (fun z => [(z.2.1, ob U 37 ((meetL n m.rel g).take z.1) z.2.2.2), (some b3, .cells m.v.cells 35 (0, 0))])
    (fun z => z.1 ≤ n ∧ (z.2.1 = none → ((meetL n m.rel g).take z.1).length = 0 ∧ z.2.2.1 = 0) ∧ (((meetL n m.rel g).take z.1).map U ++ z.2.2.2).length = z.2.2.1) (fun z => n - z.1) (0, none, 0, [])
    ⟨Nat.zero_le _, fun _ => ⟨rfl, rfl⟩, rfl⟩ ⟨rfl, rfl, rfl, rfl, rfl, trivial⟩ (List.Sublist.refl _) (fun z hI IH => ?_)
  obtain ⟨k, q, cap, sp⟩ := z
  obtain ⟨hk, hq, hcap⟩ := hI
  dsimp only at hk hq hcap IH ⊢
  refine gS (gS (gR ?_)); refine gMv ?_; refine gFp Tryd.underlying35 Tryd.sizeOf3 0 ?_
  refine GoH.v (Vop.ldo (v := .int .i64 m.n) rfl rfl rfl rfl Tryd.isAgg3 1 rfl rfl) ?_
  refine gBi bLt ?_; refine gE ?_
  refine GoH.cond rfl (fun hc => ?_) (fun hc => ?_)
  ·
   have hlt : k < n := by have : (k : Int) < m.n := by simpa using hc
                          omega
   have hml : (meetL n m.rel g).length = n := meetTo_len
   have hlk : ((meetL n m.rel g).take k).length = k := by rw [List.length_take]; omega
   refine gK (gS (gB (gS (gR ?_))))
   refine GoH.v (Vop.asg (v := U 0#64) rfl rfl rfl rfl) ?_
   refine gE (gS (gS (gR ?_))); refine gMv ?_; refine gE ?_
   refine GoH.cond rfl (fun hc => ?_) (fun hc => ?_)
   ·
    refine gR ?_; refine gFp Tryd.underlying35 Tryd.sizeOf3 0 ?_
    refine GoH.v (Vop.ldo (v := .int .i64 m.n) rfl rfl rfl rfl Tryd.isAgg3 1 rfl rfl) ?_
    refine GoH.callP rfl rfl rfl rfl rfl (fun _ _ => Tryd.call22 _ _) (fun w _ hS => (by have := rmAll_c n w (by omega); rw [← hn] at this; exact this)) ?_
    refine gAs ?_; refine gE (gS (gS (gR ?_))); refine gAs ?_; refine gE (gB ?_)
    refine GoH.loop (σ := Nat) (fun j => [(1, .int .i64 g), (2, .bool true), (3, .pointer (some ⟨b3, 0, none⟩)), (7, osv q ((meetL n m.rel g).take k).length cap), (8, .int .i64 k), (9, U (meetW n m.rel g k j)), (10, .int .i64 j)]) (fun _ => [(q, ob U 37 ((meetL n m.rel g).take k) sp), (some b3, .cells m.v.cells 35 (0, 0))])
      (fun j => j ≤ m.rows.length) (fun j => m.rows.length - j) 0 (Nat.zero_le _) ⟨rfl, rfl, rfl, rfl, rfl, rfl, rfl, trivial⟩ (List.Sublist.refl _) (fun j hj IH2 => ?_)
    refine gS (gS (gR ?_)); refine gMv ?_; refine gFp Tryd.underlying35 Tryd.sizeOf33 2 ?_
    refine GoH.v (Vop.ldo (v := .slice m.ra m.rows.length m.rc) rfl rfl rfl rfl Tryd.isAgg33 1 rfl rfl) ?_
    refine gBl Tryd.underlying33 ?_; refine gBi bLt ?_; refine gE ?_
    refine GoH.cond rfl (fun hc => ?_) (fun hc => ?_)
    ·
     have hjl : j < m.rows.length := by simpa using hc
     have hrow := hm.row m.rows[j] (List.getElem_mem hjl)
     have hrn : m.rows[j].xs.length = n := by have := hv.len _ (List.mem_map.2 ⟨m.rows[j], List.getElem_mem hjl, rfl⟩ : m.rows[j].xs ∈ m.rel); omega
     have hkr : k < m.rows[j].xs.length := by omega
     have hsc := meetW_succ (n := n) (rel := m.rel) (g := g) (w := k) (k := j)
     rw [relD hjl] at hsc
     refine gK (gS (gB (gS (gS (gR ?_)))))
     iterate 2 refine gMv ?_
     refine GoH.v (Vop.bin rfl rfl rfl rfl (bShrN (j := j) rfl (by omega) (by omega)) rfl) ?_
     refine GoH.v (Vop.bin rfl rfl rfl rfl bRem2N rfl) ?_
     refine gBi bEq ?_; refine gMv ?_
     refine GoH.cases (d := 48) rfl (fun hc => ?_) (fun hc => ?_)
     ·
      have hb1 : gb g j = 1 := Int.ofNat_inj.1 (show ((gb g j : Nat) : Int) = ((1 : Nat) : Int) from beq_iff_eq.1 hc)
      rw [if_pos hb1] at hsc
      refine gMv ?_; refine gPt ?_; refine gE ?_
      refine GoH.cond rfl (fun hc => ?_) (fun hc => ?_)
      ·
       refine gR ?_; refine gMv ?_; refine gFp Tryd.underlying35 Tryd.sizeOf33 2 ?_
       refine GoH.v (Vop.ldo (v := .slice m.ra m.rows.length m.rc) rfl rfl rfl rfl Tryd.isAgg33 1 rfl rfl) ?_
       refine gMv ?_
       refine GoH.v (Vop.idx rfl rfl rfl rfl rfl Tryd.underlying33 Tryd.sizeOf32 ⟨_, hm.rel⟩ (by simp) (j) ⟨rfl, by simpa using hjl⟩) ?_
       refine GoH.v (Vop.ld rfl rfl rfl rfl Tryd.isAgg32 (fun w _ hS => (SlR.ex0 hm.rel hS.ext).at (j) hjl)) ?_
       refine gMv ?_
       refine GoH.v (Vop.idx rfl rfl rfl rfl rfl Tryd.underlying32 Tryd.sizeOf37 ⟨_, hrow.at_⟩ (by simp) (k) ⟨rfl, by simpa using hkr⟩) ?_
       refine GoH.v (Vop.ld rfl rfl rfl rfl Tryd.isAgg37 (fun w _ hS => (SlU.ex0 hrow.at_ hS.ext).at (k) hkr)) ?_
       refine gBi bAnd ?_; refine gAs ?_; refine gE (gS (gR ?_))
       iterate 2 refine gMv ?_
       refine GoH.v (Vop.bin rfl rfl rfl rfl (bShrN (j := j) rfl (by omega) (by omega)) rfl) ?_
       refine GoH.v (Vop.bin rfl rfl rfl rfl bRem2N rfl) ?_
       refine GoH.v (Vop.bin rfl rfl rfl rfl (bEqV (v := true) (show ((((gb g j : Nat) : Int)) == 1) = true by rw [hb1]; rfl)) rfl) ?_
       iterate 2 refine gMv ?_
       refine gUn uNot ?_; refine gPt ?_; refine gE ?_
       refine GoH.cond rfl (fun hc => ?_) (fun hc => ?_)
       ·
        cases ‹(!true) = true›
       ·
        refine gK (gIb (gR ?_)); refine gMv ?_
        refine GoH.v (Vop.bin rfl rfl rfl rfl (bAdd (by omega)) rfl) ?_
        refine gAs ?_; refine gE ?_
        exact IH2 (j + 1) _ _ hjl (by omega) ⟨rfl, rfl, rfl, rfl, rfl, (by rw [hsc]; rfl), rfl, trivial⟩ (List.Sublist.refl _)
      ·
       cases ‹(true) = false›
     ·
      have hb0 : gb g j = 0 := by
        rcases gb_cases g j with h | h
        · exact h
        · exact absurd (show ((gb g j : Nat) : Int) = 1 by rw [h]; rfl) (beq_eq_false_iff_ne.1 hc)
      rw [if_neg (by rw [hb0]; decide)] at hsc
      refine gNo ?_; refine gPf ?_; refine gE (GoH.condF rfl (gK (gS (gR ?_))))
      iterate 2 refine gMv ?_
      refine GoH.v (Vop.bin rfl rfl rfl rfl (bShrN (j := j) rfl (by omega) (by omega)) rfl) ?_
      refine GoH.v (Vop.bin rfl rfl rfl rfl bRem2N rfl) ?_
      refine GoH.v (Vop.bin rfl rfl rfl rfl (bEqV (v := false) (show ((((gb g j : Nat) : Int)) == 1) = false by rw [hb0]; rfl)) rfl) ?_
      refine gMv ?_
      iterate 2 refine gNo ?_
      refine gPf ?_; refine gE (GoH.condF rfl (gK (gIb (gR ?_)))); refine gMv ?_
      refine GoH.v (Vop.bin rfl rfl rfl rfl (bAdd (by omega)) rfl) ?_
      refine gAs ?_; refine gE ?_
      exact IH2 (j + 1) _ _ hjl (by omega) ⟨rfl, rfl, rfl, rfl, rfl, (by rw [hsc]; rfl), rfl, trivial⟩ (List.Sublist.refl _)
    ·
     have hge : ¬ j < m.rows.length := by simpa using hc
     obtain rfl : j = m.rows.length := by omega
     have hnx : meetW n m.rel g k m.rows.length = (meetL n m.rel g)[k]'(by omega) := by simp [meetL, meetTo, hrl]
     rw [hnx]
     refine GoH.exit rfl (gR ?_)
     iterate 2 refine gMv ?_
     refine GoH.bs1 (v := U ((meetL n m.rel g)[k]'(by omega))) rfl rfl rfl rfl Tryd.underlying32 hi hz hsz rfl rfl (fun b82 => ?_)
     refine GoH.appE U (xs := (meetL n m.rel g).take k) (sp := sp) (news := [(meetL n m.rel g)[k]'(by omega)]) (spn := []) rfl rfl rfl rfl rfl Tryd.underlying32 hi hz hsz rfl hq 1 rfl 0 rfl hcap rfl (by decide) (fun _ => rfl) (by unfold maxLen; rw [hlk]; omega) (by rw [hby, hlk]; omega) (fun b' sp' cap' hlen2 => ?_)
     rw [← List.take_succ_eq_append_getElem (by omega : k < (meetL n m.rel g).length)] at *
     refine gAs ?_; refine gE (gIb (gR ?_)); refine gMv ?_
     refine GoH.v (Vop.bin rfl rfl rfl rfl (bAdd (by omega)) rfl) ?_
     refine gAs ?_; refine gE ?_
     exact IH (k + 1, some b', cap', sp') _ _ ⟨hlt, (fun e => by cases e), hlen2⟩ (by dsimp only; omega) ⟨rfl, rfl, rfl, rfl, rfl, trivial⟩ (.cons _ (List.Sublist.refl _))
   ·
    cases hc
  ·
   have hge : ¬ k < n := by have : ¬ (k : Int) < m.n := by simpa using hc
                            omega
   obtain rfl : k = n := by omega
   have htk : (meetL k m.rel g).take k = meetL k m.rel g := List.take_of_length_le (by rw [meetL, meetTo_len]; exact Nat.le_refl _)
   rw [htk] at hq hcap ⊢
   refine GoH.exit rfl (gS (gR ?_))
   refine gMv ?_; refine gAs ?_; refine gE ?_
   refine GoH.ret Tryd.f139 Tryd.func139 rfl (fun w' hS => ?_)
   exact ⟨hS.ext, q, cap, sp, rfl, hq, hcap, fun b' hb => by subst hb; exact ⟨hS.fresh (j := 0) rfl, hS.get (j := 0) rfl⟩⟩
theorem rmeetM_c (m : MV) (n g : Nat) (w : World) (hm : m.At w) (hv : ValM m.n m.val m.rel) (hn : m.n = (n : Int)) (hg : 1 ≤ g ∧ g < 2 ^ m.rows.length) :
    Cn Tryd.prog 122 [m.v, .int .i64 g] w (fun v w' => Own w w' v (meetL n m.rel g)) := by
  refine Cn.of Tryd.func122 rfl rfl ?_
  refine gS (gR ?_)
  refine GoH.bx rfl rfl rfl rfl (fun b2 => ?_)
  refine gAs ?_; refine gE (gS (gR ?_))
  refine GoH.v (Vop.ldB rfl rfl rfl rfl Tryd.isAgg35 0 rfl Tryd.sizeOf35 rfl) ?_
  refine gMv ?_
  refine GoH.callM _ rfl rfl rfl rfl rfl (fun _ _ => Tryd.call139 _ _) (fun w _ hS => rgroup_c m n g w (hm.ex0 hS.ext) hv hn hg) ?_
  rintro v w1 w2 Y' hS he ho
  obtain ⟨q, cap, sp, rfl, hq, hcap, hS'⟩ := gainO hS he ho
  refine ⟨_, hS', ?_⟩
  refine gAs ?_; refine gE ?_
  refine GoH.ret Tryd.f122 Tryd.func122 rfl (fun w' hS => ?_)
  exact ⟨hS.ext, q, cap, sp, rfl, hq, hcap, fun b' hb => by subst hb; exact ⟨hS.fresh (j := 0) rfl, hS.get (j := 0) rfl⟩⟩
end Go.Proofs.YtlihcmknfdckdaaDoor
namespace Go.Proofs.YtlihcmknfdckdaaDoor
open Go.RowKit Go.Proofs.Wit
theorem shl_frO {op : Int} (h : 11 ≤ op ∧ op ≤ 17) : ∃ j : Nat, op - 11 + 1 = j ∧ j ≤ 7 ∧ frO op = ((1 * 2 ^ j : Nat) : Int) := by
  refine ⟨(op - 10).toNat, by omega, by omega, ?_⟩
  have : op = 11 ∨ op = 12 ∨ op = 13 ∨ op = 14 ∨ op = 15 ∨ op = 16 ∨ op = 17 := by omega
  rcases this with rfl | rfl | rfl | rfl | rfl | rfl | rfl <;> rfl
theorem rfrag_c (op : Int) (w : World) (ho : 1 ≤ op ∧ op ≤ 21) : Cn Tryd.prog 125 [.int .i64 op] w (fun v _ => v = .int .i64 (frO op)) := by
  refine Cn.of Tryd.func125 rfl rfl ?_
  refine gS (gR ?_); refine gAs ?_; refine gE (gS (gS (gR ?_))); refine gMv ?_; refine gBi bEq ?_; refine gMv ?_
  refine GoH.cases (d := 5) rfl (fun hc => ?_) (fun hc => ?_)
  ·
   have h9 : op = 9 := by simpa using hc
   iterate 2 refine gNo ?_
   refine gPt ?_; refine gE (GoH.condT rfl (gS (gR ?_))); refine gAs ?_; refine gE ?_
   refine GoH.ret Tryd.f125 Tryd.func125 rfl (fun w' hS => ?_)
   exact ⟨hS.ext, by subst h9; rfl⟩
  ·
   have h9 : op ≠ 9 := by simpa using hc
   refine gMv ?_; refine gBi bEq ?_; refine gPf ?_; refine gE ?_
   refine GoH.cond rfl (fun hc => ?_) (fun hc => ?_)
   ·
    have h10 : op = 10 := by simpa using hc
    refine gS (gR ?_); refine gAs ?_; refine gE ?_
    refine GoH.ret Tryd.f125 Tryd.func125 rfl (fun w' hS => ?_)
    exact ⟨hS.ext, by subst h10; rfl⟩
   ·
    have h10 : op ≠ 10 := by simpa using hc
    refine gK (gS (gS (gR ?_))); refine gMv ?_; refine gBi bGe ?_; refine gMv ?_
    refine GoH.cases (d := 11) rfl (fun hc => ?_) (fun hc => ?_)
    ·
     have h11 : 11 ≤ op := by simpa using hc
     refine gMv ?_; refine gBi bLe ?_; refine gPt ?_; refine gE ?_
     refine GoH.cond rfl (fun hc => ?_) (fun hc => ?_)
     ·
      have h17 : op ≤ 17 := by simpa using hc
      obtain ⟨j, hj, hj7, hfr⟩ := shl_frO ⟨h11, h17⟩
      refine gS (gR ?_); refine gMv ?_
      refine GoH.v (Vop.bin rfl rfl rfl rfl (bSub (by omega)) rfl) ?_
      refine GoH.v (Vop.bin rfl rfl rfl rfl (bAdd (by omega)) rfl) ?_
      refine GoH.v (Vop.bin rfl rfl rfl rfl (bShlN (x := 1) (j := j) hj (by have := Nat.pow_le_pow_right (n := 2) (by decide) hj7; omega) (by omega)) rfl) ?_
      refine gAs ?_; refine gE ?_
      refine GoH.ret Tryd.f125 Tryd.func125 rfl (fun w' hS => ?_)
      exact ⟨hS.ext, by rw [hfr]; rfl⟩
     ·
      have h17 : ¬ op ≤ 17 := by simpa using hc
      refine gK (gS (gS (gR ?_))); refine gMv ?_; refine gBi bGe ?_; refine gE ?_
      refine GoH.cond rfl (fun hc => ?_) (fun hc => ?_)
      ·
       refine gS (gR ?_); refine gAs ?_; refine gE ?_
       refine GoH.ret Tryd.f125 Tryd.func125 rfl (fun w' hS => ?_)
       refine ⟨hS.ext, ?_⟩
       have : op = 18 ∨ op = 19 ∨ op = 20 ∨ op = 21 := by omega
       rcases this with rfl | rfl | rfl | rfl <;> rfl
      ·
       have : ¬ 18 ≤ op := by simpa using hc
       refine gK (gS (gR ?_)); refine gAs ?_; refine gE ?_
       refine GoH.ret Tryd.f125 Tryd.func125 rfl (fun w' hS => ?_)
       exact absurd ho (by omega)
    ·
     have h11 : ¬ 11 ≤ op := by simpa using hc
     iterate 2 refine gNo ?_
     refine gPf ?_; refine gE (GoH.condF rfl (gK (gS (gS (gR ?_))))); refine gMv ?_; refine gBi bGe ?_; refine gE ?_
     refine GoH.cond rfl (fun hc => ?_) (fun hc => ?_)
     ·
      have : 18 ≤ op := by simpa using hc
      refine gS (gR ?_); refine gAs ?_; refine gE ?_
      refine GoH.ret Tryd.f125 Tryd.func125 rfl (fun w' hS => ?_)
      exact absurd this (by omega)
     ·
      refine gK (gS (gR ?_)); refine gAs ?_; refine gE ?_
      refine GoH.ret Tryd.f125 Tryd.func125 rfl (fun w' hS => ?_)
      refine ⟨hS.ext, ?_⟩
      have : op = 1 ∨ op = 2 ∨ op = 3 ∨ op = 4 ∨ op = 5 ∨ op = 6 ∨ op = 7 ∨ op = 8 := by omega
      rcases this with rfl | rfl | rfl | rfl | rfl | rfl | rfl | rfl <;> rfl
theorem compF_nodes (f : List NV) : NodesOk (compF f) := by
  by_cases h : chkF f = 0
  · exact (compF_ok h).nodes
  · rw [compF, if_pos h]; intro i hi; exact absurd hi (Nat.not_lt_zero _)
set_option maxRecDepth 4000 in
theorem rfrags_c (a : Option Addr) (ca : Nat) (f : List NV) (w : World) (ha : FA w a f) (hl : f.length ≤ maxLen) : Cn Tryd.prog 96 [.slice a f.length ca] w (fun v _ => v = .int .i64 (frgL (compF f))) := by
  have hcl := compF_le f
  have hno := (compF_nodes f).opm
  refine Cn.of Tryd.func96 rfl rfl ?_
  refine gS (gR ?_); refine gAs ?_; refine gE (gS (gR ?_)); refine gMv ?_
  refine GoH.callM _ rfl rfl rfl rfl rfl (fun _ _ => Tryd.call54 _ _) (fun w _ hS => rcompact_c a ca f w (ha.ex0 hS.ext) hl) ?_
  rintro v w1 w2 Y' hS he ho
  rw [subF_top] at ho
  obtain ⟨q, cap, sp, rfl, hq, hcap, hS'⟩ := gainN hS he ho
  refine ⟨_, hS', ?_⟩
  refine gAs ?_; refine gE (gS (gR ?_)); refine gAs ?_; refine gE (gS (gS (gR ?_))); refine gAs ?_; refine gE (gB ?_)
  refine GoH.loop (σ := Nat) (fun k => [(3, osv q (compF f).length cap), (4, .int .i64 (frgL ((compF f).take k))), (5, .int .i64 k)]) (fun _ => [(q, obN 80 (compF f) sp)]) (fun k => k ≤ (compF f).length) (fun k => (compF f).length - k) 0 (Nat.zero_le _) ⟨rfl, rfl, rfl, trivial⟩ (List.Sublist.refl _) (fun k hk IH => ?_)
  refine gS (gS (gR ?_))
  iterate 2 refine gMv ?_
  refine gBl Tryd.underlying23 ?_; refine gBi bLt ?_; refine gE ?_
  refine GoH.cond rfl (fun hc => ?_) (fun hc => ?_)
  ·
   have hm : k < (compF f).length := by simpa using hc
   obtain ⟨b, rfl⟩ : ∃ b, q = some b := by
     cases q with
     | none => have := (hq rfl).1; omega
     | some b => exact ⟨b, rfl⟩
   have h1 := frgL_lt ((compF f).take k)
   have h2 := frN_lt (compF f)[k]
   have h3 := frN_eq (compF f)[k]
   have h4 := hno _ (List.getElem_mem hm)
   have ht : frgL ((compF f).take (k + 1)) = frgL ((compF f).take k) ||| frN (compF f)[k] := by rw [List.take_succ_eq_append_getElem hm, frgL_snoc]
   refine gK (gS (gB (gR ?_)))
   iterate 3 refine gMv ?_
   refine GoH.v (Vop.idxS rfl rfl rfl rfl rfl Tryd.underlying23 Tryd.sizeOf80 (k) ⟨rfl, hm⟩) ?_
   refine GoH.v (Vop.fldA (a := some ⟨b, 0, none⟩) (o := (k) * 6) rfl rfl rfl rfl Tryd.underlying80 rfl Tryd.sizeOf3 ((k) * 6 + 0) rfl) ?_
   refine GoH.v (Vop.ld rfl rfl rfl rfl Tryd.isAgg3 (fun w _ hS => Sl.fld (enc := NV.cells) (sz := 6) (a := some ⟨b, 0, none⟩) (Sl.blk (hS.get (j := 0) rfl)) (fun _ => rfl) hm rfl)) ?_
   refine GoH.callP rfl rfl rfl rfl rfl (fun _ _ => Tryd.call125 _ _) (fun w _ hS => (by have := rfrag_c (compF f)[k].op w h4; rw [← h3] at this; exact this)) ?_
   refine GoH.v (Vop.bin rfl rfl rfl rfl (bOrI h1 h2 ht) rfl) ?_
   refine gAs ?_; refine gE (gIb (gR ?_)); refine gMv ?_
   refine GoH.v (Vop.bin rfl rfl rfl rfl (bAdd (by omega)) rfl) ?_
   refine gAs ?_; refine gE ?_
   exact IH (k + 1) _ _ hm (by omega) ⟨rfl, rfl, rfl, trivial⟩ (List.Sublist.refl _)
  ·
   have hge : ¬ k < (compF f).length := by simpa using hc
   obtain rfl : k = (compF f).length := by omega
   rw [List.take_length]
   refine GoH.exit rfl (gS (gR ?_))
   refine gMv ?_; refine gAs ?_; refine gE ?_
   refine GoH.ret Tryd.f96 Tryd.func96 rfl (fun w' hS => ?_)
   exact ⟨hS.ext, rfl⟩
set_option maxRecDepth 4000 in
theorem rfacts05_c (a : Option Addr) (ca : Nat) (f : List NV) (w : World) (ha : FA w a f) (hl : f.length ≤ maxLen) : Cn Tryd.prog 52 [.slice a f.length ca] w (fun v _ => v = .int .i64 (orL ftN (compF f))) := by
  have hcl := compF_le f
  have hno := (compF_nodes f).fld
  refine Cn.of Tryd.func52 rfl rfl ?_
  refine gS (gR ?_); refine gAs ?_; refine gE (gS (gR ?_)); refine gMv ?_
  refine GoH.callM _ rfl rfl rfl rfl rfl (fun _ _ => Tryd.call54 _ _) (fun w _ hS => rcompact_c a ca f w (ha.ex0 hS.ext) hl) ?_
  rintro v w1 w2 Y' hS he ho
  rw [subF_top] at ho
  obtain ⟨q, cap, sp, rfl, hq, hcap, hS'⟩ := gainN hS he ho
  refine ⟨_, hS', ?_⟩
  refine gAs ?_; refine gE (gS (gR ?_)); refine gAs ?_; refine gE (gS (gS (gR ?_))); refine gAs ?_; refine gE (gB ?_)
  refine GoH.loop (σ := Nat) (fun k => [(3, osv q (compF f).length cap), (4, .int .i64 (orL ftN ((compF f).take k))), (5, .int .i64 k)]) (fun _ => [(q, obN 80 (compF f) sp)]) (fun k => k ≤ (compF f).length) (fun k => (compF f).length - k) 0 (Nat.zero_le _) ⟨rfl, rfl, rfl, trivial⟩ (List.Sublist.refl _) (fun k hk IH => ?_)
  refine gS (gS (gR ?_))
  iterate 2 refine gMv ?_
  refine gBl Tryd.underlying23 ?_; refine gBi bLt ?_; refine gE ?_
  refine GoH.cond rfl (fun hc => ?_) (fun hc => ?_)
  ·
   have hm : k < (compF f).length := by simpa using hc
   obtain ⟨b, rfl⟩ : ∃ b, q = some b := by
     cases q with
     | none => have := (hq rfl).1; omega
     | some b => exact ⟨b, rfl⟩
   have h1 : orL ftN ((compF f).take k) < 2 ^ 8 := orL_lt (fun n hn => ftN_lt (hno n (List.mem_of_mem_take hn)))
   have h2 := ftN_lt (hno _ (List.getElem_mem hm))
   have hf := (hno _ (List.getElem_mem hm)).fact
   have ht := orL_take (h := ftN) hm
   refine gK (gS (gB (gS (gR ?_))))
   iterate 2 refine gMv ?_
   refine GoH.v (Vop.idxS rfl rfl rfl rfl rfl Tryd.underlying23 Tryd.sizeOf80 (k) ⟨rfl, hm⟩) ?_
   refine GoH.v (Vop.fldA (a := some ⟨b, 0, none⟩) (o := (k) * 6) rfl rfl rfl rfl Tryd.underlying80 rfl Tryd.sizeOf3 ((k) * 6 + 0) rfl) ?_
   refine GoH.v (Vop.ld rfl rfl rfl rfl Tryd.isAgg3 (fun w _ hS => Sl.fld (enc := NV.cells) (sz := 6) (a := some ⟨b, 0, none⟩) (Sl.blk (hS.get (j := 0) rfl)) (fun _ => rfl) hm rfl)) ?_
   refine gBi bEq ?_; refine gE ?_
   refine GoH.cond rfl (fun hc => ?_) (fun hc => ?_)
   ·
    have h3 : (compF f)[k].op = 3 := by simpa using hc
    have hft : ftN (compF f)[k] = 1 * 2 ^ (compF f)[k].i.toNat := by rw [ftN, if_pos h3, Nat.one_mul]
    have hi8 := hf h3
    rw [hft] at h2
    refine gR ?_
    iterate 3 refine gMv ?_
    refine GoH.v (Vop.idxS rfl rfl rfl rfl rfl Tryd.underlying23 Tryd.sizeOf80 (k) ⟨rfl, hm⟩) ?_
    refine GoH.v (Vop.fldA (a := some ⟨b, 0, none⟩) (o := (k) * 6) rfl rfl rfl rfl Tryd.underlying80 rfl Tryd.sizeOf3 ((k) * 6 + 1) rfl) ?_
    refine GoH.v (Vop.ld rfl rfl rfl rfl Tryd.isAgg3 (fun w _ hS => Sl.fld (enc := NV.cells) (sz := 6) (a := some ⟨b, 0, none⟩) (Sl.blk (hS.get (j := 0) rfl)) (fun _ => rfl) hm rfl)) ?_
    refine GoH.v (Vop.bin rfl rfl rfl rfl (bShlN (x := 1) (j := (compF f)[k].i.toNat) (by omega) (by omega) (by omega)) rfl) ?_
    refine GoH.v (Vop.bin rfl rfl rfl rfl (bOrI (c := orL ftN ((compF f).take (k + 1))) (by omega) (by omega) (by rw [ht, hft])) rfl) ?_
    refine gAs ?_; refine gE (gIb (gR ?_)); refine gMv ?_
    refine GoH.v (Vop.bin rfl rfl rfl rfl (bAdd (by omega)) rfl) ?_
    refine gAs ?_; refine gE ?_
    exact IH (k + 1) _ _ hm (by omega) ⟨rfl, rfl, rfl, trivial⟩ (List.Sublist.refl _)
   ·
    have h3 : (compF f)[k].op ≠ 3 := by simpa using hc
    have ht2 : orL ftN ((compF f).take (k + 1)) = orL ftN ((compF f).take k) := by rw [ht, ftN, if_neg h3, Nat.or_zero]
    refine gK (gIb (gR ?_)); refine gMv ?_
    refine GoH.v (Vop.bin rfl rfl rfl rfl (bAdd (by omega)) rfl) ?_
    refine gAs ?_; refine gE ?_
    exact IH (k + 1) _ _ hm (by omega) ⟨rfl, (by rw [ht2]; rfl), rfl, trivial⟩ (List.Sublist.refl _)
  ·
   have hge : ¬ k < (compF f).length := by simpa using hc
   obtain rfl : k = (compF f).length := by omega
   rw [List.take_length]
   refine GoH.exit rfl (gS (gR ?_))
   refine gMv ?_; refine gAs ?_; refine gE ?_
   refine GoH.ret Tryd.f52 Tryd.func52 rfl (fun w' hS => ?_)
   exact ⟨hS.ext, rfl⟩
set_option maxRecDepth 4000 in
theorem ragents_c (a : Option Addr) (ca : Nat) (f : List NV) (w : World) (ha : FA w a f) (hl : f.length ≤ maxLen) : Cn Tryd.prog 51 [.slice a f.length ca] w (fun v _ => v = .int .i64 (orL agN (compF f))) := by
  have hcl := compF_le f
  have hno := (compF_nodes f).fld
  refine Cn.of Tryd.func51 rfl rfl ?_
  refine gS (gR ?_); refine gAs ?_; refine gE (gS (gR ?_)); refine gMv ?_
  refine GoH.callM _ rfl rfl rfl rfl rfl (fun _ _ => Tryd.call54 _ _) (fun w _ hS => rcompact_c a ca f w (ha.ex0 hS.ext) hl) ?_
  rintro v w1 w2 Y' hS he ho
  rw [subF_top] at ho
  obtain ⟨q, cap, sp, rfl, hq, hcap, hS'⟩ := gainN hS he ho
  refine ⟨_, hS', ?_⟩
  refine gAs ?_; refine gE (gS (gR ?_)); refine gAs ?_; refine gE (gS (gS (gR ?_))); refine gAs ?_; refine gE (gB ?_)
  refine GoH.loop (σ := Nat) (fun k => [(3, osv q (compF f).length cap), (4, .int .i64 (orL agN ((compF f).take k))), (5, .int .i64 k)]) (fun _ => [(q, obN 80 (compF f) sp)]) (fun k => k ≤ (compF f).length) (fun k => (compF f).length - k) 0 (Nat.zero_le _) ⟨rfl, rfl, rfl, trivial⟩ (List.Sublist.refl _) (fun k hk IH => ?_)
  refine gS (gS (gR ?_))
  iterate 2 refine gMv ?_
  refine gBl Tryd.underlying23 ?_; refine gBi bLt ?_; refine gE ?_
  refine GoH.cond rfl (fun hc => ?_) (fun hc => ?_)
  ·
   have hm : k < (compF f).length := by simpa using hc
   obtain ⟨b, rfl⟩ : ∃ b, q = some b := by
     cases q with
     | none => have := (hq rfl).1; omega
     | some b => exact ⟨b, rfl⟩
   have h1 : orL agN ((compF f).take k) < 2 ^ 4 := orL_lt (fun n hn => agN_lt (hno n (List.mem_of_mem_take hn)))
   have hg := g_lt (hno _ (List.getElem_mem hm))
   have hg0 : 0 ≤ (compF f)[k].g := by
     cases e : grO (compF f)[k].op with
     | false => have := (hno _ (List.getElem_mem hm)).g0 e; omega
     | true => have := (hno _ (List.getElem_mem hm)).gr e; omega
   have hgn : (((compF f)[k].g.toNat : Nat) : Int) = (compF f)[k].g := Int.toNat_of_nonneg hg0
   have hag := (hno _ (List.getElem_mem hm)).ag
   have ht := orL_take (h := agN) hm
   have hag2 : ∀ x : Nat, x < 2 ^ 4 → x ||| (compF f)[k].g.toNat < 2 ^ 4 := fun x hx => Nat.or_lt_two_pow hx hg
   refine gK (gS (gB (gS (gS (gR ?_)))))
   iterate 2 refine gMv ?_
   refine GoH.v (Vop.idxS rfl rfl rfl rfl rfl Tryd.underlying23 Tryd.sizeOf80 (k) ⟨rfl, hm⟩) ?_
   refine GoH.v (Vop.fldA (a := some ⟨b, 0, none⟩) (o := (k) * 6) rfl rfl rfl rfl Tryd.underlying80 rfl Tryd.sizeOf3 ((k) * 6 + 0) rfl) ?_
   refine GoH.v (Vop.ld rfl rfl rfl rfl Tryd.isAgg3 (fun w _ hS => Sl.fld (enc := NV.cells) (sz := 6) (a := some ⟨b, 0, none⟩) (Sl.blk (hS.get (j := 0) rfl)) (fun _ => rfl) hm rfl)) ?_
   refine GoH.callP rfl rfl rfl rfl rfl (fun _ _ => Tryd.call90 _ _) (fun w _ hS => (by exact agent_c (compF f)[k].op w)) ?_
   refine gE ?_
   refine GoH.cond rfl (fun hc => ?_) (fun hc => ?_)
   ·
    have h3 := hag hc
    have h2 : 2 ^ (compF f)[k].i.toNat < 2 ^ 4 := Nat.pow_lt_pow_right (by decide) (by omega)
    have hor : orL agN ((compF f).take k) ||| 1 * 2 ^ (compF f)[k].i.toNat < 2 ^ 4 := Nat.or_lt_two_pow h1 (by omega)
    refine gR ?_
    iterate 3 refine gMv ?_
    refine GoH.v (Vop.idxS rfl rfl rfl rfl rfl Tryd.underlying23 Tryd.sizeOf80 (k) ⟨rfl, hm⟩) ?_
    refine GoH.v (Vop.fldA (a := some ⟨b, 0, none⟩) (o := (k) * 6) rfl rfl rfl rfl Tryd.underlying80 rfl Tryd.sizeOf3 ((k) * 6 + 1) rfl) ?_
    refine GoH.v (Vop.ld rfl rfl rfl rfl Tryd.isAgg3 (fun w _ hS => Sl.fld (enc := NV.cells) (sz := 6) (a := some ⟨b, 0, none⟩) (Sl.blk (hS.get (j := 0) rfl)) (fun _ => rfl) hm rfl)) ?_
    refine GoH.v (Vop.bin rfl rfl rfl rfl (bShlN (x := 1) (j := (compF f)[k].i.toNat) (by omega) (by omega) (by omega)) rfl) ?_
    refine GoH.v (Vop.bin rfl rfl rfl rfl (bOrI (c := orL agN ((compF f).take k) ||| 1 * 2 ^ (compF f)[k].i.toNat) (by omega) (by omega) rfl) rfl) ?_
    refine gAs ?_; refine gE (gR ?_)
    iterate 3 refine gMv ?_
    refine GoH.v (Vop.idxS rfl rfl rfl rfl rfl Tryd.underlying23 Tryd.sizeOf80 (k) ⟨rfl, hm⟩) ?_
    refine GoH.v (Vop.fldA (a := some ⟨b, 0, none⟩) (o := (k) * 6) rfl rfl rfl rfl Tryd.underlying80 rfl Tryd.sizeOf3 ((k) * 6 + 3) rfl) ?_
    refine GoH.v (Vop.ld rfl rfl rfl rfl Tryd.isAgg3 (fun w _ hS => Sl.fld (enc := NV.cells) (sz := 6) (a := some ⟨b, 0, none⟩) (Sl.blk (hS.get (j := 0) rfl)) (fun _ => rfl) hm rfl)) ?_
    refine GoH.v (Vop.bin rfl rfl rfl rfl (by have := bOrI (P := Tryd.prog) (t := 3) (a := orL agN ((compF f).take k) ||| 1 * 2 ^ (compF f)[k].i.toNat) (b := (compF f)[k].g.toNat) (c := orL agN ((compF f).take (k + 1))) (by omega) (by omega) (by rw [ht, agN, if_pos hc, Nat.one_mul, Nat.or_assoc]); rw [hgn] at this; exact this) rfl) ?_
    refine gAs ?_; refine gE (gIb (gR ?_)); refine gMv ?_
    refine GoH.v (Vop.bin rfl rfl rfl rfl (bAdd (by omega)) rfl) ?_
    refine gAs ?_; refine gE ?_
    exact IH (k + 1) _ _ hm (by omega) ⟨rfl, rfl, rfl, trivial⟩ (List.Sublist.refl _)
   ·
    refine gK (gR ?_)
    iterate 3 refine gMv ?_
    refine GoH.v (Vop.idxS rfl rfl rfl rfl rfl Tryd.underlying23 Tryd.sizeOf80 (k) ⟨rfl, hm⟩) ?_
    refine GoH.v (Vop.fldA (a := some ⟨b, 0, none⟩) (o := (k) * 6) rfl rfl rfl rfl Tryd.underlying80 rfl Tryd.sizeOf3 ((k) * 6 + 3) rfl) ?_
    refine GoH.v (Vop.ld rfl rfl rfl rfl Tryd.isAgg3 (fun w _ hS => Sl.fld (enc := NV.cells) (sz := 6) (a := some ⟨b, 0, none⟩) (Sl.blk (hS.get (j := 0) rfl)) (fun _ => rfl) hm rfl)) ?_
    refine GoH.v (Vop.bin rfl rfl rfl rfl (by have := bOrI (P := Tryd.prog) (t := 3) (a := orL agN ((compF f).take k)) (b := (compF f)[k].g.toNat) (c := orL agN ((compF f).take (k + 1))) (by omega) (by omega) (by rw [ht, agN, if_neg (by rw [hc]; simp), Nat.zero_or]); rw [hgn] at this; exact this) rfl) ?_
    refine gAs ?_; refine gE (gIb (gR ?_)); refine gMv ?_
    refine GoH.v (Vop.bin rfl rfl rfl rfl (bAdd (by omega)) rfl) ?_
    refine gAs ?_; refine gE ?_
    exact IH (k + 1) _ _ hm (by omega) ⟨rfl, rfl, rfl, trivial⟩ (List.Sublist.refl _)
  ·
   have hge : ¬ k < (compF f).length := by simpa using hc
   obtain rfl : k = (compF f).length := by omega
   rw [List.take_length]
   refine GoH.exit rfl (gS (gR ?_))
   refine gMv ?_; refine gAs ?_; refine gE ?_
   refine GoH.ret Tryd.f51 Tryd.func51 rfl (fun w' hS => ?_)
   exact ⟨hS.ext, rfl⟩
set_option maxRecDepth 4000 in
theorem rfitsF_c (a : Option Addr) (ca : Nat) (f : List NV) (A B : Nat) (w : World) (ha : FA w a f) (hl : f.length ≤ maxLen) : Cn Tryd.prog 23 [.slice a f.length ca, .int .i64 A, .int .i64 B] w (fun v _ => v = .bool (fitB f A B)) := by
  have hno := (compF_nodes f).fld
  have h1 : orL agN (compF f) < 2 ^ 4 := orL_lt (fun n hn => agN_lt (hno n hn))
  have h2 : orL ftN (compF f) < 2 ^ 8 := orL_lt (fun n hn => ftN_lt (hno n hn))
  refine Cn.of Tryd.func23 rfl rfl ?_
  refine gS (gR ?_); refine gAs ?_; refine gE (gS (gS (gR ?_))); refine gMv ?_
  refine GoH.callP rfl rfl rfl rfl rfl (fun _ _ => Tryd.call25 _ _) (fun w _ hS => (by exact rchk_c a ca f w (ha.ex0 hS.ext) hl)) ?_
  refine gBi bNe ?_; refine gE ?_
  refine GoH.cond rfl (fun hc => ?_) (fun hc => ?_)
  ·
   have h0 : chkF f ≠ 0 := by simpa using hc
   refine gS (gR ?_); refine gAs ?_; refine gE ?_
   refine GoH.ret Tryd.f23 Tryd.func23 rfl (fun w' hS => ?_)
   exact ⟨hS.ext, by rw [fitB, show (chkF f == 0) = false by simpa using h0]; rfl⟩
  ·
   have h0 : chkF f = 0 := by simpa using hc
   refine gK (gS (gS (gR ?_))); refine gAs ?_; refine gE (gB ?_)
   refine GoH.loop (σ := Nat) (fun k => [(0, .slice a f.length ca), (1, .int .i64 A), (2, .int .i64 B), (7, .int .i64 k)]) (fun _ => []) (fun k => k ≤ 4 ∧ ∀ i, i < k → gb (orL agN (compF f)) i = 1 → i < A) (fun k => 4 - k) 0 ⟨Nat.zero_le _, fun i hi => absurd hi (Nat.not_lt_zero _)⟩ ⟨rfl, rfl, rfl, rfl, trivial⟩ .slnil (fun k hI IH => ?_)
   obtain ⟨hk, hall⟩ := hI
   refine gS (gS (gR ?_)); refine gMv ?_; refine gBi bLt ?_; refine gE ?_
   refine GoH.cond rfl (fun hc => ?_) (fun hc => ?_)
   ·
    have hm : k < 4 := by simp at hc; omega
    refine gK (gS (gB (gS (gR ?_)))); refine gMv ?_
    refine GoH.callP rfl rfl rfl rfl rfl (fun _ _ => Tryd.call51 _ _) (fun w _ hS => (by exact ragents_c a ca f w (ha.ex0 hS.ext) hl)) ?_
    refine gMv ?_
    refine GoH.v (Vop.bin rfl rfl rfl rfl (bShrN (j := k) rfl (by omega) (by omega)) rfl) ?_
    refine GoH.v (Vop.bin rfl rfl rfl rfl bRem2N rfl) ?_
    refine gBi bEq ?_; refine gMv ?_
    refine GoH.cases (d := 22) rfl (fun hc => ?_) (fun hc => ?_)
    ·
     have hb1 : gb (orL agN (compF f)) k = 1 := Int.ofNat_inj.1 (show ((gb (orL agN (compF f)) k : Nat) : Int) = ((1 : Nat) : Int) from beq_iff_eq.1 hc)
     iterate 2 refine gMv ?_
     refine gBi bGe ?_; refine gPt ?_; refine gE ?_
     refine GoH.cond rfl (fun hc => ?_) (fun hc => ?_)
     ·
      have hge : ¬ k < A := by simp at hc; omega
      refine gS (gR ?_); refine gAs ?_; refine gE ?_
      refine GoH.ret Tryd.f23 Tryd.func23 rfl (fun w' hS => ?_)
      exact ⟨hS.ext, by rw [fitB, okM_false hm hb1 hge, Bool.false_and, Bool.and_false]; rfl⟩
     ·
      have hlt : k < A := by simp at hc; omega
      refine gK (gIb (gR ?_)); refine gMv ?_
      refine GoH.v (Vop.bin rfl rfl rfl rfl (bAdd (by omega)) rfl) ?_
      refine gAs ?_; refine gE ?_
      exact IH (k + 1) _ _ ⟨by omega, fun i hi hb => by rcases Nat.lt_succ_iff_lt_or_eq.1 hi with h | rfl; exact hall i h hb; exact hlt⟩ (by omega) ⟨rfl, rfl, rfl, rfl, trivial⟩ .slnil
    ·
     have hb0 : gb (orL agN (compF f)) k ≠ 1 := fun h => by
       have h3 : ((gb (orL agN (compF f)) k : Nat) : Int) ≠ 1 := beq_eq_false_iff_ne.1 hc
       omega
     iterate 3 refine gNo ?_
     refine gPf ?_; refine gE (GoH.condF rfl (gK (gIb (gR ?_)))); refine gMv ?_
     refine GoH.v (Vop.bin rfl rfl rfl rfl (bAdd (by omega)) rfl) ?_
     refine gAs ?_; refine gE ?_
     exact IH (k + 1) _ _ ⟨by omega, fun i hi hb => by rcases Nat.lt_succ_iff_lt_or_eq.1 hi with h | rfl; exact hall i h hb; exact absurd hb hb0⟩ (by omega) ⟨rfl, rfl, rfl, rfl, trivial⟩ .slnil
   ·
    have hge : ¬ k < 4 := by simp at hc; omega
    obtain rfl : k = 4 := by omega
    have hA := okM_all hall
    refine GoH.exit rfl (gS (gS (gR ?_)))
    refine gAs ?_; refine gE (gB ?_)
    refine GoH.loop (σ := Nat) (fun k => [(0, .slice a f.length ca), (1, .int .i64 A), (2, .int .i64 B), (8, .int .i64 k)]) (fun _ => []) (fun k => k ≤ 8 ∧ ∀ i, i < k → gb (orL ftN (compF f)) i = 1 → i < B) (fun k => 8 - k) 0 ⟨Nat.zero_le _, fun i hi => absurd hi (Nat.not_lt_zero _)⟩ ⟨rfl, rfl, rfl, rfl, trivial⟩ .slnil (fun k hI IH => ?_)
    obtain ⟨hk, hall⟩ := hI
    refine gS (gS (gR ?_)); refine gMv ?_; refine gBi bLt ?_; refine gE ?_
    refine GoH.cond rfl (fun hc => ?_) (fun hc => ?_)
    ·
     have hm : k < 8 := by simp at hc; omega
     refine gK (gS (gB (gS (gR ?_)))); refine gMv ?_
     refine GoH.callP rfl rfl rfl rfl rfl (fun _ _ => Tryd.call52 _ _) (fun w _ hS => (by exact rfacts05_c a ca f w (ha.ex0 hS.ext) hl)) ?_
     refine gMv ?_
     refine GoH.v (Vop.bin rfl rfl rfl rfl (bShrN (j := k) rfl (by omega) (by omega)) rfl) ?_
     refine GoH.v (Vop.bin rfl rfl rfl rfl bRem2N rfl) ?_
     refine gBi bEq ?_; refine gMv ?_
     refine GoH.cases (d := 37) rfl (fun hc => ?_) (fun hc => ?_)
     ·
      have hb1 : gb (orL ftN (compF f)) k = 1 := Int.ofNat_inj.1 (show ((gb (orL ftN (compF f)) k : Nat) : Int) = ((1 : Nat) : Int) from beq_iff_eq.1 hc)
      iterate 2 refine gMv ?_
      refine gBi bGe ?_; refine gPt ?_; refine gE ?_
      refine GoH.cond rfl (fun hc => ?_) (fun hc => ?_)
      ·
       have hge : ¬ k < B := by simp at hc; omega
       refine gS (gR ?_); refine gAs ?_; refine gE ?_
       refine GoH.ret Tryd.f23 Tryd.func23 rfl (fun w' hS => ?_)
       exact ⟨hS.ext, by rw [fitB, okM_false hm hb1 hge, Bool.and_false, Bool.and_false]; rfl⟩
      ·
       have hlt : k < B := by simp at hc; omega
       refine gK (gIb (gR ?_)); refine gMv ?_
       refine GoH.v (Vop.bin rfl rfl rfl rfl (bAdd (by omega)) rfl) ?_
       refine gAs ?_; refine gE ?_
       exact IH (k + 1) _ _ ⟨by omega, fun i hi hb => by rcases Nat.lt_succ_iff_lt_or_eq.1 hi with h | rfl; exact hall i h hb; exact hlt⟩ (by omega) ⟨rfl, rfl, rfl, rfl, trivial⟩ .slnil
     ·
      have hb0 : gb (orL ftN (compF f)) k ≠ 1 := fun h => by
        have h3 : ((gb (orL ftN (compF f)) k : Nat) : Int) ≠ 1 := beq_eq_false_iff_ne.1 hc
        omega
      iterate 3 refine gNo ?_
      refine gPf ?_; refine gE (GoH.condF rfl (gK (gIb (gR ?_)))); refine gMv ?_
      refine GoH.v (Vop.bin rfl rfl rfl rfl (bAdd (by omega)) rfl) ?_
      refine gAs ?_; refine gE ?_
      exact IH (k + 1) _ _ ⟨by omega, fun i hi hb => by rcases Nat.lt_succ_iff_lt_or_eq.1 hi with h | rfl; exact hall i h hb; exact absurd hb hb0⟩ (by omega) ⟨rfl, rfl, rfl, rfl, trivial⟩ .slnil
    ·
     have hge : ¬ k < 8 := by simp at hc; omega
     obtain rfl : k = 8 := by omega
     refine GoH.exit rfl (gS (gR ?_))
     refine gAs ?_; refine gE ?_
     refine GoH.ret Tryd.f23 Tryd.func23 rfl (fun w' hS => ?_)
     exact ⟨hS.ext, by rw [fitB, okM_all hall, hA, h0]; rfl⟩
end Go.Proofs.YtlihcmknfdckdaaDoor
