/- What calls of the program return, under the conditions that each theorem states. -/
import Derived.Test.YthojdcaojjmoaaaGreatDoorA33
import Derived.Test.YthojdcaojjmoaaaGreatDoorA17
import Derived.Test.YthojdcaojjmoaaaGreatDoorA04
import Derived.Test.YthojdcaojjmoaaaGreatDoorA16
import Derived.Test.YthojdcaojjmoaaaGreatDoorA27
namespace Go.Proofs.YthojdcaojjmoaaaGreatDoor
open Go.RowKit Go.Proofs.Wit
/-! the reference's canonical lists -/
theorem rchk_c (a : Option Addr) (ca : Nat) (f : List NV) (w : World) (ha : FA w a f) (hl : f.length ≤ maxLen) : Cn Tryz.prog 19 [.slice a f.length ca] w (fun v _ => v = .int .i64 (chkF f)) := by
  unfold maxLen at hl
  refine Cn.of Tryz.func19 rfl rfl ?_
  refine gS (gR ?_)
  refine gAs ?_
  refine gE (gS (gS (gR ?_)))
  refine gMv ?_
  refine gBl Tryz.underlying26 ?_
  refine gBi bEq ?_
  refine gE ?_
  refine GoH.cond rfl (fun hc => ?_) (fun hc => ?_)
  ·
   have h1 : f.length = 0 := by simpa using hc
   refine gS (gR ?_)
   refine gAs ?_
   refine gE ?_
   refine GoH.ret Tryz.f19 Tryz.func19 rfl (fun w' hS => ?_)
   exact ⟨hS.ext, by rw [chkF, if_pos h1]; rfl⟩
  ·
   have h1 : ¬ f.length = 0 := by simpa using hc
   refine gK (gS (gS (gR ?_)))
   refine gMv ?_
   refine gBl Tryz.underlying26 ?_
   refine gBi bGt ?_
   refine gE ?_
   refine GoH.cond rfl (fun hc => ?_) (fun hc => ?_)
   ·
    have h2 : 200 < f.length := by simp at hc; omega
    refine gS (gR ?_)
    refine gAs ?_
    refine gE ?_
    refine GoH.ret Tryz.f19 Tryz.func19 rfl (fun w' hS => ?_)
    exact ⟨hS.ext, by rw [chkF, if_neg h1, if_pos h2]; rfl⟩
   ·
    have h2 : ¬ 200 < f.length := by simp at hc; omega
    refine gK (gS (gS (gR ?_)))
    refine gAs ?_
    refine gE (gB ?_)
    refine GoH.loop (σ := Nat) (fun k => [(0, .slice a f.length ca), (3, .int .i64 k)]) (fun _ => []) (fun k => k ≤ f.length ∧ firstE (errF f) k = 0) (fun k => f.length - k) 0 ⟨Nat.zero_le _, rfl⟩ ⟨rfl, rfl, trivial⟩ .slnil (fun k hI IH => ?_)
    obtain ⟨hk, hz⟩ := hI
    refine gS (gS (gR ?_))
    iterate 2 refine gMv ?_
    refine gBl Tryz.underlying26 ?_
    refine gBi bLt ?_
    refine gE ?_
    refine GoH.cond rfl (fun hc => ?_) (fun hc => ?_)
    ·
     have hlt : k < f.length := by simpa using hc
     have he : errF f k = nodeE f[k] k := by simp [errF, List.getD_eq_getElem?_getD, hlt]
     refine gK (gS (gB (gS (gR ?_))))
     iterate 2 refine gMv ?_
     refine GoH.v (Vop.idxN rfl rfl rfl rfl rfl Tryz.underlying26 Tryz.sizeOf54 ⟨_, (ha).at_⟩ (flat_len (enc := NV.cells) (sz := 6) (fun _ => rfl)) (by decide) (k) ⟨rfl, hlt⟩) ?_
     refine GoH.v (Vop.ldN (cs := NV.cells f[k]) rfl rfl rfl rfl Tryz.isAgg54 Tryz.sizeOf54 (fun w _ hS => Sl.many (enc := NV.cells) (sz := 6) (ha.ex0 hS.ext).at_ (fun _ => rfl) hlt)) ?_
     refine gMv ?_
     refine GoH.callP rfl rfl rfl rfl rfl (fun _ _ => Tryz.call37 _ _) (fun w _ hS => (by exact rnode_c f[k] k w)) ?_
     refine gAs ?_
     refine gE (gS (gR ?_))
     refine gMv ?_
     refine gBi bNe ?_
     refine gE ?_
     refine GoH.cond rfl (fun hc => ?_) (fun hc => ?_)
     ·
      have h3 : nodeE f[k] k ≠ 0 := by simpa using hc
      refine gS (gR ?_)
      refine gMv ?_
      refine gAs ?_
      refine gE ?_
      refine GoH.ret Tryz.f19 Tryz.func19 rfl (fun w' hS => ?_)
      exact ⟨hS.ext, by rw [chkF, if_neg h1, if_neg h2, firstE_hit hz (by rw [he]; exact h3) hlt, he]; rfl⟩
     ·
      have h3 : nodeE f[k] k = 0 := by simpa using hc
      refine gK (gIb (gR ?_))
      refine gMv ?_
      refine GoH.v (Vop.bin rfl rfl rfl rfl (bAdd (by omega)) rfl) ?_
      refine gAs ?_
      refine gE ?_
      exact IH (k + 1) _ _ ⟨hlt, by rw [firstE, if_neg (by simp [hz]), he]; exact h3⟩ (by omega) ⟨rfl, rfl, trivial⟩ .slnil
    ·
     have hge : ¬ k < f.length := by simpa using hc
     obtain rfl : k = f.length := by omega
     refine GoH.exit rfl (gS (gR ?_))
     refine gAs ?_
     refine gE ?_
     refine GoH.ret Tryz.f19 Tryz.func19 rfl (fun w' hS => ?_)
     exact ⟨hS.ext, by rw [chkF, if_neg h1, if_neg h2, hz]; rfl⟩
/-- the state of a walk: two lists in a struct -/
def walkH (bw : Nat) (q : Option Nat) (cap : Nat) (ts : List Tr) (sp : List Value) (dv : Value) : Hl := [(some bw, .cells #[osv q (nodesOf ts).length cap, dv] 102 (0, 0)), (q, obN 54 (nodesOf ts) sp)]
set_option maxRecDepth 4000 in
theorem put_c (bw : Nat) (q : Option Nat) (cap : Nat) (ts : List Tr) (sp : List Value) (dv : Value) (t : Tr) (w : World) (hh : HasH w (walkH bw q cap ts sp dv)) (ho : OutOk q cap ts sp) (hlen : ts.length ≤ 100000) (htw : t.wf) (hk : ∀ c ∈ kids t, c ∈ ts) (_hone : dv.oneCell' = true) :
    CnS Tryz.prog 83 [.pointer (some ⟨bw, 0, none⟩), (nodeOf ts t).v] w (walkH bw q cap ts sp dv) (fun v h' => ∃ q' cap' sp', h' = walkH bw q' cap' (if t ∈ ts then ts else ts ++ [t]) sp' dv ∧ OutOk q' cap' (if t ∈ ts then ts else ts ++ [t]) sp' ∧ v = .int .i64 ((if t ∈ ts then ts else ts ++ [t]).idxOf t : Int)) := by
  obtain ⟨i0, hi, hz, hsz, hby⟩ := info_parts infoN
  have hnl : (nodesOf ts).length = ts.length := nodesOf_len
  refine CnS.of hh Tryz.func83 rfl rfl ?_
  unfold walkH
  refine gS (gR ?_)
  refine GoH.bx rfl rfl rfl rfl (fun b3 => ?_)
  refine gAs ?_
  refine gE (gS (gS (gR ?_)))
  refine gAs ?_
  refine gE (gB ?_)
  refine GoH.loop (σ := Nat) (fun k => [(0, .pointer (some ⟨bw, 0, none⟩)), (3, .pointer (some ⟨b3, 0, none⟩)), (5, .int .i64 k)]) (fun _ => [(some b3, .cells (nodeOf ts t).v.cells 54 (0, 0)), (some bw, .cells #[osv q (nodesOf ts).length cap, dv] 102 (0, 0)), (q, obN 54 (nodesOf ts) sp)])
    (fun k => k ≤ ts.length ∧ ∀ j, j < k → (nodesOf ts)[j]? ≠ some (nodeOf ts t)) (fun k => ts.length - k) 0 ⟨Nat.zero_le _, fun j hj => absurd hj (Nat.not_lt_zero _)⟩ ⟨rfl, rfl, rfl, trivial⟩ (List.Sublist.refl _) (fun k hI IH => ?_)
  obtain ⟨hkl, hno⟩ := hI
  refine gS (gS (gR ?_))
  iterate 2 refine gMv ?_
  refine gNk ?_
  refine gFp Tryz.underlying102 Tryz.sizeOf26 0 ?_
  refine gLo Tryz.isAgg26 1 ?_
  refine gBl Tryz.underlying26 ?_
  refine gBi bLt ?_
  refine gE ?_
  refine GoH.cond rfl (fun hc => ?_) (fun hc => ?_)
  ·
   have hlt : k < ts.length := by simp at hc; omega
   have hlt2 : k < (nodesOf ts).length := by omega
   obtain ⟨b0, rfl⟩ : ∃ b0, q = some b0 := by
     cases q with
     | none => have := (ho.nil rfl).1; omega
     | some b0 => exact ⟨b0, rfl⟩
   refine gK (gS (gB (gS ?_)))
   refine GoH.draw 9 mixed rfl ?_
   refine rMv ?_
   refine rNk ?_
   refine rFp Tryz.underlying102 Tryz.sizeOf26 0 ?_
   refine rLo Tryz.isAgg26 1 ?_
   refine rMv ?_
   refine RdGo.v (Vop.idxS rfl rfl rfl rfl rfl Tryz.underlying26 Tryz.sizeOf54 k ⟨rfl, hlt2⟩) ?_
   refine RdGo.v (Vop.ldN (cs := NV.cells (nodesOf ts)[k]) rfl rfl rfl rfl Tryz.isAgg54 Tryz.sizeOf54 (fun w _ hS => Sl.many (enc := NV.cells) (sz := 6) (a := some ⟨b0, 0, none⟩) (Sl.blk (hS.get (j := 2) rfl)) (fun _ => rfl) hlt2)) ?_
   refine RdGo.v (Vop.ldB rfl rfl rfl rfl Tryz.isAgg54 0 rfl Tryz.sizeOf54 rfl) ?_
   refine RdGo.v (Vop.bin rfl rfl rfl rfl (bEqN (a := (nodesOf ts)[k]) (b := nodeOf ts t)) rfl) ?_
   refine RdGo.nil ?_
   refine gE ?_
   refine GoH.cond rfl (fun hc => ?_) (fun hc => ?_)
   ·
    have he : (nodesOf ts)[k] = nodeOf ts t := by simpa using hc
    have he2 : (nodesOf ts)[k]? = some (nodeOf ts t) := by rw [List.getElem?_eq_getElem hlt2, he]
    have hmem : t ∈ ts := Classical.byContradiction (fun hn => put_new ho.clo ho.wf htw hk hn k he2)
    obtain ⟨p1, p2⟩ := put_old ho.clo ho.nd ho.wf hmem
    have hix : ts.idxOf t = k := by
      rcases Nat.lt_trichotomy (ts.idxOf t) k with h | h | h
      · exact absurd p1 (hno _ h)
      · exact h
      · exact absurd he2 (p2 k h)
    refine gS (gR ?_)
    refine gMv ?_
    refine gAs ?_
    refine gE ?_
    refine GoH.ret Tryz.f83 Tryz.func83 rfl (fun w' hS => ?_)
    rw [if_pos hmem]
    exact ⟨_, ⟨some b0, cap, sp, rfl, ho, by rw [hix]; rfl⟩, hS.subH (.cons _ (List.Sublist.refl _))⟩
   ·
    have he : (nodesOf ts)[k] ≠ nodeOf ts t := by simpa using hc
    refine gK (gIb (gR ?_))
    refine gMv ?_
    refine GoH.v (Vop.bin rfl rfl rfl rfl (bAdd (by omega)) rfl) ?_
    refine gAs ?_
    refine gE ?_
    exact IH (k + 1) _ _ ⟨hlt, fun j hj => by
    by_cases e : j = k
    · subst e; rw [List.getElem?_eq_getElem hlt2]; intro h; exact he (Option.some.inj h)
    · exact hno j (by omega)⟩ (by omega) ⟨rfl, rfl, rfl, trivial⟩ (List.Sublist.refl _)
  ·
   have hge : ¬ k < ts.length := by simp at hc; omega
   have hmem : t ∉ ts := fun hm => by
     obtain ⟨p1, _⟩ := put_old ho.clo ho.nd ho.wf hm
     exact hno _ (by have := List.idxOf_lt_length_iff.2 hm; omega) p1
   have hsn := nodesOf_snoc ho.clo hk
   have e1 : (nodesOf ts).flatMap NV.cells ++ NV.cells (nodeOf ts t) = (nodesOf (ts ++ [t])).flatMap NV.cells := by rw [hsn, List.flatMap_append]; simp
   have e2 : (nodesOf ts).length + 1 = (nodesOf (ts ++ [t])).length := by rw [hsn]; simp
   refine GoH.exit rfl (gS ?_)
   refine GoH.drawTs 6 12 [(some b3, .cells (nodeOf ts t).v.cells 54 (0, 0)), (some bw, .cells #[osv q (nodesOf ts).length cap, dv] 102 (0, 0))] (by repeat (first | exact List.Sublist.refl _ | exact List.nil_sublist _ | refine List.Sublist.cons_cons _ ?_ | refine List.Sublist.cons _ ?_)) mixed rfl ?_
   iterate 2 refine RdT.v (Vop.mv rfl rfl rfl rfl) ?_
   refine RdT.v (Vop.nilCk rfl rfl rfl rfl) ?_
   refine RdT.v (Vop.fldP rfl rfl rfl rfl Tryz.underlying102 rfl (by exact Tryz.sizeOf26) 0 rfl) ?_
   refine RdT.v (Vop.ldo rfl rfl rfl rfl Tryz.isAgg26 1 rfl rfl) ?_
   refine RdT.v (Vop.ldB rfl rfl rfl rfl Tryz.isAgg54 0 rfl Tryz.sizeOf54 rfl) ?_
   refine RdT.nil ?_
   refine Tl.one (d := 31) rfl ?_
   refine Mop.bsN (c := [_, _, _, _, _, _]) rfl rfl rfl rfl Tryz.underlying26 Tryz.sizeOf54 Tryz.zeroValue54 rfl rfl (fun b31 => ⟨by repeat (first | exact List.Sublist.refl _ | exact List.nil_sublist _ | refine List.Sublist.cons_cons _ ?_ | refine List.Sublist.cons _ ?_), ?_⟩)
   refine Tl.one (d := 32) rfl ?_
   refine Mop.app 6 (xs := (nodesOf ts).flatMap NV.cells) (sp := sp) (nx := (nodesOf ts).length) (q := q) (news := NV.cells (nodeOf ts t)) (spn := []) rfl rfl rfl rfl rfl Tryz.underlying26 hi hz hsz rfl ho.nil 3 rfl 0 rfl flatN ho.cap rfl (by decide) (fun u hu => by
     simp only [NV.cells, List.mem_cons, List.not_mem_nil, or_false] at hu
     rcases hu with rfl | rfl | rfl | rfl | rfl | rfl <;> rfl) (by unfold maxLen; omega) (by rw [hby]; omega) (fun b' sp' cap' hlen => ⟨.cons _ (.cons_cons _ (.cons_cons _ (List.nil_sublist _))), ?_⟩)
   rw [e1] at hlen ⊢
   rw [e2]
   refine Tl.sw [8, 9, 10] rfl rfl ?_
   refine gNk ?_
   refine gFp Tryz.underlying102 Tryz.sizeOf26 0 ?_
   refine GoH.st rfl rfl rfl rfl Tryz.sizeOf26 rfl 2 rfl rfl ?_
   refine gE (gS (gR ?_))
   refine gMv ?_
   refine gNk ?_
   refine gFp Tryz.underlying102 Tryz.sizeOf26 0 ?_
   refine gLo Tryz.isAgg26 2 ?_
   refine gBl Tryz.underlying26 ?_
   refine GoH.v (Vop.bin rfl rfl rfl rfl (bSubE (c := (ts.length : Int)) (by rw [nodesOf_len]; simp) (by omega)) rfl) ?_
   refine gAs ?_
   refine gE ?_
   refine GoH.ret Tryz.f83 Tryz.func83 rfl (fun w' hS => ?_)
   rw [if_neg hmem]
   exact ⟨_, ⟨some b', cap', sp', rfl, ⟨(fun e => by cases e), hlen, ho.clo.snoc hk, nodup_snoc ho.nd hmem, fun u hu => by
     rcases List.mem_append.1 hu with hu | hu
     · exact ho.wf u hu
     · rw [List.mem_singleton.1 hu]; exact htw⟩, by rw [nodup_idx hmem]; rfl⟩, hS.subH (.cons _ (.cons _ (List.Sublist.refl _)))⟩
end Go.Proofs.YthojdcaojjmoaaaGreatDoor
namespace Go.Proofs.YthojdcaojjmoaaaGreatDoor
open Go.RowKit Go.Proofs.Wit
/-! the reference's walk -/
def finH (bw : Nat) (q : Option Nat) (cap : Nat) (ts : List Tr) (sp : List Value) (bd capd : Nat) (ds : List Int) (dsp : List Value) : Hl :=
  [(some bw, .cells #[osv q (nodesOf ts).length cap, osv (some bd) ds.length capd] 102 (0, 0)), (q, obN 54 (nodesOf ts) sp), (some bd, ob I64 3 ds dsp)]
def FinPost (f : List NV) (i bw bd capd : Nat) (dsp : List Value) (ts : List Tr) (v : Value) (h' : Hl) : Prop :=
  ∃ q' cap' sp' ds', h' = finH bw q' cap' (visit (treeAt f i) ts) sp' bd capd ds' dsp ∧ OutOk q' cap' (visit (treeAt f i) ts) sp' ∧ DoneOk f (visit (treeAt f i) ts) ds' ∧ v = .int .i64 ((visit (treeAt f i) ts).idxOf (treeAt f i) : Int)
set_option maxRecDepth 8000 in
theorem finish_c (f : List NV) (a : Option Addr) (ca : Nat) (hf : NodesOk f) (hfl : f.length ≤ 10000) (bw bd capd : Nat) (dsp : List Value) : ∀ (i : Nat), i < f.length → ∀ (w : World) (q : Option Nat) (cap : Nat) (ts : List Tr) (sp : List Value) (ds : List Int),
    HasH w (finH bw q cap ts sp bd capd ds dsp) → FA w a f → (∀ b o, a = some ⟨b, o, none⟩ → b ∉ blks (finH bw q cap ts sp bd capd ds dsp)) → OutOk q cap ts sp → ts ⊆ trees f → DoneOk f ts ds →
    CnS Tryz.prog 58 [.slice a f.length ca, .int .i64 i, .pointer (some ⟨bw, 0, none⟩)] w (finH bw q cap ts sp bd capd ds dsp) (FinPost f i bw bd capd dsp ts) := by
  intro i
  induction i using Nat.strongRecOn with
  | _ i IHi =>
  intro hi w q cap ts sp ds hh ha hsep ho hts hd
  have hdl := hd.len
  have hids : i < ds.length := by omega
  have hok := hf i hi
  have hclo := hf.ord.clo
  have hmem := treeAt_mem hi
  have hset : ∀ ts' : List Tr, Clo ts' → ts'.Nodup → ts' ⊆ trees f → visit (treeAt f i) ts' ⊆ trees f := fun ts' _ _ h => visit_sub (treeAt f i) hclo hmem h
  have has : FAS (blks (finH bw q cap ts sp bd capd ds dsp)) w a f := ⟨ha.at_, hsep⟩
  refine CnS.of hh Tryz.func58 rfl rfl ?_
  unfold finH at has ⊢
  refine gS (gR ?_)
  refine gAs ?_
  refine gE (gS (gS (gR ?_)))
  refine gMv ?_
  refine gNk ?_
  refine gFp Tryz.underlying102 Tryz.sizeOf36 1 ?_
  refine gLo Tryz.isAgg36 0 ?_
  refine gMv ?_
  refine GoH.v (Vop.idxS rfl rfl rfl rfl rfl Tryz.underlying36 Tryz.sizeOf3 (i) ⟨rfl, hids⟩) ?_
  refine GoH.v (Vop.ldE (Value.int .i64) 0 rfl rfl rfl rfl Tryz.isAgg3 2 rfl hids) ?_
  refine gBi bGe ?_
  refine gE ?_
  refine GoH.cond rfl (fun hc => ?_) (fun hc => ?_)
  ·
   have hge : 0 ≤ ds.getD i 0 := of_decide_eq_true hc
   obtain ⟨hm, hix⟩ : treeAt f i ∈ ts ∧ ds.getD i 0 = (ts.idxOf (treeAt f i) : Int) := by
     rcases hd.at_ i hi with h | h
     · omega
     · exact h
   refine gS (gR ?_)
   refine gMv ?_
   refine gNk ?_
   refine gFp Tryz.underlying102 Tryz.sizeOf36 1 ?_
   refine gLo Tryz.isAgg36 0 ?_
   refine gMv ?_
   refine GoH.v (Vop.idxS rfl rfl rfl rfl rfl Tryz.underlying36 Tryz.sizeOf3 (i) ⟨rfl, hids⟩) ?_
   refine GoH.v (Vop.ldE (Value.int .i64) 0 rfl rfl rfl rfl Tryz.isAgg3 2 rfl hids) ?_
   refine gAs ?_
   refine gE ?_
   refine GoH.ret Tryz.f58 Tryz.func58 rfl (fun w' hS => ?_)
   refine ⟨_, ⟨q, cap, sp, ds, ?_, ?_, ?_, ?_⟩, hS⟩
   · rw [visit_mem hm]; rfl
   · rw [visit_mem hm]; exact ho
   · rw [visit_mem hm]; exact hd
   · rw [visit_mem hm, ← hix]; rfl
  ·
   refine gK (gS (gR ?_))
   iterate 2 refine gMv ?_
   refine GoH.v (Vop.idxN rfl rfl rfl rfl rfl Tryz.underlying26 Tryz.sizeOf54 ⟨_, (has).at_⟩ (flat_len (enc := NV.cells) (sz := 6) (fun _ => rfl)) (by decide) (i) ⟨rfl, hi⟩) ?_
   refine GoH.v (Vop.ldN (cs := NV.cells f[i]) rfl rfl rfl rfl Tryz.isAgg54 Tryz.sizeOf54 (fun w _ hS => Sl.many (enc := NV.cells) (sz := 6) (has.ex0 hS.ext).at_ (fun _ => rfl) hi)) ?_
   refine GoH.alc rfl rfl rfl (fun _ => Tryz.zeroValue54 _) (fun b7 => ?_)
   refine GoH.stB rfl rfl rfl rfl Tryz.sizeOf54 0 rfl rfl rfl rfl ?_
   refine gE (gS (gS (gR ?_)))
   refine gFp Tryz.underlying54 Tryz.sizeOf3 0 ?_
   refine gLo Tryz.isAgg3 0 ?_
   refine GoH.callP rfl rfl rfl rfl rfl (fun _ _ => Tryz.call29 _ _) (fun w _ hS => (by exact usesX_c f[i].op w)) ?_
   refine gE ?_
   refine GoH.cond rfl (fun hc => ?_) (fun hc => ?_)
   ·
    have hX : usX f[i].op = true := hc
    have hxr := hok.x hX
    obtain ⟨x, hx⟩ : ∃ x : Nat, f[i].x = (x : Int) := ⟨f[i].x.toNat, by omega⟩
    have hxi : x < i := by omega
    refine gR ?_
    iterate 3 refine gMv ?_
    refine GoH.v (Vop.idxN rfl rfl rfl rfl rfl Tryz.underlying26 Tryz.sizeOf54 ⟨_, (has).at_⟩ (flat_len (enc := NV.cells) (sz := 6) (fun _ => rfl)) (by decide) (i) ⟨rfl, hi⟩) ?_
    refine GoH.v (Vop.fldA rfl rfl rfl rfl Tryz.underlying54 rfl Tryz.sizeOf3 ((i) * 6 + 4) rfl) ?_
    refine GoH.v (Vop.ld rfl rfl rfl rfl Tryz.isAgg3 (fun w _ hS => Sl.fld (enc := NV.cells) (sz := 6) ((has).ex0 hS.ext).at_ (fun _ => rfl) hi rfl)) ?_
    refine gMv ?_
    refine GoH.pick (pre := [_, _, _, _]) (pre' := [_, _, _, _]) [1, 2, 3, 0] (by decide) rfl ?_
    refine GoH.callS (h := finH bw q cap ts sp bd capd ds dsp) (hF := [(some b7, .cells (NV.cells f[i]).toArray 54 (0, 0))]) (fs := []) (cs := []) (fun _ v h' => FinPost f x bw bd capd dsp ts v h') rfl rfl rfl rfl rfl (fun _ _ => Tryz.call58 _ _) (fun w1 Y' hS => ?_) (fun w1 v h1 hR => ?_)
    · have hS1 := hS.subH (List.sublist_append_left (finH bw q cap ts sp bd capd ds dsp) _)
      have := IHi x hxi (by omega) w1 q cap ts sp ds hS1.has ⟨(has.ex0 hS.ext).at_⟩ (has.ex0 hS.ext).sep ho hts hd
      rw [← hx] at this
      exact this
    obtain ⟨q1, cap1, sp1, ds1, rfl, ho1, hd1, rfl⟩ := hR
    have hm1 : treeAt f x ∈ visit (treeAt f x) ts := (visit_ok (treeAt f x) ho.clo ho.nd).mem
    have hs1 : visit (treeAt f x) ts ⊆ trees f := visit_sub (treeAt f x) hclo (treeAt_mem (by omega)) hts
    unfold finH
    refine gFp Tryz.underlying54 Tryz.sizeOf3 4 ?_
    refine GoH.st rfl rfl rfl rfl Tryz.sizeOf3 rfl 3 rfl rfl ?_
    refine gE (gS (gS (gR ?_)))
    refine gFp Tryz.underlying54 Tryz.sizeOf3 0 ?_
    refine gLo Tryz.isAgg3 3 ?_
    refine GoH.callP rfl rfl rfl rfl rfl (fun _ _ => Tryz.call30 _ _) (fun w _ hS => (by exact usesY_c f[i].op w)) ?_
    refine gE ?_
    refine GoH.cond rfl (fun hc => ?_) (fun hc => ?_)
    ·
     have hY : usY f[i].op = true := hc
     have hyr := hok.y hY
     obtain ⟨y, hy⟩ : ∃ y : Nat, f[i].y = (y : Int) := ⟨f[i].y.toNat, by omega⟩
     have hyi : y < i := by omega
     refine gR ?_
     iterate 3 refine gMv ?_
     refine GoH.v (Vop.idxN rfl rfl rfl rfl rfl Tryz.underlying26 Tryz.sizeOf54 ⟨_, (has).at_⟩ (flat_len (enc := NV.cells) (sz := 6) (fun _ => rfl)) (by decide) (i) ⟨rfl, hi⟩) ?_
     refine GoH.v (Vop.fldA rfl rfl rfl rfl Tryz.underlying54 rfl Tryz.sizeOf3 ((i) * 6 + 5) rfl) ?_
     refine GoH.v (Vop.ld rfl rfl rfl rfl Tryz.isAgg3 (fun w _ hS => Sl.fld (enc := NV.cells) (sz := 6) ((has).ex0 hS.ext).at_ (fun _ => rfl) hi rfl)) ?_
     refine gMv ?_
     refine GoH.subH (h' := finH bw q1 cap1 (visit (treeAt f x) ts) sp1 bd capd ds1 dsp ++ [(some b7, .cells ((NV.cells f[i]).toArray.setIfInBounds 4 (.int .i64 ((visit (treeAt f x) ts).idxOf (treeAt f x) : Int))) 54 (0, 0))]) (List.Sublist.refl _) ?_
     refine GoH.callS (h := finH bw q1 cap1 (visit (treeAt f x) ts) sp1 bd capd ds1 dsp) (hF := [(some b7, .cells ((NV.cells f[i]).toArray.setIfInBounds 4 (.int .i64 ((visit (treeAt f x) ts).idxOf (treeAt f x) : Int))) 54 (0, 0))]) (fs := []) (cs := []) (fun _ v h' => FinPost f y bw bd capd dsp (visit (treeAt f x) ts) v h') rfl rfl rfl rfl rfl (fun _ _ => Tryz.call58 _ _) (fun w1 Y' hS => ?_) (fun w1 v h1 hR => ?_)
     · have hS1 := hS.subH (List.sublist_append_left (finH bw q1 cap1 (visit (treeAt f x) ts) sp1 bd capd ds1 dsp) _)
       have := IHi y hyi (by omega) w1 q1 cap1 (visit (treeAt f x) ts) sp1 ds1 hS1.has ⟨(has.ex0 hS.ext).at_⟩ (sepOf ha (by omega) hsep hS1) ho1 hs1 hd1
       rw [← hy] at this
       exact this
     obtain ⟨q2, cap2, sp2, ds2, rfl, ho2, hd2, rfl⟩ := hR
     have hVy := visit_ok (treeAt f y) ho1.clo ho1.nd
     have hsT : visit (treeAt f y) (visit (treeAt f x) ts) ⊆ trees f := visit_sub (treeAt f y) hclo (treeAt_mem (by omega)) hs1
     have htree : treeAt f i = .bin f[i].op f[i].i f[i].e f[i].g (treeAt f x) (treeAt f y) := by
       rcases kids_node hi hf with ⟨h, _⟩ | ⟨_, h, _⟩ | ⟨_, h⟩
       · rw [hX] at h; cases h
       · rw [hY] at h; cases h
       · rw [h, hx, hy]; rfl
     have hvk : vkids (treeAt f i) ts = visit (treeAt f y) (visit (treeAt f x) ts) := by rw [htree]; rfl
     have hkid : ∀ c ∈ kids (treeAt f i), c ∈ visit (treeAt f y) (visit (treeAt f x) ts) := fun c hc => by
       rw [htree] at hc
       simp only [kids, List.mem_cons, List.not_mem_nil, or_false] at hc
       rcases hc with rfl | rfl
       · exact hVy.pre.subset hm1
       · exact hVy.mem
     have hnode : ((NV.cells f[i]).toArray.setIfInBounds 4 (Value.int .i64 ((visit (treeAt f x) ts).idxOf (treeAt f x) : Int))).setIfInBounds 5 (Value.int .i64 ((visit (treeAt f y) (visit (treeAt f x) ts)).idxOf (treeAt f y) : Int)) = (nodeOf (visit (treeAt f y) (visit (treeAt f x) ts)) (treeAt f i)).v.cells := by
       rw [htree]
       simp only [nodeOf]
       rw [idx_pre hVy.pre hm1]
       rfl
     unfold finH
     refine gFp Tryz.underlying54 Tryz.sizeOf3 5 ?_
     refine GoH.st rfl rfl rfl rfl Tryz.sizeOf3 rfl 3 rfl rfl ?_
     refine gE (gS ?_)
     have hi2 : i < (ds2).length := by rw [hd2.len]; exact hi
     have hlT : (visit (treeAt f y) (visit (treeAt f x) ts)).length ≤ 100000 := by have := sub_len ho2.nd hsT; omega
     refine GoH.subH (h' := [(some bw, .cells #[osv q2 (nodesOf (visit (treeAt f y) (visit (treeAt f x) ts))).length cap2, osv (some bd) (ds2).length capd] 102 (0, 0)), (q2, obN 54 (nodesOf (visit (treeAt f y) (visit (treeAt f x) ts))) sp2), (some bd, ob I64 3 (ds2) dsp), (some b7, .cells (nodeOf (visit (treeAt f y) (visit (treeAt f x) ts)) (treeAt f i)).v.cells 54 (0, 0))]) (by rw [← hnode]; exact List.Sublist.refl _) ?_
     refine GoH.drawM 7 (fun h' => ∃ q0 c0 us s0, h' = [(some bw, .cells #[osv q0 (nodesOf us).length c0, osv (some bd) (ds2).length capd] 102 (0, 0)), (q0, obN 54 (nodesOf us) s0), (some bd, ob I64 3 (ds2) dsp), (some b7, .cells (nodeOf (visit (treeAt f y) (visit (treeAt f x) ts)) (treeAt f i)).v.cells 54 (0, 0))]) mixed rfl ⟨_, _, _, _, rfl⟩ ?_
     refine RdM.v 51 (.pointer (some ⟨bw, 0, none⟩)) rfl (fun _ _ => Vop.mv rfl rfl rfl rfl) ?_
     refine RdM.v 52 (.pointer (some ⟨bw, 0, none⟩)) rfl (fun _ _ => Vop.nilCk rfl rfl rfl rfl) ?_
     refine RdM.v 53 (.pointer (some ⟨bw, 1, none⟩)) rfl (fun _ _ => Vop.fldP rfl rfl rfl rfl Tryz.underlying102 rfl (by exact Tryz.sizeOf36) 1 rfl) ?_
     refine RdM.v 54 (osv (some bd) (ds2).length capd) rfl (fun h' hh => by obtain ⟨_, _, _, _, rfl⟩ := hh; exact Vop.ldo rfl rfl rfl rfl Tryz.isAgg36 0 rfl rfl) ?_
     refine RdM.v 55 (.int .i64 i) rfl (fun _ _ => Vop.mv rfl rfl rfl rfl) ?_
     refine RdM.v 56 (.pointer (some ⟨bw, 0, none⟩)) rfl (fun _ _ => Vop.mv rfl rfl rfl rfl) ?_
     refine RdM.v 57 (nodeOf (visit (treeAt f y) (visit (treeAt f x) ts)) (treeAt f i)).v rfl (fun h' hh => by obtain ⟨_, _, _, _, rfl⟩ := hh; exact Vop.ldB rfl rfl rfl rfl Tryz.isAgg54 3 rfl Tryz.sizeOf54 rfl) ?_
     refine RdM.nil ⟨58, fun v h' => ∃ q' cap' sp', h' = walkH bw q' cap' (putT (treeAt f i) (visit (treeAt f y) (visit (treeAt f x) ts))) sp' (osv (some bd) (ds2).length capd) ++ [(some bd, ob I64 3 (ds2) dsp), (some b7, .cells (nodeOf (visit (treeAt f y) (visit (treeAt f x) ts)) (treeAt f i)).v.cells 54 (0, 0))] ∧ OutOk q' cap' (putT (treeAt f i) (visit (treeAt f y) (visit (treeAt f x) ts))) sp' ∧ v = .int .i64 ((putT (treeAt f i) (visit (treeAt f y) (visit (treeAt f x) ts))).idxOf (treeAt f i) : Int),
       Mop.callS (h := walkH bw q2 cap2 (visit (treeAt f y) (visit (treeAt f x) ts)) sp2 (osv (some bd) (ds2).length capd)) (hF := [(some bd, ob I64 3 (ds2) dsp), (some b7, .cells (nodeOf (visit (treeAt f y) (visit (treeAt f x) ts)) (treeAt f i)).v.cells 54 (0, 0))]) (fs := []) (cs := []) rfl rfl rfl rfl rfl (fun _ _ => Tryz.call83 _ _) (fun w Y' hS => ?_), fun v h' hK => ?_⟩
     · have hS1 := hS.subH (List.sublist_append_left (walkH bw q2 cap2 (visit (treeAt f y) (visit (treeAt f x) ts)) sp2 (osv (some bd) (ds2).length capd)) _)
       exact (put_c bw q2 cap2 (visit (treeAt f y) (visit (treeAt f x) ts)) sp2 (osv (some bd) (ds2).length capd) (treeAt f i) w hS1.has ho2 hlT (treeAt_wf f i) hkid rfl).mono (fun v h' ⟨q', cap', sp', e1, e2, e3⟩ => ⟨q', cap', sp', by rw [e1]; rfl, e2, e3⟩)
     obtain ⟨q3, cap3, sp3, rfl, ho3, rfl⟩ := hK
     have hpv : putT (treeAt f i) (visit (treeAt f y) (visit (treeAt f x) ts)) = visit (treeAt f i) ts := (congrArg (putT (treeAt f i)) hvk).symm.trans (visit_put ho.clo ho.nd)
     rw [hpv] at ho3 ⊢
     have hV := visit_ok (treeAt f i) ho.clo ho.nd
     have hpre : (visit (treeAt f y) (visit (treeAt f x) ts)) <+: visit (treeAt f i) ts := by
       rw [← hpv]
       unfold putT
       split
       · exact List.prefix_refl _
       · exact List.prefix_append _ _
     refine ⟨⟨_, _, _, _, rfl⟩, ?_⟩
     refine GoH.v (Vop.idxS rfl rfl rfl rfl rfl Tryz.underlying36 Tryz.sizeOf3 i ⟨rfl, hi2⟩) ?_
     refine GoH.stE I64 _ rfl rfl rfl rfl Tryz.sizeOf3 rfl 2 rfl hi2 ?_
     refine gE (gS (gR ?_))
     refine gMv ?_
     refine gNk ?_
     refine gFp Tryz.underlying102 Tryz.sizeOf36 1 ?_
     refine gLo Tryz.isAgg36 0 ?_
     refine gMv ?_
     refine GoH.v (Vop.idxS rfl rfl rfl rfl rfl Tryz.underlying36 Tryz.sizeOf3 (i) ⟨rfl, hi2⟩) ?_
     refine GoH.v (Vop.ldE (Value.int .i64) 0 rfl rfl rfl rfl Tryz.isAgg3 2 rfl (by rw [List.length_set]; exact hi2)) ?_
     refine gAs ?_
     refine gE ?_
     refine GoH.ret Tryz.f58 Tryz.func58 rfl (fun w' hS => ?_)
     refine ⟨_, ⟨q3, cap3, sp3, (ds2).set i ((visit (treeAt f i) ts).idxOf (treeAt f i) : Int), ?_, ho3, (hd2.mono hpre).set hi hV.mem, ?_⟩, hS.subH (.cons_cons _ (.cons_cons _ (.cons_cons _ (.cons _ .slnil))))⟩
     · unfold finH; rw [List.length_set]
     · simp [List.getD_eq_getElem?_getD, hi2, retV]
    ·
     have hY : usY f[i].op = false := hc
     have hsT := hs1
     have htree : treeAt f i = .un f[i].op f[i].i f[i].e f[i].g (treeAt f x) := by
       rcases kids_node hi hf with ⟨h, _⟩ | ⟨_, _, h⟩ | ⟨h, _⟩
       · rw [hX] at h; cases h
       · rw [h, hx]; rfl
       · rw [hY] at h; cases h
     have hvk : vkids (treeAt f i) ts = visit (treeAt f x) ts := by rw [htree]; rfl
     have hkid : ∀ c ∈ kids (treeAt f i), c ∈ visit (treeAt f x) ts := fun c hc => by
       rw [htree] at hc
       rw [List.mem_singleton.1 hc]; exact hm1
     have hnode : (NV.cells f[i]).toArray.setIfInBounds 4 (Value.int .i64 ((visit (treeAt f x) ts).idxOf (treeAt f x) : Int)) = (nodeOf (visit (treeAt f x) ts) (treeAt f i)).v.cells := by
       rw [htree]
       have hy0 := hok.y0 hY
       show #[I64 f[i].op, I64 f[i].i, I64 f[i].e, I64 f[i].g, _, I64 f[i].y] = _
       rw [hy0]; rfl
     refine gK (gS ?_)
     have hi2 : i < (ds1).length := by rw [hd1.len]; exact hi
     have hlT : (visit (treeAt f x) ts).length ≤ 100000 := by have := sub_len ho1.nd hsT; omega
     refine GoH.subH (h' := [(some bw, .cells #[osv q1 (nodesOf (visit (treeAt f x) ts)).length cap1, osv (some bd) (ds1).length capd] 102 (0, 0)), (q1, obN 54 (nodesOf (visit (treeAt f x) ts)) sp1), (some bd, ob I64 3 (ds1) dsp), (some b7, .cells (nodeOf (visit (treeAt f x) ts) (treeAt f i)).v.cells 54 (0, 0))]) (by rw [← hnode]; exact List.Sublist.refl _) ?_
     refine GoH.drawM 7 (fun h' => ∃ q0 c0 us s0, h' = [(some bw, .cells #[osv q0 (nodesOf us).length c0, osv (some bd) (ds1).length capd] 102 (0, 0)), (q0, obN 54 (nodesOf us) s0), (some bd, ob I64 3 (ds1) dsp), (some b7, .cells (nodeOf (visit (treeAt f x) ts) (treeAt f i)).v.cells 54 (0, 0))]) mixed rfl ⟨_, _, _, _, rfl⟩ ?_
     refine RdM.v 51 (.pointer (some ⟨bw, 0, none⟩)) rfl (fun _ _ => Vop.mv rfl rfl rfl rfl) ?_
     refine RdM.v 52 (.pointer (some ⟨bw, 0, none⟩)) rfl (fun _ _ => Vop.nilCk rfl rfl rfl rfl) ?_
     refine RdM.v 53 (.pointer (some ⟨bw, 1, none⟩)) rfl (fun _ _ => Vop.fldP rfl rfl rfl rfl Tryz.underlying102 rfl (by exact Tryz.sizeOf36) 1 rfl) ?_
     refine RdM.v 54 (osv (some bd) (ds1).length capd) rfl (fun h' hh => by obtain ⟨_, _, _, _, rfl⟩ := hh; exact Vop.ldo rfl rfl rfl rfl Tryz.isAgg36 0 rfl rfl) ?_
     refine RdM.v 55 (.int .i64 i) rfl (fun _ _ => Vop.mv rfl rfl rfl rfl) ?_
     refine RdM.v 56 (.pointer (some ⟨bw, 0, none⟩)) rfl (fun _ _ => Vop.mv rfl rfl rfl rfl) ?_
     refine RdM.v 57 (nodeOf (visit (treeAt f x) ts) (treeAt f i)).v rfl (fun h' hh => by obtain ⟨_, _, _, _, rfl⟩ := hh; exact Vop.ldB rfl rfl rfl rfl Tryz.isAgg54 3 rfl Tryz.sizeOf54 rfl) ?_
     refine RdM.nil ⟨58, fun v h' => ∃ q' cap' sp', h' = walkH bw q' cap' (putT (treeAt f i) (visit (treeAt f x) ts)) sp' (osv (some bd) (ds1).length capd) ++ [(some bd, ob I64 3 (ds1) dsp), (some b7, .cells (nodeOf (visit (treeAt f x) ts) (treeAt f i)).v.cells 54 (0, 0))] ∧ OutOk q' cap' (putT (treeAt f i) (visit (treeAt f x) ts)) sp' ∧ v = .int .i64 ((putT (treeAt f i) (visit (treeAt f x) ts)).idxOf (treeAt f i) : Int),
       Mop.callS (h := walkH bw q1 cap1 (visit (treeAt f x) ts) sp1 (osv (some bd) (ds1).length capd)) (hF := [(some bd, ob I64 3 (ds1) dsp), (some b7, .cells (nodeOf (visit (treeAt f x) ts) (treeAt f i)).v.cells 54 (0, 0))]) (fs := []) (cs := []) rfl rfl rfl rfl rfl (fun _ _ => Tryz.call83 _ _) (fun w Y' hS => ?_), fun v h' hK => ?_⟩
     · have hS1 := hS.subH (List.sublist_append_left (walkH bw q1 cap1 (visit (treeAt f x) ts) sp1 (osv (some bd) (ds1).length capd)) _)
       exact (put_c bw q1 cap1 (visit (treeAt f x) ts) sp1 (osv (some bd) (ds1).length capd) (treeAt f i) w hS1.has ho1 hlT (treeAt_wf f i) hkid rfl).mono (fun v h' ⟨q', cap', sp', e1, e2, e3⟩ => ⟨q', cap', sp', by rw [e1]; rfl, e2, e3⟩)
     obtain ⟨q3, cap3, sp3, rfl, ho3, rfl⟩ := hK
     have hpv : putT (treeAt f i) (visit (treeAt f x) ts) = visit (treeAt f i) ts := (congrArg (putT (treeAt f i)) hvk).symm.trans (visit_put ho.clo ho.nd)
     rw [hpv] at ho3 ⊢
     have hV := visit_ok (treeAt f i) ho.clo ho.nd
     have hpre : (visit (treeAt f x) ts) <+: visit (treeAt f i) ts := by
       rw [← hpv]
       unfold putT
       split
       · exact List.prefix_refl _
       · exact List.prefix_append _ _
     refine ⟨⟨_, _, _, _, rfl⟩, ?_⟩
     refine GoH.v (Vop.idxS rfl rfl rfl rfl rfl Tryz.underlying36 Tryz.sizeOf3 i ⟨rfl, hi2⟩) ?_
     refine GoH.stE I64 _ rfl rfl rfl rfl Tryz.sizeOf3 rfl 2 rfl hi2 ?_
     refine gE (gS (gR ?_))
     refine gMv ?_
     refine gNk ?_
     refine gFp Tryz.underlying102 Tryz.sizeOf36 1 ?_
     refine gLo Tryz.isAgg36 0 ?_
     refine gMv ?_
     refine GoH.v (Vop.idxS rfl rfl rfl rfl rfl Tryz.underlying36 Tryz.sizeOf3 (i) ⟨rfl, hi2⟩) ?_
     refine GoH.v (Vop.ldE (Value.int .i64) 0 rfl rfl rfl rfl Tryz.isAgg3 2 rfl (by rw [List.length_set]; exact hi2)) ?_
     refine gAs ?_
     refine gE ?_
     refine GoH.ret Tryz.f58 Tryz.func58 rfl (fun w' hS => ?_)
     refine ⟨_, ⟨q3, cap3, sp3, (ds1).set i ((visit (treeAt f i) ts).idxOf (treeAt f i) : Int), ?_, ho3, (hd1.mono hpre).set hi hV.mem, ?_⟩, hS.subH (.cons_cons _ (.cons_cons _ (.cons_cons _ (.cons _ .slnil))))⟩
     · unfold finH; rw [List.length_set]
     · simp [List.getD_eq_getElem?_getD, hi2, retV]
   ·
    have hX : usX f[i].op = false := hc
    have hY : usY f[i].op = false := by
      cases h : usY f[i].op with
      | false => rfl
      | true => rw [usY_X h] at hX; cases hX
    have hsT := hts
    have htree : treeAt f i = .leaf f[i].op f[i].i f[i].e f[i].g := by
      rcases kids_node hi hf with ⟨_, h⟩ | ⟨h, _⟩ | ⟨h, _⟩
      · exact h
      · rw [hX] at h; cases h
      · rw [hY] at h; cases h
    have hvk : vkids (treeAt f i) ts = ts := by rw [htree]; rfl
    have hkid : ∀ c ∈ kids (treeAt f i), c ∈ ts := fun c hc => by
      rw [htree] at hc; cases hc
    have hnode : (NV.cells f[i]).toArray = (nodeOf ts (treeAt f i)).v.cells := by
      rw [htree]
      have hx0 := hok.x0 hX
      have hy0 := hok.y0 hY
      show #[I64 f[i].op, I64 f[i].i, I64 f[i].e, I64 f[i].g, I64 f[i].x, I64 f[i].y] = _
      rw [hx0, hy0]; rfl
    refine gK (gS (gS (gR ?_)))
    refine gFp Tryz.underlying54 Tryz.sizeOf3 0 ?_
    refine gLo Tryz.isAgg3 0 ?_
    refine GoH.callP rfl rfl rfl rfl rfl (fun _ _ => Tryz.call30 _ _) (fun w _ hS => (by have := usesY_c f[i].op w; rw [hY] at this; exact this)) ?_
    refine gE (GoH.condF rfl (gK (gS ?_)))
    refine GoH.pick (pre := [_, _, _, _]) (pre' := [_, _, _, _]) [1, 2, 3, 0] (by decide) rfl ?_
    have hi2 : i < (ds).length := by rw [hd.len]; exact hi
    have hlT : (ts).length ≤ 100000 := by have := sub_len ho.nd hsT; omega
    refine GoH.subH (h' := [(some bw, .cells #[osv q (nodesOf (ts)).length cap, osv (some bd) (ds).length capd] 102 (0, 0)), (q, obN 54 (nodesOf (ts)) sp), (some bd, ob I64 3 (ds) dsp), (some b7, .cells (nodeOf (ts) (treeAt f i)).v.cells 54 (0, 0))]) (by rw [← hnode]; exact List.Sublist.refl _) ?_
    refine GoH.drawM 7 (fun h' => ∃ q0 c0 us s0, h' = [(some bw, .cells #[osv q0 (nodesOf us).length c0, osv (some bd) (ds).length capd] 102 (0, 0)), (q0, obN 54 (nodesOf us) s0), (some bd, ob I64 3 (ds) dsp), (some b7, .cells (nodeOf (ts) (treeAt f i)).v.cells 54 (0, 0))]) mixed rfl ⟨_, _, _, _, rfl⟩ ?_
    refine RdM.v 51 (.pointer (some ⟨bw, 0, none⟩)) rfl (fun _ _ => Vop.mv rfl rfl rfl rfl) ?_
    refine RdM.v 52 (.pointer (some ⟨bw, 0, none⟩)) rfl (fun _ _ => Vop.nilCk rfl rfl rfl rfl) ?_
    refine RdM.v 53 (.pointer (some ⟨bw, 1, none⟩)) rfl (fun _ _ => Vop.fldP rfl rfl rfl rfl Tryz.underlying102 rfl (by exact Tryz.sizeOf36) 1 rfl) ?_
    refine RdM.v 54 (osv (some bd) (ds).length capd) rfl (fun h' hh => by obtain ⟨_, _, _, _, rfl⟩ := hh; exact Vop.ldo rfl rfl rfl rfl Tryz.isAgg36 0 rfl rfl) ?_
    refine RdM.v 55 (.int .i64 i) rfl (fun _ _ => Vop.mv rfl rfl rfl rfl) ?_
    refine RdM.v 56 (.pointer (some ⟨bw, 0, none⟩)) rfl (fun _ _ => Vop.mv rfl rfl rfl rfl) ?_
    refine RdM.v 57 (nodeOf (ts) (treeAt f i)).v rfl (fun h' hh => by obtain ⟨_, _, _, _, rfl⟩ := hh; exact Vop.ldB rfl rfl rfl rfl Tryz.isAgg54 3 rfl Tryz.sizeOf54 rfl) ?_
    refine RdM.nil ⟨58, fun v h' => ∃ q' cap' sp', h' = walkH bw q' cap' (putT (treeAt f i) (ts)) sp' (osv (some bd) (ds).length capd) ++ [(some bd, ob I64 3 (ds) dsp), (some b7, .cells (nodeOf (ts) (treeAt f i)).v.cells 54 (0, 0))] ∧ OutOk q' cap' (putT (treeAt f i) (ts)) sp' ∧ v = .int .i64 ((putT (treeAt f i) (ts)).idxOf (treeAt f i) : Int),
      Mop.callS (h := walkH bw q cap (ts) sp (osv (some bd) (ds).length capd)) (hF := [(some bd, ob I64 3 (ds) dsp), (some b7, .cells (nodeOf (ts) (treeAt f i)).v.cells 54 (0, 0))]) (fs := []) (cs := []) rfl rfl rfl rfl rfl (fun _ _ => Tryz.call83 _ _) (fun w Y' hS => ?_), fun v h' hK => ?_⟩
    · have hS1 := hS.subH (List.sublist_append_left (walkH bw q cap (ts) sp (osv (some bd) (ds).length capd)) _)
      exact (put_c bw q cap (ts) sp (osv (some bd) (ds).length capd) (treeAt f i) w hS1.has ho hlT (treeAt_wf f i) hkid rfl).mono (fun v h' ⟨q', cap', sp', e1, e2, e3⟩ => ⟨q', cap', sp', by rw [e1]; rfl, e2, e3⟩)
    obtain ⟨q3, cap3, sp3, rfl, ho3, rfl⟩ := hK
    have hpv : putT (treeAt f i) (ts) = visit (treeAt f i) ts := (congrArg (putT (treeAt f i)) hvk).symm.trans (visit_put ho.clo ho.nd)
    rw [hpv] at ho3 ⊢
    have hV := visit_ok (treeAt f i) ho.clo ho.nd
    have hpre : (ts) <+: visit (treeAt f i) ts := by
      rw [← hpv]
      unfold putT
      split
      · exact List.prefix_refl _
      · exact List.prefix_append _ _
    refine ⟨⟨_, _, _, _, rfl⟩, ?_⟩
    refine GoH.v (Vop.idxS rfl rfl rfl rfl rfl Tryz.underlying36 Tryz.sizeOf3 i ⟨rfl, hi2⟩) ?_
    refine GoH.stE I64 _ rfl rfl rfl rfl Tryz.sizeOf3 rfl 2 rfl hi2 ?_
    refine gE (gS (gR ?_))
    refine gMv ?_
    refine gNk ?_
    refine gFp Tryz.underlying102 Tryz.sizeOf36 1 ?_
    refine gLo Tryz.isAgg36 0 ?_
    refine gMv ?_
    refine GoH.v (Vop.idxS rfl rfl rfl rfl rfl Tryz.underlying36 Tryz.sizeOf3 (i) ⟨rfl, hi2⟩) ?_
    refine GoH.v (Vop.ldE (Value.int .i64) 0 rfl rfl rfl rfl Tryz.isAgg3 2 rfl (by rw [List.length_set]; exact hi2)) ?_
    refine gAs ?_
    refine gE ?_
    refine GoH.ret Tryz.f58 Tryz.func58 rfl (fun w' hS => ?_)
    refine ⟨_, ⟨q3, cap3, sp3, (ds).set i ((visit (treeAt f i) ts).idxOf (treeAt f i) : Int), ?_, ho3, (hd.mono hpre).set hi hV.mem, ?_⟩, hS.subH (.cons_cons _ (.cons_cons _ (.cons_cons _ (.cons _ .slnil))))⟩
    · unfold finH; rw [List.length_set]
    · simp [List.getD_eq_getElem?_getD, hi2, retV]
end Go.Proofs.YthojdcaojjmoaaaGreatDoor
namespace Go.Proofs.YthojdcaojjmoaaaGreatDoor
open Go.RowKit Go.Proofs.Wit
/-! the reference's Sub and Compact -/
set_option maxRecDepth 4000 in
theorem rsub_c (a : Option Addr) (ca : Nat) (f : List NV) (i : Int) (w : World) (ha : FA w a f) (hl : f.length ≤ maxLen) : Cn Tryz.prog 39 [.slice a f.length ca, .int .i64 i] w (fun v w' => OwnN 54 w w' v (subF f i)) := by
  obtain ⟨i0, hi, hz, hsz, hby⟩ := info_parts infoI
  refine Cn.of Tryz.func39 rfl rfl ?_
  refine gS (gR ?_)
  refine gAs ?_
  refine gE (gS (gS (gR ?_)))
  refine gMv ?_
  refine GoH.callP rfl rfl rfl rfl rfl (fun _ _ => Tryz.call19 _ _) (fun w _ hS => (by exact rchk_c a ca f w (ha.ex0 hS.ext) hl)) ?_
  refine gBi bNe ?_
  refine gMv ?_
  refine GoH.cases (d := 10) rfl (fun hc => ?_) (fun hc => ?_)
  ·
   have h1 : chkF f ≠ 0 := by simpa using hc
   iterate 2 refine gNo ?_
   refine gPt ?_
   refine gMv ?_
   iterate 4 refine gNo ?_
   refine gPt ?_
   refine gE (GoH.condT rfl (gS (gR ?_)))
   refine gAs ?_
   refine gE ?_
   refine GoH.ret Tryz.f39 Tryz.func39 rfl (fun w' hS => ?_)
   exact ⟨hS.ext, by rw [subF, if_pos (.inl h1)]; exact OwnN.nil0⟩
  ·
   have h1 : chkF f = 0 := by simpa using hc
   refine gMv ?_
   refine gBi bLt ?_
   refine gPf ?_
   refine gMv ?_
   refine GoH.cases (d := 14) rfl (fun hc => ?_) (fun hc => ?_)
   ·
    have h2 : i < 0 := by simpa using hc
    iterate 4 refine gNo ?_
    refine gPt ?_
    refine gE (GoH.condT rfl (gS (gR ?_)))
    refine gAs ?_
    refine gE ?_
    refine GoH.ret Tryz.f39 Tryz.func39 rfl (fun w' hS => ?_)
    exact ⟨hS.ext, by rw [subF, if_pos (.inr (.inl h2))]; exact OwnN.nil0⟩
   ·
    have h2 : ¬ i < 0 := by simpa using hc
    iterate 2 refine gMv ?_
    refine gBl Tryz.underlying26 ?_
    refine gBi bGe ?_
    refine gPf ?_
    refine gE ?_
    refine GoH.cond rfl (fun hc => ?_) (fun hc => ?_)
    ·
     have h3 : (f.length : Int) ≤ i := by simpa using hc
     refine gS (gR ?_)
     refine gAs ?_
     refine gE ?_
     refine GoH.ret Tryz.f39 Tryz.func39 rfl (fun w' hS => ?_)
     exact ⟨hS.ext, by rw [subF, if_pos (.inr (.inr h3))]; exact OwnN.nil0⟩
    ·
     have h3 : ¬ (f.length : Int) ≤ i := by simpa using hc
     have hok := chkF_zero.1 h1
     have hnl := hok.len
     have hnp := hok.pos
     obtain ⟨i, rfl⟩ : ∃ I : Nat, i = I := ⟨i.toNat, by omega⟩
     have hi2 : i < f.length := by omega
     refine gK (gS (gR ?_))
     refine GoH.v (Vop.bld rfl rfl rfl rfl (bld (c := [_, _]) Tryz.underlying102 (Szs.cons Tryz.sizeOf26 (Szs.cons Tryz.sizeOf36 Szs.nil)) Tryz.zeroValue102 rfl)) ?_
     refine GoH.bx rfl rfl rfl rfl (fun b21 => ?_)
     refine gAs ?_
     refine gE (gS (gS (gR ?_)))
     refine gAs ?_
     refine gE (gB ?_)
     refine GoH.addNone (obN 54 (nodesOf []) []) ?_
     refine GoH.addNone (ob I64 3 [] []) ?_
     refine GoH.pick (pre := [_, _, _]) (pre' := [_, _, _]) [2, 0, 1] (by decide) rfl ?_
     refine GoH.loop (σ := Nat × Option Nat × Nat × List Value) (fun z => [(0, .slice a f.length ca), (1, .int .i64 i), (5, .pointer (some ⟨b21, 0, none⟩)), (6, .int .i64 z.1)]) (fun z => [(some b21, .cells #[.slice none 0 0, osv z.2.1 (List.replicate z.1 (-1 : Int)).length z.2.2.1] 102 (0, 0)), (z.2.1, ob I64 3 (List.replicate z.1 (-1 : Int)) z.2.2.2)])
       (fun z => z.1 ≤ f.length ∧ (z.2.1 = none → (List.replicate z.1 (-1 : Int)).length = 0 ∧ z.2.2.1 = 0) ∧ ((List.replicate z.1 (-1 : Int)).map I64 ++ z.2.2.2).length = z.2.2.1) (fun z => f.length - z.1) (0, none, 0, []) ⟨Nat.zero_le _, fun _ => ⟨rfl, rfl⟩, rfl⟩ ⟨rfl, rfl, rfl, rfl, trivial⟩ (.cons_cons _ (.cons_cons _ (.cons _ .slnil))) (fun z hI IH => ?_)
     obtain ⟨k, q, cap, sp⟩ := z
     obtain ⟨hk, hq, hcap⟩ := hI
     dsimp only at hk hq hcap IH ⊢
     refine gS (gS (gR ?_))
     iterate 2 refine gMv ?_
     refine gBl Tryz.underlying26 ?_
     refine gBi bLt ?_
     refine gE ?_
     refine GoH.cond rfl (fun hc => ?_) (fun hc => ?_)
     ·
      have hlt : k < f.length := by simpa using hc
      have hrl : (List.replicate k (-1 : Int)).length = k := List.length_replicate
      refine gK (gS (gB (gR ?_)))
      iterate 2 refine gMv ?_
      refine gNk ?_
      refine gFp Tryz.underlying102 Tryz.sizeOf36 1 ?_
      refine gLo Tryz.isAgg36 0 ?_
      refine GoH.bsN (c := [_]) rfl rfl rfl rfl Tryz.underlying36 Tryz.sizeOf3 Tryz.zeroValue3 rfl rfl (fun b33 => ?_)
      refine GoH.appE I64 (xs := List.replicate k (-1 : Int)) (sp := sp) (news := [(-1 : Int)]) (spn := []) rfl rfl rfl rfl rfl Tryz.underlying36 hi hz hsz rfl hq 2 rfl 0 rfl hcap rfl (by decide) (fun _ => rfl) (by unfold maxLen; rw [hrl]; omega) (by rw [hby, hrl]; omega) (fun b' sp' cap' hlen2 => ?_)
      rw [← List.replicate_succ'] at *
      refine gNk ?_
      refine gFp Tryz.underlying102 Tryz.sizeOf36 1 ?_
      refine GoH.st rfl rfl rfl rfl Tryz.sizeOf36 rfl 1 rfl rfl ?_
      refine gE (gIb (gR ?_))
      refine gMv ?_
      refine GoH.v (Vop.bin rfl rfl rfl rfl (bAdd (by omega)) rfl) ?_
      refine gAs ?_
      refine gE ?_
      exact IH (k + 1, some b', cap', sp') _ _ ⟨hlt, (fun e => by cases e), hlen2⟩ (by dsimp only; omega) ⟨rfl, rfl, rfl, rfl, trivial⟩ (.cons _ (List.Sublist.refl _))
     ·
      have hge : ¬ k < f.length := by simpa using hc
      obtain rfl : k = f.length := by omega
      obtain ⟨bd, rfl⟩ : ∃ bd, q = some bd := by
        cases q with
        | none => have := (hq rfl).1; rw [List.length_replicate] at this; omega
        | some b => exact ⟨b, rfl⟩
      refine GoH.exit rfl (gS (gR ?_))
      iterate 3 refine gMv ?_
      refine GoH.addNone (obN 54 (nodesOf []) []) ?_
      refine GoH.pick (pre := [_, _, _]) (pre' := finH b21 none 0 [] [] bd cap (List.replicate f.length (-1)) sp ++ []) [1, 0, 2] (by decide) rfl ?_
      refine GoH.callS (h := finH b21 none 0 [] [] bd cap (List.replicate f.length (-1)) sp) (hF := []) (fs := []) (cs := []) (fun _ v h' => FinPost f i b21 bd cap sp [] v h') rfl rfl rfl rfl rfl (fun _ _ => Tryz.call58 _ _) (fun w1 Y' hS => ?_) (fun w1 v h1' hR => ?_)
      · have hS1 := hS.subH (List.sublist_append_left (finH b21 none 0 [] [] bd cap (List.replicate f.length (-1)) sp) _)
        exact finish_c f a ca hok.nodes (by omega) b21 bd cap sp i hi2 w1 none 0 [] [] _ hS1.has (ha.ex0 hS.ext) (sepOf (h := []) ha hnp (by simp [blks]) hS1) ⟨fun _ => ⟨rfl, rfl⟩, rfl, Clo.nil, List.nodup_nil, fun u hu => by cases hu⟩ (List.nil_subset _) DoneOk.start
      obtain ⟨q1, cap1, sp1, ds1, rfl, ho1, hd1, rfl⟩ := hR
      have he : subF f i = nodesOf (visit (treeAt f i) []) := by rw [subF, if_neg (by simp [h1]; omega)]; rfl
      unfold finH
      refine gE (gS (gR ?_))
      refine gMv ?_
      refine gNk ?_
      refine gFp Tryz.underlying102 Tryz.sizeOf26 0 ?_
      refine gLo Tryz.isAgg26 0 ?_
      refine gAs ?_
      refine gE ?_
      refine GoH.ret Tryz.f39 Tryz.func39 rfl (fun w' hS => ?_)
      exact ⟨hS.ext, by rw [he]; exact OwnN.mk hS 1 rfl rfl ho1.nil ho1.cap⟩
theorem rcompact_c (a : Option Addr) (ca : Nat) (f : List NV) (w : World) (ha : FA w a f) (hl : f.length ≤ maxLen) : Cn Tryz.prog 22 [.slice a f.length ca] w (fun v w' => OwnN 54 w w' v (subF f ((f.length : Int) - 1))) := by
  unfold maxLen at hl
  refine Cn.of Tryz.func22 rfl rfl ?_
  refine gS (gR ?_)
  refine gAs ?_
  refine gE (gS (gR ?_))
  iterate 2 refine gMv ?_
  refine gBl Tryz.underlying26 ?_
  refine GoH.v (Vop.bin rfl rfl rfl rfl (bSub (by omega)) rfl) ?_
  refine GoH.callM _ rfl rfl rfl rfl rfl (fun _ _ => Tryz.call39 _ _) (fun w _ hS => rsub_c a ca f ((f.length : Int) - 1) w (ha.ex0 hS.ext) hl) ?_
  rintro v w1 w2 Y' hS he ho
  obtain ⟨q, cap, sp, rfl, hq, hcap, hS'⟩ := gainN hS he ho
  refine ⟨_, hS', ?_⟩
  refine gAs ?_
  refine gE ?_
  refine GoH.ret Tryz.f22 Tryz.func22 rfl (fun w' hS => ?_)
  exact ⟨hS.ext, OwnN.mk hS 0 rfl rfl hq hcap⟩
end Go.Proofs.YthojdcaojjmoaaaGreatDoor
namespace Go.Proofs.YthojdcaojjmoaaaGreatDoor
open Go.RowKit Go.Proofs.Wit
/-! the reference's masks, and which formulas fit -/
theorem rfew_c (a : Option Addr) (ca : Nat) (f : List NV) (x : Int) (w : World) : Cn Tryz.prog 7 [.slice a f.length ca, .int .i64 x] w (fun v _ => v = .bool (decide ((f.length : Int) ≤ x))) := by
  refine Cn.of Tryz.func7 rfl rfl ?_
  refine gS (gR ?_)
  refine gAs ?_
  refine gE (gS (gR ?_))
  refine gMv ?_
  refine gBl Tryz.underlying26 ?_
  refine gMv ?_
  refine gBi bLe ?_
  refine gAs ?_
  refine gE ?_
  refine GoH.ret Tryz.f7 Tryz.func7 rfl (fun w' hS => ?_)
  exact ⟨hS.ext, rfl⟩
theorem shl_frO {op : Int} (h : 11 ≤ op ∧ op ≤ 17) : ∃ j : Nat, op - 11 + 1 = j ∧ j ≤ 7 ∧ frO op = ((1 * 2 ^ j : Nat) : Int) := by
  refine ⟨(op - 10).toNat, by omega, by omega, ?_⟩
  have : op = 11 ∨ op = 12 ∨ op = 13 ∨ op = 14 ∨ op = 15 ∨ op = 16 ∨ op = 17 := by omega
  rcases this with rfl | rfl | rfl | rfl | rfl | rfl | rfl <;> rfl
theorem rfrag_c (op : Int) (w : World) (ho : 1 ≤ op ∧ op ≤ 21) : Cn Tryz.prog 23 [.int .i64 op] w (fun v _ => v = .int .i64 (frO op)) := by
  refine Cn.of Tryz.func23 rfl rfl ?_
  refine gS (gR ?_)
  refine gAs ?_
  refine gE (gS (gS (gR ?_)))
  refine gMv ?_
  refine gBi bEq ?_
  refine gMv ?_
  refine GoH.cases (d := 5) rfl (fun hc => ?_) (fun hc => ?_)
  ·
   have h9 : op = 9 := by simpa using hc
   iterate 2 refine gNo ?_
   refine gPt ?_
   refine gE (GoH.condT rfl (gS (gR ?_)))
   refine gAs ?_
   refine gE ?_
   refine GoH.ret Tryz.f23 Tryz.func23 rfl (fun w' hS => ?_)
   exact ⟨hS.ext, by subst h9; rfl⟩
  ·
   have h9 : op ≠ 9 := by simpa using hc
   refine gMv ?_
   refine gBi bEq ?_
   refine gPf ?_
   refine gE ?_
   refine GoH.cond rfl (fun hc => ?_) (fun hc => ?_)
   ·
    have h10 : op = 10 := by simpa using hc
    refine gS (gR ?_)
    refine gAs ?_
    refine gE ?_
    refine GoH.ret Tryz.f23 Tryz.func23 rfl (fun w' hS => ?_)
    exact ⟨hS.ext, by subst h10; rfl⟩
   ·
    have h10 : op ≠ 10 := by simpa using hc
    refine gK (gS (gS (gR ?_)))
    refine gMv ?_
    refine gBi bGe ?_
    refine gMv ?_
    refine GoH.cases (d := 11) rfl (fun hc => ?_) (fun hc => ?_)
    ·
     have h11 : 11 ≤ op := by simpa using hc
     refine gMv ?_
     refine gBi bLe ?_
     refine gPt ?_
     refine gE ?_
     refine GoH.cond rfl (fun hc => ?_) (fun hc => ?_)
     ·
      have h17 : op ≤ 17 := by simpa using hc
      obtain ⟨j, hj, hj7, hfr⟩ := shl_frO ⟨h11, h17⟩
      refine gS (gR ?_)
      refine gMv ?_
      refine GoH.v (Vop.bin rfl rfl rfl rfl (bSub (by omega)) rfl) ?_
      refine GoH.v (Vop.bin rfl rfl rfl rfl (bAdd (by omega)) rfl) ?_
      refine GoH.v (Vop.bin rfl rfl rfl rfl (bShlN (x := 1) (j := j) hj (by have := Nat.pow_le_pow_right (n := 2) (by decide) hj7; omega) (by omega)) rfl) ?_
      refine gAs ?_
      refine gE ?_
      refine GoH.ret Tryz.f23 Tryz.func23 rfl (fun w' hS => ?_)
      exact ⟨hS.ext, by rw [hfr]; rfl⟩
     ·
      have h17 : ¬ op ≤ 17 := by simpa using hc
      refine gK (gS (gS (gR ?_)))
      refine gMv ?_
      refine gBi bGe ?_
      refine gE ?_
      refine GoH.cond rfl (fun hc => ?_) (fun hc => ?_)
      ·
       refine gS (gR ?_)
       refine gAs ?_
       refine gE ?_
       refine GoH.ret Tryz.f23 Tryz.func23 rfl (fun w' hS => ?_)
       refine ⟨hS.ext, ?_⟩
       have : op = 18 ∨ op = 19 ∨ op = 20 ∨ op = 21 := by omega
       rcases this with rfl | rfl | rfl | rfl <;> rfl
      ·
       have : ¬ 18 ≤ op := by simpa using hc
       refine gK (gS (gR ?_))
       refine gAs ?_
       refine gE ?_
       refine GoH.ret Tryz.f23 Tryz.func23 rfl (fun w' hS => ?_)
       exact absurd ho (by omega)
    ·
     have h11 : ¬ 11 ≤ op := by simpa using hc
     iterate 2 refine gNo ?_
     refine gPf ?_
     refine gE (GoH.condF rfl (gK (gS (gS (gR ?_)))))
     refine gMv ?_
     refine gBi bGe ?_
     refine gE ?_
     refine GoH.cond rfl (fun hc => ?_) (fun hc => ?_)
     ·
      have : 18 ≤ op := by simpa using hc
      refine gS (gR ?_)
      refine gAs ?_
      refine gE ?_
      refine GoH.ret Tryz.f23 Tryz.func23 rfl (fun w' hS => ?_)
      exact absurd this (by omega)
     ·
      refine gK (gS (gR ?_))
      refine gAs ?_
      refine gE ?_
      refine GoH.ret Tryz.f23 Tryz.func23 rfl (fun w' hS => ?_)
      refine ⟨hS.ext, ?_⟩
      have : op = 1 ∨ op = 2 ∨ op = 3 ∨ op = 4 ∨ op = 5 ∨ op = 6 ∨ op = 7 ∨ op = 8 := by omega
      rcases this with rfl | rfl | rfl | rfl | rfl | rfl | rfl | rfl <;> rfl
theorem compF_nodes (f : List NV) : NodesOk (compF f) := by
  by_cases h : chkF f = 0
  · exact (compF_ok h).nodes
  · rw [compF, if_pos h]; intro i hi; exact absurd hi (Nat.not_lt_zero _)
set_option maxRecDepth 4000 in
theorem rfrags_c (a : Option Addr) (ca : Nat) (f : List NV) (w : World) (ha : FA w a f) (hl : f.length ≤ maxLen) : Cn Tryz.prog 9 [.slice a f.length ca] w (fun v _ => v = .int .i64 (frgL (compF f))) := by
  have hcl := compF_le f
  have hno := (compF_nodes f).opm
  refine Cn.of Tryz.func9 rfl rfl ?_
  refine gS (gR ?_)
  refine gAs ?_
  refine gE (gS (gR ?_))
  refine gMv ?_
  refine GoH.callM _ rfl rfl rfl rfl rfl (fun _ _ => Tryz.call22 _ _) (fun w _ hS => rcompact_c a ca f w (ha.ex0 hS.ext) hl) ?_
  rintro v w1 w2 Y' hS he ho
  rw [subF_top] at ho
  obtain ⟨q, cap, sp, rfl, hq, hcap, hS'⟩ := gainN hS he ho
  refine ⟨_, hS', ?_⟩
  refine gAs ?_
  refine gE (gS (gR ?_))
  refine gAs ?_
  refine gE (gS (gS (gR ?_)))
  refine gAs ?_
  refine gE (gB ?_)
  refine GoH.loop (σ := Nat) (fun k => [(3, osv q (compF f).length cap), (4, .int .i64 (frgL ((compF f).take k))), (5, .int .i64 k)]) (fun _ => [(q, obN 54 (compF f) sp)]) (fun k => k ≤ (compF f).length) (fun k => (compF f).length - k) 0 (Nat.zero_le _) ⟨rfl, rfl, rfl, trivial⟩ (List.Sublist.refl _) (fun k hk IH => ?_)
  refine gS (gS (gR ?_))
  iterate 2 refine gMv ?_
  refine gBl Tryz.underlying26 ?_
  refine gBi bLt ?_
  refine gE ?_
  refine GoH.cond rfl (fun hc => ?_) (fun hc => ?_)
  ·
   have hm : k < (compF f).length := by simpa using hc
   obtain ⟨b, rfl⟩ : ∃ b, q = some b := by
     cases q with
     | none => have := (hq rfl).1; omega
     | some b => exact ⟨b, rfl⟩
   have h1 := frgL_lt ((compF f).take k)
   have h2 := frN_lt (compF f)[k]
   have h3 := frN_eq (compF f)[k]
   have h4 := hno _ (List.getElem_mem hm)
   have ht : frgL ((compF f).take (k + 1)) = frgL ((compF f).take k) ||| frN (compF f)[k] := by rw [List.take_succ_eq_append_getElem hm, frgL_snoc]
   refine gK (gS (gB (gR ?_)))
   iterate 3 refine gMv ?_
   refine GoH.v (Vop.idxS rfl rfl rfl rfl rfl Tryz.underlying26 Tryz.sizeOf54 (k) ⟨rfl, hm⟩) ?_
   refine GoH.v (Vop.fldA (a := some ⟨b, 0, none⟩) (o := (k) * 6) rfl rfl rfl rfl Tryz.underlying54 rfl Tryz.sizeOf3 ((k) * 6 + 0) rfl) ?_
   refine GoH.v (Vop.ld rfl rfl rfl rfl Tryz.isAgg3 (fun w _ hS => Sl.fld (enc := NV.cells) (sz := 6) (a := some ⟨b, 0, none⟩) (Sl.blk (hS.get (j := 0) rfl)) (fun _ => rfl) hm rfl)) ?_
   refine GoH.callP rfl rfl rfl rfl rfl (fun _ _ => Tryz.call23 _ _) (fun w _ hS => (by have := rfrag_c (compF f)[k].op w h4; rw [← h3] at this; exact this)) ?_
   refine GoH.v (Vop.bin rfl rfl rfl rfl (bOrI h1 h2 ht) rfl) ?_
   refine gAs ?_
   refine gE (gIb (gR ?_))
   refine gMv ?_
   refine GoH.v (Vop.bin rfl rfl rfl rfl (bAdd (by omega)) rfl) ?_
   refine gAs ?_
   refine gE ?_
   exact IH (k + 1) _ _ hm (by omega) ⟨rfl, rfl, rfl, trivial⟩ (List.Sublist.refl _)
  ·
   have hge : ¬ k < (compF f).length := by simpa using hc
   obtain rfl : k = (compF f).length := by omega
   rw [List.take_length]
   refine GoH.exit rfl (gS (gR ?_))
   refine gMv ?_
   refine gAs ?_
   refine gE ?_
   refine GoH.ret Tryz.f9 Tryz.func9 rfl (fun w' hS => ?_)
   exact ⟨hS.ext, rfl⟩
set_option maxRecDepth 4000 in
theorem rfacts05_c (a : Option Addr) (ca : Nat) (f : List NV) (w : World) (ha : FA w a f) (hl : f.length ≤ maxLen) : Cn Tryz.prog 21 [.slice a f.length ca] w (fun v _ => v = .int .i64 (orL ftN (compF f))) := by
  have hcl := compF_le f
  have hno := (compF_nodes f).fld
  refine Cn.of Tryz.func21 rfl rfl ?_
  refine gS (gR ?_)
  refine gAs ?_
  refine gE (gS (gR ?_))
  refine gMv ?_
  refine GoH.callM _ rfl rfl rfl rfl rfl (fun _ _ => Tryz.call22 _ _) (fun w _ hS => rcompact_c a ca f w (ha.ex0 hS.ext) hl) ?_
  rintro v w1 w2 Y' hS he ho
  rw [subF_top] at ho
  obtain ⟨q, cap, sp, rfl, hq, hcap, hS'⟩ := gainN hS he ho
  refine ⟨_, hS', ?_⟩
  refine gAs ?_
  refine gE (gS (gR ?_))
  refine gAs ?_
  refine gE (gS (gS (gR ?_)))
  refine gAs ?_
  refine gE (gB ?_)
  refine GoH.loop (σ := Nat) (fun k => [(3, osv q (compF f).length cap), (4, .int .i64 (orL ftN ((compF f).take k))), (5, .int .i64 k)]) (fun _ => [(q, obN 54 (compF f) sp)]) (fun k => k ≤ (compF f).length) (fun k => (compF f).length - k) 0 (Nat.zero_le _) ⟨rfl, rfl, rfl, trivial⟩ (List.Sublist.refl _) (fun k hk IH => ?_)
  refine gS (gS (gR ?_))
  iterate 2 refine gMv ?_
  refine gBl Tryz.underlying26 ?_
  refine gBi bLt ?_
  refine gE ?_
  refine GoH.cond rfl (fun hc => ?_) (fun hc => ?_)
  ·
   have hm : k < (compF f).length := by simpa using hc
   obtain ⟨b, rfl⟩ : ∃ b, q = some b := by
     cases q with
     | none => have := (hq rfl).1; omega
     | some b => exact ⟨b, rfl⟩
   have h1 : orL ftN ((compF f).take k) < 2 ^ 8 := orL_lt (fun n hn => ftN_lt (hno n (List.mem_of_mem_take hn)))
   have h2 := ftN_lt (hno _ (List.getElem_mem hm))
   have hf := (hno _ (List.getElem_mem hm)).fact
   have ht := orL_take (h := ftN) hm
   refine gK (gS (gB (gS (gR ?_))))
   iterate 2 refine gMv ?_
   refine GoH.v (Vop.idxS rfl rfl rfl rfl rfl Tryz.underlying26 Tryz.sizeOf54 (k) ⟨rfl, hm⟩) ?_
   refine GoH.v (Vop.fldA (a := some ⟨b, 0, none⟩) (o := (k) * 6) rfl rfl rfl rfl Tryz.underlying54 rfl Tryz.sizeOf3 ((k) * 6 + 0) rfl) ?_
   refine GoH.v (Vop.ld rfl rfl rfl rfl Tryz.isAgg3 (fun w _ hS => Sl.fld (enc := NV.cells) (sz := 6) (a := some ⟨b, 0, none⟩) (Sl.blk (hS.get (j := 0) rfl)) (fun _ => rfl) hm rfl)) ?_
   refine gBi bEq ?_
   refine gE ?_
   refine GoH.cond rfl (fun hc => ?_) (fun hc => ?_)
   ·
    have h3 : (compF f)[k].op = 3 := by simpa using hc
    have hft : ftN (compF f)[k] = 1 * 2 ^ (compF f)[k].i.toNat := by rw [ftN, if_pos h3, Nat.one_mul]
    have hi8 := hf h3
    rw [hft] at h2
    refine gR ?_
    iterate 3 refine gMv ?_
    refine GoH.v (Vop.idxS rfl rfl rfl rfl rfl Tryz.underlying26 Tryz.sizeOf54 (k) ⟨rfl, hm⟩) ?_
    refine GoH.v (Vop.fldA (a := some ⟨b, 0, none⟩) (o := (k) * 6) rfl rfl rfl rfl Tryz.underlying54 rfl Tryz.sizeOf3 ((k) * 6 + 1) rfl) ?_
    refine GoH.v (Vop.ld rfl rfl rfl rfl Tryz.isAgg3 (fun w _ hS => Sl.fld (enc := NV.cells) (sz := 6) (a := some ⟨b, 0, none⟩) (Sl.blk (hS.get (j := 0) rfl)) (fun _ => rfl) hm rfl)) ?_
    refine GoH.v (Vop.bin rfl rfl rfl rfl (bShlN (x := 1) (j := (compF f)[k].i.toNat) (by omega) (by omega) (by omega)) rfl) ?_
    refine GoH.v (Vop.bin rfl rfl rfl rfl (bOrI (c := orL ftN ((compF f).take (k + 1))) (by omega) (by omega) (by rw [ht, hft])) rfl) ?_
    refine gAs ?_
    refine gE (gIb (gR ?_))
    refine gMv ?_
    refine GoH.v (Vop.bin rfl rfl rfl rfl (bAdd (by omega)) rfl) ?_
    refine gAs ?_
    refine gE ?_
    exact IH (k + 1) _ _ hm (by omega) ⟨rfl, rfl, rfl, trivial⟩ (List.Sublist.refl _)
   ·
    have h3 : (compF f)[k].op ≠ 3 := by simpa using hc
    have ht2 : orL ftN ((compF f).take (k + 1)) = orL ftN ((compF f).take k) := by rw [ht, ftN, if_neg h3, Nat.or_zero]
    refine gK (gIb (gR ?_))
    refine gMv ?_
    refine GoH.v (Vop.bin rfl rfl rfl rfl (bAdd (by omega)) rfl) ?_
    refine gAs ?_
    refine gE ?_
    exact IH (k + 1) _ _ hm (by omega) ⟨rfl, (by rw [ht2]; rfl), rfl, trivial⟩ (List.Sublist.refl _)
  ·
   have hge : ¬ k < (compF f).length := by simpa using hc
   obtain rfl : k = (compF f).length := by omega
   rw [List.take_length]
   refine GoH.exit rfl (gS (gR ?_))
   refine gMv ?_
   refine gAs ?_
   refine gE ?_
   refine GoH.ret Tryz.f21 Tryz.func21 rfl (fun w' hS => ?_)
   exact ⟨hS.ext, rfl⟩
set_option maxRecDepth 4000 in
theorem ragents_c (a : Option Addr) (ca : Nat) (f : List NV) (w : World) (ha : FA w a f) (hl : f.length ≤ maxLen) : Cn Tryz.prog 20 [.slice a f.length ca] w (fun v _ => v = .int .i64 (orL agN (compF f))) := by
  have hcl := compF_le f
  have hno := (compF_nodes f).fld
  refine Cn.of Tryz.func20 rfl rfl ?_
  refine gS (gR ?_)
  refine gAs ?_
  refine gE (gS (gR ?_))
  refine gMv ?_
  refine GoH.callM _ rfl rfl rfl rfl rfl (fun _ _ => Tryz.call22 _ _) (fun w _ hS => rcompact_c a ca f w (ha.ex0 hS.ext) hl) ?_
  rintro v w1 w2 Y' hS he ho
  rw [subF_top] at ho
  obtain ⟨q, cap, sp, rfl, hq, hcap, hS'⟩ := gainN hS he ho
  refine ⟨_, hS', ?_⟩
  refine gAs ?_
  refine gE (gS (gR ?_))
  refine gAs ?_
  refine gE (gS (gS (gR ?_)))
  refine gAs ?_
  refine gE (gB ?_)
  refine GoH.loop (σ := Nat) (fun k => [(3, osv q (compF f).length cap), (4, .int .i64 (orL agN ((compF f).take k))), (5, .int .i64 k)]) (fun _ => [(q, obN 54 (compF f) sp)]) (fun k => k ≤ (compF f).length) (fun k => (compF f).length - k) 0 (Nat.zero_le _) ⟨rfl, rfl, rfl, trivial⟩ (List.Sublist.refl _) (fun k hk IH => ?_)
  refine gS (gS (gR ?_))
  iterate 2 refine gMv ?_
  refine gBl Tryz.underlying26 ?_
  refine gBi bLt ?_
  refine gE ?_
  refine GoH.cond rfl (fun hc => ?_) (fun hc => ?_)
  ·
   have hm : k < (compF f).length := by simpa using hc
   obtain ⟨b, rfl⟩ : ∃ b, q = some b := by
     cases q with
     | none => have := (hq rfl).1; omega
     | some b => exact ⟨b, rfl⟩
   have h1 : orL agN ((compF f).take k) < 2 ^ 4 := orL_lt (fun n hn => agN_lt (hno n (List.mem_of_mem_take hn)))
   have hg := g_lt (hno _ (List.getElem_mem hm))
   have hg0 : 0 ≤ (compF f)[k].g := by
     cases e : grO (compF f)[k].op with
     | false => have := (hno _ (List.getElem_mem hm)).g0 e; omega
     | true => have := (hno _ (List.getElem_mem hm)).gr e; omega
   have hgn : (((compF f)[k].g.toNat : Nat) : Int) = (compF f)[k].g := Int.toNat_of_nonneg hg0
   have hag := (hno _ (List.getElem_mem hm)).ag
   have ht := orL_take (h := agN) hm
   have hag2 : ∀ x : Nat, x < 2 ^ 4 → x ||| (compF f)[k].g.toNat < 2 ^ 4 := fun x hx => Nat.or_lt_two_pow hx hg
   refine gK (gS (gB (gS (gS (gR ?_)))))
   iterate 2 refine gMv ?_
   refine GoH.v (Vop.idxS rfl rfl rfl rfl rfl Tryz.underlying26 Tryz.sizeOf54 (k) ⟨rfl, hm⟩) ?_
   refine GoH.v (Vop.fldA (a := some ⟨b, 0, none⟩) (o := (k) * 6) rfl rfl rfl rfl Tryz.underlying54 rfl Tryz.sizeOf3 ((k) * 6 + 0) rfl) ?_
   refine GoH.v (Vop.ld rfl rfl rfl rfl Tryz.isAgg3 (fun w _ hS => Sl.fld (enc := NV.cells) (sz := 6) (a := some ⟨b, 0, none⟩) (Sl.blk (hS.get (j := 0) rfl)) (fun _ => rfl) hm rfl)) ?_
   refine GoH.callP rfl rfl rfl rfl rfl (fun _ _ => Tryz.call38 _ _) (fun w _ hS => (by exact agent_c (compF f)[k].op w)) ?_
   refine gE ?_
   refine GoH.cond rfl (fun hc => ?_) (fun hc => ?_)
   ·
    have h3 := hag hc
    have h2 : 2 ^ (compF f)[k].i.toNat < 2 ^ 4 := Nat.pow_lt_pow_right (by decide) (by omega)
    have hor : orL agN ((compF f).take k) ||| 1 * 2 ^ (compF f)[k].i.toNat < 2 ^ 4 := Nat.or_lt_two_pow h1 (by omega)
    refine gR ?_
    iterate 3 refine gMv ?_
    refine GoH.v (Vop.idxS rfl rfl rfl rfl rfl Tryz.underlying26 Tryz.sizeOf54 (k) ⟨rfl, hm⟩) ?_
    refine GoH.v (Vop.fldA (a := some ⟨b, 0, none⟩) (o := (k) * 6) rfl rfl rfl rfl Tryz.underlying54 rfl Tryz.sizeOf3 ((k) * 6 + 1) rfl) ?_
    refine GoH.v (Vop.ld rfl rfl rfl rfl Tryz.isAgg3 (fun w _ hS => Sl.fld (enc := NV.cells) (sz := 6) (a := some ⟨b, 0, none⟩) (Sl.blk (hS.get (j := 0) rfl)) (fun _ => rfl) hm rfl)) ?_
    refine GoH.v (Vop.bin rfl rfl rfl rfl (bShlN (x := 1) (j := (compF f)[k].i.toNat) (by omega) (by omega) (by omega)) rfl) ?_
    refine GoH.v (Vop.bin rfl rfl rfl rfl (bOrI (c := orL agN ((compF f).take k) ||| 1 * 2 ^ (compF f)[k].i.toNat) (by omega) (by omega) rfl) rfl) ?_
    refine gAs ?_
    refine gE (gR ?_)
    iterate 3 refine gMv ?_
    refine GoH.v (Vop.idxS rfl rfl rfl rfl rfl Tryz.underlying26 Tryz.sizeOf54 (k) ⟨rfl, hm⟩) ?_
    refine GoH.v (Vop.fldA (a := some ⟨b, 0, none⟩) (o := (k) * 6) rfl rfl rfl rfl Tryz.underlying54 rfl Tryz.sizeOf3 ((k) * 6 + 3) rfl) ?_
    refine GoH.v (Vop.ld rfl rfl rfl rfl Tryz.isAgg3 (fun w _ hS => Sl.fld (enc := NV.cells) (sz := 6) (a := some ⟨b, 0, none⟩) (Sl.blk (hS.get (j := 0) rfl)) (fun _ => rfl) hm rfl)) ?_
    refine GoH.v (Vop.bin rfl rfl rfl rfl (by have := bOrI (P := Tryz.prog) (t := 3) (a := orL agN ((compF f).take k) ||| 1 * 2 ^ (compF f)[k].i.toNat) (b := (compF f)[k].g.toNat) (c := orL agN ((compF f).take (k + 1))) (by omega) (by omega) (by rw [ht, agN, if_pos hc, Nat.one_mul, Nat.or_assoc]); rw [hgn] at this; exact this) rfl) ?_
    refine gAs ?_
    refine gE (gIb (gR ?_))
    refine gMv ?_
    refine GoH.v (Vop.bin rfl rfl rfl rfl (bAdd (by omega)) rfl) ?_
    refine gAs ?_
    refine gE ?_
    exact IH (k + 1) _ _ hm (by omega) ⟨rfl, rfl, rfl, trivial⟩ (List.Sublist.refl _)
   ·
    refine gK (gR ?_)
    iterate 3 refine gMv ?_
    refine GoH.v (Vop.idxS rfl rfl rfl rfl rfl Tryz.underlying26 Tryz.sizeOf54 (k) ⟨rfl, hm⟩) ?_
    refine GoH.v (Vop.fldA (a := some ⟨b, 0, none⟩) (o := (k) * 6) rfl rfl rfl rfl Tryz.underlying54 rfl Tryz.sizeOf3 ((k) * 6 + 3) rfl) ?_
    refine GoH.v (Vop.ld rfl rfl rfl rfl Tryz.isAgg3 (fun w _ hS => Sl.fld (enc := NV.cells) (sz := 6) (a := some ⟨b, 0, none⟩) (Sl.blk (hS.get (j := 0) rfl)) (fun _ => rfl) hm rfl)) ?_
    refine GoH.v (Vop.bin rfl rfl rfl rfl (by have := bOrI (P := Tryz.prog) (t := 3) (a := orL agN ((compF f).take k)) (b := (compF f)[k].g.toNat) (c := orL agN ((compF f).take (k + 1))) (by omega) (by omega) (by rw [ht, agN, if_neg (by rw [hc]; simp), Nat.zero_or]); rw [hgn] at this; exact this) rfl) ?_
    refine gAs ?_
    refine gE (gIb (gR ?_))
    refine gMv ?_
    refine GoH.v (Vop.bin rfl rfl rfl rfl (bAdd (by omega)) rfl) ?_
    refine gAs ?_
    refine gE ?_
    exact IH (k + 1) _ _ hm (by omega) ⟨rfl, rfl, rfl, trivial⟩ (List.Sublist.refl _)
  ·
   have hge : ¬ k < (compF f).length := by simpa using hc
   obtain rfl : k = (compF f).length := by omega
   rw [List.take_length]
   refine GoH.exit rfl (gS (gR ?_))
   refine gMv ?_
   refine gAs ?_
   refine gE ?_
   refine GoH.ret Tryz.f20 Tryz.func20 rfl (fun w' hS => ?_)
   exact ⟨hS.ext, rfl⟩
set_option maxRecDepth 4000 in
theorem rfitsF_c (a : Option Addr) (ca : Nat) (f : List NV) (A B : Nat) (w : World) (ha : FA w a f) (hl : f.length ≤ maxLen) : Cn Tryz.prog 8 [.slice a f.length ca, .int .i64 A, .int .i64 B] w (fun v _ => v = .bool (fitB f A B)) := by
  have hno := (compF_nodes f).fld
  have h1 : orL agN (compF f) < 2 ^ 4 := orL_lt (fun n hn => agN_lt (hno n hn))
  have h2 : orL ftN (compF f) < 2 ^ 8 := orL_lt (fun n hn => ftN_lt (hno n hn))
  refine Cn.of Tryz.func8 rfl rfl ?_
  refine gS (gR ?_)
  refine gAs ?_
  refine gE (gS (gS (gR ?_)))
  refine gMv ?_
  refine GoH.callP rfl rfl rfl rfl rfl (fun _ _ => Tryz.call19 _ _) (fun w _ hS => (by exact rchk_c a ca f w (ha.ex0 hS.ext) hl)) ?_
  refine gBi bNe ?_
  refine gE ?_
  refine GoH.cond rfl (fun hc => ?_) (fun hc => ?_)
  ·
   have h0 : chkF f ≠ 0 := by simpa using hc
   refine gS (gR ?_)
   refine gAs ?_
   refine gE ?_
   refine GoH.ret Tryz.f8 Tryz.func8 rfl (fun w' hS => ?_)
   exact ⟨hS.ext, by rw [fitB, show (chkF f == 0) = false by simpa using h0]; rfl⟩
  ·
   have h0 : chkF f = 0 := by simpa using hc
   refine gK (gS (gS (gR ?_)))
   refine gAs ?_
   refine gE (gB ?_)
   refine GoH.loop (σ := Nat) (fun k => [(0, .slice a f.length ca), (1, .int .i64 A), (2, .int .i64 B), (7, .int .i64 k)]) (fun _ => []) (fun k => k ≤ 4 ∧ ∀ i, i < k → gb (orL agN (compF f)) i = 1 → i < A) (fun k => 4 - k) 0 ⟨Nat.zero_le _, fun i hi => absurd hi (Nat.not_lt_zero _)⟩ ⟨rfl, rfl, rfl, rfl, trivial⟩ .slnil (fun k hI IH => ?_)
   obtain ⟨hk, hall⟩ := hI
   refine gS (gS (gR ?_))
   refine gMv ?_
   refine gBi bLt ?_
   refine gE ?_
   refine GoH.cond rfl (fun hc => ?_) (fun hc => ?_)
   ·
    have hm : k < 4 := by simp at hc; omega
    refine gK (gS (gB (gS (gR ?_))))
    refine gMv ?_
    refine GoH.callP rfl rfl rfl rfl rfl (fun _ _ => Tryz.call20 _ _) (fun w _ hS => (by exact ragents_c a ca f w (ha.ex0 hS.ext) hl)) ?_
    refine gMv ?_
    refine GoH.v (Vop.bin rfl rfl rfl rfl (bShrN (j := k) rfl (by omega) (by omega)) rfl) ?_
    refine GoH.v (Vop.bin rfl rfl rfl rfl bRem2N rfl) ?_
    refine gBi bEq ?_
    refine gMv ?_
    refine GoH.cases (d := 22) rfl (fun hc => ?_) (fun hc => ?_)
    ·
     have hb1 : gb (orL agN (compF f)) k = 1 := Int.ofNat_inj.1 (show ((gb (orL agN (compF f)) k : Nat) : Int) = ((1 : Nat) : Int) from beq_iff_eq.1 hc)
     iterate 2 refine gMv ?_
     refine gBi bGe ?_
     refine gPt ?_
     refine gE ?_
     refine GoH.cond rfl (fun hc => ?_) (fun hc => ?_)
     ·
      have hge : ¬ k < A := by simp at hc; omega
      refine gS (gR ?_)
      refine gAs ?_
      refine gE ?_
      refine GoH.ret Tryz.f8 Tryz.func8 rfl (fun w' hS => ?_)
      exact ⟨hS.ext, by rw [fitB, okM_false hm hb1 hge, Bool.false_and, Bool.and_false]; rfl⟩
     ·
      have hlt : k < A := by simp at hc; omega
      refine gK (gIb (gR ?_))
      refine gMv ?_
      refine GoH.v (Vop.bin rfl rfl rfl rfl (bAdd (by omega)) rfl) ?_
      refine gAs ?_
      refine gE ?_
      exact IH (k + 1) _ _ ⟨by omega, fun i hi hb => by rcases Nat.lt_succ_iff_lt_or_eq.1 hi with h | rfl; exact hall i h hb; exact hlt⟩ (by omega) ⟨rfl, rfl, rfl, rfl, trivial⟩ .slnil
    ·
     have hb0 : gb (orL agN (compF f)) k ≠ 1 := fun h => by
       have h3 : ((gb (orL agN (compF f)) k : Nat) : Int) ≠ 1 := beq_eq_false_iff_ne.1 hc
       omega
     iterate 3 refine gNo ?_
     refine gPf ?_
     refine gE (GoH.condF rfl (gK (gIb (gR ?_))))
     refine gMv ?_
     refine GoH.v (Vop.bin rfl rfl rfl rfl (bAdd (by omega)) rfl) ?_
     refine gAs ?_
     refine gE ?_
     exact IH (k + 1) _ _ ⟨by omega, fun i hi hb => by rcases Nat.lt_succ_iff_lt_or_eq.1 hi with h | rfl; exact hall i h hb; exact absurd hb hb0⟩ (by omega) ⟨rfl, rfl, rfl, rfl, trivial⟩ .slnil
   ·
    have hge : ¬ k < 4 := by simp at hc; omega
    obtain rfl : k = 4 := by omega
    have hA := okM_all hall
    refine GoH.exit rfl (gS (gS (gR ?_)))
    refine gAs ?_
    refine gE (gB ?_)
    refine GoH.loop (σ := Nat) (fun k => [(0, .slice a f.length ca), (1, .int .i64 A), (2, .int .i64 B), (8, .int .i64 k)]) (fun _ => []) (fun k => k ≤ 8 ∧ ∀ i, i < k → gb (orL ftN (compF f)) i = 1 → i < B) (fun k => 8 - k) 0 ⟨Nat.zero_le _, fun i hi => absurd hi (Nat.not_lt_zero _)⟩ ⟨rfl, rfl, rfl, rfl, trivial⟩ .slnil (fun k hI IH => ?_)
    obtain ⟨hk, hall⟩ := hI
    refine gS (gS (gR ?_))
    refine gMv ?_
    refine gBi bLt ?_
    refine gE ?_
    refine GoH.cond rfl (fun hc => ?_) (fun hc => ?_)
    ·
     have hm : k < 8 := by simp at hc; omega
     refine gK (gS (gB (gS (gR ?_))))
     refine gMv ?_
     refine GoH.callP rfl rfl rfl rfl rfl (fun _ _ => Tryz.call21 _ _) (fun w _ hS => (by exact rfacts05_c a ca f w (ha.ex0 hS.ext) hl)) ?_
     refine gMv ?_
     refine GoH.v (Vop.bin rfl rfl rfl rfl (bShrN (j := k) rfl (by omega) (by omega)) rfl) ?_
     refine GoH.v (Vop.bin rfl rfl rfl rfl bRem2N rfl) ?_
     refine gBi bEq ?_
     refine gMv ?_
     refine GoH.cases (d := 37) rfl (fun hc => ?_) (fun hc => ?_)
     ·
      have hb1 : gb (orL ftN (compF f)) k = 1 := Int.ofNat_inj.1 (show ((gb (orL ftN (compF f)) k : Nat) : Int) = ((1 : Nat) : Int) from beq_iff_eq.1 hc)
      iterate 2 refine gMv ?_
      refine gBi bGe ?_
      refine gPt ?_
      refine gE ?_
      refine GoH.cond rfl (fun hc => ?_) (fun hc => ?_)
      ·
       have hge : ¬ k < B := by simp at hc; omega
       refine gS (gR ?_)
       refine gAs ?_
       refine gE ?_
       refine GoH.ret Tryz.f8 Tryz.func8 rfl (fun w' hS => ?_)
       exact ⟨hS.ext, by rw [fitB, okM_false hm hb1 hge, Bool.and_false, Bool.and_false]; rfl⟩
      ·
       have hlt : k < B := by simp at hc; omega
       refine gK (gIb (gR ?_))
       refine gMv ?_
       refine GoH.v (Vop.bin rfl rfl rfl rfl (bAdd (by omega)) rfl) ?_
       refine gAs ?_
       refine gE ?_
       exact IH (k + 1) _ _ ⟨by omega, fun i hi hb => by rcases Nat.lt_succ_iff_lt_or_eq.1 hi with h | rfl; exact hall i h hb; exact hlt⟩ (by omega) ⟨rfl, rfl, rfl, rfl, trivial⟩ .slnil
     ·
      have hb0 : gb (orL ftN (compF f)) k ≠ 1 := fun h => by
        have h3 : ((gb (orL ftN (compF f)) k : Nat) : Int) ≠ 1 := beq_eq_false_iff_ne.1 hc
        omega
      iterate 3 refine gNo ?_
      refine gPf ?_
      refine gE (GoH.condF rfl (gK (gIb (gR ?_))))
      refine gMv ?_
      refine GoH.v (Vop.bin rfl rfl rfl rfl (bAdd (by omega)) rfl) ?_
      refine gAs ?_
      refine gE ?_
      exact IH (k + 1) _ _ ⟨by omega, fun i hi hb => by rcases Nat.lt_succ_iff_lt_or_eq.1 hi with h | rfl; exact hall i h hb; exact absurd hb hb0⟩ (by omega) ⟨rfl, rfl, rfl, rfl, trivial⟩ .slnil
    ·
     have hge : ¬ k < 8 := by simp at hc; omega
     obtain rfl : k = 8 := by omega
     refine GoH.exit rfl (gS (gR ?_))
     refine gAs ?_
     refine gE ?_
     refine GoH.ret Tryz.f8 Tryz.func8 rfl (fun w' hS => ?_)
     exact ⟨hS.ext, by rw [fitB, okM_all hall, hA, h0]; rfl⟩
end Go.Proofs.YthojdcaojjmoaaaGreatDoor
