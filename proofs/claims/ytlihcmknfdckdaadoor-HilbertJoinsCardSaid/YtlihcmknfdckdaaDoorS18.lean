/- What calls of the program return, under the conditions that each theorem states. -/
import Derived.Test.YtlihcmknfdckdaaDoorS17
import Derived.Test.YtlihcmknfdckdaaDoorS07
import Derived.Test.YtlihcmknfdckdaaDoorS04
import Derived.Test.YtlihcmknfdckdaaDoorS06
import Derived.Test.YtlihcmknfdckdaaDoorS15
import Derived.Test.YtlihcmknfdckdaaDoorS16
namespace Go.Proofs.YtlihcmknfdckdaaDoor
open Go.RowKit Go.Proofs.Wit Tryd
/-! the reference's canonical lists -/
theorem rchk_c (a : Option Addr) (ca : Nat) (f : List NV) (w : World) (ha : FA w a f) (hl : f.length ≤ maxLen) : Cn Tryd.prog 25 [.slice a f.length ca] w (fun v _ => v = .int .i64 (chkF f)) := by
  unfold maxLen at hl
  refine Cn.of func25 rfl rfl ?_
  refine gS (gR ?_); refine gAs ?_; refine gE (gS (gS (gR ?_))); refine gMv ?_; refine gBl underlying23 ?_; refine gBi bEq ?_; refine gE ?_
  refine gC (fun hc => ?_) fun hc => ?_
  ·
   have h1 : f.length = 0 := by simpa using hc
   refine gS (gR ?_); refine gAs ?_; refine gE ?_
   refine gT func25 fun w' hS => ?_
   exact ⟨hS.ext, by rw [chkF, if_pos h1]; rfl⟩
  ·
   have h1 : ¬ f.length = 0 := by simpa using hc
   refine gK (gS (gS (gR ?_))); refine gMv ?_; refine gBl underlying23 ?_; refine gBi bGt ?_; refine gE ?_
   refine gC (fun hc => ?_) fun hc => ?_
   ·
    have h2 : 200 < f.length := by simp at hc; omega
    refine gS (gR ?_); refine gAs ?_; refine gE ?_
    refine gT func25 fun w' hS => ?_
    exact ⟨hS.ext, by rw [chkF, if_neg h1, if_pos h2]; rfl⟩
   ·
    have h2 : ¬ 200 < f.length := by simp at hc; omega
    refine gK (gS (gS (gR ?_))); refine gAs ?_; refine gE (gB ?_)
    refine GoH.loop (σ := Nat) (fun k => [(0, .slice a f.length ca), (3, .int .i64 k)]) (fun _ => []) (fun k => k ≤ f.length ∧ firstE (errF f) k = 0) (fun k => f.length - k) 0 ⟨Nat.zero_le _, rfl⟩ ⟨rfl, rfl, trivial⟩ .slnil (fun k hI IH => ?_)
    obtain ⟨hk, hz⟩ := hI
    refine gS (gS (gR ?_))
    iterate 2 refine gMv ?_
    refine gBl underlying23 ?_; refine gBi bLt ?_; refine gE ?_
    refine gC (fun hc => ?_) fun hc => ?_
    ·
     have hlt : k < f.length := by simpa using hc
     have he : errF f k = nodeE f[k] k := by simp [errF, List.getD_eq_getElem?_getD, hlt]
     refine gK (gS (gB (gS (gR ?_))))
     iterate 2 refine gMv ?_
     refine GoH.v (Vop.idxN rfl rfl rfl rfl rfl underlying23 sizeOf80 ⟨_, (ha).at_⟩ (flat_len (enc := NV.cells) (sz := 6) (fun _ => rfl)) (by decide) (k) ⟨rfl, hlt⟩) ?_
     refine GoH.v (Vop.ldN (cs := NV.cells f[k]) rfl rfl rfl rfl isAgg80 sizeOf80 (fun w _ hS => Sl.many (enc := NV.cells) (sz := 6) (ha.ex0 hS.ext).at_ (fun _ => rfl) hlt)) ?_
     refine gMv ?_
     refine gP rfl rfl rfl rfl rfl call56 (fun w _ hS => (by exact rnode_c f[k] k w)) ?_
     refine gAs ?_; refine gE (gS (gR ?_)); refine gMv ?_; refine gBi bNe ?_; refine gE ?_
     refine gC (fun hc => ?_) fun hc => ?_
     ·
      have h3 : nodeE f[k] k ≠ 0 := by simpa using hc
      refine gS (gR ?_); refine gMv ?_; refine gAs ?_; refine gE ?_
      refine gT func25 fun w' hS => ?_
      exact ⟨hS.ext, by rw [chkF, if_neg h1, if_neg h2, firstE_hit hz (by rw [he]; exact h3) hlt, he]; rfl⟩
     ·
      have h3 : nodeE f[k] k = 0 := by simpa using hc
      refine gK (gIb (gR ?_)); refine gMv ?_; refine gBx rfl rfl rfl rfl (bAdd (by omega)) ?_; refine gAs ?_; refine gE ?_
      exact IH (k + 1) _ _ ⟨hlt, by rw [firstE, if_neg (by simp [hz]), he]; exact h3⟩ (by omega) ⟨rfl, rfl, trivial⟩ .slnil
    ·
     have hge : ¬ k < f.length := by simpa using hc
     obtain rfl : k = f.length := by omega
     refine GoH.exit rfl (gS (gR ?_))
     refine gAs ?_; refine gE ?_
     refine gT func25 fun w' hS => ?_
     exact ⟨hS.ext, by rw [chkF, if_neg h1, if_neg h2, hz]; rfl⟩
/-- the state of a walk: two lists in a struct -/
def walkH (bw : Nat) (q : Option Nat) (cap : Nat) (ts : List Tr) (sp : List Value) (dv : Value) : Hl := [(some bw, .cells #[osv q (nodesOf ts).length cap, dv] 124 (0, 0)), (q, obN 80 (nodesOf ts) sp)]
set_option maxRecDepth 4000 in
theorem put_c (bw : Nat) (q : Option Nat) (cap : Nat) (ts : List Tr) (sp : List Value) (dv : Value) (t : Tr) (w : World) (hh : HasH w (walkH bw q cap ts sp dv)) (ho : OutOk q cap ts sp) (hlen : ts.length ≤ 100000) (htw : t.wf) (hk : ∀ c ∈ kids t, c ∈ ts) (_hone : dv.oneCell' = true) :
    CnS Tryd.prog 141 [.pointer (some ⟨bw, 0, none⟩), (nodeOf ts t).v] w (walkH bw q cap ts sp dv) (fun v h' => ∃ q' cap' sp', h' = walkH bw q' cap' (if t ∈ ts then ts else ts ++ [t]) sp' dv ∧ OutOk q' cap' (if t ∈ ts then ts else ts ++ [t]) sp' ∧ v = .int .i64 ((if t ∈ ts then ts else ts ++ [t]).idxOf t : Int)) := by
  obtain ⟨i0, hi, hz, hsz, hby⟩ := info_parts infoN
  have hnl : (nodesOf ts).length = ts.length := nodesOf_len
  refine CnS.of hh func141 rfl rfl ?_
  unfold walkH
  refine gS (gR ?_)
  refine GoH.bx rfl rfl rfl rfl (fun b3 => ?_)
  refine gAs ?_; refine gE (gS (gS (gR ?_))); refine gAs ?_; refine gE (gB ?_)
  refine GoH.loop (σ := Nat) (fun k => [(0, .pointer (some ⟨bw, 0, none⟩)), (3, .pointer (some ⟨b3, 0, none⟩)), (5, .int .i64 k)]) (fun _ => [(some b3, .cells (nodeOf ts t).v.cells 80 (0, 0)), (some bw, .cells #[osv q (nodesOf ts).length cap, dv] 124 (0, 0)), (q, obN 80 (nodesOf ts) sp)])
    (fun k => k ≤ ts.length ∧ ∀ j, j < k → (nodesOf ts)[j]? ≠ some (nodeOf ts t)) (fun k => ts.length - k) 0 ⟨Nat.zero_le _, fun j hj => absurd hj (Nat.not_lt_zero _)⟩ ⟨rfl, rfl, rfl, trivial⟩ (List.Sublist.refl _) (fun k hI IH => ?_)
  obtain ⟨hkl, hno⟩ := hI
  refine gS (gS (gR ?_))
  iterate 2 refine gMv ?_
  refine gNk ?_; refine gFp underlying124 sizeOf23 0 ?_; refine gLo isAgg23 1 ?_; refine gBl underlying23 ?_; refine gBi bLt ?_; refine gE ?_
  refine gC (fun hc => ?_) fun hc => ?_
  ·
   have hlt : k < ts.length := by simp at hc; omega
   have hlt2 : k < (nodesOf ts).length := by omega
   obtain ⟨b0, rfl⟩ : ∃ b0, q = some b0 := by
     cases q with
     | none => have := (ho.nil rfl).1; omega
     | some b0 => exact ⟨b0, rfl⟩
   refine gK (gS (gB (gS ?_)))
   refine GoH.draw 9 mixed rfl ?_
   refine rMv ?_; refine rNk ?_; refine rFp underlying124 sizeOf23 0 ?_; refine rLo isAgg23 1 ?_; refine rMv ?_
   refine RdGo.v (Vop.idxS rfl rfl rfl rfl rfl underlying23 sizeOf80 k ⟨rfl, hlt2⟩) ?_
   refine RdGo.v (Vop.ldN (cs := NV.cells (nodesOf ts)[k]) rfl rfl rfl rfl isAgg80 sizeOf80 (fun w _ hS => Sl.many (enc := NV.cells) (sz := 6) (a := some ⟨b0, 0, none⟩) (Sl.blk (hS.get (j := 2) rfl)) (fun _ => rfl) hlt2)) ?_
   refine RdGo.v (Vop.ldB rfl rfl rfl rfl isAgg80 0 rfl sizeOf80 rfl) ?_
   refine RdGo.v (Vop.bin rfl rfl rfl rfl (bEqN (a := (nodesOf ts)[k]) (b := nodeOf ts t)) rfl) ?_
   refine RdGo.nil ?_
   refine gE ?_
   refine gC (fun hc => ?_) fun hc => ?_
   ·
    have he : (nodesOf ts)[k] = nodeOf ts t := by simpa using hc
    have he2 : (nodesOf ts)[k]? = some (nodeOf ts t) := by rw [List.getElem?_eq_getElem hlt2, he]
    have hmem : t ∈ ts := Classical.byContradiction (fun hn => put_new ho.clo ho.wf htw hk hn k he2)
    obtain ⟨p1, p2⟩ := put_old ho.clo ho.nd ho.wf hmem
    have hix : ts.idxOf t = k := by
      rcases Nat.lt_trichotomy (ts.idxOf t) k with h | h | h
      · exact absurd p1 (hno _ h)
      · exact h
      · exact absurd he2 (p2 k h)
    refine gS (gR ?_); refine gMv ?_; refine gAs ?_; refine gE ?_
    refine gT func141 fun w' hS => ?_
    rw [if_pos hmem]
    exact ⟨_, ⟨some b0, cap, sp, rfl, ho, by rw [hix]; rfl⟩, hS.subH (.cons _ (List.Sublist.refl _))⟩
   ·
    have he : (nodesOf ts)[k] ≠ nodeOf ts t := by simpa using hc
    refine gK (gIb (gR ?_)); refine gMv ?_; refine gBx rfl rfl rfl rfl (bAdd (by omega)) ?_; refine gAs ?_; refine gE ?_
    exact IH (k + 1) _ _ ⟨hlt, fun j hj => by
    by_cases e : j = k
    · subst e; rw [List.getElem?_eq_getElem hlt2]; intro h; exact he (Option.some.inj h)
    · exact hno j (by omega)⟩ (by omega) ⟨rfl, rfl, rfl, trivial⟩ (List.Sublist.refl _)
  ·
   have hge : ¬ k < ts.length := by simp at hc; omega
   have hmem : t ∉ ts := fun hm => by
     obtain ⟨p1, _⟩ := put_old ho.clo ho.nd ho.wf hm
     exact hno _ (by have := List.idxOf_lt_length_iff.2 hm; omega) p1
   have hsn := nodesOf_snoc ho.clo hk
   have e1 : (nodesOf ts).flatMap NV.cells ++ NV.cells (nodeOf ts t) = (nodesOf (ts ++ [t])).flatMap NV.cells := by rw [hsn, List.flatMap_append]; simp
   have e2 : (nodesOf ts).length + 1 = (nodesOf (ts ++ [t])).length := by rw [hsn]; simp
   refine GoH.exit rfl (gS ?_)
   refine GoH.drawTs 6 12 [(some b3, .cells (nodeOf ts t).v.cells 80 (0, 0)), (some bw, .cells #[osv q (nodesOf ts).length cap, dv] 124 (0, 0))] (by repeat (first | exact List.Sublist.refl _ | exact List.nil_sublist _ | refine List.Sublist.cons_cons _ ?_ | refine List.Sublist.cons _ ?_)) mixed rfl ?_
   iterate 2 refine RdT.v (Vop.mv rfl rfl rfl rfl) ?_
   refine RdT.v (Vop.nilCk rfl rfl rfl rfl) ?_
   refine RdT.v (Vop.fldP rfl rfl rfl rfl underlying124 rfl (by exact sizeOf23) 0 rfl) ?_
   refine RdT.v (Vop.ldo rfl rfl rfl rfl isAgg23 1 rfl rfl) ?_
   refine RdT.v (Vop.ldB rfl rfl rfl rfl isAgg80 0 rfl sizeOf80 rfl) ?_
   refine RdT.nil ?_
   refine Tl.one (d := 31) rfl ?_
   refine Mop.bsN (c := [_, _, _, _, _, _]) rfl rfl rfl rfl underlying23 sizeOf80 zeroValue80 rfl rfl (fun b31 => ⟨by repeat (first | exact List.Sublist.refl _ | exact List.nil_sublist _ | refine List.Sublist.cons_cons _ ?_ | refine List.Sublist.cons _ ?_), ?_⟩)
   refine Tl.one (d := 32) rfl ?_
   refine Mop.app 6 (xs := (nodesOf ts).flatMap NV.cells) (sp := sp) (nx := (nodesOf ts).length) (q := q) (news := NV.cells (nodeOf ts t)) (spn := []) rfl rfl rfl rfl rfl underlying23 hi hz hsz rfl ho.nil 3 rfl 0 rfl flatN ho.cap rfl (by decide) (fun u hu => by
     simp only [NV.cells, List.mem_cons, List.not_mem_nil, or_false] at hu
     rcases hu with rfl | rfl | rfl | rfl | rfl | rfl <;> rfl) (by unfold maxLen; omega) (by rw [hby]; omega) (fun b' sp' cap' hlen => ⟨.cons _ (.cons_cons _ (.cons_cons _ (List.nil_sublist _))), ?_⟩)
   rw [e1] at hlen ⊢
   rw [e2]
   refine Tl.sw [8, 9, 10] rfl rfl ?_
   refine gNk ?_; refine gFp underlying124 sizeOf23 0 ?_
   refine GoH.st rfl rfl rfl rfl sizeOf23 rfl 2 rfl rfl ?_
   refine gE (gS (gR ?_)); refine gMv ?_; refine gNk ?_; refine gFp underlying124 sizeOf23 0 ?_; refine gLo isAgg23 2 ?_; refine gBl underlying23 ?_
   refine gBx rfl rfl rfl rfl (bSubE (c := (ts.length : Int)) (by rw [nodesOf_len]; simp) (by omega)) ?_
   refine gAs ?_; refine gE ?_
   refine gT func141 fun w' hS => ?_
   rw [if_neg hmem]
   exact ⟨_, ⟨some b', cap', sp', rfl, ⟨(fun e => by cases e), hlen, ho.clo.snoc hk, nodup_snoc ho.nd hmem, fun u hu => by
     rcases List.mem_append.1 hu with hu | hu
     · exact ho.wf u hu
     · rw [List.mem_singleton.1 hu]; exact htw⟩, by rw [nodup_idx hmem]; rfl⟩, hS.subH (.cons _ (.cons _ (List.Sublist.refl _)))⟩
end Go.Proofs.YtlihcmknfdckdaaDoor
namespace Go.Proofs.YtlihcmknfdckdaaDoor
open Go.RowKit Go.Proofs.Wit Tryd
/-! the reference's walk -/
def finH (bw : Nat) (q : Option Nat) (cap : Nat) (ts : List Tr) (sp : List Value) (bd capd : Nat) (ds : List Int) (dsp : List Value) : Hl :=
 [(some bw, .cells #[osv q (nodesOf ts).length cap, osv (some bd) ds.length capd] 124 (0, 0)), (q, obN 80 (nodesOf ts) sp), (some bd, ob I64 3 ds dsp)]
def FinPost (f : List NV) (i bw bd capd : Nat) (dsp : List Value) (ts : List Tr) (v : Value) (h' : Hl) : Prop :=
 ∃ q' cap' sp' ds', h' = finH bw q' cap' (visit (treeAt f i) ts) sp' bd capd ds' dsp ∧ OutOk q' cap' (visit (treeAt f i) ts) sp' ∧ DoneOk f (visit (treeAt f i) ts) ds' ∧ v = .int .i64 ((visit (treeAt f i) ts).idxOf (treeAt f i) : Int)
set_option maxRecDepth 8000 in
theorem finish_c (f : List NV) (a : Option Addr) (ca : Nat) (hf : NodesOk f) (hfl : f.length ≤ 10000) (bw bd capd : Nat) (dsp : List Value) : ∀ (i : Nat), i < f.length → ∀ (w : World) (q : Option Nat) (cap : Nat) (ts : List Tr) (sp : List Value) (ds : List Int),
    HasH w (finH bw q cap ts sp bd capd ds dsp) → FA w a f → (∀ b o, a = some ⟨b, o, none⟩ → b ∉ blks (finH bw q cap ts sp bd capd ds dsp)) → OutOk q cap ts sp → ts ⊆ trees f → DoneOk f ts ds →
    CnS Tryd.prog 124 [.slice a f.length ca, .int .i64 i, .pointer (some ⟨bw, 0, none⟩)] w (finH bw q cap ts sp bd capd ds dsp) (FinPost f i bw bd capd dsp ts) := by
  intro i
  induction i using Nat.strongRecOn with
  | _ i IHi =>
  intro hi w q cap ts sp ds hh ha hsep ho hts hd
  have hdl := hd.len
  have hids : i < ds.length := by omega
  have hok := hf i hi
  have hclo := hf.ord.clo
  have hmem := treeAt_mem hi
  have hset : ∀ ts' : List Tr, Clo ts' → ts'.Nodup → ts' ⊆ trees f → visit (treeAt f i) ts' ⊆ trees f := fun ts' _ _ h => visit_sub (treeAt f i) hclo hmem h
  have has : FAS (blks (finH bw q cap ts sp bd capd ds dsp)) w a f := ⟨ha.at_, hsep⟩
  refine CnS.of hh func124 rfl rfl ?_
  unfold finH at has ⊢
  refine gS (gR ?_); refine gAs ?_; refine gE (gS (gS (gR ?_))); refine gMv ?_; refine gNk ?_; refine gFp underlying124 sizeOf70 1 ?_; refine gLo isAgg70 0 ?_; refine gMv ?_
  refine GoH.v (Vop.idxS rfl rfl rfl rfl rfl underlying70 sizeOf3 (i) ⟨rfl, hids⟩) ?_
  refine GoH.v (Vop.ldE (Value.int .i64) 0 rfl rfl rfl rfl isAgg3 2 rfl hids) ?_
  refine gBi bGe ?_; refine gE ?_
  refine gC (fun hc => ?_) fun hc => ?_
  ·
   have hge : 0 ≤ ds.getD i 0 := of_decide_eq_true hc
   obtain ⟨hm, hix⟩ : treeAt f i ∈ ts ∧ ds.getD i 0 = (ts.idxOf (treeAt f i) : Int) := by
     rcases hd.at_ i hi with h | h
     · omega
     · exact h
   refine gS (gR ?_); refine gMv ?_; refine gNk ?_; refine gFp underlying124 sizeOf70 1 ?_; refine gLo isAgg70 0 ?_; refine gMv ?_
   refine GoH.v (Vop.idxS rfl rfl rfl rfl rfl underlying70 sizeOf3 (i) ⟨rfl, hids⟩) ?_
   refine GoH.v (Vop.ldE (Value.int .i64) 0 rfl rfl rfl rfl isAgg3 2 rfl hids) ?_
   refine gAs ?_; refine gE ?_
   refine gT func124 fun w' hS => ?_
   refine ⟨_, ⟨q, cap, sp, ds, ?_, ?_, ?_, ?_⟩, hS⟩
   · rw [visit_mem hm]; rfl
   · rw [visit_mem hm]; exact ho
   · rw [visit_mem hm]; exact hd
   · rw [visit_mem hm, ← hix]; rfl
  ·
   refine gK (gS (gR ?_))
   iterate 2 refine gMv ?_
   refine GoH.v (Vop.idxN rfl rfl rfl rfl rfl underlying23 sizeOf80 ⟨_, (has).at_⟩ (flat_len (enc := NV.cells) (sz := 6) (fun _ => rfl)) (by decide) (i) ⟨rfl, hi⟩) ?_
   refine GoH.v (Vop.ldN (cs := NV.cells f[i]) rfl rfl rfl rfl isAgg80 sizeOf80 (fun w _ hS => Sl.many (enc := NV.cells) (sz := 6) (has.ex0 hS.ext).at_ (fun _ => rfl) hi)) ?_
   refine GoH.alc rfl rfl rfl (fun _ => zeroValue80 _) (fun b7 => ?_)
   refine GoH.stB rfl rfl rfl rfl sizeOf80 0 rfl rfl rfl rfl ?_
   refine gE (gS (gS (gR ?_))); refine gFp underlying80 sizeOf3 0 ?_; refine gLo isAgg3 0 ?_
   refine gP rfl rfl rfl rfl rfl call92 (fun w _ hS => (by exact usesX_c f[i].op w)) ?_
   refine gE ?_
   refine gC (fun hc => ?_) fun hc => ?_
   ·
    have hX : usX f[i].op = true := hc
    have hxr := hok.x hX
    obtain ⟨x, hx⟩ : ∃ x : Nat, f[i].x = (x : Int) := ⟨f[i].x.toNat, by omega⟩
    have hxi : x < i := by omega
    refine gR ?_
    iterate 3 refine gMv ?_
    refine GoH.v (Vop.idxN rfl rfl rfl rfl rfl underlying23 sizeOf80 ⟨_, (has).at_⟩ (flat_len (enc := NV.cells) (sz := 6) (fun _ => rfl)) (by decide) (i) ⟨rfl, hi⟩) ?_
    refine GoH.v (Vop.fldA rfl rfl rfl rfl underlying80 rfl sizeOf3 ((i) * 6 + 4) rfl) ?_
    refine GoH.v (Vop.ld rfl rfl rfl rfl isAgg3 (fun w _ hS => Sl.fld (enc := NV.cells) (sz := 6) ((has).ex0 hS.ext).at_ (fun _ => rfl) hi rfl)) ?_
    refine gMv ?_
    refine GoH.pick (pre := [_, _, _, _]) (pre' := [_, _, _, _]) [1, 2, 3, 0] (by decide) rfl ?_
    refine GoH.callS (h := finH bw q cap ts sp bd capd ds dsp) (hF := [(some b7, .cells (NV.cells f[i]).toArray 80 (0, 0))]) (fs := []) (cs := []) (fun _ v h' => FinPost f x bw bd capd dsp ts v h') rfl rfl rfl rfl rfl (fun _ _ => call124 _ _) (fun w1 Y' hS => ?_) (fun w1 v h1 hR => ?_)
    · have hS1 := hS.subH (List.sublist_append_left (finH bw q cap ts sp bd capd ds dsp) _)
      have := IHi x hxi (by omega) w1 q cap ts sp ds hS1.has ⟨(has.ex0 hS.ext).at_⟩ (has.ex0 hS.ext).sep ho hts hd
      rw [← hx] at this
      exact this
    obtain ⟨q1, cap1, sp1, ds1, rfl, ho1, hd1, rfl⟩ := hR
    have hm1 : treeAt f x ∈ visit (treeAt f x) ts := (visit_ok (treeAt f x) ho.clo ho.nd).mem
    have hs1 : visit (treeAt f x) ts ⊆ trees f := visit_sub (treeAt f x) hclo (treeAt_mem (by omega)) hts
    unfold finH
    refine gFp underlying80 sizeOf3 4 ?_
    refine GoH.st rfl rfl rfl rfl sizeOf3 rfl 3 rfl rfl ?_
    refine gE (gS (gS (gR ?_))); refine gFp underlying80 sizeOf3 0 ?_; refine gLo isAgg3 3 ?_
    refine gP rfl rfl rfl rfl rfl call93 (fun w _ hS => (by exact usesY_c f[i].op w)) ?_
    refine gE ?_
    refine gC (fun hc => ?_) fun hc => ?_
    ·
     have hY : usY f[i].op = true := hc
     have hyr := hok.y hY
     obtain ⟨y, hy⟩ : ∃ y : Nat, f[i].y = (y : Int) := ⟨f[i].y.toNat, by omega⟩
     have hyi : y < i := by omega
     refine gR ?_
     iterate 3 refine gMv ?_
     refine GoH.v (Vop.idxN rfl rfl rfl rfl rfl underlying23 sizeOf80 ⟨_, (has).at_⟩ (flat_len (enc := NV.cells) (sz := 6) (fun _ => rfl)) (by decide) (i) ⟨rfl, hi⟩) ?_
     refine GoH.v (Vop.fldA rfl rfl rfl rfl underlying80 rfl sizeOf3 ((i) * 6 + 5) rfl) ?_
     refine GoH.v (Vop.ld rfl rfl rfl rfl isAgg3 (fun w _ hS => Sl.fld (enc := NV.cells) (sz := 6) ((has).ex0 hS.ext).at_ (fun _ => rfl) hi rfl)) ?_
     refine gMv ?_
     refine GoH.subH (h' := finH bw q1 cap1 (visit (treeAt f x) ts) sp1 bd capd ds1 dsp ++ [(some b7, .cells ((NV.cells f[i]).toArray.setIfInBounds 4 (.int .i64 ((visit (treeAt f x) ts).idxOf (treeAt f x) : Int))) 80 (0, 0))]) (List.Sublist.refl _) ?_
     refine GoH.callS (h := finH bw q1 cap1 (visit (treeAt f x) ts) sp1 bd capd ds1 dsp) (hF := [(some b7, .cells ((NV.cells f[i]).toArray.setIfInBounds 4 (.int .i64 ((visit (treeAt f x) ts).idxOf (treeAt f x) : Int))) 80 (0, 0))]) (fs := []) (cs := []) (fun _ v h' => FinPost f y bw bd capd dsp (visit (treeAt f x) ts) v h') rfl rfl rfl rfl rfl (fun _ _ => call124 _ _) (fun w1 Y' hS => ?_) (fun w1 v h1 hR => ?_)
     · have hS1 := hS.subH (List.sublist_append_left (finH bw q1 cap1 (visit (treeAt f x) ts) sp1 bd capd ds1 dsp) _)
       have := IHi y hyi (by omega) w1 q1 cap1 (visit (treeAt f x) ts) sp1 ds1 hS1.has ⟨(has.ex0 hS.ext).at_⟩ (sepOf ha (by omega) hsep hS1) ho1 hs1 hd1
       rw [← hy] at this
       exact this
     obtain ⟨q2, cap2, sp2, ds2, rfl, ho2, hd2, rfl⟩ := hR
     have hVy := visit_ok (treeAt f y) ho1.clo ho1.nd
     have hsT : visit (treeAt f y) (visit (treeAt f x) ts) ⊆ trees f := visit_sub (treeAt f y) hclo (treeAt_mem (by omega)) hs1
     have htree : treeAt f i = .bin f[i].op f[i].i f[i].e f[i].g (treeAt f x) (treeAt f y) := by
       rcases kids_node hi hf with ⟨h, _⟩ | ⟨_, h, _⟩ | ⟨_, h⟩
       · rw [hX] at h; cases h
       · rw [hY] at h; cases h
       · rw [h, hx, hy]; rfl
     have hvk : vkids (treeAt f i) ts = visit (treeAt f y) (visit (treeAt f x) ts) := by rw [htree]; rfl
     have hkid : ∀ c ∈ kids (treeAt f i), c ∈ visit (treeAt f y) (visit (treeAt f x) ts) := fun c hc => by
       rw [htree] at hc
       simp only [kids, List.mem_cons, List.not_mem_nil, or_false] at hc
       rcases hc with rfl | rfl
       · exact hVy.pre.subset hm1
       · exact hVy.mem
     have hnode : ((NV.cells f[i]).toArray.setIfInBounds 4 (Value.int .i64 ((visit (treeAt f x) ts).idxOf (treeAt f x) : Int))).setIfInBounds 5 (Value.int .i64 ((visit (treeAt f y) (visit (treeAt f x) ts)).idxOf (treeAt f y) : Int)) = (nodeOf (visit (treeAt f y) (visit (treeAt f x) ts)) (treeAt f i)).v.cells := by
       rw [htree]
       simp only [nodeOf]
       rw [idx_pre hVy.pre hm1]
       rfl
     unfold finH
     refine gFp underlying80 sizeOf3 5 ?_
     refine GoH.st rfl rfl rfl rfl sizeOf3 rfl 3 rfl rfl ?_
     refine gE (gS ?_)
     have hi2 : i < (ds2).length := by rw [hd2.len]; exact hi
     have hlT : (visit (treeAt f y) (visit (treeAt f x) ts)).length ≤ 100000 := by have := sub_len ho2.nd hsT; omega
     refine GoH.subH (h' := [(some bw, .cells #[osv q2 (nodesOf (visit (treeAt f y) (visit (treeAt f x) ts))).length cap2, osv (some bd) (ds2).length capd] 124 (0, 0)), (q2, obN 80 (nodesOf (visit (treeAt f y) (visit (treeAt f x) ts))) sp2), (some bd, ob I64 3 (ds2) dsp), (some b7, .cells (nodeOf (visit (treeAt f y) (visit (treeAt f x) ts)) (treeAt f i)).v.cells 80 (0, 0))]) (by rw [← hnode]; exact List.Sublist.refl _) ?_
     refine GoH.drawM 7 (fun h' => ∃ q0 c0 us s0, h' = [(some bw, .cells #[osv q0 (nodesOf us).length c0, osv (some bd) (ds2).length capd] 124 (0, 0)), (q0, obN 80 (nodesOf us) s0), (some bd, ob I64 3 (ds2) dsp), (some b7, .cells (nodeOf (visit (treeAt f y) (visit (treeAt f x) ts)) (treeAt f i)).v.cells 80 (0, 0))]) mixed rfl ⟨_, _, _, _, rfl⟩ ?_
     refine RdM.v 51 (.pointer (some ⟨bw, 0, none⟩)) rfl (fun _ _ => Vop.mv rfl rfl rfl rfl) ?_
     refine RdM.v 52 (.pointer (some ⟨bw, 0, none⟩)) rfl (fun _ _ => Vop.nilCk rfl rfl rfl rfl) ?_
     refine RdM.v 53 (.pointer (some ⟨bw, 1, none⟩)) rfl (fun _ _ => Vop.fldP rfl rfl rfl rfl underlying124 rfl (by exact sizeOf70) 1 rfl) ?_
     refine RdM.v 54 (osv (some bd) (ds2).length capd) rfl (fun h' hh => by obtain ⟨_, _, _, _, rfl⟩ := hh; exact Vop.ldo rfl rfl rfl rfl isAgg70 0 rfl rfl) ?_
     refine RdM.v 55 (.int .i64 i) rfl (fun _ _ => Vop.mv rfl rfl rfl rfl) ?_
     refine RdM.v 56 (.pointer (some ⟨bw, 0, none⟩)) rfl (fun _ _ => Vop.mv rfl rfl rfl rfl) ?_
     refine RdM.v 57 (nodeOf (visit (treeAt f y) (visit (treeAt f x) ts)) (treeAt f i)).v rfl (fun h' hh => by obtain ⟨_, _, _, _, rfl⟩ := hh; exact Vop.ldB rfl rfl rfl rfl isAgg80 3 rfl sizeOf80 rfl) ?_
     refine RdM.nil ⟨58, fun v h' => ∃ q' cap' sp', h' = walkH bw q' cap' (putT (treeAt f i) (visit (treeAt f y) (visit (treeAt f x) ts))) sp' (osv (some bd) (ds2).length capd) ++ [(some bd, ob I64 3 (ds2) dsp), (some b7, .cells (nodeOf (visit (treeAt f y) (visit (treeAt f x) ts)) (treeAt f i)).v.cells 80 (0, 0))] ∧ OutOk q' cap' (putT (treeAt f i) (visit (treeAt f y) (visit (treeAt f x) ts))) sp' ∧ v = .int .i64 ((putT (treeAt f i) (visit (treeAt f y) (visit (treeAt f x) ts))).idxOf (treeAt f i) : Int),
       Mop.callS (h := walkH bw q2 cap2 (visit (treeAt f y) (visit (treeAt f x) ts)) sp2 (osv (some bd) (ds2).length capd)) (hF := [(some bd, ob I64 3 (ds2) dsp), (some b7, .cells (nodeOf (visit (treeAt f y) (visit (treeAt f x) ts)) (treeAt f i)).v.cells 80 (0, 0))]) (fs := []) (cs := []) rfl rfl rfl rfl rfl (fun _ _ => call141 _ _) (fun w Y' hS => ?_), fun v h' hK => ?_⟩
     · have hS1 := hS.subH (List.sublist_append_left (walkH bw q2 cap2 (visit (treeAt f y) (visit (treeAt f x) ts)) sp2 (osv (some bd) (ds2).length capd)) _)
       exact (put_c bw q2 cap2 (visit (treeAt f y) (visit (treeAt f x) ts)) sp2 (osv (some bd) (ds2).length capd) (treeAt f i) w hS1.has ho2 hlT (treeAt_wf f i) hkid rfl).mono (fun v h' ⟨q', cap', sp', e1, e2, e3⟩ => ⟨q', cap', sp', by rw [e1]; rfl, e2, e3⟩)
     obtain ⟨q3, cap3, sp3, rfl, ho3, rfl⟩ := hK
     have hpv : putT (treeAt f i) (visit (treeAt f y) (visit (treeAt f x) ts)) = visit (treeAt f i) ts := (congrArg (putT (treeAt f i)) hvk).symm.trans (visit_put ho.clo ho.nd)
     rw [hpv] at ho3 ⊢
     have hV := visit_ok (treeAt f i) ho.clo ho.nd
     have hpre : (visit (treeAt f y) (visit (treeAt f x) ts)) <+: visit (treeAt f i) ts := by
       rw [← hpv]
       unfold putT
       split
       · exact List.prefix_refl _
       · exact List.prefix_append _ _
     refine ⟨⟨_, _, _, _, rfl⟩, ?_⟩
     refine GoH.v (Vop.idxS rfl rfl rfl rfl rfl underlying70 sizeOf3 i ⟨rfl, hi2⟩) ?_
     refine GoH.stE I64 _ rfl rfl rfl rfl sizeOf3 rfl 2 rfl hi2 ?_
     refine gE (gS (gR ?_)); refine gMv ?_; refine gNk ?_; refine gFp underlying124 sizeOf70 1 ?_; refine gLo isAgg70 0 ?_; refine gMv ?_
     refine GoH.v (Vop.idxS rfl rfl rfl rfl rfl underlying70 sizeOf3 (i) ⟨rfl, hi2⟩) ?_
     refine GoH.v (Vop.ldE (Value.int .i64) 0 rfl rfl rfl rfl isAgg3 2 rfl (by rw [List.length_set]; exact hi2)) ?_
     refine gAs ?_; refine gE ?_
     refine gT func124 fun w' hS => ?_
     refine ⟨_, ⟨q3, cap3, sp3, (ds2).set i ((visit (treeAt f i) ts).idxOf (treeAt f i) : Int), ?_, ho3, (hd2.mono hpre).set hi hV.mem, ?_⟩, hS.subH (.cons_cons _ (.cons_cons _ (.cons_cons _ (.cons _ .slnil))))⟩
     · unfold finH; rw [List.length_set]
     · simp [List.getD_eq_getElem?_getD, hi2, retV]
    ·
     have hY : usY f[i].op = false := hc
     have hsT := hs1
     have htree : treeAt f i = .un f[i].op f[i].i f[i].e f[i].g (treeAt f x) := by
       rcases kids_node hi hf with ⟨h, _⟩ | ⟨_, _, h⟩ | ⟨h, _⟩
       · rw [hX] at h; cases h
       · rw [h, hx]; rfl
       · rw [hY] at h; cases h
     have hvk : vkids (treeAt f i) ts = visit (treeAt f x) ts := by rw [htree]; rfl
     have hkid : ∀ c ∈ kids (treeAt f i), c ∈ visit (treeAt f x) ts := fun c hc => by
       rw [htree] at hc
       rw [List.mem_singleton.1 hc]; exact hm1
     have hnode : (NV.cells f[i]).toArray.setIfInBounds 4 (Value.int .i64 ((visit (treeAt f x) ts).idxOf (treeAt f x) : Int)) = (nodeOf (visit (treeAt f x) ts) (treeAt f i)).v.cells := by
       rw [htree]
       have hy0 := hok.y0 hY
       show #[I64 f[i].op, I64 f[i].i, I64 f[i].e, I64 f[i].g, _, I64 f[i].y] = _
       rw [hy0]; rfl
     refine gK (gS ?_)
     have hi2 : i < (ds1).length := by rw [hd1.len]; exact hi
     have hlT : (visit (treeAt f x) ts).length ≤ 100000 := by have := sub_len ho1.nd hsT; omega
     refine GoH.subH (h' := [(some bw, .cells #[osv q1 (nodesOf (visit (treeAt f x) ts)).length cap1, osv (some bd) (ds1).length capd] 124 (0, 0)), (q1, obN 80 (nodesOf (visit (treeAt f x) ts)) sp1), (some bd, ob I64 3 (ds1) dsp), (some b7, .cells (nodeOf (visit (treeAt f x) ts) (treeAt f i)).v.cells 80 (0, 0))]) (by rw [← hnode]; exact List.Sublist.refl _) ?_
     refine GoH.drawM 7 (fun h' => ∃ q0 c0 us s0, h' = [(some bw, .cells #[osv q0 (nodesOf us).length c0, osv (some bd) (ds1).length capd] 124 (0, 0)), (q0, obN 80 (nodesOf us) s0), (some bd, ob I64 3 (ds1) dsp), (some b7, .cells (nodeOf (visit (treeAt f x) ts) (treeAt f i)).v.cells 80 (0, 0))]) mixed rfl ⟨_, _, _, _, rfl⟩ ?_
     refine RdM.v 51 (.pointer (some ⟨bw, 0, none⟩)) rfl (fun _ _ => Vop.mv rfl rfl rfl rfl) ?_
     refine RdM.v 52 (.pointer (some ⟨bw, 0, none⟩)) rfl (fun _ _ => Vop.nilCk rfl rfl rfl rfl) ?_
     refine RdM.v 53 (.pointer (some ⟨bw, 1, none⟩)) rfl (fun _ _ => Vop.fldP rfl rfl rfl rfl underlying124 rfl (by exact sizeOf70) 1 rfl) ?_
     refine RdM.v 54 (osv (some bd) (ds1).length capd) rfl (fun h' hh => by obtain ⟨_, _, _, _, rfl⟩ := hh; exact Vop.ldo rfl rfl rfl rfl isAgg70 0 rfl rfl) ?_
     refine RdM.v 55 (.int .i64 i) rfl (fun _ _ => Vop.mv rfl rfl rfl rfl) ?_
     refine RdM.v 56 (.pointer (some ⟨bw, 0, none⟩)) rfl (fun _ _ => Vop.mv rfl rfl rfl rfl) ?_
     refine RdM.v 57 (nodeOf (visit (treeAt f x) ts) (treeAt f i)).v rfl (fun h' hh => by obtain ⟨_, _, _, _, rfl⟩ := hh; exact Vop.ldB rfl rfl rfl rfl isAgg80 3 rfl sizeOf80 rfl) ?_
     refine RdM.nil ⟨58, fun v h' => ∃ q' cap' sp', h' = walkH bw q' cap' (putT (treeAt f i) (visit (treeAt f x) ts)) sp' (osv (some bd) (ds1).length capd) ++ [(some bd, ob I64 3 (ds1) dsp), (some b7, .cells (nodeOf (visit (treeAt f x) ts) (treeAt f i)).v.cells 80 (0, 0))] ∧ OutOk q' cap' (putT (treeAt f i) (visit (treeAt f x) ts)) sp' ∧ v = .int .i64 ((putT (treeAt f i) (visit (treeAt f x) ts)).idxOf (treeAt f i) : Int),
       Mop.callS (h := walkH bw q1 cap1 (visit (treeAt f x) ts) sp1 (osv (some bd) (ds1).length capd)) (hF := [(some bd, ob I64 3 (ds1) dsp), (some b7, .cells (nodeOf (visit (treeAt f x) ts) (treeAt f i)).v.cells 80 (0, 0))]) (fs := []) (cs := []) rfl rfl rfl rfl rfl (fun _ _ => call141 _ _) (fun w Y' hS => ?_), fun v h' hK => ?_⟩
     · have hS1 := hS.subH (List.sublist_append_left (walkH bw q1 cap1 (visit (treeAt f x) ts) sp1 (osv (some bd) (ds1).length capd)) _)
       exact (put_c bw q1 cap1 (visit (treeAt f x) ts) sp1 (osv (some bd) (ds1).length capd) (treeAt f i) w hS1.has ho1 hlT (treeAt_wf f i) hkid rfl).mono (fun v h' ⟨q', cap', sp', e1, e2, e3⟩ => ⟨q', cap', sp', by rw [e1]; rfl, e2, e3⟩)
     obtain ⟨q3, cap3, sp3, rfl, ho3, rfl⟩ := hK
     have hpv : putT (treeAt f i) (visit (treeAt f x) ts) = visit (treeAt f i) ts := (congrArg (putT (treeAt f i)) hvk).symm.trans (visit_put ho.clo ho.nd)
     rw [hpv] at ho3 ⊢
     have hV := visit_ok (treeAt f i) ho.clo ho.nd
     have hpre : (visit (treeAt f x) ts) <+: visit (treeAt f i) ts := by
       rw [← hpv]
       unfold putT
       split
       · exact List.prefix_refl _
       · exact List.prefix_append _ _
     refine ⟨⟨_, _, _, _, rfl⟩, ?_⟩
     refine GoH.v (Vop.idxS rfl rfl rfl rfl rfl underlying70 sizeOf3 i ⟨rfl, hi2⟩) ?_
     refine GoH.stE I64 _ rfl rfl rfl rfl sizeOf3 rfl 2 rfl hi2 ?_
     refine gE (gS (gR ?_)); refine gMv ?_; refine gNk ?_; refine gFp underlying124 sizeOf70 1 ?_; refine gLo isAgg70 0 ?_; refine gMv ?_
     refine GoH.v (Vop.idxS rfl rfl rfl rfl rfl underlying70 sizeOf3 (i) ⟨rfl, hi2⟩) ?_
     refine GoH.v (Vop.ldE (Value.int .i64) 0 rfl rfl rfl rfl isAgg3 2 rfl (by rw [List.length_set]; exact hi2)) ?_
     refine gAs ?_; refine gE ?_
     refine gT func124 fun w' hS => ?_
     refine ⟨_, ⟨q3, cap3, sp3, (ds1).set i ((visit (treeAt f i) ts).idxOf (treeAt f i) : Int), ?_, ho3, (hd1.mono hpre).set hi hV.mem, ?_⟩, hS.subH (.cons_cons _ (.cons_cons _ (.cons_cons _ (.cons _ .slnil))))⟩
     · unfold finH; rw [List.length_set]
     · simp [List.getD_eq_getElem?_getD, hi2, retV]
   ·
    have hX : usX f[i].op = false := hc
    have hY : usY f[i].op = false := by
      cases h : usY f[i].op with
      | false => rfl
      | true => rw [usY_X h] at hX; cases hX
    have hsT := hts
    have htree : treeAt f i = .leaf f[i].op f[i].i f[i].e f[i].g := by
      rcases kids_node hi hf with ⟨_, h⟩ | ⟨h, _⟩ | ⟨h, _⟩
      · exact h
      · rw [hX] at h; cases h
      · rw [hY] at h; cases h
    have hvk : vkids (treeAt f i) ts = ts := by rw [htree]; rfl
    have hkid : ∀ c ∈ kids (treeAt f i), c ∈ ts := fun c hc => by
      rw [htree] at hc; cases hc
    have hnode : (NV.cells f[i]).toArray = (nodeOf ts (treeAt f i)).v.cells := by
      rw [htree]
      have hx0 := hok.x0 hX
      have hy0 := hok.y0 hY
      show #[I64 f[i].op, I64 f[i].i, I64 f[i].e, I64 f[i].g, I64 f[i].x, I64 f[i].y] = _
      rw [hx0, hy0]; rfl
    refine gK (gS (gS (gR ?_))); refine gFp underlying80 sizeOf3 0 ?_; refine gLo isAgg3 0 ?_
    refine gP rfl rfl rfl rfl rfl call93 (fun w _ hS => (by have := usesY_c f[i].op w; rw [hY] at this; exact this)) ?_
    refine gE (GoH.condF rfl (gK (gS ?_)))
    refine GoH.pick (pre := [_, _, _, _]) (pre' := [_, _, _, _]) [1, 2, 3, 0] (by decide) rfl ?_
    have hi2 : i < (ds).length := by rw [hd.len]; exact hi
    have hlT : (ts).length ≤ 100000 := by have := sub_len ho.nd hsT; omega
    refine GoH.subH (h' := [(some bw, .cells #[osv q (nodesOf (ts)).length cap, osv (some bd) (ds).length capd] 124 (0, 0)), (q, obN 80 (nodesOf (ts)) sp), (some bd, ob I64 3 (ds) dsp), (some b7, .cells (nodeOf (ts) (treeAt f i)).v.cells 80 (0, 0))]) (by rw [← hnode]; exact List.Sublist.refl _) ?_
    refine GoH.drawM 7 (fun h' => ∃ q0 c0 us s0, h' = [(some bw, .cells #[osv q0 (nodesOf us).length c0, osv (some bd) (ds).length capd] 124 (0, 0)), (q0, obN 80 (nodesOf us) s0), (some bd, ob I64 3 (ds) dsp), (some b7, .cells (nodeOf (ts) (treeAt f i)).v.cells 80 (0, 0))]) mixed rfl ⟨_, _, _, _, rfl⟩ ?_
    refine RdM.v 51 (.pointer (some ⟨bw, 0, none⟩)) rfl (fun _ _ => Vop.mv rfl rfl rfl rfl) ?_
    refine RdM.v 52 (.pointer (some ⟨bw, 0, none⟩)) rfl (fun _ _ => Vop.nilCk rfl rfl rfl rfl) ?_
    refine RdM.v 53 (.pointer (some ⟨bw, 1, none⟩)) rfl (fun _ _ => Vop.fldP rfl rfl rfl rfl underlying124 rfl (by exact sizeOf70) 1 rfl) ?_
    refine RdM.v 54 (osv (some bd) (ds).length capd) rfl (fun h' hh => by obtain ⟨_, _, _, _, rfl⟩ := hh; exact Vop.ldo rfl rfl rfl rfl isAgg70 0 rfl rfl) ?_
    refine RdM.v 55 (.int .i64 i) rfl (fun _ _ => Vop.mv rfl rfl rfl rfl) ?_
    refine RdM.v 56 (.pointer (some ⟨bw, 0, none⟩)) rfl (fun _ _ => Vop.mv rfl rfl rfl rfl) ?_
    refine RdM.v 57 (nodeOf (ts) (treeAt f i)).v rfl (fun h' hh => by obtain ⟨_, _, _, _, rfl⟩ := hh; exact Vop.ldB rfl rfl rfl rfl isAgg80 3 rfl sizeOf80 rfl) ?_
    refine RdM.nil ⟨58, fun v h' => ∃ q' cap' sp', h' = walkH bw q' cap' (putT (treeAt f i) (ts)) sp' (osv (some bd) (ds).length capd) ++ [(some bd, ob I64 3 (ds) dsp), (some b7, .cells (nodeOf (ts) (treeAt f i)).v.cells 80 (0, 0))] ∧ OutOk q' cap' (putT (treeAt f i) (ts)) sp' ∧ v = .int .i64 ((putT (treeAt f i) (ts)).idxOf (treeAt f i) : Int),
      Mop.callS (h := walkH bw q cap (ts) sp (osv (some bd) (ds).length capd)) (hF := [(some bd, ob I64 3 (ds) dsp), (some b7, .cells (nodeOf (ts) (treeAt f i)).v.cells 80 (0, 0))]) (fs := []) (cs := []) rfl rfl rfl rfl rfl (fun _ _ => call141 _ _) (fun w Y' hS => ?_), fun v h' hK => ?_⟩
    · have hS1 := hS.subH (List.sublist_append_left (walkH bw q cap (ts) sp (osv (some bd) (ds).length capd)) _)
      exact (put_c bw q cap (ts) sp (osv (some bd) (ds).length capd) (treeAt f i) w hS1.has ho hlT (treeAt_wf f i) hkid rfl).mono (fun v h' ⟨q', cap', sp', e1, e2, e3⟩ => ⟨q', cap', sp', by rw [e1]; rfl, e2, e3⟩)
    obtain ⟨q3, cap3, sp3, rfl, ho3, rfl⟩ := hK
    have hpv : putT (treeAt f i) (ts) = visit (treeAt f i) ts := (congrArg (putT (treeAt f i)) hvk).symm.trans (visit_put ho.clo ho.nd)
    rw [hpv] at ho3 ⊢
    have hV := visit_ok (treeAt f i) ho.clo ho.nd
    have hpre : (ts) <+: visit (treeAt f i) ts := by
      rw [← hpv]
      unfold putT
      split
      · exact List.prefix_refl _
      · exact List.prefix_append _ _
    refine ⟨⟨_, _, _, _, rfl⟩, ?_⟩
    refine GoH.v (Vop.idxS rfl rfl rfl rfl rfl underlying70 sizeOf3 i ⟨rfl, hi2⟩) ?_
    refine GoH.stE I64 _ rfl rfl rfl rfl sizeOf3 rfl 2 rfl hi2 ?_
    refine gE (gS (gR ?_)); refine gMv ?_; refine gNk ?_; refine gFp underlying124 sizeOf70 1 ?_; refine gLo isAgg70 0 ?_; refine gMv ?_
    refine GoH.v (Vop.idxS rfl rfl rfl rfl rfl underlying70 sizeOf3 (i) ⟨rfl, hi2⟩) ?_
    refine GoH.v (Vop.ldE (Value.int .i64) 0 rfl rfl rfl rfl isAgg3 2 rfl (by rw [List.length_set]; exact hi2)) ?_
    refine gAs ?_; refine gE ?_
    refine gT func124 fun w' hS => ?_
    refine ⟨_, ⟨q3, cap3, sp3, (ds).set i ((visit (treeAt f i) ts).idxOf (treeAt f i) : Int), ?_, ho3, (hd.mono hpre).set hi hV.mem, ?_⟩, hS.subH (.cons_cons _ (.cons_cons _ (.cons_cons _ (.cons _ .slnil))))⟩
    · unfold finH; rw [List.length_set]
    · simp [List.getD_eq_getElem?_getD, hi2, retV]
end Go.Proofs.YtlihcmknfdckdaaDoor
namespace Go.Proofs.YtlihcmknfdckdaaDoor
open Go.RowKit Go.Proofs.Wit Tryd
/-! the reference's Sub and Compact -/
set_option maxRecDepth 4000 in
theorem rsub_c (a : Option Addr) (ca : Nat) (f : List NV) (i : Int) (w : World) (ha : FA w a f) (hl : f.length ≤ maxLen) : Cn Tryd.prog 95 [.slice a f.length ca, .int .i64 i] w (fun v w' => OwnN 80 w w' v (subF f i)) := by
  obtain ⟨i0, hi, hz, hsz, hby⟩ := info_parts infoI
  refine Cn.of func95 rfl rfl ?_
  refine gS (gR ?_); refine gAs ?_; refine gE (gS (gS (gR ?_))); refine gMv ?_
  refine gP rfl rfl rfl rfl rfl call25 (fun w _ hS => (by exact rchk_c a ca f w (ha.ex0 hS.ext) hl)) ?_
  refine gBi bNe ?_; refine gMv ?_
  refine gCs 10 (fun hc => ?_) fun hc => ?_
  ·
   have h1 : chkF f ≠ 0 := by simpa using hc
   iterate 2 refine gNo ?_
   refine gPt ?_; refine gMv ?_
   iterate 4 refine gNo ?_
   refine gPt ?_; refine gE (GoH.condT rfl (gS (gR ?_))); refine gAs ?_; refine gE ?_
   refine gT func95 fun w' hS => ?_
   exact ⟨hS.ext, by rw [subF, if_pos (.inl h1)]; exact OwnN.nil0⟩
  ·
   have h1 : chkF f = 0 := by simpa using hc
   refine gMv ?_; refine gBi bLt ?_; refine gPf ?_; refine gMv ?_
   refine gCs 14 (fun hc => ?_) fun hc => ?_
   ·
    have h2 : i < 0 := by simpa using hc
    iterate 4 refine gNo ?_
    refine gPt ?_; refine gE (GoH.condT rfl (gS (gR ?_))); refine gAs ?_; refine gE ?_
    refine gT func95 fun w' hS => ?_
    exact ⟨hS.ext, by rw [subF, if_pos (.inr (.inl h2))]; exact OwnN.nil0⟩
   ·
    have h2 : ¬ i < 0 := by simpa using hc
    iterate 2 refine gMv ?_
    refine gBl underlying23 ?_; refine gBi bGe ?_; refine gPf ?_; refine gE ?_
    refine gC (fun hc => ?_) fun hc => ?_
    ·
     have h3 : (f.length : Int) ≤ i := by simpa using hc
     refine gS (gR ?_); refine gAs ?_; refine gE ?_
     refine gT func95 fun w' hS => ?_
     exact ⟨hS.ext, by rw [subF, if_pos (.inr (.inr h3))]; exact OwnN.nil0⟩
    ·
     have h3 : ¬ (f.length : Int) ≤ i := by simpa using hc
     have hok := chkF_zero.1 h1
     have hnl := hok.len
     have hnp := hok.pos
     obtain ⟨i, rfl⟩ : ∃ I : Nat, i = I := ⟨i.toNat, by omega⟩
     have hi2 : i < f.length := by omega
     refine gK (gS (gR ?_))
     refine GoH.v (Vop.bld rfl rfl rfl rfl (bld (c := [_, _]) underlying124 (Szs.cons sizeOf23 (Szs.cons sizeOf70 Szs.nil)) zeroValue124 rfl)) ?_
     refine GoH.bx rfl rfl rfl rfl (fun b21 => ?_)
     refine gAs ?_; refine gE (gS (gS (gR ?_))); refine gAs ?_; refine gE (gB ?_)
     refine GoH.addNone (obN 80 (nodesOf []) []) ?_
     refine GoH.addNone (ob I64 3 [] []) ?_
     refine GoH.pick (pre := [_, _, _]) (pre' := [_, _, _]) [2, 0, 1] (by decide) rfl ?_
     refine GoH.loop (σ := Nat × Option Nat × Nat × List Value) (fun z => [(0, .slice a f.length ca), (1, .int .i64 i), (5, .pointer (some ⟨b21, 0, none⟩)), (6, .int .i64 z.1)]) (fun z => [(some b21, .cells #[.slice none 0 0, osv z.2.1 (List.replicate z.1 (-1 : Int)).length z.2.2.1] 124 (0, 0)), (z.2.1, ob I64 3 (List.replicate z.1 (-1 : Int)) z.2.2.2)])
       (fun z => z.1 ≤ f.length ∧ (z.2.1 = none → (List.replicate z.1 (-1 : Int)).length = 0 ∧ z.2.2.1 = 0) ∧ ((List.replicate z.1 (-1 : Int)).map I64 ++ z.2.2.2).length = z.2.2.1) (fun z => f.length - z.1) (0, none, 0, []) ⟨Nat.zero_le _, fun _ => ⟨rfl, rfl⟩, rfl⟩ ⟨rfl, rfl, rfl, rfl, trivial⟩ (.cons_cons _ (.cons_cons _ (.cons _ .slnil))) (fun z hI IH => ?_)
     obtain ⟨k, q, cap, sp⟩ := z
     obtain ⟨hk, hq, hcap⟩ := hI
     dsimp only at hk hq hcap IH ⊢
     refine gS (gS (gR ?_))
     iterate 2 refine gMv ?_
     refine gBl underlying23 ?_; refine gBi bLt ?_; refine gE ?_
     refine gC (fun hc => ?_) fun hc => ?_
     ·
      have hlt : k < f.length := by simpa using hc
      have hrl : (List.replicate k (-1 : Int)).length = k := List.length_replicate
      refine gK (gS (gB (gR ?_)))
      iterate 2 refine gMv ?_
      refine gNk ?_; refine gFp underlying124 sizeOf70 1 ?_; refine gLo isAgg70 0 ?_
      refine GoH.bsN (c := [_]) rfl rfl rfl rfl underlying70 sizeOf3 zeroValue3 rfl rfl (fun b33 => ?_)
      refine GoH.appE I64 (xs := List.replicate k (-1 : Int)) (sp := sp) (news := [(-1 : Int)]) (spn := []) rfl rfl rfl rfl rfl underlying70 hi hz hsz rfl hq 2 rfl 0 rfl hcap rfl (by decide) (fun _ => rfl) (by unfold maxLen; rw [hrl]; omega) (by rw [hby, hrl]; omega) (fun b' sp' cap' hlen2 => ?_)
      rw [← List.replicate_succ'] at *
      refine gNk ?_; refine gFp underlying124 sizeOf70 1 ?_
      refine GoH.st rfl rfl rfl rfl sizeOf70 rfl 1 rfl rfl ?_
      refine gE (gIb (gR ?_)); refine gMv ?_; refine gBx rfl rfl rfl rfl (bAdd (by omega)) ?_; refine gAs ?_; refine gE ?_
      exact IH (k + 1, some b', cap', sp') _ _ ⟨hlt, (fun e => by cases e), hlen2⟩ (by dsimp only; omega) ⟨rfl, rfl, rfl, rfl, trivial⟩ (.cons _ (List.Sublist.refl _))
     ·
      have hge : ¬ k < f.length := by simpa using hc
      obtain rfl : k = f.length := by omega
      obtain ⟨bd, rfl⟩ : ∃ bd, q = some bd := by
        cases q with
        | none => have := (hq rfl).1; rw [List.length_replicate] at this; omega
        | some b => exact ⟨b, rfl⟩
      refine GoH.exit rfl (gS (gR ?_))
      iterate 3 refine gMv ?_
      refine GoH.addNone (obN 80 (nodesOf []) []) ?_
      refine GoH.pick (pre := [_, _, _]) (pre' := finH b21 none 0 [] [] bd cap (List.replicate f.length (-1)) sp ++ []) [1, 0, 2] (by decide) rfl ?_
      refine GoH.callS (h := finH b21 none 0 [] [] bd cap (List.replicate f.length (-1)) sp) (hF := []) (fs := []) (cs := []) (fun _ v h' => FinPost f i b21 bd cap sp [] v h') rfl rfl rfl rfl rfl (fun _ _ => call124 _ _) (fun w1 Y' hS => ?_) (fun w1 v h1' hR => ?_)
      · have hS1 := hS.subH (List.sublist_append_left (finH b21 none 0 [] [] bd cap (List.replicate f.length (-1)) sp) _)
        exact finish_c f a ca hok.nodes (by omega) b21 bd cap sp i hi2 w1 none 0 [] [] _ hS1.has (ha.ex0 hS.ext) (sepOf (h := []) ha hnp (by simp [blks]) hS1) ⟨fun _ => ⟨rfl, rfl⟩, rfl, Clo.nil, List.nodup_nil, fun u hu => by cases hu⟩ (List.nil_subset _) DoneOk.start
      obtain ⟨q1, cap1, sp1, ds1, rfl, ho1, hd1, rfl⟩ := hR
      have he : subF f i = nodesOf (visit (treeAt f i) []) := by rw [subF, if_neg (by simp [h1]; omega)]; rfl
      unfold finH
      refine gE (gS (gR ?_)); refine gMv ?_; refine gNk ?_; refine gFp underlying124 sizeOf23 0 ?_; refine gLo isAgg23 0 ?_; refine gAs ?_; refine gE ?_
      refine gT func95 fun w' hS => ?_
      exact ⟨hS.ext, by rw [he]; exact OwnN.mk hS 1 rfl rfl ho1.nil ho1.cap⟩
theorem rcompact_c (a : Option Addr) (ca : Nat) (f : List NV) (w : World) (ha : FA w a f) (hl : f.length ≤ maxLen) : Cn Tryd.prog 54 [.slice a f.length ca] w (fun v w' => OwnN 80 w w' v (subF f ((f.length : Int) - 1))) := by
 unfold maxLen at hl
 refine Cn.of func54 rfl rfl ?_
 refine gS (gR ?_); refine gAs ?_; refine gE (gS (gR ?_))
 iterate 2 refine gMv ?_
 refine gBl underlying23 ?_; refine gBx rfl rfl rfl rfl (bSub (by omega)) ?_
 refine gM rfl rfl rfl rfl rfl call95 (fun w _ hS => rsub_c a ca f ((f.length : Int) - 1) w (ha.ex0 hS.ext) hl) ?_
 rintro v w1 w2 Y' hS he ho
 obtain ⟨q, cap, sp, rfl, hq, hcap, hS'⟩ := gainN hS he ho
 refine ⟨_, hS', ?_⟩
 refine gAs ?_; refine gE ?_
 refine gT func54 fun w' hS => ?_
 exact ⟨hS.ext, OwnN.mk hS 0 rfl rfl hq hcap⟩
theorem bNeN {a b : NV} : Bin Tryd.prog .neq 80 a.v b.v (.bool (a != b)) := by
 obtain ⟨fs, hu, hfs⟩ := nodeFsK
 exact bNeNode hu hfs underlying3 isAgg3 stoodK guardK
theorem rEqual_c (a : Option Addr) (ca : Nat) (f : List NV) (b : Option Addr) (cb : Nat) (g : List NV) (w : World) (ha : FA w a f) (hb : FA w b g) (hl : f.length ≤ maxLen) :
    Cn Tryd.prog 67 [.slice a f.length ca, .slice b g.length cb] w (fun v _ => v = .bool (decide (f = g))) := by
  unfold maxLen at hl
  refine Cn.of func67 rfl rfl ?_
  refine gS (gR ?_); refine gAs ?_; refine gE (gS (gS (gR ?_))); refine gMv ?_; refine gBl underlying23 ?_; refine gMv ?_; refine gBl underlying23 ?_; refine gBi bNe ?_; refine gE ?_
  refine gC (fun hc => ?_) fun hc => ?_
  ·
   have h1 : f.length ≠ g.length := by simp at hc; omega
   refine gS (gR ?_); refine gAs ?_; refine gE ?_
   refine gT func67 fun w' hS => ?_
   exact ⟨hS.ext, by rw [decide_eq_false (fun e => h1 (by rw [e]))]; rfl⟩
  ·
   have h1 : f.length = g.length := by simp at hc; omega
   refine gK (gS (gS (gR ?_))); refine gAs ?_; refine gE (gB ?_)
   refine GoH.loop (σ := Nat) (fun k => [(0, .slice a f.length ca), (1, .slice b g.length cb), (5, .int .i64 k)]) (fun _ => []) (fun k => k ≤ f.length ∧ f.take k = g.take k) (fun k => f.length - k) 0 ⟨Nat.zero_le _, rfl⟩ ⟨rfl, rfl, rfl, trivial⟩ .slnil (fun k hI IH => ?_)
   obtain ⟨hk, hz⟩ := hI
   refine gS (gS (gR ?_))
   iterate 2 refine gMv ?_
   refine gBl underlying23 ?_; refine gBi bLt ?_; refine gE ?_
   refine gC (fun hc => ?_) fun hc => ?_
   ·
    have hlt : k < f.length := by simpa using hc
    have hlt2 : k < g.length := by omega
    refine gK (gS (gB (gS ?_)))
    refine GoH.draw 9 mixed rfl ?_
    iterate 2 refine rMv ?_
    refine RdGo.v (Vop.idxN rfl rfl rfl rfl rfl underlying23 sizeOf80 ⟨_, (ha).at_⟩ (flat_len (enc := NV.cells) (sz := 6) (fun _ => rfl)) (by decide) (k) ⟨rfl, hlt⟩) ?_
    refine RdGo.v (Vop.ldN (cs := NV.cells f[k]) rfl rfl rfl rfl isAgg80 sizeOf80 (fun w _ hS => Sl.many (enc := NV.cells) (sz := 6) (ha.ex0 hS.ext).at_ (fun _ => rfl) hlt)) ?_
    iterate 2 refine rMv ?_
    refine RdGo.v (Vop.idxN rfl rfl rfl rfl rfl underlying23 sizeOf80 ⟨_, (hb).at_⟩ (flat_len (enc := NV.cells) (sz := 6) (fun _ => rfl)) (by decide) (k) ⟨rfl, hlt2⟩) ?_
    refine RdGo.v (Vop.ldN (cs := NV.cells g[k]) rfl rfl rfl rfl isAgg80 sizeOf80 (fun w _ hS => Sl.many (enc := NV.cells) (sz := 6) (hb.ex0 hS.ext).at_ (fun _ => rfl) hlt2)) ?_
    refine RdGo.v (Vop.bin rfl rfl rfl rfl (bNeN (a := f[k]) (b := g[k])) rfl) ?_
    refine RdGo.nil ?_
    refine gE ?_
    refine gC (fun hc => ?_) fun hc => ?_
    ·
     have h3 : f[k] ≠ g[k] := by simpa using hc
     refine gS (gR ?_); refine gAs ?_; refine gE ?_
     refine gT func67 fun w' hS => ?_
     exact ⟨hS.ext, by rw [decide_eq_false (fun e => h3 (by subst e; rfl))]; rfl⟩
    ·
     have h3 : f[k] = g[k] := by simpa using hc
     refine gK (gIb (gR ?_)); refine gMv ?_; refine gBx rfl rfl rfl rfl (bAdd (by omega)) ?_; refine gAs ?_; refine gE ?_
     exact IH (k + 1) _ _ ⟨hlt, by rw [List.take_succ_eq_append_getElem hlt, List.take_succ_eq_append_getElem hlt2, hz, h3]⟩ (by omega) ⟨rfl, rfl, rfl, trivial⟩ .slnil
   ·
    have hge : ¬ k < f.length := by simpa using hc
    obtain rfl : k = f.length := by omega
    have he : f = g := by rw [List.take_length, h1, List.take_length] at hz; exact hz
    refine GoH.exit rfl (gS (gR ?_))
    refine gAs ?_; refine gE ?_
    refine gT func67 fun w' hS => ?_
    exact ⟨hS.ext, by rw [decide_eq_true he]; rfl⟩
end Go.Proofs.YtlihcmknfdckdaaDoor
namespace Go.Proofs.YtlihcmknfdckdaaDoor
open Go.RowKit Go.Proofs.Wit Tryd
theorem sEqual_c (a : Option Addr) (ca : Nat) (f : List NV) (b : Option Addr) (cb : Nat) (g : List NV) (w : World) (ha : FA w a f) (hb : FA w b g) (hl : f.length ≤ maxLen) :
    Cn Tryd.prog 76 [.slice a f.length ca, .slice b g.length cb] w (fun v _ => v = .bool (decide (f = g))) := by
  unfold maxLen at hl
  refine Cn.of func76 rfl rfl ?_
  refine gS (gR ?_); refine gAs ?_; refine gE (gS (gS (gR ?_))); refine gMv ?_; refine gBl underlying23 ?_; refine gMv ?_; refine gBl underlying23 ?_; refine gBi bNe ?_; refine gE ?_
  refine gC (fun hc => ?_) fun hc => ?_
  ·
   have h1 : f.length ≠ g.length := by simp at hc; omega
   refine gS (gR ?_); refine gAs ?_; refine gE ?_
   refine gT func76 fun w' hS => ?_
   exact ⟨hS.ext, by rw [decide_eq_false (fun e => h1 (by rw [e]))]; rfl⟩
  ·
   have h1 : f.length = g.length := by simp at hc; omega
   refine gK (gS (gS (gR ?_))); refine gMv ?_; refine gBl underlying23 ?_; refine gMv ?_; refine gE (gB ?_)
   refine GoH.loop (σ := Nat) (fun k => [(0, .slice a f.length ca), (1, .slice b g.length cb), (12, .int .i64 f.length), (13, .int .i64 k)]) (fun _ => []) (fun k => k ≤ f.length ∧ f.take k = g.take k) (fun k => f.length - k) 0 ⟨Nat.zero_le _, rfl⟩ ⟨rfl, rfl, rfl, rfl, trivial⟩ .slnil (fun k hI IH => ?_)
   obtain ⟨hk, hz⟩ := hI
   refine gS (gR ?_); refine gBi bLt ?_; refine gE (gS ?_)
   refine gC (fun hc => ?_) fun hc => ?_
   ·
    have hlt : k < f.length := by simpa using hc
    have hlt2 : k < g.length := by omega
    refine gK (gS (gB (gS (gR ?_)))); refine gMv ?_; refine gAs ?_; refine gE (gS ?_)
    refine GoH.draw 9 mixed rfl ?_
    iterate 2 refine rMv ?_
    refine RdGo.v (Vop.idxN rfl rfl rfl rfl rfl underlying23 sizeOf80 ⟨_, (ha).at_⟩ (flat_len (enc := NV.cells) (sz := 6) (fun _ => rfl)) (by decide) (k) ⟨rfl, hlt⟩) ?_
    refine RdGo.v (Vop.ldN (cs := NV.cells f[k]) rfl rfl rfl rfl isAgg80 sizeOf80 (fun w _ hS => Sl.many (enc := NV.cells) (sz := 6) (ha.ex0 hS.ext).at_ (fun _ => rfl) hlt)) ?_
    iterate 2 refine rMv ?_
    refine RdGo.v (Vop.idxN rfl rfl rfl rfl rfl underlying23 sizeOf80 ⟨_, (hb).at_⟩ (flat_len (enc := NV.cells) (sz := 6) (fun _ => rfl)) (by decide) (k) ⟨rfl, hlt2⟩) ?_
    refine RdGo.v (Vop.ldN (cs := NV.cells g[k]) rfl rfl rfl rfl isAgg80 sizeOf80 (fun w _ hS => Sl.many (enc := NV.cells) (sz := 6) (hb.ex0 hS.ext).at_ (fun _ => rfl) hlt2)) ?_
    refine RdGo.v (Vop.bin rfl rfl rfl rfl (bNeN (a := f[k]) (b := g[k])) rfl) ?_
    refine RdGo.nil ?_
    refine gE ?_
    refine gC (fun hc => ?_) fun hc => ?_
    ·
     have h3 : f[k] ≠ g[k] := by simpa using hc
     refine gS (gR ?_); refine gAs ?_; refine gE ?_
     refine gT func76 fun w' hS => ?_
     exact ⟨hS.ext, by rw [decide_eq_false (fun e => h3 (by subst e; rfl))]; rfl⟩
    ·
     have h3 : f[k] = g[k] := by simpa using hc
     refine gK (gIb (gR ?_)); refine gBx rfl rfl rfl rfl (bAdd (by omega)) ?_; refine gMv ?_; refine gE ?_
     exact IH (k + 1) _ _ ⟨hlt, by rw [List.take_succ_eq_append_getElem hlt, List.take_succ_eq_append_getElem hlt2, hz, h3]⟩ (by omega) ⟨rfl, rfl, rfl, rfl, trivial⟩ .slnil
   ·
    have hge : ¬ k < f.length := by simpa using hc
    obtain rfl : k = f.length := by omega
    have he : f = g := by rw [List.take_length, h1, List.take_length] at hz; exact hz
    refine GoH.exit rfl (gS (gR ?_))
    refine gAs ?_; refine gE ?_
    refine gT func76 fun w' hS => ?_
    exact ⟨hS.ext, by rw [decide_eq_true he]; rfl⟩
end Go.Proofs.YtlihcmknfdckdaaDoor
namespace Go.Proofs.YtlihcmknfdckdaaDoor
open Go.RowKit Go.Proofs.Wit Tryd
/-! the reference's makers of formulas -/
set_option maxRecDepth 4000 in
theorem short_c (a : Option Addr) (ca : Nat) (f : List NV) (w : World) (ha : FA w a f) (hN : NodesOk f) (hp : 0 < f.length) (hl : f.length ≤ 401) : Cn Tryd.prog 98 [.slice a f.length ca] w (fun v w' => OwnN 80 w w' v (bT (treeAt f (f.length - 1)))) := by
  obtain ⟨i0, hi, hz, hsz, hby⟩ := info_parts infoI
  refine Cn.of func98 rfl rfl ?_
  refine gS (gR ?_); refine gAs ?_; refine gE (gS (gS (gR ?_))); refine gMv ?_; refine gBl underlying23 ?_; refine gBi bGt ?_; refine gE ?_
  refine gC (fun hc => ?_) fun hc => ?_
  ·
   exact absurd hc (by simp; omega)
  ·
   refine gK (gS (gR ?_))
   refine GoH.v (Vop.bld rfl rfl rfl rfl (bld (c := [_, _]) underlying124 (Szs.cons sizeOf23 (Szs.cons sizeOf70 Szs.nil)) zeroValue124 rfl)) ?_
   refine GoH.bx rfl rfl rfl rfl (fun b9 => ?_)
   refine gAs ?_; refine gE (gS (gS (gR ?_))); refine gAs ?_; refine gE (gB ?_)
   refine GoH.addNone (obN 80 (nodesOf []) []) ?_
   refine GoH.addNone (ob I64 3 [] []) ?_
   refine GoH.pick (pre := [_, _, _]) (pre' := [_, _, _]) [2, 0, 1] (by decide) rfl ?_
   refine GoH.loop (σ := Nat × Option Nat × Nat × List Value) (fun z => [(0, .slice a f.length ca), (3, .pointer (some ⟨b9, 0, none⟩)), (4, .int .i64 z.1)]) (fun z => [(some b9, .cells #[.slice none 0 0, osv z.2.1 (List.replicate z.1 (-1 : Int)).length z.2.2.1] 124 (0, 0)), (z.2.1, ob I64 3 (List.replicate z.1 (-1 : Int)) z.2.2.2)])
     (fun z => z.1 ≤ f.length ∧ (z.2.1 = none → (List.replicate z.1 (-1 : Int)).length = 0 ∧ z.2.2.1 = 0) ∧ ((List.replicate z.1 (-1 : Int)).map I64 ++ z.2.2.2).length = z.2.2.1) (fun z => f.length - z.1) (0, none, 0, []) ⟨Nat.zero_le _, fun _ => ⟨rfl, rfl⟩, rfl⟩ ⟨rfl, rfl, rfl, trivial⟩ (.cons_cons _ (.cons_cons _ (.cons _ .slnil))) (fun z hI IH => ?_)
   obtain ⟨k, q, cap, sp⟩ := z
   obtain ⟨hk, hq, hcap⟩ := hI
   dsimp only at hk hq hcap IH ⊢
   refine gS (gS (gR ?_))
   iterate 2 refine gMv ?_
   refine gBl underlying23 ?_; refine gBi bLt ?_; refine gE ?_
   refine gC (fun hc => ?_) fun hc => ?_
   ·
    have hlt : k < f.length := by simpa using hc
    have hrl : (List.replicate k (-1 : Int)).length = k := List.length_replicate
    refine gK (gS (gB (gR ?_)))
    iterate 2 refine gMv ?_
    refine gNk ?_; refine gFp underlying124 sizeOf70 1 ?_; refine gLo isAgg70 0 ?_
    refine GoH.bsN (c := [_]) rfl rfl rfl rfl underlying70 sizeOf3 zeroValue3 rfl rfl (fun b21 => ?_)
    refine GoH.appE I64 (xs := List.replicate k (-1 : Int)) (sp := sp) (news := [(-1 : Int)]) (spn := []) rfl rfl rfl rfl rfl underlying70 hi hz hsz rfl hq 2 rfl 0 rfl hcap rfl (by decide) (fun _ => rfl) (by unfold maxLen; rw [hrl]; omega) (by rw [hby, hrl]; omega) (fun b' sp' cap' hlen2 => ?_)
    rw [← List.replicate_succ'] at *
    refine gNk ?_; refine gFp underlying124 sizeOf70 1 ?_
    refine GoH.st rfl rfl rfl rfl sizeOf70 rfl 1 rfl rfl ?_
    refine gE (gIb (gR ?_)); refine gMv ?_; refine gBx rfl rfl rfl rfl (bAdd (by omega)) ?_; refine gAs ?_; refine gE ?_
    exact IH (k + 1, some b', cap', sp') _ _ ⟨hlt, (fun e => by cases e), hlen2⟩ (by dsimp only; omega) ⟨rfl, rfl, rfl, trivial⟩ (.cons _ (List.Sublist.refl _))
   ·
    have hge : ¬ k < f.length := by simpa using hc
    obtain rfl : k = f.length := by omega
    obtain ⟨bd, rfl⟩ : ∃ bd, q = some bd := by
      cases q with
      | none => have := (hq rfl).1; rw [List.length_replicate] at this; omega
      | some b => exact ⟨b, rfl⟩
    obtain ⟨i, hi9⟩ : ∃ i, i = f.length - 1 := ⟨_, rfl⟩
    have hi2 : i < f.length := by omega
    rw [← hi9]
    refine GoH.exit rfl (gS (gR ?_))
    iterate 2 refine gMv ?_
    refine gBl underlying23 ?_
    refine gBx rfl rfl rfl rfl (bSubE (c := (i : Int)) (by omega) (by omega)) ?_
    refine gMv ?_
    refine GoH.addNone (obN 80 (nodesOf []) []) ?_
    refine GoH.pick (pre := [_, _, _]) (pre' := finH b9 none 0 [] [] bd cap (List.replicate f.length (-1)) sp ++ []) [1, 0, 2] (by decide) rfl ?_
    refine GoH.callS (h := finH b9 none 0 [] [] bd cap (List.replicate f.length (-1)) sp) (hF := []) (fs := []) (cs := []) (fun _ v h' => FinPost f i b9 bd cap sp [] v h') rfl rfl rfl rfl rfl (fun _ _ => call124 _ _) (fun w1 Y' hS => ?_) (fun w1 v h1' hR => ?_)
    · have hS1 := hS.subH (List.sublist_append_left (finH b9 none 0 [] [] bd cap (List.replicate f.length (-1)) sp) _)
      exact finish_c f a ca hN (by omega) b9 bd cap sp i hi2 w1 none 0 [] [] _ hS1.has (ha.ex0 hS.ext) (sepOf (h := []) ha hp (by simp [blks]) hS1) ⟨fun _ => ⟨rfl, rfl⟩, rfl, Clo.nil, List.nodup_nil, fun u hu => by cases hu⟩ (List.nil_subset _) DoneOk.start
    obtain ⟨q1, cap1, sp1, ds1, rfl, ho1, hd1, rfl⟩ := hR
    have he : canT (treeAt f i) = nodesOf (visit (treeAt f i) []) := rfl
    unfold finH
    refine gE (gS (gS (gR ?_))); refine gMv ?_; refine gNk ?_; refine gFp underlying124 sizeOf23 0 ?_; refine gLo isAgg23 0 ?_; refine gBl underlying23 ?_; refine gBi bGt ?_; refine gE ?_
    refine gC (fun hc => ?_) fun hc => ?_
    ·
     have h4 : 200 < (nodesOf (visit (treeAt f i) [])).length := by simp at hc; omega
     refine gS (gR ?_); refine gAs ?_; refine gE ?_
     refine gT func98 fun w' hS => ?_
     exact ⟨hS.ext, by rw [bT_long (by rw [he]; exact h4)]; exact OwnN.nil0⟩
    ·
     have h4 : ¬ 200 < (nodesOf (visit (treeAt f i) [])).length := by simp at hc; omega
     refine gK (gS (gR ?_)); refine gMv ?_; refine gNk ?_; refine gFp underlying124 sizeOf23 0 ?_; refine gLo isAgg23 0 ?_; refine gAs ?_; refine gE ?_
     refine gT func98 fun w' hS => ?_
     exact ⟨hS.ext, by rw [bT_ok (by rw [he]; exact h4), he]; exact OwnN.mk hS 1 rfl rfl ho1.nil ho1.cap⟩
theorem cf_of {f : List NV} {t : Tr} (h : f = bT t) (ht : t.ok) : (f = [] ∧ chkF f ≠ 0) ∨ (Cf f t ∧ chkF f = 0) := by
 by_cases e : f = []
 ·exact .inl ⟨e, by rw [e]; decide⟩
 ·exact .inr ⟨⟨h, e, ht⟩, (Cf.mk h e ht).chk⟩
set_option maxRecDepth 8000 in
theorem runary_c (op i e g : Int) (a : Option Addr) (ca : Nat) (f : List NV) (t : Tr) (w : World) (hop : 1 ≤ op ∧ op ≤ 21) (hX : usX op = true) (hY : usY op = false) (hf : fldE op i e g = 0) (ha : FA w a f) (hft : f = bT t) (ht : t.ok) : Cn Tryd.prog 70 [NV.v ⟨op, i, e, g, 0, 0⟩, .slice a f.length ca] w (fun v w' => OwnN 80 w w' v (bT (.un op i e g t))) := by
  obtain ⟨iN, hiN, hzN, hszN, hbyN⟩ := info_parts infoN
  have hfl : f.length ≤ 200 := by rw [hft]; exact bT_le t
  refine Cn.of func70 rfl rfl ?_
  refine gS (gR ?_)
  refine GoH.bx rfl rfl rfl rfl (fun b2 => ?_)
  refine gAs ?_; refine gE (gS (gS (gR ?_))); refine gMv ?_
  refine gP rfl rfl rfl rfl rfl call25 (fun w _ hS => (by exact rchk_c a ca f w (ha.ex0 hS.ext) (by unfold maxLen; omega))) ?_
  refine gBi bNe ?_; refine gE ?_
  refine gC (fun hc => ?_) fun hc => ?_
  ·
   have h1 : chkF f ≠ 0 := by simpa using hc
   have hb : bT (.un op i e g t) = [] := by rw [← bld_un ht hop hX hY hf, ← hft]; exact bldF_bad ⟨f, by simp, h1⟩
   refine gS (gR ?_); refine gAs ?_; refine gE ?_
   refine gT func70 fun w' hS => ?_
   exact ⟨hS.ext, by rw [hb]; exact OwnN.nil0⟩
  ·
   have h1 : chkF f = 0 := by simpa using hc
   have hcf : Cf f t := by
     rcases cf_of hft ht with h | h
     · exact absurd h1 h.2
     · exact h.1
   have hp := hcf.pos
   have hL0 : LT f (subT t) := by rw [hcf.can.1]; exact LT.can ht
   have hsl : (subT t).length = f.length := hL0.len
   have hL := hL0.un (n := (⟨op, i, e, g, ((f.length - 1 : Nat) : Int), 0⟩ : NV)) hop hX hY hf rfl (k := (subT t).length - 1) (by dsimp only; rw [hsl]) subT_get
   have hnE : nodeE (⟨op, i, e, g, ((f.length - 1 : Nat) : Int), 0⟩ : NV) (f.length : Int) = 0 := nodeE_zero.2 (by have := hL.nodes f.length (by simp); simpa using this)
   refine gK (gS (gR ?_)); refine gMv ?_; refine gBl underlying23 ?_
   refine gBx rfl rfl rfl rfl (bSubE (c := ((f.length - 1 : Nat) : Int)) (by omega) (by omega)) ?_
   refine gFp underlying80 sizeOf3 4 ?_
   refine GoH.st rfl rfl rfl rfl sizeOf3 rfl 0 rfl rfl ?_
   refine gE (gS (gS (gR ?_)))
   refine GoH.v (Vop.ldB rfl rfl rfl rfl isAgg80 0 rfl sizeOf80 rfl) ?_
   refine gMv ?_; refine gBl underlying23 ?_
   refine gP rfl rfl rfl rfl rfl call56 (fun w _ hS => (by exact rnode_c (⟨op, i, e, g, ((f.length - 1 : Nat) : Int), 0⟩ : NV) (f.length : Int) w)) ?_
   refine gBi bNe ?_; refine gE ?_
   refine gC (fun hc => ?_) fun hc => ?_
   ·
    exact absurd hc (by rw [hnE]; decide)
   ·
    refine gK (gS (gR ?_)); refine gAs ?_; refine gE (gS (gS (gR ?_))); refine gAs ?_; refine gE (gB ?_)
    refine GoH.addNone (obN 80 [] []) ?_
    refine GoH.pick (pre := [_, _]) (pre' := [_, _]) [1, 0] (by decide) rfl ?_
    refine GoH.loop (σ := Nat × Option Nat × Nat × List Value) (fun z => [(1, .slice a f.length ca), (2, .pointer (some ⟨b2, 0, none⟩)), (5, osv z.2.1 (f.take z.1).length z.2.2.1), (6, .int .i64 z.1)]) (fun z => [(some b2, .cells (NV.cells (⟨op, i, e, g, ((f.length - 1 : Nat) : Int), 0⟩ : NV)).toArray 80 (0, 0)), (z.2.1, obN 80 (f.take z.1) z.2.2.2)])
      (fun z => z.1 ≤ f.length ∧ (z.2.1 = none → (f.take z.1).length = 0 ∧ z.2.2.1 = 0) ∧ ((f.take z.1).flatMap NV.cells ++ z.2.2.2).length = z.2.2.1 * 6) (fun z => f.length - z.1) (0, none, 0, []) ⟨Nat.zero_le _, fun _ => ⟨rfl, rfl⟩, rfl⟩ ⟨rfl, rfl, rfl, rfl, trivial⟩ (List.Sublist.refl _) (fun z hI IH => ?_)
    obtain ⟨k, q, cap, sp⟩ := z
    obtain ⟨hk, hq, hcap⟩ := hI
    dsimp only at hk hq hcap IH ⊢
    have htl : (f.take k).length ≤ 200 := by rw [List.length_take]; omega
    refine gS (gS (gR ?_))
    iterate 2 refine gMv ?_
    refine gBl underlying23 ?_; refine gBi bLt ?_; refine gE ?_
    refine gC (fun hc => ?_) fun hc => ?_
    ·
     have hlt : k < f.length := by simpa using hc
     refine gK (gS (gB (gR ?_)))
     iterate 3 refine gMv ?_
     refine GoH.v (Vop.idxN rfl rfl rfl rfl rfl underlying23 sizeOf80 ⟨_, (ha).at_⟩ (flat_len (enc := NV.cells) (sz := 6) (fun _ => rfl)) (by decide) (k) ⟨rfl, hlt⟩) ?_
     refine GoH.v (Vop.ldN (cs := NV.cells f[k]) rfl rfl rfl rfl isAgg80 sizeOf80 (fun w _ hS => Sl.many (enc := NV.cells) (sz := 6) (ha.ex0 hS.ext).at_ (fun _ => rfl) hlt)) ?_
     refine GoH.bsN (c := [_, _, _, _, _, _]) rfl rfl rfl rfl underlying23 sizeOf80 zeroValue80 rfl rfl (fun b30 => ?_)
     have e1 : (f.take k).flatMap NV.cells ++ NV.cells f[k] = (f.take (k + 1)).flatMap NV.cells := by rw [List.take_succ_eq_append_getElem hlt, List.flatMap_append]; simp
     have e2 : (f.take k).length + 1 = (f.take (k + 1)).length := by rw [List.length_take, List.length_take]; omega
     refine GoH.app 6 (xs := (f.take k).flatMap NV.cells) (sp := sp) (nx := (f.take k).length) (q := q) (news := NV.cells f[k]) (spn := []) rfl rfl rfl rfl rfl underlying23 hiN hzN hszN rfl hq 2 rfl 0 rfl flatN hcap rfl (by decide) (fun u hu => by
       simp only [NV.cells, List.mem_cons, List.not_mem_nil, or_false] at hu
       rcases hu with rfl | rfl | rfl | rfl | rfl | rfl <;> rfl) (by unfold maxLen; omega) (by rw [hbyN]; omega) (fun b' sp' cap' hlen => ?_)
     simp only [e1, e2] at hlen ⊢
     refine gAs ?_; refine gE (gIb (gR ?_)); refine gMv ?_; refine gBx rfl rfl rfl rfl (bAdd (by omega)) ?_; refine gAs ?_; refine gE ?_
     exact IH (k + 1, some b', cap', sp') _ _ ⟨hlt, (fun e => by cases e), hlen⟩ (by dsimp only; omega) ⟨rfl, rfl, rfl, rfl, trivial⟩ (.cons _ (List.Sublist.refl _))
    ·
     have hge : ¬ k < f.length := by simpa using hc
     obtain rfl : k = f.length := by omega
     rw [List.take_length] at hq hcap htl
     rw [List.take_length]
     refine GoH.exit rfl (gS (gR ?_))
     refine gMv ?_
     refine GoH.v (Vop.ldB rfl rfl rfl rfl isAgg80 0 rfl sizeOf80 rfl) ?_
     refine GoH.bsN (c := [_, _, _, _, _, _]) rfl rfl rfl rfl underlying23 sizeOf80 zeroValue80 rfl rfl (fun b34 => ?_)
     have e1 : f.flatMap NV.cells ++ NV.cells (⟨op, i, e, g, ((f.length - 1 : Nat) : Int), 0⟩ : NV) = (f ++ [(⟨op, i, e, g, ((f.length - 1 : Nat) : Int), 0⟩ : NV)]).flatMap NV.cells := by rw [List.flatMap_append]; simp
     have e2 : f.length + 1 = (f ++ [(⟨op, i, e, g, ((f.length - 1 : Nat) : Int), 0⟩ : NV)]).length := by simp
     refine GoH.app 6 (xs := f.flatMap NV.cells) (sp := sp) (nx := f.length) (q := q) (news := NV.cells (⟨op, i, e, g, ((f.length - 1 : Nat) : Int), 0⟩ : NV)) (spn := []) rfl rfl rfl rfl rfl underlying23 hiN hzN hszN rfl hq 2 rfl 0 rfl flatN hcap rfl (by decide) (fun u hu => by
       simp only [NV.cells, List.mem_cons, List.not_mem_nil, or_false] at hu
       rcases hu with rfl | rfl | rfl | rfl | rfl | rfl <;> rfl) (by unfold maxLen; omega) (by rw [hbyN]; omega) (fun b' sp' cap' hlen => ?_)
     simp only [e1, e2] at hlen ⊢
     refine gM rfl rfl rfl rfl rfl call98 (fun w _ hS => (by exact short_c (some ⟨b', 0, none⟩) cap' (f ++ [(⟨op, i, e, g, ((f.length - 1 : Nat) : Int), 0⟩ : NV)]) w ⟨Sl.blk (hS.get (j := 2) rfl)⟩ hL.nodes (by simp) (by simp; omega))) ?_
     rintro v w1 w2 Y' hS he ho
     rw [show treeAt (f ++ [(⟨op, i, e, g, ((f.length - 1 : Nat) : Int), 0⟩ : NV)]) ((f ++ [(⟨op, i, e, g, ((f.length - 1 : Nat) : Int), 0⟩ : NV)]).length - 1) = .un op i e g t from by rw [← e2, Nat.add_sub_cancel]; exact hL.last] at ho
     obtain ⟨qr, capr, spr, rfl, hqr, hcapr, hS'⟩ := gainN hS he ho
     refine ⟨_, hS', ?_⟩
     refine gAs ?_; refine gE ?_
     refine gT func70 fun w' hS => ?_
     exact ⟨hS.ext, OwnN.mk hS 0 rfl rfl hqr hcapr⟩
set_option maxRecDepth 8000 in
theorem rbinary_c (op i e g : Int) (a : Option Addr) (ca : Nat) (f : List NV) (t : Tr) (b : Option Addr) (cb : Nat) (h : List NV) (u : Tr) (w : World) (hop : 1 ≤ op ∧ op ≤ 21) (hY : usY op = true) (hf : fldE op i e g = 0) (ha : FA w a f) (hft : f = bT t) (ht : t.ok) (hb : FA w b h) (hhu : h = bT u) (hu : u.ok) : Cn Tryd.prog 58 [NV.v ⟨op, i, e, g, 0, 0⟩, .slice a f.length ca, .slice b h.length cb] w (fun v w' => OwnN 80 w w' v (bT (.bin op i e g t u))) := by
  obtain ⟨iN, hiN, hzN, hszN, hbyN⟩ := info_parts infoN
  have hfl : f.length ≤ 200 := by rw [hft]; exact bT_le t
  have hhl : h.length ≤ 200 := by rw [hhu]; exact bT_le u
  refine Cn.of func58 rfl rfl ?_
  refine gS (gR ?_)
  refine GoH.bx rfl rfl rfl rfl (fun b3 => ?_)
  refine gAs ?_; refine gE (gS (gS (gR ?_))); refine gMv ?_
  refine gP rfl rfl rfl rfl rfl call25 (fun w _ hS => (by exact rchk_c a ca f w (ha.ex0 hS.ext) (by unfold maxLen; omega))) ?_
  refine gBi bNe ?_; refine gMv ?_
  refine gCs 14 (fun hc => ?_) fun hc => ?_
  ·
   have h1 : chkF f ≠ 0 := by simpa using hc
   have hb2 : bT (.bin op i e g t u) = [] := by rw [← bld_bin ht hu hop hY hf, ← hft, ← hhu]; exact bldF_bad ⟨f, by simp, h1⟩
   iterate 3 refine gNo ?_
   refine gPt ?_; refine gE (GoH.condT rfl (gS (gR ?_))); refine gAs ?_; refine gE ?_
   refine gT func58 fun w' hS => ?_
   exact ⟨hS.ext, by rw [hb2]; exact OwnN.nil0⟩
  ·
   have h1 : chkF f = 0 := by simpa using hc
   refine gMv ?_
   refine gP rfl rfl rfl rfl rfl call25 (fun w _ hS => (by exact rchk_c b cb h w (hb.ex0 hS.ext) (by unfold maxLen; omega))) ?_
   refine gBi bNe ?_; refine gPf ?_; refine gE ?_
   refine gC (fun hc => ?_) fun hc => ?_
   ·
    have h2 : chkF h ≠ 0 := by simpa using hc
    have hb2 : bT (.bin op i e g t u) = [] := by rw [← bld_bin ht hu hop hY hf, ← hft, ← hhu]; exact bldF_bad ⟨h, by simp, h2⟩
    refine gS (gR ?_); refine gAs ?_; refine gE ?_
    refine gT func58 fun w' hS => ?_
    exact ⟨hS.ext, by rw [hb2]; exact OwnN.nil0⟩
   ·
    have h2 : chkF h = 0 := by simpa using hc
    have hcf : Cf f t := by
      rcases cf_of hft ht with h | h
      · exact absurd h1 h.2
      · exact h.1
    have hch : Cf h u := by
      rcases cf_of hhu hu with h | h
      · exact absurd h2 h.2
      · exact h.1
    have hp := hcf.pos
    have hp2 := hch.pos
    have hF0 : LT f (subT t) := by rw [hcf.can.1]; exact LT.can ht
    have hH0 : LT h (subT u) := by rw [hch.can.1]; exact LT.can hu
    have hsl : (subT t).length = f.length := hF0.len
    have hsl2 : (subT u).length = h.length := hH0.len
    have hL0 := hF0.cat hH0
    have hcl : (catN f h).length = f.length + h.length := catN_len
    have hL := hL0.bin (n := ⟨op, i, e, g, ((f.length - 1 : Nat) : Int), (((catN f h).length - 1 : Nat) : Int)⟩) hop hY hf (k := (subT t).length - 1) (by dsimp only; rw [hsl]) (by rw [List.getElem?_append_left (by omega)]; exact subT_get) (l := (subT t).length + ((subT u).length - 1)) (by dsimp only; rw [hcl]; omega) (by rw [List.getElem?_append_right (by omega), Nat.add_sub_cancel_left]; exact subT_get)
    have hnE : nodeE ⟨op, i, e, g, ((f.length - 1 : Nat) : Int), (((catN f h).length - 1 : Nat) : Int)⟩ ((catN f h).length : Int) = 0 := nodeE_zero.2 (by have := hL.nodes (catN f h).length (by simp); simpa using this)
    have hokh := hch.okF
    refine gK (gS (gR ?_)); refine gAs ?_; refine gE (gS (gS (gR ?_))); refine gAs ?_; refine gE (gB ?_)
    refine GoH.addNone (obN 80 [] []) ?_
    refine GoH.pick (pre := [_, _]) (pre' := [_, _]) [1, 0] (by decide) rfl ?_
    refine GoH.loop (σ := Nat × Option Nat × Nat × List Value) (fun z => [(1, .slice a f.length ca), (2, .slice b h.length cb), (3, .pointer (some ⟨b3, 0, none⟩)), (7, osv z.2.1 (f.take z.1).length z.2.2.1), (8, .int .i64 z.1)]) (fun z => [(some b3, .cells (NV.cells ⟨op, i, e, g, 0, 0⟩).toArray 80 (0, 0)), (z.2.1, obN 80 (f.take z.1) z.2.2.2)])
      (fun z => z.1 ≤ f.length ∧ (z.2.1 = none → (f.take z.1).length = 0 ∧ z.2.2.1 = 0) ∧ ((f.take z.1).flatMap NV.cells ++ z.2.2.2).length = z.2.2.1 * 6) (fun z => f.length - z.1) (0, none, 0, []) ⟨Nat.zero_le _, fun _ => ⟨rfl, rfl⟩, rfl⟩ ⟨rfl, rfl, rfl, rfl, rfl, trivial⟩ (List.Sublist.refl _) (fun z hI IH => ?_)
    obtain ⟨k, q, cap, sp⟩ := z
    obtain ⟨hk, hq, hcap⟩ := hI
    dsimp only at hk hq hcap IH ⊢
    have htl : (f.take k).length ≤ 200 := by rw [List.length_take]; omega
    refine gS (gS (gR ?_))
    iterate 2 refine gMv ?_
    refine gBl underlying23 ?_; refine gBi bLt ?_; refine gE ?_
    refine gC (fun hc => ?_) fun hc => ?_
    ·
     have hlt : k < f.length := by simpa using hc
     refine gK (gS (gB (gR ?_)))
     iterate 3 refine gMv ?_
     refine GoH.v (Vop.idxN rfl rfl rfl rfl rfl underlying23 sizeOf80 ⟨_, (ha).at_⟩ (flat_len (enc := NV.cells) (sz := 6) (fun _ => rfl)) (by decide) (k) ⟨rfl, hlt⟩) ?_
     refine GoH.v (Vop.ldN (cs := NV.cells f[k]) rfl rfl rfl rfl isAgg80 sizeOf80 (fun w _ hS => Sl.many (enc := NV.cells) (sz := 6) (ha.ex0 hS.ext).at_ (fun _ => rfl) hlt)) ?_
     refine GoH.bsN (c := [_, _, _, _, _, _]) rfl rfl rfl rfl underlying23 sizeOf80 zeroValue80 rfl rfl (fun b30 => ?_)
     have e1 : (f.take k).flatMap NV.cells ++ NV.cells f[k] = (f.take (k + 1)).flatMap NV.cells := by rw [List.take_succ_eq_append_getElem hlt, List.flatMap_append]; simp
     have e2 : (f.take k).length + 1 = (f.take (k + 1)).length := by rw [List.length_take, List.length_take]; omega
     refine GoH.app 6 (xs := (f.take k).flatMap NV.cells) (sp := sp) (nx := (f.take k).length) (q := q) (news := NV.cells f[k]) (spn := []) rfl rfl rfl rfl rfl underlying23 hiN hzN hszN rfl hq 2 rfl 0 rfl flatN hcap rfl (by decide) (fun u hu => by
       simp only [NV.cells, List.mem_cons, List.not_mem_nil, or_false] at hu
       rcases hu with rfl | rfl | rfl | rfl | rfl | rfl <;> rfl) (by unfold maxLen; omega) (by rw [hbyN]; omega) (fun b' sp' cap' hlen => ?_)
     simp only [e1, e2] at hlen ⊢
     refine gAs ?_; refine gE (gIb (gR ?_)); refine gMv ?_; refine gBx rfl rfl rfl rfl (bAdd (by omega)) ?_; refine gAs ?_; refine gE ?_
     exact IH (k + 1, some b', cap', sp') _ _ ⟨hlt, (fun e => by cases e), hlen⟩ (by dsimp only; omega) ⟨rfl, rfl, rfl, rfl, rfl, trivial⟩ (.cons _ (List.Sublist.refl _))
    ·
     have hge : ¬ k < f.length := by simpa using hc
     obtain rfl : k = f.length := by omega
     rw [List.take_length] at hq hcap htl
     rw [List.take_length]
     refine GoH.exit rfl (gS (gS (gR ?_)))
     refine gAs ?_; refine gE (gB ?_)
     refine GoH.loop (σ := Nat × Option Nat × Nat × List Value) (fun z => [(1, .slice a f.length ca), (2, .slice b h.length cb), (3, .pointer (some ⟨b3, 0, none⟩)), (7, osv z.2.1 (catN f (h.take z.1)).length z.2.2.1), (9, .int .i64 z.1)]) (fun z => [(some b3, .cells (NV.cells ⟨op, i, e, g, 0, 0⟩).toArray 80 (0, 0)), (z.2.1, obN 80 (catN f (h.take z.1)) z.2.2.2)])
       (fun z => z.1 ≤ h.length ∧ (z.2.1 = none → (catN f (h.take z.1)).length = 0 ∧ z.2.2.1 = 0) ∧ ((catN f (h.take z.1)).flatMap NV.cells ++ z.2.2.2).length = z.2.2.1 * 6) (fun z => h.length - z.1) (0, q, cap, sp) (by rw [cat_zero]; exact ⟨Nat.zero_le _, hq, hcap⟩) (by rw [cat_zero]; exact ⟨rfl, rfl, rfl, rfl, rfl, trivial⟩) (by rw [cat_zero]; exact List.Sublist.refl _) (fun z hI IH2 => ?_)
     obtain ⟨m, q, cap, sp⟩ := z
     obtain ⟨hm0, hq, hcap⟩ := hI
     dsimp only at hm0 hq hcap IH2 ⊢
     have hcl2 : (catN f (h.take m)).length ≤ 1000 := by rw [catN_len, List.length_take]; omega
     refine gS (gS (gR ?_))
     iterate 2 refine gMv ?_
     refine gBl underlying23 ?_; refine gBi bLt ?_; refine gE ?_
     refine gC (fun hc => ?_) fun hc => ?_
     ·
      have hm : m < h.length := by simpa using hc
      have hokn := hokh.at m hm
      refine gK (gS (gB (gS (gR ?_))))
      iterate 2 refine gMv ?_
      refine GoH.v (Vop.idxN rfl rfl rfl rfl rfl underlying23 sizeOf80 ⟨_, (hb).at_⟩ (flat_len (enc := NV.cells) (sz := 6) (fun _ => rfl)) (by decide) (m) ⟨rfl, hm⟩) ?_
      refine GoH.v (Vop.ldN (cs := NV.cells h[m]) rfl rfl rfl rfl isAgg80 sizeOf80 (fun w _ hS => Sl.many (enc := NV.cells) (sz := 6) (hb.ex0 hS.ext).at_ (fun _ => rfl) hm)) ?_
      refine GoH.alc rfl rfl rfl (fun _ => zeroValue80 _) (fun b10 => ?_)
      refine GoH.stB rfl rfl rfl rfl sizeOf80 0 rfl rfl rfl rfl ?_
      refine gE (gS (gS (gR ?_))); refine gFp underlying80 sizeOf3 0 ?_; refine gLo isAgg3 0 ?_
      refine gP rfl rfl rfl rfl rfl call92 (fun w _ hS => (by exact usesX_c h[m].op w)) ?_
      refine gE ?_
      refine gC (fun hc => ?_) fun hc => ?_
      ·
       have hX : usX h[m].op = true := hc
       have hxr := hokn.x hX
       refine gR ?_; refine gFp underlying80 sizeOf3 4 ?_; refine gLo isAgg3 0 ?_; refine gMv ?_; refine gBl underlying23 ?_; refine gBx rfl rfl rfl rfl (bAdd (by omega)) ?_; refine gFp underlying80 sizeOf3 4 ?_
       refine GoH.st rfl rfl rfl rfl sizeOf3 rfl 0 rfl rfl ?_
       refine gE (gS (gS (gR ?_))); refine gFp underlying80 sizeOf3 0 ?_; refine gLo isAgg3 0 ?_
       refine gP rfl rfl rfl rfl rfl call93 (fun w _ hS => (by exact usesY_c h[m].op w)) ?_
       refine gE ?_
       refine gC (fun hc => ?_) fun hc => ?_
       ·
        have hY2 : usY h[m].op = true := hc
        have hyr := hokn.y hY2
        refine gR ?_; refine gFp underlying80 sizeOf3 5 ?_; refine gLo isAgg3 0 ?_; refine gMv ?_; refine gBl underlying23 ?_; refine gBx rfl rfl rfl rfl (bAdd (by omega)) ?_; refine gFp underlying80 sizeOf3 5 ?_
        refine GoH.st rfl rfl rfl rfl sizeOf3 rfl 0 rfl rfl ?_
        refine gE (gR ?_); refine gMv ?_
        refine GoH.v (Vop.ldB rfl rfl rfl rfl isAgg80 0 rfl sizeOf80 rfl) ?_
        refine GoH.bsN (c := [_, _, _, _, _, _]) rfl rfl rfl rfl underlying23 sizeOf80 zeroValue80 rfl rfl (fun b62 => ?_)
        have hsh : shiftN f.length h[m] = ({ h[m] with x := (h[m]).x + (f.length : Int), y := (h[m]).y + (f.length : Int) } : NV) := by simp [shiftN, hX, hY2]
        have hct := cat_take (o := f) hm
        rw [hsh] at hct
        have e1 : (catN f (h.take m)).flatMap NV.cells ++ NV.cells ({ h[m] with x := (h[m]).x + (f.length : Int), y := (h[m]).y + (f.length : Int) } : NV) = (catN f (h.take (m + 1))).flatMap NV.cells := by rw [hct, List.flatMap_append]; simp
        have e2 : (catN f (h.take m)).length + 1 = (catN f (h.take (m + 1))).length := by rw [hct]; simp
        refine GoH.app 6 (xs := (catN f (h.take m)).flatMap NV.cells) (sp := sp) (nx := (catN f (h.take m)).length) (q := q) (news := NV.cells ({ h[m] with x := (h[m]).x + (f.length : Int), y := (h[m]).y + (f.length : Int) } : NV)) (spn := []) rfl rfl rfl rfl rfl underlying23 hiN hzN hszN rfl hq 3 rfl 0 rfl flatN hcap rfl (by decide) (fun u hu => by
          simp only [NV.cells, List.mem_cons, List.not_mem_nil, or_false] at hu
          rcases hu with rfl | rfl | rfl | rfl | rfl | rfl <;> rfl) (by unfold maxLen; omega) (by rw [hbyN]; omega) (fun b' sp' cap' hlen => ?_)
        simp only [e1, e2] at hlen ⊢
        refine gAs ?_; refine gE (gIb (gR ?_)); refine gMv ?_; refine gBx rfl rfl rfl rfl (bAdd (by omega)) ?_; refine gAs ?_; refine gE ?_
        exact IH2 (m + 1, some b', cap', sp') _ _ ⟨hm, (fun e => by cases e), hlen⟩ (by dsimp only; omega) ⟨rfl, rfl, rfl, rfl, rfl, trivial⟩ (.cons _ (.cons _ (List.Sublist.refl _)))
       ·
        have hY2 : usY h[m].op = false := hc
        refine gK (gR ?_); refine gMv ?_
        refine GoH.v (Vop.ldB rfl rfl rfl rfl isAgg80 0 rfl sizeOf80 rfl) ?_
        refine GoH.bsN (c := [_, _, _, _, _, _]) rfl rfl rfl rfl underlying23 sizeOf80 zeroValue80 rfl rfl (fun b62 => ?_)
        have hsh : shiftN f.length h[m] = ({ h[m] with x := (h[m]).x + (f.length : Int) } : NV) := by simp [shiftN, hX, hY2]
        have hct := cat_take (o := f) hm
        rw [hsh] at hct
        have e1 : (catN f (h.take m)).flatMap NV.cells ++ NV.cells ({ h[m] with x := (h[m]).x + (f.length : Int) } : NV) = (catN f (h.take (m + 1))).flatMap NV.cells := by rw [hct, List.flatMap_append]; simp
        have e2 : (catN f (h.take m)).length + 1 = (catN f (h.take (m + 1))).length := by rw [hct]; simp
        refine GoH.app 6 (xs := (catN f (h.take m)).flatMap NV.cells) (sp := sp) (nx := (catN f (h.take m)).length) (q := q) (news := NV.cells ({ h[m] with x := (h[m]).x + (f.length : Int) } : NV)) (spn := []) rfl rfl rfl rfl rfl underlying23 hiN hzN hszN rfl hq 3 rfl 0 rfl flatN hcap rfl (by decide) (fun u hu => by
          simp only [NV.cells, List.mem_cons, List.not_mem_nil, or_false] at hu
          rcases hu with rfl | rfl | rfl | rfl | rfl | rfl <;> rfl) (by unfold maxLen; omega) (by rw [hbyN]; omega) (fun b' sp' cap' hlen => ?_)
        simp only [e1, e2] at hlen ⊢
        refine gAs ?_; refine gE (gIb (gR ?_)); refine gMv ?_; refine gBx rfl rfl rfl rfl (bAdd (by omega)) ?_; refine gAs ?_; refine gE ?_
        exact IH2 (m + 1, some b', cap', sp') _ _ ⟨hm, (fun e => by cases e), hlen⟩ (by dsimp only; omega) ⟨rfl, rfl, rfl, rfl, rfl, trivial⟩ (.cons _ (.cons _ (List.Sublist.refl _)))
      ·
       have hX : usX h[m].op = false := hc
       have hY2 := usX_of_Y hX
       refine gK (gS (gS (gR ?_))); refine gFp underlying80 sizeOf3 0 ?_; refine gLo isAgg3 0 ?_
       refine gP rfl rfl rfl rfl rfl call93 (fun w _ hS => (by exact usesY_c h[m].op w)) ?_
       refine gE ?_
       refine gC (fun hc => ?_) fun hc => ?_
       ·
        exact absurd (hY2.symm.trans hc) (by decide)
       ·
        refine gK (gR ?_); refine gMv ?_
        refine GoH.v (Vop.ldB rfl rfl rfl rfl isAgg80 0 rfl sizeOf80 rfl) ?_
        refine GoH.bsN (c := [_, _, _, _, _, _]) rfl rfl rfl rfl underlying23 sizeOf80 zeroValue80 rfl rfl (fun b62 => ?_)
        have hsh : shiftN f.length h[m] = h[m] := by simp [shiftN, hX, hY2]
        have hct := cat_take (o := f) hm
        rw [hsh] at hct
        have e1 : (catN f (h.take m)).flatMap NV.cells ++ NV.cells h[m] = (catN f (h.take (m + 1))).flatMap NV.cells := by rw [hct, List.flatMap_append]; simp
        have e2 : (catN f (h.take m)).length + 1 = (catN f (h.take (m + 1))).length := by rw [hct]; simp
        refine GoH.app 6 (xs := (catN f (h.take m)).flatMap NV.cells) (sp := sp) (nx := (catN f (h.take m)).length) (q := q) (news := NV.cells h[m]) (spn := []) rfl rfl rfl rfl rfl underlying23 hiN hzN hszN rfl hq 3 rfl 0 rfl flatN hcap rfl (by decide) (fun u hu => by
          simp only [NV.cells, List.mem_cons, List.not_mem_nil, or_false] at hu
          rcases hu with rfl | rfl | rfl | rfl | rfl | rfl <;> rfl) (by unfold maxLen; omega) (by rw [hbyN]; omega) (fun b' sp' cap' hlen => ?_)
        simp only [e1, e2] at hlen ⊢
        refine gAs ?_; refine gE (gIb (gR ?_)); refine gMv ?_; refine gBx rfl rfl rfl rfl (bAdd (by omega)) ?_; refine gAs ?_; refine gE ?_
        exact IH2 (m + 1, some b', cap', sp') _ _ ⟨hm, (fun e => by cases e), hlen⟩ (by dsimp only; omega) ⟨rfl, rfl, rfl, rfl, rfl, trivial⟩ (.cons _ (.cons _ (List.Sublist.refl _)))
     ·
      have hge : ¬ m < h.length := by simpa using hc
      obtain rfl : m = h.length := by omega
      rw [List.take_length] at hq hcap hcl2
      rw [List.take_length]
      refine GoH.exit rfl (gS (gR ?_))
      refine gMv ?_; refine gBl underlying23 ?_
      refine gBx rfl rfl rfl rfl (bSubE (c := ((f.length - 1 : Nat) : Int)) (by omega) (by omega)) ?_
      refine gMv ?_; refine gBl underlying23 ?_
      refine gBx rfl rfl rfl rfl (bSubE (c := (((catN f h).length - 1 : Nat) : Int)) (by omega) (by omega)) ?_
      refine gFp underlying80 sizeOf3 4 ?_
      refine GoH.st rfl rfl rfl rfl sizeOf3 rfl 0 rfl rfl ?_
      refine gFp underlying80 sizeOf3 5 ?_
      refine GoH.st rfl rfl rfl rfl sizeOf3 rfl 0 rfl rfl ?_
      refine gE (gS (gS (gR ?_)))
      refine GoH.v (Vop.ldB rfl rfl rfl rfl isAgg80 0 rfl sizeOf80 rfl) ?_
      refine gMv ?_; refine gBl underlying23 ?_
      refine gP rfl rfl rfl rfl rfl call56 (fun w _ hS => (by exact rnode_c (⟨op, i, e, g, ((f.length - 1 : Nat) : Int), (((catN f h).length - 1 : Nat) : Int)⟩ : NV) ((catN f h).length : Int) w)) ?_
      refine gBi bNe ?_; refine gE ?_
      refine gC (fun hc => ?_) fun hc => ?_
      ·
       exact absurd hc (by rw [hnE]; decide)
      ·
       refine gK (gS (gR ?_)); refine gMv ?_
       refine GoH.v (Vop.ldB rfl rfl rfl rfl isAgg80 0 rfl sizeOf80 rfl) ?_
       refine GoH.bsN (c := [_, _, _, _, _, _]) rfl rfl rfl rfl underlying23 sizeOf80 zeroValue80 rfl rfl (fun b79 => ?_)
       have e1 : (catN f h).flatMap NV.cells ++ NV.cells (⟨op, i, e, g, ((f.length - 1 : Nat) : Int), (((catN f h).length - 1 : Nat) : Int)⟩ : NV) = (catN f h ++ [(⟨op, i, e, g, ((f.length - 1 : Nat) : Int), (((catN f h).length - 1 : Nat) : Int)⟩ : NV)]).flatMap NV.cells := by rw [List.flatMap_append]; simp
       have e2 : (catN f h).length + 1 = (catN f h ++ [(⟨op, i, e, g, ((f.length - 1 : Nat) : Int), (((catN f h).length - 1 : Nat) : Int)⟩ : NV)]).length := by simp
       refine GoH.app 6 (xs := (catN f h).flatMap NV.cells) (sp := sp) (nx := (catN f h).length) (q := q) (news := NV.cells (⟨op, i, e, g, ((f.length - 1 : Nat) : Int), (((catN f h).length - 1 : Nat) : Int)⟩ : NV)) (spn := []) rfl rfl rfl rfl rfl underlying23 hiN hzN hszN rfl hq 2 rfl 0 rfl flatN hcap rfl (by decide) (fun u hu => by
         simp only [NV.cells, List.mem_cons, List.not_mem_nil, or_false] at hu
         rcases hu with rfl | rfl | rfl | rfl | rfl | rfl <;> rfl) (by unfold maxLen; omega) (by rw [hbyN]; omega) (fun b' sp' cap' hlen => ?_)
       simp only [e1, e2] at hlen ⊢
       refine gM rfl rfl rfl rfl rfl call98 (fun w _ hS => (by exact short_c (some ⟨b', 0, none⟩) cap' (catN f h ++ [(⟨op, i, e, g, ((f.length - 1 : Nat) : Int), (((catN f h).length - 1 : Nat) : Int)⟩ : NV)]) w ⟨Sl.blk (hS.get (j := 2) rfl)⟩ hL.nodes (by simp) (by simp; omega))) ?_
       rintro v w1 w2 Y' hS he ho
       rw [show treeAt (catN f h ++ [(⟨op, i, e, g, ((f.length - 1 : Nat) : Int), (((catN f h).length - 1 : Nat) : Int)⟩ : NV)]) ((catN f h ++ [(⟨op, i, e, g, ((f.length - 1 : Nat) : Int), (((catN f h).length - 1 : Nat) : Int)⟩ : NV)]).length - 1) = .bin op i e g t u from by rw [← e2, Nat.add_sub_cancel]; exact hL.last] at ho
       obtain ⟨qr, capr, spr, rfl, hqr, hcapr, hS'⟩ := gainN hS he ho
       refine ⟨_, hS', ?_⟩
       refine gAs ?_; refine gE ?_
       refine gT func58 fun w' hS => ?_
       exact ⟨hS.ext, OwnN.mk hS 0 rfl rfl hqr hcapr⟩
theorem rone_c (op i e g : Int) (w : World) (hop : 1 ≤ op ∧ op ≤ 21) (hX : usX op = false) (hf : fldE op i e g = 0) : Cn Tryd.prog 69 [NV.v ⟨op, i, e, g, 0, 0⟩] w (fun v w' => OwnN 80 w w' v (bT (.leaf op i e g))) := by
  have hY := usX_of_Y hX
  have hnE : nodeE ⟨op, i, e, g, 0, 0⟩ 0 = 0 := nodeE_zero.2 ⟨hop, fun e => absurd (hX.symm.trans e) (by decide), fun _ => rfl, fun e => absurd (hY.symm.trans e) (by decide), fun _ => rfl, hf⟩
  have hbt : bT (.leaf op i e g) = [⟨op, i, e, g, 0, 0⟩] := by rw [bT_ok (by rw [canT_leaf]; omega)]; rfl
  refine Cn.of func69 rfl rfl ?_
  refine gS (gR ?_)
  refine GoH.bx rfl rfl rfl rfl (fun b1 => ?_)
  refine gAs ?_; refine gE (gS (gS (gR ?_)))
  refine GoH.v (Vop.ldB rfl rfl rfl rfl isAgg80 0 rfl sizeOf80 rfl) ?_
  refine gP rfl rfl rfl rfl rfl call56 (fun w _ hS => (by exact rnode_c ⟨op, i, e, g, 0, 0⟩ 0 w)) ?_
  refine gBi bNe ?_; refine gE ?_
  refine gC (fun hc => ?_) fun hc => ?_
  ·
   exact absurd hc (by rw [hnE]; decide)
  ·
   refine gK (gS (gR ?_))
   refine GoH.v (Vop.ldB rfl rfl rfl rfl isAgg80 0 rfl sizeOf80 rfl) ?_
   refine GoH.bsN (c := [_, _, _, _, _, _]) rfl rfl rfl rfl underlying23 sizeOf80 zeroValue80 rfl rfl (fun b7 => ?_)
   refine gAs ?_; refine gE ?_
   refine gT func69 fun w' hS => ?_
   rw [hbt]
   exact ⟨hS.ext, some b7, 1, [], rfl, (fun e => by cases e), rfl, fun b hb => by cases hb; exact ⟨hS.fresh (j := 0) rfl, hS.get (j := 0) rfl⟩⟩
end Go.Proofs.YtlihcmknfdckdaaDoor
