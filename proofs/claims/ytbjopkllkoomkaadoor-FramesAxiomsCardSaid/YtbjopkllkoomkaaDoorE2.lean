/- Contracts of functions of the program: what each call returns and that nothing else of memory is turned, under the conditions that each theorem states. -/
import Derived.Test.YtbjopkllkoomkaaDoorE1
namespace Go.Proofs.YtbjopkllkoomkaaDoor
open Go.RowKit Go.Proofs.Wit
/-! the reference's canonical lists -/
theorem nodeFsK : ∃ fs, Tryd.prog.underlying 58 = some (.struct fs) ∧ nodeFs fs 3 := ⟨_, Tryd.underlying58, _, _, _, _, _, _, rfl, ⟨by decide, rfl, rfl⟩, ⟨by decide, rfl, rfl⟩, ⟨by decide, rfl, rfl⟩, ⟨by decide, rfl, rfl⟩, ⟨by decide, rfl, rfl⟩, ⟨by decide, rfl, rfl⟩⟩
theorem stoodK : Tryd.prog.stoodInHeld 58 = false := by kernel_rfl
theorem guardK : Tryd.prog.eqGuardType Tryd.prog.depth 58 = false := by kernel_rfl
theorem bEqN {a b : NV} : Bin Tryd.prog .eql 58 a.v b.v (.bool (a == b)) := by
  obtain ⟨fs, hu, hfs⟩ := nodeFsK
  exact bEqNode hu hfs Tryd.underlying3 Tryd.isAgg3 stoodK guardK
theorem infoN : (Tryd.prog.info? 58).map (fun i => (i.zero, i.size, i.bytes)) = some (some nv0.v, 6, 48) := by kernel_rfl
theorem rchk_c (a : Option Addr) (ca : Nat) (f : List NV) (w : World) (ha : FA w a f) (hl : f.length ≤ maxLen) : Cn Tryd.prog 26 [.slice a f.length ca] w (fun v _ => v = .int .i64 (chkF f)) := by
  unfold maxLen at hl
  refine Cn.of Tryd.func26 rfl rfl ?_
  refine GoH.seq ?_
  refine GoH.region ?_
  refine GoH.v (Vop.asg rfl rfl rfl rfl) ?_
  refine GoH.regionEnd ?_
  refine GoH.seq ?_
  refine GoH.seq ?_
  refine GoH.region ?_
  refine GoH.v (Vop.mv rfl rfl rfl rfl) ?_
  refine GoH.v (Vop.blt rfl rfl rfl (blt_len_slice Tryd.underlying24) rfl) ?_
  refine GoH.v (Vop.bin rfl rfl rfl rfl bEq rfl) ?_
  refine GoH.regionEnd ?_
  refine GoH.cond rfl (fun hc => ?_) (fun hc => ?_)
  · -- yes
    have h1 : f.length = 0 := by simpa using hc
    refine GoH.seq ?_
    refine GoH.region ?_
    refine GoH.v (Vop.asg rfl rfl rfl rfl) ?_
    refine GoH.regionEnd ?_
    refine GoH.ret Tryd.f26 Tryd.func26 rfl (fun w' hS => ?_)
    exact ⟨hS.ext, by rw [chkF, if_pos h1]; rfl⟩
  · -- no
    have h1 : ¬ f.length = 0 := by simpa using hc
    refine GoH.skip ?_
    refine GoH.seq ?_
    refine GoH.seq ?_
    refine GoH.region ?_
    refine GoH.v (Vop.mv rfl rfl rfl rfl) ?_
    refine GoH.v (Vop.blt rfl rfl rfl (blt_len_slice Tryd.underlying24) rfl) ?_
    refine GoH.v (Vop.bin rfl rfl rfl rfl bGt rfl) ?_
    refine GoH.regionEnd ?_
    refine GoH.cond rfl (fun hc => ?_) (fun hc => ?_)
    · -- yes
      have h2 : 200 < f.length := by simp at hc; omega
      refine GoH.seq ?_
      refine GoH.region ?_
      refine GoH.v (Vop.asg rfl rfl rfl rfl) ?_
      refine GoH.regionEnd ?_
      refine GoH.ret Tryd.f26 Tryd.func26 rfl (fun w' hS => ?_)
      exact ⟨hS.ext, by rw [chkF, if_neg h1, if_pos h2]; rfl⟩
    · -- no
      have h2 : ¬ 200 < f.length := by simp at hc; omega
      refine GoH.skip ?_
      refine GoH.seq ?_
      refine GoH.seq ?_
      refine GoH.region ?_
      refine GoH.v (Vop.asg rfl rfl rfl rfl) ?_
      refine GoH.regionEnd ?_
      refine GoH.block ?_
      refine GoH.loop (σ := Nat) (fun k => [(0, .slice a f.length ca), (3, .int .i64 k)]) (fun _ => []) (fun k => k ≤ f.length ∧ firstE (errF f) k = 0) (fun k => f.length - k) 0 ⟨Nat.zero_le _, rfl⟩ ⟨rfl, rfl, trivial⟩ .slnil (fun k hI IH => ?_)
      obtain ⟨hk, hz⟩ := hI
      refine GoH.seq ?_
      refine GoH.seq ?_
      refine GoH.region ?_
      refine GoH.v (Vop.mv rfl rfl rfl rfl) ?_
      refine GoH.v (Vop.mv rfl rfl rfl rfl) ?_
      refine GoH.v (Vop.blt rfl rfl rfl (blt_len_slice Tryd.underlying24) rfl) ?_
      refine GoH.v (Vop.bin rfl rfl rfl rfl bLt rfl) ?_
      refine GoH.regionEnd ?_
      refine GoH.cond rfl (fun hc => ?_) (fun hc => ?_)
      · -- yes
        have hlt : k < f.length := by simpa using hc
        have he : errF f k = nodeE f[k] k := by simp [errF, List.getD_eq_getElem?_getD, hlt]
        refine GoH.skip ?_
        refine GoH.seq ?_
        refine GoH.block ?_
        refine GoH.seq ?_
        refine GoH.region ?_
        refine GoH.v (Vop.mv rfl rfl rfl rfl) ?_
        refine GoH.v (Vop.mv rfl rfl rfl rfl) ?_
        refine GoH.v (Vop.idxN rfl rfl rfl rfl rfl Tryd.underlying24 Tryd.sizeOf58 ⟨_, (ha).at_⟩ (flat_len (enc := NV.cells) (sz := 6) (fun _ => rfl)) (by decide) (k) ⟨rfl, hlt⟩) ?_
        refine GoH.v (Vop.ldN (cs := NV.cells f[k]) rfl rfl rfl rfl Tryd.isAgg58 Tryd.sizeOf58 (fun w _ hS => Sl.many (enc := NV.cells) (sz := 6) (ha.ex0 hS.ext).at_ (fun _ => rfl) hlt)) ?_
        refine GoH.v (Vop.mv rfl rfl rfl rfl) ?_
        refine GoH.callP rfl rfl rfl rfl rfl (fun _ _ => Tryd.call52 _ _) (fun w _ hS => (by exact rnode_c f[k] k w)) ?_
        refine GoH.v (Vop.asg rfl rfl rfl rfl) ?_
        refine GoH.regionEnd ?_
        refine GoH.seq ?_
        refine GoH.region ?_
        refine GoH.v (Vop.mv rfl rfl rfl rfl) ?_
        refine GoH.v (Vop.bin rfl rfl rfl rfl bNe rfl) ?_
        refine GoH.regionEnd ?_
        refine GoH.cond rfl (fun hc => ?_) (fun hc => ?_)
        · -- yes
          have h3 : nodeE f[k] k ≠ 0 := by simpa using hc
          refine GoH.seq ?_
          refine GoH.region ?_
          refine GoH.v (Vop.mv rfl rfl rfl rfl) ?_
          refine GoH.v (Vop.asg rfl rfl rfl rfl) ?_
          refine GoH.regionEnd ?_
          refine GoH.ret Tryd.f26 Tryd.func26 rfl (fun w' hS => ?_)
          exact ⟨hS.ext, by rw [chkF, if_neg h1, if_neg h2, firstE_hit hz (by rw [he]; exact h3) hlt, he]; rfl⟩
        · -- no
          have h3 : nodeE f[k] k = 0 := by simpa using hc
          refine GoH.skip ?_
          refine GoH.inBlock ?_
          refine GoH.region ?_
          refine GoH.v (Vop.mv rfl rfl rfl rfl) ?_
          refine GoH.v (Vop.bin rfl rfl rfl rfl (bAdd (by omega)) rfl) ?_
          refine GoH.v (Vop.asg rfl rfl rfl rfl) ?_
          refine GoH.regionEnd ?_
          exact IH (k + 1) _ _ ⟨hlt, by rw [firstE, if_neg (by simp [hz]), he]; exact h3⟩ (by omega) ⟨rfl, rfl, trivial⟩ .slnil
      · -- no
        have hge : ¬ k < f.length := by simpa using hc
        obtain rfl : k = f.length := by omega
        refine GoH.exit rfl ?_
        refine GoH.seq ?_
        refine GoH.region ?_
        refine GoH.v (Vop.asg rfl rfl rfl rfl) ?_
        refine GoH.regionEnd ?_
        refine GoH.ret Tryd.f26 Tryd.func26 rfl (fun w' hS => ?_)
        exact ⟨hS.ext, by rw [chkF, if_neg h1, if_neg h2, hz]; rfl⟩
/-- the state of a walk: two lists in a struct -/
def walkH (bw : Nat) (q : Option Nat) (cap : Nat) (ts : List Tr) (sp : List Value) (dv : Value) : Hl := [(some bw, .cells #[osv q (nodesOf ts).length cap, dv] 107 (0, 0)), (q, obN 58 (nodesOf ts) sp)]
structure OutOk (q : Option Nat) (cap : Nat) (ts : List Tr) (sp : List Value) : Prop where
  nil : q = none → (nodesOf ts).length = 0 ∧ cap = 0
  cap : ((nodesOf ts).flatMap NV.cells ++ sp).length = cap * 6
  clo : Clo ts
  nd : ts.Nodup
  wf : ∀ u ∈ ts, u.wf
theorem nodup_idx {ts : List Tr} {t : Tr} (ht : t ∉ ts) : (ts ++ [t]).idxOf t = ts.length := by
  rw [List.idxOf_append, if_neg ht]; simp
set_option maxRecDepth 4000 in
theorem put_c (bw : Nat) (q : Option Nat) (cap : Nat) (ts : List Tr) (sp : List Value) (dv : Value) (t : Tr) (w : World) (hh : HasH w (walkH bw q cap ts sp dv)) (ho : OutOk q cap ts sp) (hlen : ts.length ≤ 100000) (htw : t.wf) (hk : ∀ c ∈ kids t, c ∈ ts) (_hone : dv.oneCell' = true) :
    CnS Tryd.prog 100 [.pointer (some ⟨bw, 0, none⟩), (nodeOf ts t).v] w (walkH bw q cap ts sp dv) (fun v h' => ∃ q' cap' sp', h' = walkH bw q' cap' (if t ∈ ts then ts else ts ++ [t]) sp' dv ∧ OutOk q' cap' (if t ∈ ts then ts else ts ++ [t]) sp' ∧ v = .int .i64 ((if t ∈ ts then ts else ts ++ [t]).idxOf t : Int)) := by
  obtain ⟨i0, hi, hz, hsz, hby⟩ := info_parts infoN
  have hnl : (nodesOf ts).length = ts.length := nodesOf_len
  refine CnS.of hh Tryd.func100 rfl rfl ?_
  unfold walkH
  refine GoH.seq ?_
  refine GoH.region ?_
  refine GoH.bx rfl rfl rfl rfl (fun b3 => ?_)
  refine GoH.v (Vop.asg rfl rfl rfl rfl) ?_
  refine GoH.regionEnd ?_
  refine GoH.seq ?_
  refine GoH.seq ?_
  refine GoH.region ?_
  refine GoH.v (Vop.asg rfl rfl rfl rfl) ?_
  refine GoH.regionEnd ?_
  refine GoH.block ?_
  refine GoH.loop (σ := Nat) (fun k => [(0, .pointer (some ⟨bw, 0, none⟩)), (3, .pointer (some ⟨b3, 0, none⟩)), (5, .int .i64 k)]) (fun _ => [(some b3, .cells (nodeOf ts t).v.cells 58 (0, 0)), (some bw, .cells #[osv q (nodesOf ts).length cap, dv] 107 (0, 0)), (q, obN 58 (nodesOf ts) sp)])
    (fun k => k ≤ ts.length ∧ ∀ j, j < k → (nodesOf ts)[j]? ≠ some (nodeOf ts t)) (fun k => ts.length - k) 0 ⟨Nat.zero_le _, fun j hj => absurd hj (Nat.not_lt_zero _)⟩ ⟨rfl, rfl, rfl, trivial⟩ (List.Sublist.refl _) (fun k hI IH => ?_)
  obtain ⟨hkl, hno⟩ := hI
  -- heap: b3 bw q
  -- ptr: 0=bw 3=b3
  refine GoH.seq ?_
  refine GoH.seq ?_
  refine GoH.region ?_
  refine GoH.v (Vop.mv rfl rfl rfl rfl) ?_
  refine GoH.v (Vop.mv rfl rfl rfl rfl) ?_
  refine GoH.v (Vop.nilCk rfl rfl rfl rfl) ?_
  refine GoH.v (Vop.fldP rfl rfl rfl rfl Tryd.underlying107 rfl (by exact Tryd.sizeOf24) 0 rfl) ?_
  refine GoH.v (Vop.ldo rfl rfl rfl rfl Tryd.isAgg24 1 rfl rfl) ?_
  refine GoH.v (Vop.blt rfl rfl rfl (blt_len_slice Tryd.underlying24) rfl) ?_
  refine GoH.v (Vop.bin rfl rfl rfl rfl bLt rfl) ?_
  refine GoH.regionEnd ?_
  refine GoH.cond rfl (fun hc => ?_) (fun hc => ?_)
  · -- yes
    have hlt : k < ts.length := by simp at hc; omega
    have hlt2 : k < (nodesOf ts).length := by omega
    obtain ⟨b0, rfl⟩ : ∃ b0, q = some b0 := by
      cases q with
      | none => have := (ho.nil rfl).1; omega
      | some b0 => exact ⟨b0, rfl⟩
    refine GoH.skip ?_
    refine GoH.seq ?_
    refine GoH.block ?_
    refine GoH.seq ?_
    refine GoH.draw 9 mixed rfl ?_
    refine RdGo.v (Vop.mv rfl rfl rfl rfl) ?_
    refine RdGo.v (Vop.nilCk rfl rfl rfl rfl) ?_
    refine RdGo.v (Vop.fldP rfl rfl rfl rfl Tryd.underlying107 rfl (by exact Tryd.sizeOf24) 0 rfl) ?_
    refine RdGo.v (Vop.ldo rfl rfl rfl rfl Tryd.isAgg24 1 rfl rfl) ?_
    refine RdGo.v (Vop.mv rfl rfl rfl rfl) ?_
    refine RdGo.v (Vop.idxS rfl rfl rfl rfl rfl Tryd.underlying24 Tryd.sizeOf58 k ⟨rfl, hlt2⟩) ?_
    refine RdGo.v (Vop.ldN (cs := NV.cells (nodesOf ts)[k]) rfl rfl rfl rfl Tryd.isAgg58 Tryd.sizeOf58 (fun w _ hS => Sl.many (enc := NV.cells) (sz := 6) (a := some ⟨b0, 0, none⟩) (Sl.blk (hS.get (j := 2) rfl)) (fun _ => rfl) hlt2)) ?_
    refine RdGo.v (Vop.ldB rfl rfl rfl rfl Tryd.isAgg58 0 rfl Tryd.sizeOf58 rfl) ?_
    refine RdGo.v (Vop.bin rfl rfl rfl rfl (bEqN (a := (nodesOf ts)[k]) (b := nodeOf ts t)) rfl) ?_
    refine RdGo.nil ?_
    refine GoH.regionEnd ?_
    refine GoH.cond rfl (fun hc => ?_) (fun hc => ?_)
    · -- yes
      have he : (nodesOf ts)[k] = nodeOf ts t := by simpa using hc
      have he2 : (nodesOf ts)[k]? = some (nodeOf ts t) := by rw [List.getElem?_eq_getElem hlt2, he]
      have hmem : t ∈ ts := Classical.byContradiction (fun hn => put_new ho.clo ho.wf htw hk hn k he2)
      obtain ⟨p1, p2⟩ := put_old ho.clo ho.nd ho.wf hmem
      have hix : ts.idxOf t = k := by
        rcases Nat.lt_trichotomy (ts.idxOf t) k with h | h | h
        · exact absurd p1 (hno _ h)
        · exact h
        · exact absurd he2 (p2 k h)
      refine GoH.seq ?_
      refine GoH.region ?_
      refine GoH.v (Vop.mv rfl rfl rfl rfl) ?_
      refine GoH.v (Vop.asg rfl rfl rfl rfl) ?_
      refine GoH.regionEnd ?_
      refine GoH.ret Tryd.f100 Tryd.func100 rfl (fun w' hS => ?_)
      rw [if_pos hmem]
      exact ⟨_, ⟨some b0, cap, sp, rfl, ho, by rw [hix]; rfl⟩, hS.subH (.cons _ (List.Sublist.refl _))⟩
    · -- no
      have he : (nodesOf ts)[k] ≠ nodeOf ts t := by simpa using hc
      refine GoH.skip ?_
      refine GoH.inBlock ?_
      refine GoH.region ?_
      refine GoH.v (Vop.mv rfl rfl rfl rfl) ?_
      refine GoH.v (Vop.bin rfl rfl rfl rfl (bAdd (by omega)) rfl) ?_
      refine GoH.v (Vop.asg rfl rfl rfl rfl) ?_
      refine GoH.regionEnd ?_
      exact IH (k + 1) _ _ ⟨hlt, fun j hj => by
      by_cases e : j = k
      · subst e; rw [List.getElem?_eq_getElem hlt2]; intro h; exact he (Option.some.inj h)
      · exact hno j (by omega)⟩ (by omega) ⟨rfl, rfl, rfl, trivial⟩ (List.Sublist.refl _)
  · -- no
    have hge : ¬ k < ts.length := by simp at hc; omega
    have hmem : t ∉ ts := fun hm => by
      obtain ⟨p1, _⟩ := put_old ho.clo ho.nd ho.wf hm
      exact hno _ (by have := List.idxOf_lt_length_iff.2 hm; omega) p1
    have hsn := nodesOf_snoc ho.clo hk
    have e1 : (nodesOf ts).flatMap NV.cells ++ NV.cells (nodeOf ts t) = (nodesOf (ts ++ [t])).flatMap NV.cells := by rw [hsn, List.flatMap_append]; simp
    have e2 : (nodesOf ts).length + 1 = (nodesOf (ts ++ [t])).length := by rw [hsn]; simp
    refine GoH.exit rfl ?_
    refine GoH.seq ?_
    refine GoH.drawTs 6 12 [(some b3, .cells (nodeOf ts t).v.cells 58 (0, 0)), (some bw, .cells #[osv q (nodesOf ts).length cap, dv] 107 (0, 0))] (by repeat (first | exact List.Sublist.refl _ | exact List.nil_sublist _ | refine List.Sublist.cons_cons _ ?_ | refine List.Sublist.cons _ ?_)) mixed rfl ?_
    refine RdT.v (Vop.mv rfl rfl rfl rfl) ?_
    refine RdT.v (Vop.mv rfl rfl rfl rfl) ?_
    refine RdT.v (Vop.nilCk rfl rfl rfl rfl) ?_
    refine RdT.v (Vop.fldP rfl rfl rfl rfl Tryd.underlying107 rfl (by exact Tryd.sizeOf24) 0 rfl) ?_
    refine RdT.v (Vop.ldo rfl rfl rfl rfl Tryd.isAgg24 1 rfl rfl) ?_
    refine RdT.v (Vop.ldB rfl rfl rfl rfl Tryd.isAgg58 0 rfl Tryd.sizeOf58 rfl) ?_
    refine RdT.nil ?_
    refine Tl.one (d := 31) rfl ?_
    refine Mop.bsN (c := [_, _, _, _, _, _]) rfl rfl rfl rfl Tryd.underlying24 Tryd.sizeOf58 Tryd.zeroValue58 rfl rfl (fun b31 => ⟨by repeat (first | exact List.Sublist.refl _ | exact List.nil_sublist _ | refine List.Sublist.cons_cons _ ?_ | refine List.Sublist.cons _ ?_), ?_⟩)
    refine Tl.one (d := 32) rfl ?_
    refine Mop.app 6 (xs := (nodesOf ts).flatMap NV.cells) (sp := sp) (nx := (nodesOf ts).length) (q := q) (news := NV.cells (nodeOf ts t)) (spn := []) rfl rfl rfl rfl rfl Tryd.underlying24 hi hz hsz rfl ho.nil 3 rfl 0 rfl flatN ho.cap rfl (by decide) (fun u hu => by
      simp only [NV.cells, List.mem_cons, List.not_mem_nil, or_false] at hu
      rcases hu with rfl | rfl | rfl | rfl | rfl | rfl <;> rfl) (by unfold maxLen; omega) (by rw [hby]; omega) (fun b' sp' cap' hlen => ⟨.cons _ (.cons_cons _ (.cons_cons _ (List.nil_sublist _))), ?_⟩)
    rw [e1] at hlen ⊢
    rw [e2]
    -- heap: b31 b3 bw b'
    refine Tl.sw [8, 9, 10] rfl rfl ?_
    refine GoH.v (Vop.nilCk rfl rfl rfl rfl) ?_
    refine GoH.v (Vop.fldP rfl rfl rfl rfl Tryd.underlying107 rfl (by exact Tryd.sizeOf24) 0 rfl) ?_
    refine GoH.st rfl rfl rfl rfl Tryd.sizeOf24 rfl 2 rfl rfl ?_
    refine GoH.regionEnd ?_
    refine GoH.seq ?_
    refine GoH.region ?_
    refine GoH.v (Vop.mv rfl rfl rfl rfl) ?_
    refine GoH.v (Vop.nilCk rfl rfl rfl rfl) ?_
    refine GoH.v (Vop.fldP rfl rfl rfl rfl Tryd.underlying107 rfl (by exact Tryd.sizeOf24) 0 rfl) ?_
    refine GoH.v (Vop.ldo rfl rfl rfl rfl Tryd.isAgg24 2 rfl rfl) ?_
    refine GoH.v (Vop.blt rfl rfl rfl (blt_len_slice Tryd.underlying24) rfl) ?_
    refine GoH.v (Vop.bin rfl rfl rfl rfl (bSubE (c := (ts.length : Int)) (by rw [nodesOf_len]; simp) (by omega)) rfl) ?_
    refine GoH.v (Vop.asg rfl rfl rfl rfl) ?_
    refine GoH.regionEnd ?_
    refine GoH.ret Tryd.f100 Tryd.func100 rfl (fun w' hS => ?_)
    rw [if_neg hmem]
    exact ⟨_, ⟨some b', cap', sp', rfl, ⟨(fun e => by cases e), hlen, ho.clo.snoc hk, nodup_snoc ho.nd hmem, fun u hu => by
      rcases List.mem_append.1 hu with hu | hu
      · exact ho.wf u hu
      · rw [List.mem_singleton.1 hu]; exact htw⟩, by rw [nodup_idx hmem]; rfl⟩, hS.subH (.cons _ (.cons _ (List.Sublist.refl _)))⟩
end Go.Proofs.YtbjopkllkoomkaaDoor
