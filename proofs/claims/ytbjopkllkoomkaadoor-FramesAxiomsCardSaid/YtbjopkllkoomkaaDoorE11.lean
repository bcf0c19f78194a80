/- Contracts of functions of the program: what each call returns and that nothing else of memory is turned, under the conditions that each theorem states. -/
import Derived.Test.YtbjopkllkoomkaaDoorE10
import Derived.Test.YtbjopkllkoomkaaDoorF16
namespace Go.Proofs.YtbjopkllkoomkaaDoor
open Go.RowKit Go.Proofs.Wit
/-! the reference's counterexamples -/
set_option maxRecDepth 4000 in
theorem rCounter_c (a : Option Addr) (ca : Nat) (r : List W64) (p : Int) (w : World) (ha : SlU w a r) (hl : r.length ≤ maxLen) :
    Cn Tryd.prog 9 [.slice a r.length ca, .int .i64 p] w (fun v _ => CounterIs v r p) := by
  refine Cn.of Tryd.func9 rfl rfl ?_
  refine GoH.seq ?_
  refine GoH.region ?_
  refine GoH.v (Vop.asg rfl rfl rfl rfl) ?_
  refine GoH.v (Vop.asg (v := U 0#64) rfl rfl rfl rfl) ?_
  refine GoH.v (Vop.asg rfl rfl rfl rfl) ?_
  refine GoH.regionEnd ?_
  refine GoH.seq ?_
  refine GoH.seq ?_
  refine GoH.region ?_
  refine GoH.v (Vop.mv rfl rfl rfl rfl) ?_
  refine GoH.v (Vop.blt rfl rfl rfl (blt_len_slice Tryd.underlying22) rfl) ?_
  refine GoH.v (Vop.mv rfl rfl rfl rfl) ?_
  refine GoH.callP rfl rfl rfl rfl rfl (fun _ _ => Tryd.call32 _ _) (fun w _ hS => (by exact rCheck_c _ a ca r w (ha.ex0 hS.ext) hl)) ?_
  refine GoH.v (Vop.asg rfl rfl rfl rfl) ?_
  refine GoH.regionEnd ?_
  refine GoH.seq ?_
  refine GoH.region ?_
  refine GoH.v (Vop.mv rfl rfl rfl rfl) ?_
  refine GoH.v (Vop.bin rfl rfl rfl rfl bNe rfl) ?_
  refine GoH.regionEnd ?_
  refine GoH.cond rfl (fun hc => ?_) (fun hc => ?_)
  · -- yes
    have h1 : checkR r.length r ≠ 0 := by simpa using hc
    refine GoH.seq ?_
    refine GoH.region ?_
    refine GoH.v (Vop.mv rfl rfl rfl rfl) ?_
    refine GoH.v (Vop.asg rfl rfl rfl rfl) ?_
    refine GoH.v (Vop.asg (v := U 0#64) rfl rfl rfl rfl) ?_
    refine GoH.v (Vop.asg rfl rfl rfl rfl) ?_
    refine GoH.regionEnd ?_
    refine GoH.ret Tryd.f9 Tryd.func9 rfl (fun w' hS => ?_)
    exact ⟨hS.ext, by rw [CounterIs, counterR, if_pos h1]; rfl⟩
  · -- no
    have h1 : checkR r.length r = 0 := by simpa using hc
    have hv := check_zero.1 h1
    have hn64 := hv.len
    have h1 : ¬ checkR r.length r ≠ 0 := by simp [h1]
    refine GoH.skip ?_
    refine GoH.seq ?_
    refine GoH.seq ?_
    refine GoH.region ?_
    refine GoH.v (Vop.mv rfl rfl rfl rfl) ?_
    refine GoH.callP rfl rfl rfl rfl rfl (fun _ _ => Tryd.call27 _ _) (fun w _ hS => (by exact rWorlds_c p w)) ?_
    refine GoH.v (Vop.bin rfl rfl rfl rfl bEq rfl) ?_
    refine GoH.regionEnd ?_
    refine GoH.cond rfl (fun hc => ?_) (fun hc => ?_)
    · -- yes
      have h2 : cnt p = 0 := by simp at hc; omega
      have h4 : p < 1 ∨ 5 < p := by
        unfold cnt at h2
        split at h2
        · cases h2
        · split at h2
          · cases h2
          · split at h2
            · cases h2
            · omega
      refine GoH.seq ?_
      refine GoH.region ?_
      refine GoH.v (Vop.asg rfl rfl rfl rfl) ?_
      refine GoH.v (Vop.asg (v := U 0#64) rfl rfl rfl rfl) ?_
      refine GoH.v (Vop.asg rfl rfl rfl rfl) ?_
      refine GoH.regionEnd ?_
      refine GoH.ret Tryd.f9 Tryd.func9 rfl (fun w' hS => ?_)
      exact ⟨hS.ext, by rw [CounterIs, counterR, if_neg h1, if_pos h4]; rfl⟩
    · -- no
      have h2 : cnt p ≠ 0 := by simp at hc; omega
      have h4 : ¬ (p < 1 ∨ 5 < p) := fun h => h2 (by unfold cnt; rw [if_neg (by omega), if_neg (by omega), if_neg (by omega)])
      refine GoH.skip ?_
      refine GoH.seq ?_
      refine GoH.region ?_
      refine GoH.v (Vop.mv rfl rfl rfl rfl) ?_
      refine GoH.v (Vop.mv rfl rfl rfl rfl) ?_
      refine GoH.callM _ rfl rfl rfl rfl rfl (fun _ _ => Tryd.call33 _ _) (fun w _ hS => (by exact rWitness_c a ca r p w (ha.ex0 hS.ext) hv)) ?_
      rintro v w1 w2 Y' hS he ho
      obtain ⟨q, cap, sp, rfl, hq, hcap, hS'⟩ := gainS hS he ho
      refine ⟨_, hS', ?_⟩
      -- heap: q
      refine GoH.v (Vop.asg rfl rfl rfl rfl) ?_
      refine GoH.regionEnd ?_
      refine GoH.seq ?_
      refine GoH.seq ?_
      refine GoH.region ?_
      refine GoH.v (Vop.mv rfl rfl rfl rfl) ?_
      refine GoH.v (Vop.blt rfl rfl rfl (blt_len_slice Tryd.underlying42) rfl) ?_
      refine GoH.v (Vop.bin rfl rfl rfl rfl bEq rfl) ?_
      refine GoH.regionEnd ?_
      refine GoH.cond rfl (fun hc => ?_) (fun hc => ?_)
      · -- yes
        have h5 : witO r p = none := witL_nil.1 (List.eq_nil_of_length_eq_zero (by simpa using hc))
        refine GoH.seq ?_
        refine GoH.region ?_
        refine GoH.v (Vop.asg rfl rfl rfl rfl) ?_
        refine GoH.v (Vop.asg (v := U 0#64) rfl rfl rfl rfl) ?_
        refine GoH.v (Vop.asg rfl rfl rfl rfl) ?_
        refine GoH.regionEnd ?_
        refine GoH.ret Tryd.f9 Tryd.func9 rfl (fun w' hS => ?_)
        exact ⟨hS.ext, by rw [CounterIs, counterR, if_neg h1, if_neg h4, h5]; rfl⟩
      · -- no
        have h5 : (witL r p).length ≠ 0 := by simpa using hc
        obtain ⟨⟨x, u, y⟩, hO⟩ : ∃ z, witO r p = some z := by
          cases h : witO r p with
          | none => rw [witL_nil.2 h] at h5; exact absurd rfl h5
          | some z => exact ⟨z, rfl⟩
        obtain ⟨hx, _, hy, _, _⟩ := witO_some hO
        have hw0 := witL_0 hO
        have hwl := witL_len hO
        have hp0 : 0 < (witL r p).length := by omega
        obtain ⟨b, rfl⟩ : ∃ b, q = some b := by
          cases q with
          | none => have := (hq rfl).1; omega
          | some b => exact ⟨b, rfl⟩
        refine GoH.skip ?_
        refine GoH.seq ?_
        refine GoH.region ?_
        refine GoH.v (Vop.mv rfl rfl rfl rfl) ?_
        refine GoH.v (Vop.idxS rfl rfl rfl rfl rfl Tryd.underlying42 Tryd.sizeOf3 (0) ⟨rfl, hp0⟩) ?_
        refine GoH.v (Vop.ldE I64 0 rfl rfl rfl rfl Tryd.isAgg3 0 rfl hp0) ?_
        refine GoH.v (Vop.asg rfl rfl rfl rfl) ?_
        refine GoH.regionEnd ?_
        refine GoH.seq ?_
        refine GoH.seq ?_
        refine GoH.region ?_
        refine GoH.v (Vop.mv rfl rfl rfl rfl) ?_
        refine GoH.regionEnd ?_
        refine GoH.block ?_
        refine GoH.seq ?_
        refine GoH.region ?_
        refine GoH.v (Vop.bin rfl rfl rfl rfl bEq rfl) ?_
        refine GoH.v (Vop.asg rfl rfl rfl rfl) ?_
        refine GoH.regionEnd ?_
        refine GoH.cond rfl (fun hc => ?_) (fun hc => ?_)
        · -- yes
          have h6 : p = 1 := by simpa using hc
          refine GoH.seq ?_
          refine GoH.region ?_
          refine GoH.v (Vop.mv rfl rfl rfl rfl) ?_
          refine GoH.v (Vop.asg rfl rfl rfl rfl) ?_
          refine GoH.v (Vop.asg (v := U 0#64) rfl rfl rfl rfl) ?_
          refine GoH.v (Vop.asg rfl rfl rfl rfl) ?_
          refine GoH.regionEnd ?_
          refine GoH.ret Tryd.f9 Tryd.func9 rfl (fun w' hS => ?_)
          exact ⟨hS.ext, by rw [CounterIs, counterR, if_neg h1, if_neg h4, hO]; simp only [if_pos h6]; rw [← hw0]; rfl⟩
        · -- no
          have h6 : p ≠ 1 := by simpa using hc
          refine GoH.seq ?_
          refine GoH.region ?_
          refine GoH.v (Vop.bin rfl rfl rfl rfl bEq rfl) ?_
          refine GoH.v (Vop.asg rfl rfl rfl rfl) ?_
          refine GoH.regionEnd ?_
          refine GoH.cond rfl (fun hc => ?_) (fun hc => ?_)
          · -- yes
            have h7 : p = 3 := by simpa using hc
            refine GoH.seq ?_
            refine GoH.region ?_
            refine GoH.v (Vop.mv rfl rfl rfl rfl) ?_
            refine GoH.v (Vop.mv rfl rfl rfl rfl) ?_
            refine GoH.v (Vop.conv rfl rfl rfl (cInt (a := (witL r p).getD 0 0) (k := .u64) Tryd.underlying3 Tryd.underlying61 (wrapN64 (by omega))) rfl) ?_
            refine GoH.v (Vop.bin (a := U 1#64) rfl rfl rfl rfl (bShl x hw0) rfl) ?_
            refine GoH.v (Vop.asg rfl rfl rfl rfl) ?_
            refine GoH.v (Vop.asg rfl rfl rfl rfl) ?_
            refine GoH.v (Vop.asg rfl rfl rfl rfl) ?_
            refine GoH.regionEnd ?_
            refine GoH.ret Tryd.f9 Tryd.func9 rfl (fun w' hS => ?_)
            exact ⟨hS.ext, by rw [CounterIs, counterR, if_neg h1, if_neg h4, hO]; simp only [if_neg h6, if_pos h7]; rw [← hw0]; rfl⟩
          · -- no
            have h7 : p ≠ 3 := by simpa using hc
            refine GoH.seq ?_
            refine GoH.region ?_
            refine GoH.v (Vop.bin rfl rfl rfl rfl bEq rfl) ?_
            refine GoH.v (Vop.asg rfl rfl rfl rfl) ?_
            refine GoH.regionEnd ?_
            refine GoH.cond rfl (fun hc => ?_) (fun hc => ?_)
            · -- yes
              have h8 : p = 5 := by simpa using hc
              have hc3 : cnt p = 3 := by rw [h8]; rfl
              have hp2 : 2 < (witL r p).length := by omega
              have hw2 := witL_2 hO hc3
              refine GoH.seq ?_
              refine GoH.draw 9 mixed rfl ?_
              refine RdGo.v (Vop.mv rfl rfl rfl rfl) ?_
              refine RdGo.v (Vop.mv rfl rfl rfl rfl) ?_
              refine RdGo.v (Vop.idxS rfl rfl rfl rfl rfl Tryd.underlying42 Tryd.sizeOf3 (2) ⟨rfl, hp2⟩) ?_
              refine RdGo.v (Vop.ldE I64 0 rfl rfl rfl rfl Tryd.isAgg3 0 rfl hp2) ?_
              refine RdGo.v (Vop.conv rfl rfl rfl (cInt (a := (witL r p).getD 2 0) (k := .u64) Tryd.underlying3 Tryd.underlying61 (wrapN64 (by omega))) rfl) ?_
              refine RdGo.v (Vop.bin (a := U 1#64) rfl rfl rfl rfl (bShl y hw2) rfl) ?_
              refine RdGo.v (Vop.asg rfl rfl rfl rfl) ?_
              refine RdGo.v (Vop.asg rfl rfl rfl rfl) ?_
              refine RdGo.v (Vop.asg rfl rfl rfl rfl) ?_
              refine RdGo.nil ?_
              refine GoH.regionEnd ?_
              refine GoH.ret Tryd.f9 Tryd.func9 rfl (fun w' hS => ?_)
              exact ⟨hS.ext, by rw [CounterIs, counterR, if_neg h1, if_neg h4, hO]; simp only [if_neg h6, if_neg h7, if_pos h8]; rw [← hw0]; rfl⟩
            · -- no
              have h8 : p ≠ 5 := by simpa using hc
              refine GoH.skip ?_
              refine GoH.inBlock ?_
              refine GoH.seq ?_
              refine GoH.draw 8 mixed rfl ?_
              refine RdGo.v (Vop.mv rfl rfl rfl rfl) ?_
              refine RdGo.v (Vop.mv rfl rfl rfl rfl) ?_
              refine RdGo.v (Vop.mv rfl rfl rfl rfl) ?_
              refine RdGo.v (Vop.idx rfl rfl rfl rfl rfl Tryd.underlying22 Tryd.sizeOf28 ⟨_, ha⟩ (by simp) x ⟨hw0, by simpa using hx⟩) ?_
              refine RdGo.v (Vop.ld rfl rfl rfl rfl Tryd.isAgg28 (fun w _ hS => (ha.ex0 hS.ext).at x hx)) ?_
              refine RdGo.v (Vop.asg rfl rfl rfl rfl) ?_
              refine RdGo.v (Vop.asg rfl rfl rfl rfl) ?_
              refine RdGo.v (Vop.asg rfl rfl rfl rfl) ?_
              refine RdGo.nil ?_
              refine GoH.regionEnd ?_
              refine GoH.ret Tryd.f9 Tryd.func9 rfl (fun w' hS => ?_)
              exact ⟨hS.ext, by rw [CounterIs, counterR, if_neg h1, if_neg h4, hO]; simp only [if_neg h6, if_neg h7, if_neg h8]; rw [← hw0]; rfl⟩
theorem rCounterR_c (r : Row) (p : Int) (w : World) (ha : r.At w) : Cn Tryd.prog 9 [r.v, .int .i64 p] w (fun v _ => CounterIs v r.xs p) := rCounter_c r.a r.cap r.xs p w ha.at_ ha.len
/-- a node is put behind a list -/
theorem rknow_c (q : Option Nat) (cap : Nat) (ns : List NV) (sp : List Value) (op i x : Int) (w : World) (hh : HasH w [(q, obN 58 ns sp)]) (hq : q = none → ns.length = 0 ∧ cap = 0) (hcap : (ns.flatMap NV.cells ++ sp).length = cap * 6) (hl : ns.length ≤ 10000) :
    CnS Tryd.prog 29 [osv q ns.length cap, .int .i64 op, .int .i64 i, .int .i64 x] w [(q, obN 58 ns sp)] (fun v h' => ∃ b' cap' sp', h' = [(some b', obN 58 (ns ++ [kn op i x]) sp')] ∧ v = osv (some b') (ns ++ [kn op i x]).length cap' ∧ ((ns ++ [kn op i x]).flatMap NV.cells ++ sp').length = cap' * 6) := by
  obtain ⟨iN, hiN, hzN, hszN, hbyN⟩ := info_parts infoN
  refine CnS.of hh Tryd.func29 rfl rfl ?_
  have e1 : ns.flatMap NV.cells ++ NV.cells (kn op i x) = (ns ++ [kn op i x]).flatMap NV.cells := by rw [List.flatMap_append]; simp
  have e2 : ns.length + 1 = (ns ++ [kn op i x]).length := by simp
  refine GoH.seq ?_
  refine GoH.region ?_
  refine GoH.v (Vop.asg rfl rfl rfl rfl) ?_
  refine GoH.regionEnd ?_
  refine GoH.seq ?_
  refine GoH.region ?_
  refine GoH.v (Vop.mv rfl rfl rfl rfl) ?_
  refine GoH.v (Vop.mv rfl rfl rfl rfl) ?_
  refine GoH.v (Vop.mv rfl rfl rfl rfl) ?_
  refine GoH.v (Vop.mv rfl rfl rfl rfl) ?_
  refine GoH.v (Vop.bld rfl rfl rfl rfl (bld (c := [_, _, _, _, _, _]) Tryd.underlying58 (Szs.cons Tryd.sizeOf3 (Szs.cons Tryd.sizeOf3 (Szs.cons Tryd.sizeOf3 (Szs.cons Tryd.sizeOf3 (Szs.cons Tryd.sizeOf3 (Szs.cons Tryd.sizeOf3 Szs.nil)))))) Tryd.zeroValue58 rfl)) ?_
  refine GoH.bsN (c := [_, _, _, _, _, _]) rfl rfl rfl rfl Tryd.underlying24 Tryd.sizeOf58 Tryd.zeroValue58 rfl rfl (fun b14 => ?_)
  refine GoH.app 6 (xs := ns.flatMap NV.cells) (sp := sp) (nx := ns.length) (q := q) (news := NV.cells (kn op i x)) (spn := []) rfl rfl rfl rfl rfl Tryd.underlying24 hiN hzN hszN rfl hq 1 rfl 0 rfl flatN hcap rfl (by decide) (fun u hu => by
    simp only [NV.cells, List.mem_cons, List.not_mem_nil, or_false] at hu
    rcases hu with rfl | rfl | rfl | rfl | rfl | rfl <;> rfl) (by unfold maxLen; omega) (by rw [hbyN]; omega) (fun b' sp' cap' hlen => ?_)
  rw [e1] at hlen ⊢
  rw [e2]
  -- heap: b14 b'
  refine GoH.v (Vop.asg rfl rfl rfl rfl) ?_
  refine GoH.regionEnd ?_
  refine GoH.ret Tryd.f29 Tryd.func29 rfl (fun w' hS => ?_)
  exact ⟨_, ⟨b', cap', sp', rfl, rfl, hlen⟩, hS.subH (.cons _ (List.Sublist.refl _))⟩
end Go.Proofs.YtbjopkllkoomkaaDoor
