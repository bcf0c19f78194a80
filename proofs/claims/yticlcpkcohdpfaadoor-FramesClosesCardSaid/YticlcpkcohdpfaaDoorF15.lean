/- Contracts of functions of the program: what each call returns and that nothing else of memory is turned, under the conditions that each theorem states. -/
import Derived.Test.YticlcpkcohdpfaaDoorF14
namespace Go.Proofs.YticlcpkcohdpfaaDoor
open Go.RowKit Go.Proofs.Wit
/-! the laws of chapter 15, 4 -/
theorem rHasL_c (a : Option Addr) (ca : Nat) (r : List W64) (l : Int) (w : World) (ha : SlU w a r) (hl : r.length ≤ maxLen) :
    Cn Tryd.prog 21 [.slice a r.length ca, .int .i64 l] w (fun v _ => v = .bool (hasL r l)) := by
  refine Cn.of Tryd.func21 rfl rfl ?_
  refine GoH.seq ?_
  refine GoH.region ?_
  refine GoH.v (Vop.asg rfl rfl rfl rfl) ?_
  refine GoH.regionEnd ?_
  refine GoH.seq ?_
  refine GoH.region ?_
  refine GoH.v (Vop.mv rfl rfl rfl rfl) ?_
  refine GoH.callM _ rfl rfl rfl rfl rfl (fun _ _ => Tryd.call19 _ _) (fun w _ hS => rProps_c l w) ?_
  rintro v w1 w2 Y' hS he ho
  obtain ⟨q, cap, sp, rfl, hq, hcap, hS'⟩ := gainP hS he ho
  refine ⟨_, hS', ?_⟩
  -- heap: q
  refine GoH.v (Vop.mv rfl rfl rfl rfl) ?_
  refine GoH.v (Vop.ext rfl rfl rfl rfl rfl) ?_
  refine GoH.v (Vop.ext rfl rfl rfl rfl rfl) ?_
  refine GoH.v (Vop.asg rfl rfl rfl rfl) ?_
  refine GoH.v (Vop.asg rfl rfl rfl rfl) ?_
  refine GoH.regionEnd ?_
  refine GoH.seq ?_
  refine GoH.seq ?_
  refine GoH.region ?_
  refine GoH.v (Vop.mv rfl rfl rfl rfl) ?_
  refine GoH.v (Vop.bin rfl rfl rfl rfl bNe rfl) ?_
  refine GoH.v (Vop.mv rfl rfl rfl rfl) ?_
  -- guard on slot 15 (ref.go:35)
  refine GoH.cases (d := 15) rfl (fun hc => ?_) (fun hc => ?_)
  · -- yes
    have h1 : propsE l ≠ 0 := by simpa using hc
    refine GoH.no rfl rfl rfl rfl ?_
    refine GoH.no rfl rfl rfl rfl ?_
    refine GoH.no rfl rfl rfl rfl ?_
    refine GoH.v (Vop.pickT rfl rfl rfl rfl rfl) ?_
    refine GoH.regionEnd ?_
    refine GoH.condT rfl ?_
    refine GoH.seq ?_
    refine GoH.region ?_
    refine GoH.v (Vop.asg rfl rfl rfl rfl) ?_
    refine GoH.regionEnd ?_
    refine GoH.ret Tryd.f21 Tryd.func21 rfl (fun w' hS => ?_)
    exact ⟨hS.ext, by rw [hasL, beq_false_of_ne h1]; rfl⟩
  · -- no
    have h1 : propsE l = 0 := by simpa using hc
    have hpl := propsL_len l
    refine GoH.v (Vop.mv rfl rfl rfl rfl) ?_
    refine GoH.callP rfl rfl rfl rfl rfl (fun _ _ => Tryd.call46 _ _) (fun w _ hS => rValid_c a ca r w (ha.ex0 hS.ext) hl) ?_
    refine GoH.v (Vop.un rfl rfl rfl uNot rfl) ?_
    refine GoH.v (Vop.pickF rfl rfl rfl rfl rfl) ?_
    refine GoH.regionEnd ?_
    refine GoH.cond rfl (fun hc => ?_) (fun hc => ?_)
    · -- yes
      have h2 : checkR r.length r ≠ 0 := by simpa using hc
      refine GoH.seq ?_
      refine GoH.region ?_
      refine GoH.v (Vop.asg rfl rfl rfl rfl) ?_
      refine GoH.regionEnd ?_
      refine GoH.ret Tryd.f21 Tryd.func21 rfl (fun w' hS => ?_)
      exact ⟨hS.ext, by rw [hasL, beq_false_of_ne h2, Bool.and_false]; rfl⟩
    · -- no
      have h2 : checkR r.length r = 0 := by simpa using hc
      refine GoH.skip ?_
      refine GoH.seq ?_
      refine GoH.seq ?_
      refine GoH.region ?_
      refine GoH.v (Vop.asg rfl rfl rfl rfl) ?_
      refine GoH.regionEnd ?_
      refine GoH.block ?_
      refine GoH.loop (σ := Nat) (fun k => [(0, .slice a r.length ca), (5, osv q (propsL l).length cap), (7, .int .i64 k)]) (fun _ => [(q, ob I64 3 (propsL l) sp)])
        (fun k => k ≤ (propsL l).length ∧ ∀ (i : Nat) (p : Int), i < k → (propsL l)[i]? = some p → hasB r p = true) (fun k => (propsL l).length - k) 0 ⟨Nat.zero_le _, fun i p hi => by omega⟩ ⟨rfl, rfl, rfl, trivial⟩ (List.Sublist.refl _) (fun k hI IH => ?_)
      obtain ⟨hk, hall⟩ := hI
      -- heap: q
      refine GoH.seq ?_
      refine GoH.seq ?_
      refine GoH.region ?_
      refine GoH.v (Vop.mv rfl rfl rfl rfl) ?_
      refine GoH.v (Vop.mv rfl rfl rfl rfl) ?_
      refine GoH.v (Vop.blt rfl rfl rfl (blt_len_slice Tryd.underlying35) rfl) ?_
      refine GoH.v (Vop.bin rfl rfl rfl rfl bLt rfl) ?_
      refine GoH.regionEnd ?_
      refine GoH.cond rfl (fun hc => ?_) (fun hc => ?_)
      · -- yes
        have hlt : k < (propsL l).length := by simpa using hc
        obtain ⟨bq, rfl⟩ : ∃ bq, q = some bq := by
          cases q with
          | none => have := (hq rfl).1; omega
          | some bq => exact ⟨bq, rfl⟩
        have hgd : (propsL l).getD k 0 = (propsL l)[k] := by simp [List.getD_eq_getElem?_getD, hlt]
        refine GoH.skip ?_
        refine GoH.seq ?_
        refine GoH.block ?_
        refine GoH.seq ?_
        refine GoH.region ?_
        refine GoH.v (Vop.mv rfl rfl rfl rfl) ?_
        refine GoH.v (Vop.mv rfl rfl rfl rfl) ?_
        refine GoH.v (Vop.mv rfl rfl rfl rfl) ?_
        refine GoH.v (Vop.idxS rfl rfl rfl rfl rfl Tryd.underlying35 Tryd.sizeOf3 (k) ⟨rfl, hlt⟩) ?_
        refine GoH.v (Vop.ldE I64 0 rfl rfl rfl rfl Tryd.isAgg3 0 rfl hlt) ?_
        refine GoH.callP rfl rfl rfl rfl rfl (fun _ _ => Tryd.call47 _ _) (fun w _ hS => (by exact rHas_c a ca r ((propsL l).getD k 0) w (ha.ex0 hS.ext) hl)) ?_
        refine GoH.v (Vop.un rfl rfl rfl uNot rfl) ?_
        refine GoH.regionEnd ?_
        refine GoH.cond rfl (fun hc => ?_) (fun hc => ?_)
        · -- yes
          have h3 : hasB r (propsL l)[k] = false := by rw [← hgd]; simpa using hc
          refine GoH.seq ?_
          refine GoH.region ?_
          refine GoH.v (Vop.asg rfl rfl rfl rfl) ?_
          refine GoH.regionEnd ?_
          refine GoH.ret Tryd.f21 Tryd.func21 rfl (fun w' hS => ?_)
          exact ⟨hS.ext, by rw [hasL, show (propsL l).all (hasB r) = false from by rw [List.all_eq_false]; exact ⟨_, List.getElem_mem hlt, by rw [h3]; simp⟩, Bool.and_false]; rfl⟩
        · -- no
          have h3 : hasB r (propsL l)[k] = true := by rw [← hgd]; simpa using hc
          refine GoH.skip ?_
          refine GoH.inBlock ?_
          refine GoH.region ?_
          refine GoH.v (Vop.mv rfl rfl rfl rfl) ?_
          refine GoH.v (Vop.bin rfl rfl rfl rfl (bAdd (by omega)) rfl) ?_
          refine GoH.v (Vop.asg rfl rfl rfl rfl) ?_
          refine GoH.regionEnd ?_
          exact IH (k + 1) _ _ ⟨hlt, fun i p hi hp => by
          by_cases e : i = k
          · subst e; rw [List.getElem?_eq_getElem hlt] at hp; cases hp; exact h3
          · exact hall i p (by omega) hp⟩ (by omega) ⟨rfl, rfl, rfl, trivial⟩ (List.Sublist.refl _)
      · -- no
        have hge : ¬ k < (propsL l).length := by simpa using hc
        obtain rfl : k = (propsL l).length := by omega
        refine GoH.exit rfl ?_
        refine GoH.seq ?_
        refine GoH.region ?_
        refine GoH.v (Vop.asg rfl rfl rfl rfl) ?_
        refine GoH.regionEnd ?_
        refine GoH.ret Tryd.f21 Tryd.func21 rfl (fun w' hS => ?_)
        exact ⟨hS.ext, by rw [hasL, h1, h2, show (propsL l).all (hasB r) = true from by
        rw [List.all_eq_true]
        intro p hp
        obtain ⟨i, hi, e⟩ := List.mem_iff_getElem.1 hp
        exact hall i p hi (by rw [List.getElem?_eq_getElem hi, e])]; rfl⟩
theorem rHasR_c (r : Row) (l : Int) (w : World) (ha : r.At w) : Cn Tryd.prog 21 [r.v, .int .i64 l] w (fun v _ => v = .bool (hasL r.xs l)) := rHasL_c r.a r.cap r.xs l w ha.at_ ha.len
theorem rIn15_c (m : MV) (l : Int) (w : World) (hm : m.At w) : Cn Tryd.prog 23 [m.v, .int .i64 l] w (fun v _ => v = .bool (inM m.n m.val m.rel l)) := by
  have hlr := hm.lr
  unfold maxLen at hlr
  refine Cn.of Tryd.func23 rfl rfl ?_
  refine GoH.seq ?_
  refine GoH.region ?_
  refine GoH.bx rfl rfl rfl rfl (fun b2 => ?_)
  refine GoH.v (Vop.asg rfl rfl rfl rfl) ?_
  refine GoH.regionEnd ?_
  refine GoH.seq ?_
  refine GoH.seq ?_
  refine GoH.region ?_
  refine GoH.v (Vop.mv rfl rfl rfl rfl) ?_
  refine GoH.callM _ rfl rfl rfl rfl rfl (fun _ _ => Tryd.call19 _ _) (fun w _ hS => rProps_c l w) ?_
  rintro v w1 w2 Y' hS he ho
  obtain ⟨q, cap, sp, rfl, hq, hcap, hS'⟩ := gainP hS he ho
  refine ⟨_, hS', ?_⟩
  -- heap: q b2
  refine GoH.v (Vop.mv rfl rfl rfl rfl) ?_
  refine GoH.v (Vop.ext rfl rfl rfl rfl rfl) ?_
  refine GoH.v (Vop.ext rfl rfl rfl rfl rfl) ?_
  refine GoH.v (Vop.asg rfl rfl rfl rfl) ?_
  refine GoH.v (Vop.asg rfl rfl rfl rfl) ?_
  refine GoH.regionEnd ?_
  refine GoH.seq ?_
  refine GoH.region ?_
  refine GoH.v (Vop.mv rfl rfl rfl rfl) ?_
  refine GoH.v (Vop.bin rfl rfl rfl rfl bNe rfl) ?_
  refine GoH.v (Vop.mv rfl rfl rfl rfl) ?_
  -- guard on slot 15 (ref.go:48)
  refine GoH.cases (d := 15) rfl (fun hc => ?_) (fun hc => ?_)
  · -- yes
    have h1 : propsE l ≠ 0 := by simpa using hc
    refine GoH.no rfl rfl rfl rfl ?_
    refine GoH.no rfl rfl rfl rfl ?_
    refine GoH.no rfl rfl rfl rfl ?_
    refine GoH.v (Vop.pickT rfl rfl rfl rfl rfl) ?_
    refine GoH.regionEnd ?_
    refine GoH.condT rfl ?_
    refine GoH.seq ?_
    refine GoH.region ?_
    refine GoH.v (Vop.asg rfl rfl rfl rfl) ?_
    refine GoH.regionEnd ?_
    refine GoH.ret Tryd.f23 Tryd.func23 rfl (fun w' hS => ?_)
    exact ⟨hS.ext, by rw [inM, beq_false_of_ne h1]; rfl⟩
  · -- no
    have h1 : propsE l = 0 := by simpa using hc
    refine GoH.v (Vop.ldB rfl rfl rfl rfl Tryd.isAgg25 1 rfl Tryd.sizeOf25 rfl) ?_
    refine GoH.callP rfl rfl rfl rfl rfl (fun _ _ => Tryd.call26 _ _) (fun w _ hS => rmCheck_c m w (hm.ex0 hS.ext)) ?_
    refine GoH.v (Vop.bin rfl rfl rfl rfl bNe rfl) ?_
    refine GoH.v (Vop.pickF rfl rfl rfl rfl rfl) ?_
    refine GoH.regionEnd ?_
    refine GoH.cond rfl (fun hc => ?_) (fun hc => ?_)
    · -- yes
      have h2 : checkM m.n m.val m.rel ≠ 0 := by simpa using hc
      refine GoH.seq ?_
      refine GoH.region ?_
      refine GoH.v (Vop.asg rfl rfl rfl rfl) ?_
      refine GoH.regionEnd ?_
      refine GoH.ret Tryd.f23 Tryd.func23 rfl (fun w' hS => ?_)
      exact ⟨hS.ext, by rw [inM, beq_false_of_ne h2, Bool.and_false]; rfl⟩
    · -- no
      have h2 : checkM m.n m.val m.rel = 0 := by simpa using hc
      refine GoH.skip ?_
      refine GoH.seq ?_
      refine GoH.seq ?_
      refine GoH.region ?_
      refine GoH.v (Vop.asg rfl rfl rfl rfl) ?_
      refine GoH.regionEnd ?_
      refine GoH.block ?_
      refine GoH.loop (σ := Nat) (fun k => [(1, .int .i64 l), (2, .pointer (some ⟨b2, 0, none⟩)), (7, .int .i64 k)]) (fun _ => [(some b2, .cells m.cs 25 (0, 0))])
        (fun k => k ≤ m.rows.length ∧ ∀ (i : Nat) (r : Row), i < k → m.rows[i]? = some r → hasL r.xs l = true) (fun k => m.rows.length - k) 0 ⟨Nat.zero_le _, fun i r hi => by omega⟩ ⟨rfl, rfl, rfl, trivial⟩ (.cons _ (List.Sublist.refl _)) (fun k hI IH => ?_)
      obtain ⟨hk, hall⟩ := hI
      -- heap: b2
      -- ptr: 2=b2
      refine GoH.seq ?_
      refine GoH.seq ?_
      refine GoH.region ?_
      refine GoH.v (Vop.mv rfl rfl rfl rfl) ?_
      refine GoH.v (Vop.fldP rfl rfl rfl rfl Tryd.underlying25 rfl Tryd.sizeOf23 2 rfl) ?_
      refine GoH.v (Vop.ldo (v := .slice m.ra m.rows.length m.rc) rfl rfl rfl rfl Tryd.isAgg23 0 rfl rfl) ?_
      refine GoH.v (Vop.blt rfl rfl rfl (blt_len_slice Tryd.underlying23) rfl) ?_
      refine GoH.v (Vop.bin rfl rfl rfl rfl bLt rfl) ?_
      refine GoH.regionEnd ?_
      refine GoH.cond rfl (fun hc => ?_) (fun hc => ?_)
      · -- yes
        have hlt : k < m.rows.length := by simpa using hc
        have hrow := hm.row m.rows[k] (List.getElem_mem hlt)
        refine GoH.skip ?_
        refine GoH.seq ?_
        refine GoH.block ?_
        refine GoH.seq ?_
        refine GoH.region ?_
        refine GoH.v (Vop.fldP rfl rfl rfl rfl Tryd.underlying25 rfl Tryd.sizeOf23 2 rfl) ?_
        refine GoH.v (Vop.ldo (v := .slice m.ra m.rows.length m.rc) rfl rfl rfl rfl Tryd.isAgg23 0 rfl rfl) ?_
        refine GoH.v (Vop.mv rfl rfl rfl rfl) ?_
        refine GoH.v (Vop.idx rfl rfl rfl rfl rfl Tryd.underlying23 Tryd.sizeOf22 ⟨_, hm.rel⟩ (by simp) (k) ⟨rfl, by simpa using hlt⟩) ?_
        refine GoH.v (Vop.ld rfl rfl rfl rfl Tryd.isAgg22 (fun w _ hS => (SlR.ex0 hm.rel hS.ext).at (k) hlt)) ?_
        refine GoH.v (Vop.mv rfl rfl rfl rfl) ?_
        refine GoH.callP rfl rfl rfl rfl rfl (fun _ _ => Tryd.call21 _ _) (fun w _ hS => (by exact rHasR_c m.rows[k] l w (hrow.ex0 hS.ext))) ?_
        refine GoH.v (Vop.un rfl rfl rfl uNot rfl) ?_
        refine GoH.regionEnd ?_
        refine GoH.cond rfl (fun hc => ?_) (fun hc => ?_)
        · -- yes
          have h3 : hasL m.rows[k].xs l = false := by simpa using hc
          refine GoH.seq ?_
          refine GoH.region ?_
          refine GoH.v (Vop.asg rfl rfl rfl rfl) ?_
          refine GoH.regionEnd ?_
          refine GoH.ret Tryd.f23 Tryd.func23 rfl (fun w' hS => ?_)
          exact ⟨hS.ext, by rw [inM, MV.rel, List.all_map, show m.rows.all ((fun r => hasL r l) ∘ Row.xs) = false from by rw [List.all_eq_false]; exact ⟨_, List.getElem_mem hlt, by show ¬ hasL m.rows[k].xs l = true; rw [h3]; simp⟩, Bool.and_false]; rfl⟩
        · -- no
          have h3 : hasL m.rows[k].xs l = true := by simpa using hc
          refine GoH.skip ?_
          refine GoH.inBlock ?_
          refine GoH.region ?_
          refine GoH.v (Vop.mv rfl rfl rfl rfl) ?_
          refine GoH.v (Vop.bin rfl rfl rfl rfl (bAdd (by omega)) rfl) ?_
          refine GoH.v (Vop.asg rfl rfl rfl rfl) ?_
          refine GoH.regionEnd ?_
          exact IH (k + 1) _ _ ⟨hlt, fun i r hi hr => by
          by_cases e : i = k
          · subst e; rw [List.getElem?_eq_getElem hlt] at hr; cases hr; exact h3
          · exact hall i r (by omega) hr⟩ (by omega) ⟨rfl, rfl, rfl, trivial⟩ (List.Sublist.refl _)
      · -- no
        have hge : ¬ k < m.rows.length := by simpa using hc
        obtain rfl : k = m.rows.length := by omega
        refine GoH.exit rfl ?_
        refine GoH.seq ?_
        refine GoH.region ?_
        refine GoH.v (Vop.asg rfl rfl rfl rfl) ?_
        refine GoH.regionEnd ?_
        refine GoH.ret Tryd.f23 Tryd.func23 rfl (fun w' hS => ?_)
        exact ⟨hS.ext, by rw [inM, h1, h2, MV.rel, List.all_map, show m.rows.all ((fun r => hasL r l) ∘ Row.xs) = true from by
        rw [List.all_eq_true]
        intro r hr
        obtain ⟨i, hi, e⟩ := List.mem_iff_getElem.1 hr
        exact hall i r hi (by rw [List.getElem?_eq_getElem hi, e])]; rfl⟩
set_option maxRecDepth 4000 in
theorem hasLaw_c (m : MV) (a : Option Addr) (ca : Nat) (r : List W64) (l : Int) (w : World) (hT : Tab w) (hm : m.At w) (ha : SlU w a r) (hl : r.length ≤ maxLen) :
    Cn Tryd.prog 5 [m.v, .slice a r.length ca, .int .i64 l] w (fun v _ => v = .bool true) := by
  refine Cn.of Tryd.func5 rfl rfl ?_
  refine GoH.seq ?_
  refine GoH.region ?_
  refine GoH.bx rfl rfl rfl rfl (fun b3 => ?_)
  refine GoH.v (Vop.asg rfl rfl rfl rfl) ?_
  refine GoH.regionEnd ?_
  refine GoH.seq ?_
  refine GoH.seq ?_
  refine GoH.region ?_
  refine GoH.v (Vop.ldB rfl rfl rfl rfl Tryd.isAgg25 0 rfl Tryd.sizeOf25 rfl) ?_
  refine GoH.callM _ rfl rfl rfl rfl rfl (fun _ _ => Tryd.call10 _ _) (fun w _ hS => few_c m 12 w (hm.ex0 hS.ext)) ?_
  rintro v w1 w2 Y' hS he ⟨b, rfl⟩
  refine ⟨_, hS.later he, ?_⟩
  refine GoH.v (Vop.un rfl rfl rfl uNot rfl) ?_
  refine GoH.v (Vop.mv rfl rfl rfl rfl) ?_
  -- guard on slot 15 (law.go:39)
  refine GoH.cases (d := 15) rfl (fun hc => ?_) (fun hc => ?_)
  · -- yes
    refine GoH.no rfl rfl rfl rfl ?_
    refine GoH.no rfl rfl rfl rfl ?_
    refine GoH.no rfl rfl rfl rfl ?_
    refine GoH.v (Vop.pickT rfl rfl rfl rfl rfl) ?_
    refine GoH.regionEnd ?_
    refine GoH.condT rfl ?_
    refine GoH.seq ?_
    refine GoH.region ?_
    refine GoH.callP rfl rfl rfl rfl rfl (fun _ _ => Tryd.call11 _ _) (fun w _ hS => awake15_c w (hT.ex hS.ext)) ?_
    refine GoH.v (Vop.asg rfl rfl rfl rfl) ?_
    refine GoH.regionEnd ?_
    refine GoH.ret Tryd.f5 Tryd.func5 rfl (fun w' hS => ?_)
    exact ⟨hS.ext, rfl⟩
  · -- no
    refine GoH.v (Vop.mv rfl rfl rfl rfl) ?_
    refine GoH.v (Vop.blt rfl rfl rfl (blt_len_slice Tryd.underlying22) rfl) ?_
    refine GoH.v (Vop.bin rfl rfl rfl rfl bGt rfl) ?_
    refine GoH.v (Vop.pickF rfl rfl rfl rfl rfl) ?_
    refine GoH.regionEnd ?_
    refine GoH.cond rfl (fun hc => ?_) (fun hc => ?_)
    · -- yes
      refine GoH.seq ?_
      refine GoH.region ?_
      refine GoH.callP rfl rfl rfl rfl rfl (fun _ _ => Tryd.call11 _ _) (fun w _ hS => awake15_c w (hT.ex hS.ext)) ?_
      refine GoH.v (Vop.asg rfl rfl rfl rfl) ?_
      refine GoH.regionEnd ?_
      refine GoH.ret Tryd.f5 Tryd.func5 rfl (fun w' hS => ?_)
      exact ⟨hS.ext, rfl⟩
    · -- no
      refine GoH.skip ?_
      refine GoH.seq ?_
      refine GoH.region ?_
      refine GoH.v (Vop.mv rfl rfl rfl rfl) ?_
      refine GoH.callM _ rfl rfl rfl rfl rfl (fun _ _ => Tryd.call18 _ _) (fun w _ hS => props_c l w) ?_
      rintro v w1 w2 Y' hS he ho
      obtain ⟨q, cap, sp, rfl, hq, hcap, hS'⟩ := gainP hS he ho
      refine ⟨_, hS', ?_⟩
      -- heap: q b3
      refine GoH.v (Vop.mv rfl rfl rfl rfl) ?_
      refine GoH.v (Vop.ext rfl rfl rfl rfl rfl) ?_
      refine GoH.v (Vop.ext rfl rfl rfl rfl rfl) ?_
      refine GoH.v (Vop.asg rfl rfl rfl rfl) ?_
      refine GoH.v (Vop.asg rfl rfl rfl rfl) ?_
      refine GoH.regionEnd ?_
      refine GoH.seq ?_
      refine GoH.region ?_
      refine GoH.v (Vop.mv rfl rfl rfl rfl) ?_
      refine GoH.callM _ rfl rfl rfl rfl rfl (fun _ _ => Tryd.call19 _ _) (fun w _ hS => rProps_c l w) ?_
      rintro v w1 w2 Y' hS he ho
      obtain ⟨q2, cap2, sp2, rfl, hq2, hcap2, hS'⟩ := gainP hS he ho
      refine ⟨_, hS', ?_⟩
      -- heap: q2 q b3
      refine GoH.v (Vop.mv rfl rfl rfl rfl) ?_
      refine GoH.v (Vop.ext rfl rfl rfl rfl rfl) ?_
      refine GoH.v (Vop.ext rfl rfl rfl rfl rfl) ?_
      refine GoH.v (Vop.asg rfl rfl rfl rfl) ?_
      refine GoH.v (Vop.asg rfl rfl rfl rfl) ?_
      refine GoH.regionEnd ?_
      refine GoH.seq ?_
      refine GoH.seq ?_
      refine GoH.region ?_
      refine GoH.v (Vop.mv rfl rfl rfl rfl) ?_
      refine GoH.v (Vop.mv rfl rfl rfl rfl) ?_
      refine GoH.v (Vop.bin rfl rfl rfl rfl (bNeV (v := false) (bne_self_eq_false _)) rfl) ?_
      refine GoH.v (Vop.mv rfl rfl rfl rfl) ?_
      refine GoH.v (Vop.mv rfl rfl rfl rfl) ?_
      refine GoH.v (Vop.blt rfl rfl rfl (blt_len_slice Tryd.underlying35) rfl) ?_
      refine GoH.v (Vop.mv rfl rfl rfl rfl) ?_
      refine GoH.v (Vop.blt rfl rfl rfl (blt_len_slice Tryd.underlying35) rfl) ?_
      refine GoH.v (Vop.bin rfl rfl rfl rfl (bNeV (v := false) (bne_self_eq_false _)) rfl) ?_
      refine GoH.v (Vop.pickF rfl rfl rfl rfl rfl) ?_
      refine GoH.regionEnd ?_
      refine GoH.condF rfl ?_
      refine GoH.skip ?_
      refine GoH.seq ?_
      refine GoH.seq ?_
      refine GoH.region ?_
      refine GoH.v (Vop.asg rfl rfl rfl rfl) ?_
      refine GoH.regionEnd ?_
      refine GoH.block ?_
      have hpl := propsL_len l
      refine GoH.loop (σ := Nat) (fun k => [(1, .slice a r.length ca), (2, .int .i64 l), (3, .pointer (some ⟨b3, 0, none⟩)), (7, osv q (propsL l).length cap), (9, osv q2 (propsL l).length cap2), (11, .int .i64 k)]) (fun _ => [(q2, ob I64 3 (propsL l) sp2), (q, ob I64 3 (propsL l) sp), (some b3, .cells m.cs 25 (0, 0))])
        (fun k => k ≤ (propsL l).length) (fun k => (propsL l).length - k) 0 (Nat.zero_le _) ⟨rfl, rfl, rfl, rfl, rfl, rfl, trivial⟩ (List.Sublist.refl _) (fun k hk IH => ?_)
      -- heap: q2 q b3
      -- ptr: 3=b3
      refine GoH.seq ?_
      refine GoH.seq ?_
      refine GoH.region ?_
      refine GoH.v (Vop.mv rfl rfl rfl rfl) ?_
      refine GoH.v (Vop.mv rfl rfl rfl rfl) ?_
      refine GoH.v (Vop.blt rfl rfl rfl (blt_len_slice Tryd.underlying35) rfl) ?_
      refine GoH.v (Vop.bin rfl rfl rfl rfl bLt rfl) ?_
      refine GoH.regionEnd ?_
      refine GoH.cond rfl (fun hc => ?_) (fun hc => ?_)
      · -- yes
        have hlt : k < (propsL l).length := by simpa using hc
        obtain ⟨bq, rfl⟩ : ∃ bq, q = some bq := by
          cases q with
          | none => have := (hq rfl).1; omega
          | some bq => exact ⟨bq, rfl⟩
        obtain ⟨bq2, rfl⟩ : ∃ bq, q2 = some bq := by
          cases q2 with
          | none => have := (hq2 rfl).1; omega
          | some bq => exact ⟨bq, rfl⟩
        refine GoH.skip ?_
        refine GoH.seq ?_
        refine GoH.block ?_
        refine GoH.seq ?_
        refine GoH.draw 9 mixed rfl ?_
        refine RdGo.v (Vop.mv rfl rfl rfl rfl) ?_
        refine RdGo.v (Vop.mv rfl rfl rfl rfl) ?_
        refine RdGo.v (Vop.idxS rfl rfl rfl rfl rfl Tryd.underlying35 Tryd.sizeOf3 (k) ⟨rfl, hlt⟩) ?_
        refine RdGo.v (Vop.ldE I64 0 rfl rfl rfl rfl Tryd.isAgg3 1 rfl hlt) ?_
        refine RdGo.v (Vop.mv rfl rfl rfl rfl) ?_
        refine RdGo.v (Vop.mv rfl rfl rfl rfl) ?_
        refine RdGo.v (Vop.idxS rfl rfl rfl rfl rfl Tryd.underlying35 Tryd.sizeOf3 (k) ⟨rfl, hlt⟩) ?_
        refine RdGo.v (Vop.ldE I64 0 rfl rfl rfl rfl Tryd.isAgg3 0 rfl hlt) ?_
        refine RdGo.v (Vop.bin rfl rfl rfl rfl (bNeV (v := false) (bne_self_eq_false _)) rfl) ?_
        refine RdGo.nil ?_
        refine GoH.regionEnd ?_
        refine GoH.condF rfl ?_
        refine GoH.skip ?_
        refine GoH.inBlock ?_
        refine GoH.region ?_
        refine GoH.v (Vop.mv rfl rfl rfl rfl) ?_
        refine GoH.v (Vop.bin rfl rfl rfl rfl (bAdd (by omega)) rfl) ?_
        refine GoH.v (Vop.asg rfl rfl rfl rfl) ?_
        refine GoH.regionEnd ?_
        exact IH (k + 1) _ _ hlt (by omega) ⟨rfl, rfl, rfl, rfl, rfl, rfl, trivial⟩ (List.Sublist.refl _)
      · -- no
        refine GoH.exit rfl ?_
        refine GoH.seq ?_
        refine GoH.draw 20 mixed rfl ?_
        refine RdGo.v (Vop.mv rfl rfl rfl rfl) ?_
        refine RdGo.v (Vop.mv rfl rfl rfl rfl) ?_
        refine RdGo.callP rfl rfl rfl rfl rfl (fun _ _ => Tryd.call20 _ _) (fun w _ hS => hasL_c a ca r l w (hT.ex hS.ext) (ha.ex0 hS.ext) hl) ?_
        refine RdGo.v (Vop.mv rfl rfl rfl rfl) ?_
        refine RdGo.v (Vop.mv rfl rfl rfl rfl) ?_
        refine RdGo.callP rfl rfl rfl rfl rfl (fun _ _ => Tryd.call21 _ _) (fun w _ hS => rHasL_c a ca r l w (ha.ex0 hS.ext) hl) ?_
        refine RdGo.v (Vop.bin rfl rfl rfl rfl (bEqBV (v := true) Tryd.underlying4 (beq_self_eq_true _)) rfl) ?_
        refine RdGo.v (Vop.mv rfl rfl rfl rfl) ?_
        refine RdGo.v (Vop.ldB rfl rfl rfl rfl Tryd.isAgg25 2 rfl Tryd.sizeOf25 rfl) ?_
        refine RdGo.v (Vop.mv rfl rfl rfl rfl) ?_
        refine RdGo.callP rfl rfl rfl rfl rfl (fun _ _ => Tryd.call22 _ _) (fun w _ hS => (by exact in_c m l w (hT.ex hS.ext) (hm.ex0 hS.ext))) ?_
        refine RdGo.v (Vop.ldB rfl rfl rfl rfl Tryd.isAgg25 2 rfl Tryd.sizeOf25 rfl) ?_
        refine RdGo.v (Vop.mv rfl rfl rfl rfl) ?_
        refine RdGo.callP rfl rfl rfl rfl rfl (fun _ _ => Tryd.call23 _ _) (fun w _ hS => (by exact rIn15_c m l w (hm.ex0 hS.ext))) ?_
        refine RdGo.v (Vop.bin rfl rfl rfl rfl (bEqBV (v := true) Tryd.underlying4 (beq_self_eq_true _)) rfl) ?_
        refine RdGo.v (Vop.pickT rfl rfl rfl rfl rfl) ?_
        refine RdGo.v (Vop.mv rfl rfl rfl rfl) ?_
        refine RdGo.callP rfl rfl rfl rfl rfl (fun _ _ => Tryd.call11 _ _) (fun w _ hS => awake15_c w (hT.ex hS.ext)) ?_
        refine RdGo.v (Vop.pickT rfl rfl rfl rfl rfl) ?_
        refine RdGo.v (Vop.asg rfl rfl rfl rfl) ?_
        refine RdGo.nil ?_
        refine GoH.regionEnd ?_
        refine GoH.ret Tryd.f5 Tryd.func5 rfl (fun w' hS => ?_)
        exact ⟨hS.ext, rfl⟩
end Go.Proofs.YticlcpkcohdpfaaDoor
