/- Contracts of functions of the program: what each call returns and that nothing else of memory is turned, under the conditions that each theorem states. -/
import Derived.Test.YtoiafcoaeomnlaaDoorR4
import Derived.Test.YtoiafcoaeomnlaaDoorWawake
namespace Go.Proofs.YtoiafcoaeomnlaaDoor
open Go.RowKit Go.Proofs.Wit
/-! the laws' helpers -/
theorem is_c (a : Option Addr) (ca : Nat) (xs : List W64) (b : Option Addr) (cb : Nat) (ys : List W64) (w : World) (ha : SlU w a xs) (hb : SlU w b ys) (hl : xs.length ≤ maxLen) :
    Cn Tryd.prog 44 [.slice a xs.length ca, .slice b ys.length cb] w (fun v _ => v = .bool (xs == ys)) := by
  refine Cn.of Tryd.func44 rfl rfl ?_
  refine GoH.seq ?_
  refine GoH.region ?_
  refine GoH.v (Vop.asg rfl rfl rfl rfl) ?_
  refine GoH.regionEnd ?_
  refine GoH.seq ?_
  refine GoH.region ?_
  refine GoH.v (Vop.mv rfl rfl rfl rfl) ?_
  refine GoH.v (Vop.mv rfl rfl rfl rfl) ?_
  refine GoH.callP rfl rfl rfl rfl rfl (fun _ _ => Tryd.call28 _ _) (fun w _ hS => rSame_c a ca xs b cb ys w (ha.ex0 hS.ext) (hb.ex0 hS.ext) hl) ?_
  refine GoH.v (Vop.asg rfl rfl rfl rfl) ?_
  refine GoH.regionEnd ?_
  refine GoH.ret Tryd.f44 Tryd.func44 rfl (fun w' hS => ?_)
  exact ⟨hS.ext, rfl⟩
noncomputable def leB (r s : List W64) : Bool := @decide (Le r s) (Classical.propDecidable _)
theorem leB_iff {r s : List W64} {b : Bool} (h : b = true ↔ Le r s) : leB r s = b := by
  unfold leB
  cases b with
  | true => exact @decide_eq_true _ (Classical.propDecidable _) (h.1 rfl)
  | false => exact @decide_eq_false _ (Classical.propDecidable _) (fun x => by cases h.2 x)
theorem leB_true {r s : List W64} : leB r s = true ↔ Le r s := by unfold leB; exact @decide_eq_true_iff _ (Classical.propDecidable _)
theorem inside_c (a : Option Addr) (ca : Nat) (xs : List W64) (b : Option Addr) (cb : Nat) (ys : List W64) (w : World) (ha : SlU w a xs) (hb : SlU w b ys) (hl : xs.length ≤ maxLen) :
    Cn Tryd.prog 34 [.slice a xs.length ca, .slice b ys.length cb] w (fun v _ => v = .bool (leB xs ys)) := by
  unfold maxLen at hl
  refine Cn.of Tryd.func34 rfl rfl ?_
  refine GoH.seq ?_
  refine GoH.region ?_
  refine GoH.v (Vop.asg rfl rfl rfl rfl) ?_
  refine GoH.regionEnd ?_
  refine GoH.seq ?_
  refine GoH.seq ?_
  refine GoH.region ?_
  refine GoH.v (Vop.mv rfl rfl rfl rfl) ?_
  refine GoH.v (Vop.blt rfl rfl rfl (blt_len_slice Tryd.underlying22) rfl) ?_
  refine GoH.v (Vop.mv rfl rfl rfl rfl) ?_
  refine GoH.v (Vop.blt rfl rfl rfl (blt_len_slice Tryd.underlying22) rfl) ?_
  refine GoH.v (Vop.bin rfl rfl rfl rfl bNe rfl) ?_
  refine GoH.regionEnd ?_
  refine GoH.cond rfl (fun hc => ?_) (fun hc => ?_)
  · -- yes
    have h1 : xs.length ≠ ys.length := by simp at hc; omega
    refine GoH.seq ?_
    refine GoH.region ?_
    refine GoH.v (Vop.asg rfl rfl rfl rfl) ?_
    refine GoH.regionEnd ?_
    refine GoH.ret Tryd.f34 Tryd.func34 rfl (fun w' hS => ?_)
    exact ⟨hS.ext, congrArg Value.bool (leB_iff (b := false) ⟨fun h => (by cases h), fun h => absurd h.len h1⟩).symm⟩
  · -- no
    have h1 : xs.length = ys.length := by simp at hc; omega
    refine GoH.skip ?_
    refine GoH.seq ?_
    refine GoH.seq ?_
    refine GoH.region ?_
    refine GoH.v (Vop.asg rfl rfl rfl rfl) ?_
    refine GoH.regionEnd ?_
    refine GoH.block ?_
    refine GoH.loop (σ := Nat) (fun k => [(0, .slice a xs.length ca), (1, .slice b ys.length cb), (5, .int .i64 k)]) (fun _ => []) (fun k => k ≤ xs.length ∧ ∀ j, j < k → xs.getD j 0#64 &&& ~~~ ys.getD j 0#64 = 0#64) (fun k => xs.length - k) 0 ⟨Nat.zero_le _, fun j hj => by omega⟩ ⟨rfl, rfl, rfl, trivial⟩ .slnil (fun k hI IH => ?_)
    obtain ⟨hk, hall⟩ := hI
    refine GoH.seq ?_
    refine GoH.seq ?_
    refine GoH.region ?_
    refine GoH.v (Vop.mv rfl rfl rfl rfl) ?_
    refine GoH.v (Vop.mv rfl rfl rfl rfl) ?_
    refine GoH.v (Vop.blt rfl rfl rfl (blt_len_slice Tryd.underlying22) rfl) ?_
    refine GoH.v (Vop.bin rfl rfl rfl rfl bLt rfl) ?_
    refine GoH.regionEnd ?_
    refine GoH.cond rfl (fun hc => ?_) (fun hc => ?_)
    · -- yes
      have hlt : k < xs.length := by simpa using hc
      refine GoH.skip ?_
      refine GoH.seq ?_
      refine GoH.block ?_
      refine GoH.seq ?_
      refine GoH.draw 10 mixed rfl ?_
      refine RdGo.v (Vop.mv rfl rfl rfl rfl) ?_
      refine RdGo.v (Vop.mv rfl rfl rfl rfl) ?_
      refine RdGo.v (Vop.idx rfl rfl rfl rfl rfl Tryd.underlying22 Tryd.sizeOf27 ⟨_, ha⟩ (by simp) (k) ⟨rfl, by simpa using hlt⟩) ?_
      refine RdGo.v (Vop.ld rfl rfl rfl rfl Tryd.isAgg27 (fun w _ hS => (SlU.ex0 ha hS.ext).at (k) hlt)) ?_
      refine RdGo.v (Vop.mv rfl rfl rfl rfl) ?_
      refine RdGo.v (Vop.mv rfl rfl rfl rfl) ?_
      refine RdGo.v (Vop.idx rfl rfl rfl rfl rfl Tryd.underlying22 Tryd.sizeOf27 ⟨_, hb⟩ (by simp) (k) ⟨rfl, by simpa using (h1 ▸ hlt)⟩) ?_
      refine RdGo.v (Vop.ld rfl rfl rfl rfl Tryd.isAgg27 (fun w _ hS => (SlU.ex0 hb hS.ext).at (k) (h1 ▸ hlt))) ?_
      refine RdGo.v (Vop.bin rfl rfl rfl rfl bAndNot rfl) ?_
      refine RdGo.v (Vop.bin (b := U 0#64) rfl rfl rfl rfl bNeU rfl) ?_
      refine RdGo.nil ?_
      refine GoH.regionEnd ?_
      refine GoH.cond rfl (fun hc => ?_) (fun hc => ?_)
      · -- yes
        refine GoH.seq ?_
        refine GoH.region ?_
        refine GoH.v (Vop.asg rfl rfl rfl rfl) ?_
        refine GoH.regionEnd ?_
        refine GoH.ret Tryd.f34 Tryd.func34 rfl (fun w' hS => ?_)
        exact ⟨hS.ext, congrArg Value.bool (leB_iff (b := false) ⟨fun h => (by cases h), fun h => by rw [h.bits k] at hc; cases hc⟩).symm⟩
      · -- no
        refine GoH.skip ?_
        refine GoH.inBlock ?_
        refine GoH.region ?_
        refine GoH.v (Vop.mv rfl rfl rfl rfl) ?_
        refine GoH.v (Vop.bin rfl rfl rfl rfl (bAdd (by omega)) rfl) ?_
        refine GoH.v (Vop.asg rfl rfl rfl rfl) ?_
        refine GoH.regionEnd ?_
        exact IH (k + 1) _ _ ⟨hlt, fun j hj => by
        by_cases e : j = k
        · subst e; simpa using hc
        · exact hall j (by omega)⟩ (by omega) ⟨rfl, rfl, rfl, trivial⟩ .slnil
    · -- no
      have hge : ¬ k < xs.length := by simpa using hc
      obtain rfl : k = xs.length := by omega
      refine GoH.exit rfl ?_
      refine GoH.seq ?_
      refine GoH.region ?_
      refine GoH.v (Vop.asg rfl rfl rfl rfl) ?_
      refine GoH.regionEnd ?_
      refine GoH.ret Tryd.f34 Tryd.func34 rfl (fun w' hS => ?_)
      exact ⟨hS.ext, congrArg Value.bool (leB_iff (b := true) ⟨fun _ => ⟨h1, fun u v h => andNot_zero.1 (hall u h.dom) v h⟩, fun _ => rfl⟩).symm⟩
/-- an owned list, a code and a property -/
def OwnC (w w' : World) (v : Value) (p : List W64 × Int) (k : Int) : Prop := ∃ sv, v = .tuple #[sv, .int .i64 p.2, .int .i64 k] ∧ Own w w' sv p.1
theorem closure_c (a : Option Addr) (ca : Nat) (r : List W64) (k : Nat) (hk4 : k < 4) (w : World) (hT : Tab w) (ha : SlU w a r) (hl : r.length ≤ maxLen) (hca : r.length ≤ ca) :
    Cn Tryd.prog 29 [.slice a r.length ca, .int .i64 k] w (fun v w' => ∃ p, OwnC w w' v p ((k : Int) + 2) ∧ Grown (PropR ((k : Int) + 2)) r p) := by
  refine Cn.of Tryd.func29 rfl rfl ?_
  refine GoH.seq ?_
  refine GoH.region ?_
  refine GoH.v (Vop.asg rfl rfl rfl rfl) ?_
  refine GoH.v (Vop.asg rfl rfl rfl rfl) ?_
  refine GoH.v (Vop.asg rfl rfl rfl rfl) ?_
  refine GoH.regionEnd ?_
  refine GoH.seq ?_
  refine GoH.seq ?_
  refine GoH.region ?_
  refine GoH.v (Vop.mv rfl rfl rfl rfl) ?_
  refine GoH.regionEnd ?_
  refine GoH.block ?_
  refine GoH.seq ?_
  refine GoH.region ?_
  refine GoH.v (Vop.bin rfl rfl rfl rfl bEq rfl) ?_
  refine GoH.v (Vop.asg rfl rfl rfl rfl) ?_
  refine GoH.regionEnd ?_
  refine GoH.cond rfl (fun hc => ?_) (fun hc => ?_)
  · -- yes
    obtain rfl : k = 0 := by have : (k : Int) = 0 := by simpa using hc
                             omega
    refine GoH.seq ?_
    refine GoH.region ?_
    refine GoH.v (Vop.mv rfl rfl rfl rfl) ?_
    refine GoH.callM _ rfl rfl rfl rfl rfl (fun _ _ => Tryd.call56 _ _) (fun w _ hS => reflexive_c a ca r w (hT.ex hS.ext) (ha.ex0 hS.ext) hl hca) ?_
    rintro v w1 w2 Y' hS he ⟨⟨out, e⟩, ⟨sv, rfl, ho⟩, hg⟩
    obtain ⟨q, cap, sp, rfl, hq, hcap, hS'⟩ := gainO hS he ho
    refine ⟨_, hS', ?_⟩
    -- heap: q
    refine GoH.v (Vop.mv rfl rfl rfl rfl) ?_
    refine GoH.v (Vop.ext rfl rfl rfl rfl rfl) ?_
    refine GoH.v (Vop.ext rfl rfl rfl rfl rfl) ?_
    refine GoH.v (Vop.asg rfl rfl rfl rfl) ?_
    refine GoH.v (Vop.asg rfl rfl rfl rfl) ?_
    refine GoH.regionEnd ?_
    refine GoH.seq ?_
    refine GoH.region ?_
    refine GoH.v (Vop.mv rfl rfl rfl rfl) ?_
    refine GoH.v (Vop.mv rfl rfl rfl rfl) ?_
    refine GoH.v (Vop.asg rfl rfl rfl rfl) ?_
    refine GoH.v (Vop.asg rfl rfl rfl rfl) ?_
    refine GoH.v (Vop.asg rfl rfl rfl rfl) ?_
    refine GoH.regionEnd ?_
    refine GoH.ret Tryd.f29 Tryd.func29 rfl (fun w' hS => ?_)
    exact ⟨hS.ext, (out, e), ⟨_, rfl, ownAt hS 0 rfl rfl hq hcap⟩, hg⟩
  · -- no
    have h0 : (k : Int) ≠ 0 := by simpa using hc
    refine GoH.seq ?_
    refine GoH.region ?_
    refine GoH.v (Vop.bin rfl rfl rfl rfl bEq rfl) ?_
    refine GoH.v (Vop.asg rfl rfl rfl rfl) ?_
    refine GoH.regionEnd ?_
    refine GoH.cond rfl (fun hc => ?_) (fun hc => ?_)
    · -- yes
      obtain rfl : k = 1 := by have : (k : Int) = 1 := by simpa using hc
                               omega
      refine GoH.seq ?_
      refine GoH.region ?_
      refine GoH.v (Vop.mv rfl rfl rfl rfl) ?_
      refine GoH.callM _ rfl rfl rfl rfl rfl (fun _ _ => Tryd.call43 _ _) (fun w _ hS => symmetric_c a ca r w (hT.ex hS.ext) (ha.ex0 hS.ext) hl hca) ?_
      rintro v w1 w2 Y' hS he ⟨⟨out, e⟩, ⟨sv, rfl, ho⟩, hg⟩
      obtain ⟨q, cap, sp, rfl, hq, hcap, hS'⟩ := gainO hS he ho
      refine ⟨_, hS', ?_⟩
      -- heap: q
      refine GoH.v (Vop.mv rfl rfl rfl rfl) ?_
      refine GoH.v (Vop.ext rfl rfl rfl rfl rfl) ?_
      refine GoH.v (Vop.ext rfl rfl rfl rfl rfl) ?_
      refine GoH.v (Vop.asg rfl rfl rfl rfl) ?_
      refine GoH.v (Vop.asg rfl rfl rfl rfl) ?_
      refine GoH.regionEnd ?_
      refine GoH.seq ?_
      refine GoH.region ?_
      refine GoH.v (Vop.mv rfl rfl rfl rfl) ?_
      refine GoH.v (Vop.mv rfl rfl rfl rfl) ?_
      refine GoH.v (Vop.asg rfl rfl rfl rfl) ?_
      refine GoH.v (Vop.asg rfl rfl rfl rfl) ?_
      refine GoH.v (Vop.asg rfl rfl rfl rfl) ?_
      refine GoH.regionEnd ?_
      refine GoH.ret Tryd.f29 Tryd.func29 rfl (fun w' hS => ?_)
      exact ⟨hS.ext, (out, e), ⟨_, rfl, ownAt hS 0 rfl rfl hq hcap⟩, hg⟩
    · -- no
      have h1 : (k : Int) ≠ 1 := by simpa using hc
      refine GoH.seq ?_
      refine GoH.region ?_
      refine GoH.v (Vop.bin rfl rfl rfl rfl bEq rfl) ?_
      refine GoH.v (Vop.asg rfl rfl rfl rfl) ?_
      refine GoH.regionEnd ?_
      refine GoH.cond rfl (fun hc => ?_) (fun hc => ?_)
      · -- yes
        obtain rfl : k = 2 := by have : (k : Int) = 2 := by simpa using hc
                                 omega
        refine GoH.seq ?_
        refine GoH.region ?_
        refine GoH.v (Vop.mv rfl rfl rfl rfl) ?_
        refine GoH.callM _ rfl rfl rfl rfl rfl (fun _ _ => Tryd.call41 _ _) (fun w _ hS => transitive_c a ca r w (hT.ex hS.ext) (ha.ex0 hS.ext) hl hca) ?_
        rintro v w1 w2 Y' hS he ⟨⟨out, e⟩, ⟨sv, rfl, ho⟩, hg⟩
        obtain ⟨q, cap, sp, rfl, hq, hcap, hS'⟩ := gainO hS he ho
        refine ⟨_, hS', ?_⟩
        -- heap: q
        refine GoH.v (Vop.mv rfl rfl rfl rfl) ?_
        refine GoH.v (Vop.ext rfl rfl rfl rfl rfl) ?_
        refine GoH.v (Vop.ext rfl rfl rfl rfl rfl) ?_
        refine GoH.v (Vop.asg rfl rfl rfl rfl) ?_
        refine GoH.v (Vop.asg rfl rfl rfl rfl) ?_
        refine GoH.regionEnd ?_
        refine GoH.seq ?_
        refine GoH.region ?_
        refine GoH.v (Vop.mv rfl rfl rfl rfl) ?_
        refine GoH.v (Vop.mv rfl rfl rfl rfl) ?_
        refine GoH.v (Vop.asg rfl rfl rfl rfl) ?_
        refine GoH.v (Vop.asg rfl rfl rfl rfl) ?_
        refine GoH.v (Vop.asg rfl rfl rfl rfl) ?_
        refine GoH.regionEnd ?_
        refine GoH.ret Tryd.f29 Tryd.func29 rfl (fun w' hS => ?_)
        exact ⟨hS.ext, (out, e), ⟨_, rfl, ownAt hS 0 rfl rfl hq hcap⟩, hg⟩
      · -- no
        have h2 : (k : Int) ≠ 2 := by simpa using hc
        obtain rfl : k = 3 := by omega
        refine GoH.skip ?_
        refine GoH.inBlock ?_
        refine GoH.seq ?_
        refine GoH.region ?_
        refine GoH.v (Vop.mv rfl rfl rfl rfl) ?_
        refine GoH.callM _ rfl rfl rfl rfl rfl (fun _ _ => Tryd.call42 _ _) (fun w _ hS => euclidean_c a ca r w (hT.ex hS.ext) (ha.ex0 hS.ext) hl hca) ?_
        rintro v w1 w2 Y' hS he ⟨⟨out, e⟩, ⟨sv, rfl, ho⟩, hg⟩
        obtain ⟨q, cap, sp, rfl, hq, hcap, hS'⟩ := gainO hS he ho
        refine ⟨_, hS', ?_⟩
        -- heap: q
        refine GoH.v (Vop.mv rfl rfl rfl rfl) ?_
        refine GoH.v (Vop.ext rfl rfl rfl rfl rfl) ?_
        refine GoH.v (Vop.ext rfl rfl rfl rfl rfl) ?_
        refine GoH.v (Vop.asg rfl rfl rfl rfl) ?_
        refine GoH.v (Vop.asg rfl rfl rfl rfl) ?_
        refine GoH.regionEnd ?_
        refine GoH.seq ?_
        refine GoH.region ?_
        refine GoH.v (Vop.mv rfl rfl rfl rfl) ?_
        refine GoH.v (Vop.mv rfl rfl rfl rfl) ?_
        refine GoH.v (Vop.asg rfl rfl rfl rfl) ?_
        refine GoH.v (Vop.asg rfl rfl rfl rfl) ?_
        refine GoH.v (Vop.asg rfl rfl rfl rfl) ?_
        refine GoH.regionEnd ?_
        refine GoH.ret Tryd.f29 Tryd.func29 rfl (fun w' hS => ?_)
        exact ⟨hS.ext, (out, e), ⟨_, rfl, ownAt hS 0 rfl rfl hq hcap⟩, hg⟩
theorem ReachIs.uniq {r : List W64} {s a b : W64} (h : ReachIs r s a) (g : ReachIs r s b) : a = b := by
  unfold ReachIs at h g
  split at h
  · rename_i hc; rw [if_pos hc] at g; rw [h, g]
  · rename_i hc; rw [if_neg hc] at g
    exact sub_antisymm (h.least b g.base g.step) (g.least a h.base h.step)
theorem reach_r0 {o : W64} (h : ReachIs r0 1#64 o) : o = 6#64 := by
  refine h.uniq ?_
  obtain ⟨e1, e2, e3⟩ := reachU_least (s := 1#64) r0_val
  rw [show reachU r0 1#64 r0.length = 6#64 from by decide] at e1 e2 e3
  rw [ReachIs, if_neg (by simp [r0_check])]
  exact ⟨by rw [mapR_all r0_val]; exact e1, e2, by rw [mapR_all r0_val]; exact e3⟩
theorem comp_is : compR r0 r0 = ([4#64, 0#64, 0#64], 0) := by decide
theorem conv_is : convR r0 = ([0#64, 1#64, 2#64], 0) := by decide
theorem box_is : boxR r0 4#64 = 6#64 := by decide
theorem dia_is : diaR r0 4#64 = 2#64 := by decide
theorem is_t (a : Option Addr) (ca : Nat) (xs : List W64) (b : Option Addr) (cb : Nat) (w : World) (ha : SlU w a xs) (hb : SlU w b xs) (hl : xs.length ≤ maxLen) :
    Cn Tryd.prog 44 [.slice a xs.length ca, .slice b xs.length cb] w (fun v _ => v = .bool true) :=
  (is_c a ca xs b cb xs w ha hb hl).mono (fun v w' _ h => by rw [h, beq_self_eq_true])
theorem awake_c (w : World) (hT : Tab w) : Cn Tryd.prog 12 [] w (fun v _ => v = .bool true) := by
  obtain ⟨i0, hi, hz, hsz, hby⟩ := info_parts infoU
  refine Cn.of Tryd.func12 rfl rfl ?_
  refine GoH.seq ?_
  refine GoH.region ?_
  refine GoH.v (Vop.asg rfl rfl rfl rfl) ?_
  refine GoH.regionEnd ?_
  refine GoH.seq ?_
  refine GoH.region ?_
  refine GoH.bs3 (v0 := U 2#64) (v1 := U 4#64) (v2 := U 0#64) rfl rfl rfl rfl rfl rfl Tryd.underlying22 hi hz hsz rfl rfl rfl rfl (fun b => ?_)
  -- heap: b
  refine GoH.v (Vop.asg rfl rfl rfl rfl) ?_
  refine GoH.regionEnd ?_
  refine GoH.seq ?_
  refine GoH.region ?_
  refine GoH.v (Vop.mv rfl rfl rfl rfl) ?_
  refine GoH.v (Vop.mv rfl rfl rfl rfl) ?_
  refine GoH.callM _ rfl rfl rfl rfl rfl (fun _ _ => Tryd.call27 _ _) (fun w _ hS => compose_c (some ⟨b, 0, none⟩) 3 r0 (some ⟨b, 0, none⟩) 3 r0 w (hT.ex hS.ext) (sluAt (q := some b) (xs := r0) (sp := []) (c := 3) hS 0 rfl (fun h => by cases h)) (sluAt (q := some b) (xs := r0) (sp := []) (c := 3) hS 0 rfl (fun h => by cases h)) (by decide) (by decide)) ?_
  rintro v w1 w2 Y' hS he ⟨sv, rfl, ho⟩
  rw [comp_is] at ho
  obtain ⟨q1, cap1, sp1, rfl, hq1, hcap1, hS'⟩ := gainO hS he ho
  rw [comp_is]
  refine ⟨_, hS', ?_⟩
  -- heap: q1 b
  refine GoH.v (Vop.mv rfl rfl rfl rfl) ?_
  refine GoH.v (Vop.ext rfl rfl rfl rfl rfl) ?_
  refine GoH.v (Vop.ext rfl rfl rfl rfl rfl) ?_
  refine GoH.v (Vop.asg rfl rfl rfl rfl) ?_
  refine GoH.v (Vop.asg rfl rfl rfl rfl) ?_
  refine GoH.regionEnd ?_
  refine GoH.seq ?_
  refine GoH.region ?_
  refine GoH.v (Vop.mv rfl rfl rfl rfl) ?_
  refine GoH.callM _ rfl rfl rfl rfl rfl (fun _ _ => Tryd.call26 _ _) (fun w _ hS => converse_c (some ⟨b, 0, none⟩) 3 r0 w (hT.ex hS.ext) (sluAt (q := some b) (xs := r0) (sp := []) (c := 3) hS 1 rfl (fun h => by cases h)) (by decide)) ?_
  rintro v w1 w2 Y' hS he ⟨sv, rfl, ho⟩
  rw [conv_is] at ho
  obtain ⟨q2, cap2, sp2, rfl, hq2, hcap2, hS'⟩ := gainO hS he ho
  rw [conv_is]
  refine ⟨_, hS', ?_⟩
  -- heap: q2 q1 b
  refine GoH.v (Vop.mv rfl rfl rfl rfl) ?_
  refine GoH.v (Vop.ext rfl rfl rfl rfl rfl) ?_
  refine GoH.v (Vop.ext rfl rfl rfl rfl rfl) ?_
  refine GoH.v (Vop.asg rfl rfl rfl rfl) ?_
  refine GoH.v (Vop.asg rfl rfl rfl rfl) ?_
  refine GoH.regionEnd ?_
  refine GoH.seq ?_
  refine GoH.region ?_
  refine GoH.v (Vop.mv rfl rfl rfl rfl) ?_
  refine GoH.callM _ rfl rfl rfl rfl rfl (fun _ _ => Tryd.call41 _ _) (fun w _ hS => transitive_c (some ⟨b, 0, none⟩) 3 r0 w (hT.ex hS.ext) (sluAt (q := some b) (xs := r0) (sp := []) (c := 3) hS 2 rfl (fun h => by cases h)) (by decide) (by decide)) ?_
  rintro v w1 w2 Y' hS he ⟨p, ⟨sv, rfl, ho⟩, hg⟩
  obtain rfl := tran_r0 hg
  obtain ⟨q3, cap3, sp3, rfl, hq3, hcap3, hS'⟩ := gainO hS he ho
  refine ⟨_, hS', ?_⟩
  -- heap: q3 q2 q1 b
  refine GoH.v (Vop.mv rfl rfl rfl rfl) ?_
  refine GoH.v (Vop.ext rfl rfl rfl rfl rfl) ?_
  refine GoH.v (Vop.ext rfl rfl rfl rfl rfl) ?_
  refine GoH.v (Vop.asg rfl rfl rfl rfl) ?_
  refine GoH.v (Vop.asg rfl rfl rfl rfl) ?_
  refine GoH.regionEnd ?_
  refine GoH.seq ?_
  refine GoH.region ?_
  refine GoH.v (Vop.mv rfl rfl rfl rfl) ?_
  refine GoH.callM _ rfl rfl rfl rfl rfl (fun _ _ => Tryd.call42 _ _) (fun w _ hS => euclidean_c (some ⟨b, 0, none⟩) 3 r0 w (hT.ex hS.ext) (sluAt (q := some b) (xs := r0) (sp := []) (c := 3) hS 3 rfl (fun h => by cases h)) (by decide) (by decide)) ?_
  rintro v w1 w2 Y' hS he ⟨p, ⟨sv, rfl, ho⟩, hg⟩
  obtain rfl := eucl_r0 hg
  obtain ⟨q4, cap4, sp4, rfl, hq4, hcap4, hS'⟩ := gainO hS he ho
  refine ⟨_, hS', ?_⟩
  -- heap: q4 q3 q2 q1 b
  refine GoH.v (Vop.mv rfl rfl rfl rfl) ?_
  refine GoH.v (Vop.ext rfl rfl rfl rfl rfl) ?_
  refine GoH.v (Vop.ext rfl rfl rfl rfl rfl) ?_
  refine GoH.v (Vop.asg rfl rfl rfl rfl) ?_
  refine GoH.v (Vop.asg rfl rfl rfl rfl) ?_
  refine GoH.regionEnd ?_
  refine GoH.seq ?_
  refine GoH.region ?_
  refine GoH.v (Vop.mv rfl rfl rfl rfl) ?_
  refine GoH.callM _ rfl rfl rfl rfl rfl (fun _ _ => Tryd.call43 _ _) (fun w _ hS => symmetric_c (some ⟨b, 0, none⟩) 3 r0 w (hT.ex hS.ext) (sluAt (q := some b) (xs := r0) (sp := []) (c := 3) hS 4 rfl (fun h => by cases h)) (by decide) (by decide)) ?_
  rintro v w1 w2 Y' hS he ⟨p, ⟨sv, rfl, ho⟩, hg⟩
  obtain rfl := symm_r0 hg
  obtain ⟨q5, cap5, sp5, rfl, hq5, hcap5, hS'⟩ := gainO hS he ho
  refine ⟨_, hS', ?_⟩
  -- heap: q5 q4 q3 q2 q1 b
  refine GoH.v (Vop.mv rfl rfl rfl rfl) ?_
  refine GoH.v (Vop.ext rfl rfl rfl rfl rfl) ?_
  refine GoH.v (Vop.ext rfl rfl rfl rfl rfl) ?_
  refine GoH.v (Vop.asg rfl rfl rfl rfl) ?_
  refine GoH.v (Vop.asg rfl rfl rfl rfl) ?_
  refine GoH.regionEnd ?_
  refine GoH.seq ?_
  refine GoH.region ?_
  refine GoH.v (Vop.mv rfl rfl rfl rfl) ?_
  refine GoH.callM _ rfl rfl rfl rfl rfl (fun _ _ => Tryd.call23 _ _) (fun w _ hS => path_c (some ⟨b, 0, none⟩) 3 r0 1#64 4#64 w (hT.ex hS.ext) (sluAt (q := some b) (xs := r0) (sp := []) (c := 3) hS 5 rfl (fun h => by cases h)) (by decide)) ?_
  rintro v w1 w2 Y' hS he ⟨p, ho, hp⟩
  obtain rfl := path_r0 hp
  obtain ⟨q6, cap6, sp6, rfl, hq6, hcap6, hS'⟩ := gainI hS he ho
  obtain ⟨b6, rfl⟩ : ∃ b6, q6 = some b6 := by
    cases q6 with
    | none => exact absurd (hq6 rfl).1 (by decide)
    | some b6 => exact ⟨b6, rfl⟩
  refine ⟨_, hS', ?_⟩
  -- heap: b6 q5 q4 q3 q2 q1 b
  refine GoH.v (Vop.asg rfl rfl rfl rfl) ?_
  refine GoH.regionEnd ?_
  refine GoH.seq ?_
  refine GoH.seq ?_
  refine GoH.region ?_
  refine GoH.v (Vop.mv rfl rfl rfl rfl) ?_
  refine GoH.v (Vop.mv rfl rfl rfl rfl) ?_
  refine GoH.v (Vop.bin rfl rfl rfl rfl (bAddE (c := 0) rfl (by decide)) rfl) ?_
  refine GoH.v (Vop.mv rfl rfl rfl rfl) ?_
  refine GoH.v (Vop.bin rfl rfl rfl rfl (bAddE (c := 0) rfl (by decide)) rfl) ?_
  refine GoH.v (Vop.mv rfl rfl rfl rfl) ?_
  refine GoH.v (Vop.bin rfl rfl rfl rfl (bAddE (c := 0) rfl (by decide)) rfl) ?_
  refine GoH.v (Vop.mv rfl rfl rfl rfl) ?_
  refine GoH.v (Vop.bin rfl rfl rfl rfl (bAddE (c := 0) rfl (by decide)) rfl) ?_
  refine GoH.v (Vop.bin rfl rfl rfl rfl (bNeV (v := false) rfl) rfl) ?_
  refine GoH.v (Vop.mv rfl rfl rfl rfl) ?_
  refine GoH.v (Vop.mv rfl rfl rfl rfl) ?_
  refine GoH.v (Vop.blt rfl rfl rfl (blt_len_slice Tryd.underlying30) rfl) ?_
  refine GoH.v (Vop.bin rfl rfl rfl rfl (bNeV (v := false) rfl) rfl) ?_
  refine GoH.v (Vop.pickF rfl rfl rfl rfl rfl) ?_
  refine GoH.v (Vop.mv rfl rfl rfl rfl) ?_
  refine GoH.v (Vop.mv rfl rfl rfl rfl) ?_
  refine GoH.v (Vop.idxS rfl rfl rfl rfl rfl Tryd.underlying30 Tryd.sizeOf3 (0) ⟨rfl, (by decide)⟩) ?_
  refine GoH.v (Vop.ldE N64 0 rfl rfl rfl rfl Tryd.isAgg3 0 rfl (by decide)) ?_
  refine GoH.v (Vop.bin rfl rfl rfl rfl (bNeV (v := false) rfl) rfl) ?_
  refine GoH.v (Vop.pickF rfl rfl rfl rfl rfl) ?_
  refine GoH.v (Vop.mv rfl rfl rfl rfl) ?_
  refine GoH.v (Vop.mv rfl rfl rfl rfl) ?_
  refine GoH.v (Vop.idxS rfl rfl rfl rfl rfl Tryd.underlying30 Tryd.sizeOf3 (1) ⟨rfl, (by decide)⟩) ?_
  refine GoH.v (Vop.ldE N64 0 rfl rfl rfl rfl Tryd.isAgg3 0 rfl (by decide)) ?_
  refine GoH.v (Vop.bin rfl rfl rfl rfl (bNeV (v := false) rfl) rfl) ?_
  refine GoH.v (Vop.pickF rfl rfl rfl rfl rfl) ?_
  refine GoH.v (Vop.mv rfl rfl rfl rfl) ?_
  refine GoH.v (Vop.mv rfl rfl rfl rfl) ?_
  refine GoH.v (Vop.idxS rfl rfl rfl rfl rfl Tryd.underlying30 Tryd.sizeOf3 (2) ⟨rfl, (by decide)⟩) ?_
  refine GoH.v (Vop.ldE N64 0 rfl rfl rfl rfl Tryd.isAgg3 0 rfl (by decide)) ?_
  refine GoH.v (Vop.bin rfl rfl rfl rfl (bNeV (v := false) rfl) rfl) ?_
  refine GoH.v (Vop.pickF rfl rfl rfl rfl rfl) ?_
  refine GoH.v (Vop.mv rfl rfl rfl rfl) ?_
  refine GoH.v (Vop.mv rfl rfl rfl rfl) ?_
  refine GoH.callM _ rfl rfl rfl rfl rfl (fun _ _ => Tryd.call23 _ _) (fun w _ hS => path_c (some ⟨b, 0, none⟩) 3 r0 4#64 7#64 w (hT.ex hS.ext) (sluAt (q := some b) (xs := r0) (sp := []) (c := 3) hS 6 rfl (fun h => by cases h)) (by decide)) ?_
  rintro v w1 w2 Y' hS he ⟨p, ho, hp⟩
  obtain rfl := path_r0n hp
  obtain ⟨q7, cap7, sp7, rfl, hq7, hcap7, hS'⟩ := gainI hS he ho
  refine ⟨_, hS', ?_⟩
  -- heap: q7 b6 q5 q4 q3 q2 q1 b
  refine GoH.v (Vop.blt rfl rfl rfl (blt_len_slice Tryd.underlying30) rfl) ?_
  refine GoH.v (Vop.bin rfl rfl rfl rfl (bNeV (v := false) rfl) rfl) ?_
  refine GoH.v (Vop.pickF rfl rfl rfl rfl rfl) ?_
  refine GoH.regionEnd ?_
  refine GoH.condF rfl ?_
  refine GoH.skip ?_
  refine GoH.seq ?_
  refine GoH.region ?_
  refine GoH.v (Vop.mv rfl rfl rfl rfl) ?_
  refine GoH.bs3 (v0 := U 4#64) (v1 := U 0#64) (v2 := U 0#64) rfl rfl rfl rfl rfl rfl Tryd.underlying22 hi hz hsz rfl rfl rfl rfl (fun b82 => ?_)
  -- heap: b82 q7 b6 q5 q4 q3 q2 q1 b
  refine GoH.callP rfl rfl rfl rfl rfl (fun _ _ => Tryd.call44 _ _) (fun w _ hS => is_t (q1.map (fun b => ⟨b, 0, none⟩)) cap1 [4#64, 0#64, 0#64] (some ⟨b82, 0, none⟩) 3 w (sluAt (q := q1) hS 7 rfl hq1) (sluAt (q := some b82) (xs := [4#64, 0#64, 0#64]) (sp := []) (c := 3) hS 0 rfl (fun h => by cases h)) (by decide)) ?_
  refine GoH.v (Vop.mv rfl rfl rfl rfl) ?_
  refine GoH.v (Vop.mv rfl rfl rfl rfl) ?_
  refine GoH.bs3 (v0 := U 0#64) (v1 := U 1#64) (v2 := U 2#64) rfl rfl rfl rfl rfl rfl Tryd.underlying22 hi hz hsz rfl rfl rfl rfl (fun b86 => ?_)
  -- heap: b86 b82 q7 b6 q5 q4 q3 q2 q1 b
  refine GoH.callP rfl rfl rfl rfl rfl (fun _ _ => Tryd.call44 _ _) (fun w _ hS => is_t (q2.map (fun b => ⟨b, 0, none⟩)) cap2 [0#64, 1#64, 2#64] (some ⟨b86, 0, none⟩) 3 w (sluAt (q := q2) hS 7 rfl hq2) (sluAt (q := some b86) (xs := [0#64, 1#64, 2#64]) (sp := []) (c := 3) hS 0 rfl (fun h => by cases h)) (by decide)) ?_
  refine GoH.v (Vop.pickT rfl rfl rfl rfl rfl) ?_
  refine GoH.v (Vop.mv rfl rfl rfl rfl) ?_
  refine GoH.v (Vop.mv rfl rfl rfl rfl) ?_
  refine GoH.bs3 (v0 := U 6#64) (v1 := U 4#64) (v2 := U 0#64) rfl rfl rfl rfl rfl rfl Tryd.underlying22 hi hz hsz rfl rfl rfl rfl (fun b91 => ?_)
  -- heap: b91 b86 b82 q7 b6 q5 q4 q3 q2 q1 b
  refine GoH.callP rfl rfl rfl rfl rfl (fun _ _ => Tryd.call44 _ _) (fun w _ hS => is_t (q3.map (fun b => ⟨b, 0, none⟩)) cap3 [6#64, 4#64, 0#64] (some ⟨b91, 0, none⟩) 3 w (sluAt (q := q3) hS 7 rfl hq3) (sluAt (q := some b91) (xs := [6#64, 4#64, 0#64]) (sp := []) (c := 3) hS 0 rfl (fun h => by cases h)) (by decide)) ?_
  refine GoH.v (Vop.pickT rfl rfl rfl rfl rfl) ?_
  refine GoH.v (Vop.mv rfl rfl rfl rfl) ?_
  refine GoH.v (Vop.mv rfl rfl rfl rfl) ?_
  refine GoH.bs3 (v0 := U 2#64) (v1 := U 6#64) (v2 := U 6#64) rfl rfl rfl rfl rfl rfl Tryd.underlying22 hi hz hsz rfl rfl rfl rfl (fun b96 => ?_)
  -- heap: b96 b91 b86 b82 q7 b6 q5 q4 q3 q2 q1 b
  refine GoH.callP rfl rfl rfl rfl rfl (fun _ _ => Tryd.call44 _ _) (fun w _ hS => is_t (q4.map (fun b => ⟨b, 0, none⟩)) cap4 [2#64, 6#64, 6#64] (some ⟨b96, 0, none⟩) 3 w (sluAt (q := q4) hS 7 rfl hq4) (sluAt (q := some b96) (xs := [2#64, 6#64, 6#64]) (sp := []) (c := 3) hS 0 rfl (fun h => by cases h)) (by decide)) ?_
  refine GoH.v (Vop.pickT rfl rfl rfl rfl rfl) ?_
  refine GoH.v (Vop.mv rfl rfl rfl rfl) ?_
  refine GoH.v (Vop.mv rfl rfl rfl rfl) ?_
  refine GoH.bs3 (v0 := U 2#64) (v1 := U 5#64) (v2 := U 2#64) rfl rfl rfl rfl rfl rfl Tryd.underlying22 hi hz hsz rfl rfl rfl rfl (fun b101 => ?_)
  -- heap: b101 b96 b91 b86 b82 q7 b6 q5 q4 q3 q2 q1 b
  refine GoH.callP rfl rfl rfl rfl rfl (fun _ _ => Tryd.call44 _ _) (fun w _ hS => is_t (q5.map (fun b => ⟨b, 0, none⟩)) cap5 [2#64, 5#64, 2#64] (some ⟨b101, 0, none⟩) 3 w (sluAt (q := q5) hS 7 rfl hq5) (sluAt (q := some b101) (xs := [2#64, 5#64, 2#64]) (sp := []) (c := 3) hS 0 rfl (fun h => by cases h)) (by decide)) ?_
  refine GoH.v (Vop.pickT rfl rfl rfl rfl rfl) ?_
  refine GoH.v (Vop.mv rfl rfl rfl rfl) ?_
  refine GoH.v (Vop.mv rfl rfl rfl rfl) ?_
  refine GoH.callP rfl rfl rfl rfl rfl (fun _ _ => Tryd.call17 _ _) (fun w _ hS => box_c (some ⟨b, 0, none⟩) 3 r0 4#64 w (sluAt (q := some b) (xs := r0) (sp := []) (c := 3) hS 12 rfl (fun h => by cases h)) (by decide)) ?_
  refine GoH.v (Vop.bin (b := U 6#64) rfl rfl rfl rfl (bEqUV (v := true) (by rw [box_is]; rfl)) rfl) ?_
  refine GoH.v (Vop.pickT rfl rfl rfl rfl rfl) ?_
  refine GoH.v (Vop.mv rfl rfl rfl rfl) ?_
  refine GoH.v (Vop.mv rfl rfl rfl rfl) ?_
  refine GoH.callP rfl rfl rfl rfl rfl (fun _ _ => Tryd.call19 _ _) (fun w _ hS => diamond_c (some ⟨b, 0, none⟩) 3 r0 4#64 w (sluAt (q := some b) (xs := r0) (sp := []) (c := 3) hS 12 rfl (fun h => by cases h)) (by decide)) ?_
  refine GoH.v (Vop.bin (b := U 2#64) rfl rfl rfl rfl (bEqUV (v := true) (by rw [dia_is]; rfl)) rfl) ?_
  refine GoH.v (Vop.pickT rfl rfl rfl rfl rfl) ?_
  refine GoH.v (Vop.mv rfl rfl rfl rfl) ?_
  refine GoH.v (Vop.mv rfl rfl rfl rfl) ?_
  refine GoH.callM _ rfl rfl rfl rfl rfl (fun _ _ => Tryd.call21 _ _) (fun w _ hS => reach_c (some ⟨b, 0, none⟩) 3 r0 1#64 w (hT.ex hS.ext) (sluAt (q := some b) (xs := r0) (sp := []) (c := 3) hS 12 rfl (fun h => by cases h)) (by decide)) ?_
  rintro v w1 w2 Y' hS he ⟨o, rfl, ho⟩
  obtain rfl := reach_r0 ho
  refine ⟨_, hS.later he, ?_⟩
  refine GoH.v (Vop.bin (b := U 6#64) rfl rfl rfl rfl (bEqUV (v := true) rfl) rfl) ?_
  refine GoH.v (Vop.pickT rfl rfl rfl rfl rfl) ?_
  refine GoH.v (Vop.mv rfl rfl rfl rfl) ?_
  refine GoH.v (Vop.mv rfl rfl rfl rfl) ?_
  refine GoH.callP rfl rfl rfl rfl rfl (fun _ _ => Tryd.call13 _ _) (fun w _ hS => check_c 2 (some ⟨b, 0, none⟩) 3 r0 w (sluAt (q := some b) (xs := r0) (sp := []) (c := 3) hS 12 rfl (fun h => by cases h)) (by decide)) ?_
  refine GoH.v (Vop.bin rfl rfl rfl rfl (bEqV (v := true) (by decide)) rfl) ?_
  refine GoH.v (Vop.pickT rfl rfl rfl rfl rfl) ?_
  refine GoH.v (Vop.mv rfl rfl rfl rfl) ?_
  refine GoH.bs1 (v := U 2#64) rfl rfl rfl rfl Tryd.underlying22 hi hz hsz rfl rfl (fun b125 => ?_)
  -- heap: b125 b101 b96 b91 b86 b82 q7 b6 q5 q4 q3 q2 q1 b
  refine GoH.callP rfl rfl rfl rfl rfl (fun _ _ => Tryd.call13 _ _) (fun w _ hS => check_c 1 (some ⟨b125, 0, none⟩) 1 [2#64] w (sluAt (q := some b125) (xs := [2#64]) (sp := []) (c := 1) hS 0 rfl (fun h => by cases h)) (by decide)) ?_
  refine GoH.v (Vop.bin rfl rfl rfl rfl (bEqV (v := true) (by decide)) rfl) ?_
  refine GoH.v (Vop.pickT rfl rfl rfl rfl rfl) ?_
  refine GoH.v (Vop.mv rfl rfl rfl rfl) ?_
  refine GoH.v (Vop.mv rfl rfl rfl rfl) ?_
  refine GoH.callP rfl rfl rfl rfl rfl (fun _ _ => Tryd.call15 _ _) (fun w _ hS => has_c (q3.map (fun b => ⟨b, 0, none⟩)) cap3 [6#64, 4#64, 0#64] 4 w (hT.ex hS.ext) (sluAt (q := q3) hS 10 rfl hq3) (by decide)) ?_
  refine GoH.v (Vop.pickT rfl rfl rfl rfl rfl) ?_
  refine GoH.v (Vop.asg rfl rfl rfl rfl) ?_
  refine GoH.regionEnd ?_
  refine GoH.ret Tryd.f12 Tryd.func12 rfl (fun w' hS => ?_)
  exact ⟨hS.ext, congrArg Value.bool hasB_r0⟩
end Go.Proofs.YtoiafcoaeomnlaaDoor
