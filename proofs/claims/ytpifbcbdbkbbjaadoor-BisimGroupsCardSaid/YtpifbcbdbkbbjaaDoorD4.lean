/- Contracts of functions of the program: what each call returns and that nothing else of memory is turned, under the conditions that each theorem states. -/
import Derived.Test.YtpifbcbdbkbbjaaDoorD3
import Derived.Test.YtpifbcbdbkbbjaaDoorWF
namespace Go.Proofs.YtpifbcbdbkbbjaaDoor
open Go.RowKit Go.Proofs.Wit
/-! groups -/
theorem meet1_c (x y : W64) (w : World) : Cn Tryd.prog 68 [U x, U y] w (fun v _ => v = U (x &&& y)) := by
  refine Cn.of Tryd.func68 rfl rfl ?_
  refine GoH.seq ?_
  refine GoH.region ?_
  refine GoH.v (Vop.asg (v := U 0#64) rfl rfl rfl rfl) ?_
  refine GoH.regionEnd ?_
  refine GoH.seq ?_
  refine GoH.region ?_
  refine GoH.v (Vop.mv rfl rfl rfl rfl) ?_
  refine GoH.v (Vop.mv rfl rfl rfl rfl) ?_
  refine GoH.v (Vop.bin rfl rfl rfl rfl bAnd rfl) ?_
  refine GoH.v (Vop.asg rfl rfl rfl rfl) ?_
  refine GoH.regionEnd ?_
  refine GoH.ret Tryd.f68 Tryd.func68 rfl (fun w' hS => ?_)
  exact ⟨hS.ext, rfl⟩
theorem cloneRow_c (r : Row) (w : World) (hr : r.At w) (hl : r.xs.length ≤ 100000) : Cn Tryd.prog 78 [r.v] w (fun v w' => Own w w' v r.xs) := clone_c r.a r.cap r.xs w hr.at_ hl hr.cap
set_option maxRecDepth 4000 in
theorem gather_c (m : MV) (n g : Nat) (w : World) (hm : m.At w) (hv : ValM m.n m.val m.rel) (hn : m.n = (n : Int)) (hg : 1 ≤ g ∧ g < 2 ^ m.rows.length) :
    Cn Tryd.prog 67 [m.v, .int .i64 g, .func (.func 68) #[] #[]] w (fun v w' => Own w w' v (meetL n m.rel g)) := by
  have hn64 := hv.n64
  have hn1 := hv.n1
  have hag := hv.agents
  have hrl : m.rel.length = m.rows.length := by simp [MV.rel]
  have hp4 : (2 : Nat) ^ m.rows.length ≤ 2 ^ 4 := Nat.pow_le_pow_right (by decide) (by omega)
  have h16 : (2 : Nat) ^ 4 = 16 := by decide
  refine Cn.of Tryd.func67 rfl rfl ?_
  refine GoH.seq ?_
  refine GoH.region ?_
  refine GoH.bx rfl rfl rfl rfl (fun b3 => ?_)
  refine GoH.v (Vop.asg rfl rfl rfl rfl) ?_
  refine GoH.regionEnd ?_
  refine GoH.seq ?_
  refine GoH.seq ?_
  refine GoH.region ?_
  refine GoH.v (Vop.ldB rfl rfl rfl rfl Tryd.isAgg25 0 rfl Tryd.sizeOf25 rfl) ?_
  refine GoH.callP rfl rfl rfl rfl rfl (fun _ _ => Tryd.call31 _ _) (fun w _ hS => (by exact (mcheck_c m w (hm.ex0 hS.ext)).mono (fun v w' _ e => by rw [e, checkM_zero.2 hv]))) ?_
  refine GoH.v (Vop.bin rfl rfl rfl rfl (bNeV (v := false) rfl) rfl) ?_
  refine GoH.v (Vop.mv rfl rfl rfl rfl) ?_
  refine GoH.v (Vop.mv rfl rfl rfl rfl) ?_
  refine GoH.v (Vop.bin rfl rfl rfl rfl (bLtV (v := false) (decide_eq_false (by omega))) rfl) ?_
  refine GoH.v (Vop.pickF rfl rfl rfl rfl rfl) ?_
  refine GoH.v (Vop.mv rfl rfl rfl rfl) ?_
  refine GoH.v (Vop.mv rfl rfl rfl rfl) ?_
  refine GoH.v (Vop.fldP rfl rfl rfl rfl Tryd.underlying25 rfl (by exact Tryd.sizeOf23) 2 rfl) ?_
  refine GoH.v (Vop.ldo (v := .slice m.ra m.rows.length m.rc) rfl rfl rfl rfl Tryd.isAgg23 0 rfl rfl) ?_
  refine GoH.v (Vop.blt rfl rfl rfl (blt_len_slice Tryd.underlying23) rfl) ?_
  refine GoH.v (Vop.bin rfl rfl rfl rfl (bShlN (x := 1) (j := m.rows.length) rfl (by omega) (by omega)) rfl) ?_
  refine GoH.v (Vop.bin rfl rfl rfl rfl (bGeV (v := false) (decide_eq_false (by omega))) rfl) ?_
  refine GoH.v (Vop.pickF rfl rfl rfl rfl rfl) ?_
  refine GoH.regionEnd ?_
  refine GoH.condF rfl ?_
  refine GoH.skip ?_
  refine GoH.seq ?_
  refine GoH.region ?_
  refine GoH.v (Vop.asg rfl rfl rfl rfl) ?_
  refine GoH.regionEnd ?_
  refine GoH.seq ?_
  refine GoH.seq ?_
  refine GoH.region ?_
  refine GoH.v (Vop.fldP rfl rfl rfl rfl Tryd.underlying25 rfl (by exact Tryd.sizeOf23) 2 rfl) ?_
  refine GoH.v (Vop.ldo (v := .slice m.ra m.rows.length m.rc) rfl rfl rfl rfl Tryd.isAgg23 0 rfl rfl) ?_
  refine GoH.v (Vop.blt rfl rfl rfl (blt_len_slice Tryd.underlying23) rfl) ?_
  refine GoH.v (Vop.mv rfl rfl rfl rfl) ?_
  refine GoH.regionEnd ?_
  refine GoH.block ?_
  refine GoH.addNone (ob U 44 [] []) ?_
  refine GoH.loop (σ := Nat × Option Nat × Nat × List Value × List W64) (fun z => [(1, .int .i64 g), (2, .func (.func 68) #[] #[]), (7, osv z.2.1 z.2.2.2.2.length z.2.2.1), (27, .slice m.ra m.rows.length m.rc), (28, .int .i64 m.rows.length), (29, .int .i64 z.1)]) (fun z => [(z.2.1, ob U 44 z.2.2.2.2 z.2.2.2.1)])
    (fun z => z.1 ≤ m.rows.length ∧ (z.2.1 = none ∧ z.2.2.1 = 0 ∧ z.2.2.2.2 = [] ∧ (∀ a, a < z.1 → gb g a = 0) ∨ ∃ b, z.2.1 = some b ∧ z.2.2.2.2 = meetTo n m.rel g z.1 ∧ (z.2.2.2.2.map U ++ z.2.2.2.1).length = z.2.2.1)) (fun z => m.rows.length - z.1) (0, none, 0, [], [])
    ⟨Nat.zero_le _, .inl ⟨rfl, rfl, rfl, fun a ha => absurd ha (Nat.not_lt_zero _)⟩⟩ ⟨rfl, rfl, rfl, rfl, rfl, rfl, trivial⟩ (.cons_cons _ (.cons _ .slnil)) (fun z hI IH => ?_)
  obtain ⟨k, q, cap, sp, xs⟩ := z
  obtain ⟨hk, hcase⟩ := hI
  dsimp only at hk hcase IH ⊢
  -- heap: q
  refine GoH.seq ?_
  refine GoH.region ?_
  refine GoH.v (Vop.bin rfl rfl rfl rfl bLt rfl) ?_
  refine GoH.regionEnd ?_
  refine GoH.seq ?_
  refine GoH.cond rfl (fun hc => ?_) (fun hc => ?_)
  · -- yes
    have hlt : k < m.rows.length := by simpa using hc
    have hrow := hm.row m.rows[k] (List.getElem_mem hlt)
    have hrm : m.rows[k].xs ∈ m.rel := List.mem_map.2 ⟨_, List.getElem_mem hlt, rfl⟩
    have hrv := hv.rels _ hrm
    have hrn : m.rows[k].xs.length = n := by have := hv.len _ hrm; omega
    have hrd : m.rel.getD k [] = m.rows[k].xs := relD hlt
    refine GoH.skip ?_
    refine GoH.seq ?_
    refine GoH.block ?_
    refine GoH.seq ?_
    refine GoH.region ?_
    refine GoH.v (Vop.mv rfl rfl rfl rfl) ?_
    refine GoH.v (Vop.idx rfl rfl rfl rfl rfl Tryd.underlying23 Tryd.sizeOf22 ⟨_, hm.rel⟩ (by simp) (k) ⟨rfl, by simpa using hlt⟩) ?_
    refine GoH.v (Vop.ld rfl rfl rfl rfl Tryd.isAgg22 (fun w _ hS => (SlR.ex0 hm.rel hS.ext).at (k) hlt)) ?_
    refine GoH.v (Vop.asg rfl rfl rfl rfl) ?_
    refine GoH.v (Vop.asg rfl rfl rfl rfl) ?_
    refine GoH.regionEnd ?_
    refine GoH.seq ?_
    refine GoH.seq ?_
    refine GoH.region ?_
    refine GoH.v (Vop.mv rfl rfl rfl rfl) ?_
    refine GoH.v (Vop.mv rfl rfl rfl rfl) ?_
    refine GoH.v (Vop.bin rfl rfl rfl rfl (bShrN (j := k) rfl (by omega) (by omega)) rfl) ?_
    refine GoH.v (Vop.bin rfl rfl rfl rfl (bAnd1N (by have : g / 2 ^ k ≤ g := Nat.div_le_self _ _; omega)) rfl) ?_
    refine GoH.v (Vop.bin rfl rfl rfl rfl bEq rfl) ?_
    refine GoH.regionEnd ?_
    refine GoH.cond rfl (fun hc => ?_) (fun hc => ?_)
    · -- yes
      have hb0 : gb g k = 0 := Int.ofNat_inj.1 (show ((gb g k : Nat) : Int) = ((0 : Nat) : Int) from beq_iff_eq.1 hc)
      refine GoH.exit rfl ?_
      refine GoH.region ?_
      refine GoH.v (Vop.bin rfl rfl rfl rfl (bAdd (by omega)) rfl) ?_
      refine GoH.v (Vop.mv rfl rfl rfl rfl) ?_
      refine GoH.regionEnd ?_
      refine IH (k + 1, q, cap, sp, xs) _ _ ⟨hlt, ?_⟩ (by dsimp only; omega) ⟨rfl, rfl, rfl, rfl, rfl, rfl, trivial⟩ (List.Sublist.refl _)
      rcases hcase with ⟨h1, h2, h3, h4⟩ | ⟨b, h1, h2, h3⟩
      · exact .inl ⟨h1, h2, h3, fun a ha => by
          rcases Nat.lt_succ_iff_lt_or_eq.1 ha with ha | rfl
          · exact h4 a ha
          · exact hb0⟩
      · exact .inr ⟨b, h1, by rw [meetTo_skip hb0]; exact h2, h3⟩
    · -- no
      have hb1 : gb g k = 1 := by
        rcases gb_cases g k with h | h
        · exact absurd (show ((gb g k : Nat) : Int) = 0 by rw [h]; rfl) (beq_eq_false_iff_ne.1 hc)
        · exact h
      refine GoH.skip ?_
      refine GoH.seq ?_
      refine GoH.seq ?_
      refine GoH.region ?_
      refine GoH.v (Vop.mv rfl rfl rfl rfl) ?_
      refine GoH.v (Vop.bin rfl rfl rfl rfl (bSlNil Tryd.underlying22) rfl) ?_
      refine GoH.regionEnd ?_
      refine GoH.cond rfl (fun hc => ?_) (fun hc => ?_)
      · -- yes
        obtain ⟨rfl, rfl, rfl, hno⟩ : q = none ∧ cap = 0 ∧ xs = [] ∧ ∀ a, a < k → gb g a = 0 := by
          rcases hcase with h | ⟨b, rfl, _⟩
          · exact h
          · cases hc
        refine GoH.seq ?_
        refine GoH.region ?_
        refine GoH.v (Vop.mv rfl rfl rfl rfl) ?_
        refine GoH.callM _ rfl rfl rfl rfl rfl (fun _ _ => Tryd.call78 _ _) (fun w _ hS => cloneRow_c m.rows[k] w (hrow.ex0 hS.ext) (by omega)) ?_
        rintro v w1 w2 Y' hS he ho
        obtain ⟨q2, cap2, sp2, rfl, hq2, hcap2, hS'⟩ := gainO hS he ho
        obtain ⟨b2, rfl⟩ : ∃ b, q2 = some b := by
          cases q2 with
          | none => have := (hq2 rfl).1; omega
          | some b => exact ⟨b, rfl⟩
        refine ⟨_, hS', ?_⟩
        -- heap: b2 q
        refine GoH.v (Vop.asg rfl rfl rfl rfl) ?_
        refine GoH.regionEnd ?_
        refine GoH.exit rfl ?_
        refine GoH.region ?_
        refine GoH.v (Vop.bin rfl rfl rfl rfl (bAdd (by omega)) rfl) ?_
        refine GoH.v (Vop.mv rfl rfl rfl rfl) ?_
        refine GoH.regionEnd ?_
        exact IH (k + 1, some b2, cap2, sp2, m.rows[k].xs) _ _ ⟨hlt, .inr ⟨b2, rfl, (meetTo_first (by omega) hno hb1 hrd hrn hrv).symm, hcap2⟩⟩ (by dsimp only; omega) ⟨rfl, rfl, rfl, rfl, rfl, rfl, trivial⟩ (.cons_cons _ (.cons _ .slnil))
      · -- no
        obtain ⟨b, rfl, hxs, hcap⟩ : ∃ b, q = some b ∧ xs = meetTo n m.rel g k ∧ (xs.map U ++ sp).length = cap := by
          rcases hcase with ⟨rfl, _⟩ | h
          · cases hc
          · exact h
        have hxl : xs.length = n := by rw [hxs, meetTo_len]
        refine GoH.skip ?_
        refine GoH.seq ?_
        refine GoH.region ?_
        refine GoH.v (Vop.mv rfl rfl rfl rfl) ?_
        refine GoH.v (Vop.blt rfl rfl rfl (blt_len_slice Tryd.underlying22) rfl) ?_
        refine GoH.v (Vop.mv rfl rfl rfl rfl) ?_
        refine GoH.regionEnd ?_
        refine GoH.block ?_
        refine GoH.loop (σ := Nat) (fun j => [(1, .int .i64 g), (2, .func (.func 68) #[] #[]), (7, osv (some b) xs.length cap), (9, m.rows[k].v), (27, .slice m.ra m.rows.length m.rc), (28, .int .i64 m.rows.length), (29, .int .i64 k), (44, .int .i64 xs.length), (45, .int .i64 j)]) (fun j => [(some b, ob U 44 (flm (fun w x => x &&& m.rows[k].xs.getD w 0#64) xs j) sp)])
          (fun j => j ≤ xs.length) (fun j => xs.length - j) 0 (Nat.zero_le _) ⟨rfl, rfl, rfl, rfl, rfl, rfl, rfl, rfl, rfl, trivial⟩ (by rw [flm_zero]; exact List.Sublist.refl _) (fun j hj IH2 => ?_)
        -- heap: b
        refine GoH.seq ?_
        refine GoH.region ?_
        refine GoH.v (Vop.bin rfl rfl rfl rfl bLt rfl) ?_
        refine GoH.regionEnd ?_
        refine GoH.seq ?_
        refine GoH.cond rfl (fun hc => ?_) (fun hc => ?_)
        · -- yes
          have hjl : j < xs.length := by simpa using hc
          have hjr : j < m.rows[k].xs.length := by omega
          have hjf : j < (flm (fun w x => x &&& m.rows[k].xs.getD w 0#64) xs j).length := by rw [flm_length]; exact hjl
          refine GoH.skip ?_
          refine GoH.seq ?_
          refine GoH.block ?_
          refine GoH.seq ?_
          refine GoH.region ?_
          refine GoH.v (Vop.mv rfl rfl rfl rfl) ?_
          refine GoH.v (Vop.asg rfl rfl rfl rfl) ?_
          refine GoH.regionEnd ?_
          refine GoH.draw 13 mixed rfl ?_
          refine RdGo.v (Vop.mv rfl rfl rfl rfl) ?_
          refine RdGo.v (Vop.mv rfl rfl rfl rfl) ?_
          refine RdGo.v (Vop.mv rfl rfl rfl rfl) ?_
          refine RdGo.v (Vop.mv rfl rfl rfl rfl) ?_
          refine RdGo.v (Vop.mv rfl rfl rfl rfl) ?_
          refine RdGo.v (Vop.idxS rfl rfl rfl rfl rfl Tryd.underlying22 Tryd.sizeOf44 (j) ⟨rfl, hjl⟩) ?_
          refine RdGo.v (Vop.ldE U 0#64 rfl rfl rfl rfl Tryd.isAgg44 0 rfl hjf) ?_
          refine RdGo.v (Vop.mv rfl rfl rfl rfl) ?_
          refine RdGo.v (Vop.mv rfl rfl rfl rfl) ?_
          refine RdGo.v (Vop.idx rfl rfl rfl rfl rfl Tryd.underlying22 Tryd.sizeOf44 ⟨_, hrow.at_⟩ (by simp) (j) ⟨rfl, by simpa using hjr⟩) ?_
          refine RdGo.v (Vop.ld rfl rfl rfl rfl Tryd.isAgg44 (fun w _ hS => (SlU.ex0 hrow.at_ hS.ext).at (j) hjr)) ?_
          refine RdGo.callP rfl rfl rfl rfl rfl (fun _ _ => Tryd.call68 _ _) (fun w _ hS => meet1_c _ _ w) ?_
          refine RdGo.v (Vop.idxS rfl rfl rfl rfl rfl Tryd.underlying22 Tryd.sizeOf44 (j) ⟨rfl, hjl⟩) ?_
          refine RdGo.nil ?_
          refine GoH.stE U _ rfl rfl rfl rfl Tryd.sizeOf44 rfl 0 rfl hjf ?_
          refine GoH.regionEnd ?_
          refine GoH.inBlock ?_
          refine GoH.region ?_
          refine GoH.v (Vop.bin rfl rfl rfl rfl (bAdd (by omega)) rfl) ?_
          refine GoH.v (Vop.mv rfl rfl rfl rfl) ?_
          refine GoH.regionEnd ?_
          exact IH2 (j + 1) _ _ hjl (by omega) ⟨rfl, rfl, rfl, rfl, rfl, rfl, rfl, rfl, rfl, trivial⟩ (by rw [← flm_next hjl]; exact List.Sublist.refl _)
        · -- no
          have hge : ¬ j < xs.length := by simpa using hc
          obtain rfl : j = xs.length := by omega
          have hst : flm (fun w x => x &&& m.rows[k].xs.getD w 0#64) xs xs.length = meetTo n m.rel g (k + 1) := by rw [hxl, hxs]; exact meetTo_step hb1 hrd
          refine GoH.exit rfl ?_
          refine GoH.inBlock ?_
          refine GoH.region ?_
          refine GoH.v (Vop.bin rfl rfl rfl rfl (bAdd (by omega)) rfl) ?_
          refine GoH.v (Vop.mv rfl rfl rfl rfl) ?_
          refine GoH.regionEnd ?_
          exact IH (k + 1, some b, cap, sp, flm (fun w x => x &&& m.rows[k].xs.getD w 0#64) xs xs.length) _ _ ⟨hlt, .inr ⟨b, rfl, hst, by rw [← hcap]; simp [flm_length]⟩⟩ (by dsimp only; omega) ⟨rfl, rfl, (by rw [flm_length]; rfl), rfl, rfl, rfl, trivial⟩ (List.Sublist.refl _)
  · -- no
    have hge : ¬ k < m.rows.length := by simpa using hc
    obtain rfl : k = m.rows.length := by omega
    obtain ⟨b, rfl, hxs, hcap⟩ : ∃ b, q = some b ∧ xs = meetTo n m.rel g m.rows.length ∧ (xs.map U ++ sp).length = cap := by
      rcases hcase with ⟨_, _, _, h⟩ | h
      · exact absurd h (gb_some hg.1 hg.2)
      · exact h
    obtain rfl : xs = meetL n m.rel g := by rw [hxs, meetL, hrl]
    refine GoH.exit rfl ?_
    refine GoH.seq ?_
    refine GoH.region ?_
    refine GoH.v (Vop.mv rfl rfl rfl rfl) ?_
    refine GoH.v (Vop.asg rfl rfl rfl rfl) ?_
    refine GoH.regionEnd ?_
    refine GoH.ret Tryd.f67 Tryd.func67 rfl (fun w' hS => ?_)
    exact ⟨hS.ext, some b, cap, sp, rfl, (fun h => by cases h), hcap, fun b' hb => by cases hb; exact ⟨hS.fresh (j := 0) rfl, hS.get (j := 0) rfl⟩⟩
theorem meetM_c (m : MV) (n g : Nat) (w : World) (hm : m.At w) (hv : ValM m.n m.val m.rel) (hn : m.n = (n : Int)) (hg : 1 ≤ g ∧ g < 2 ^ m.rows.length) :
    Cn Tryd.prog 49 [m.v, .int .i64 g] w (fun v w' => Own w w' v (meetL n m.rel g)) := by
  refine Cn.of Tryd.func49 rfl rfl ?_
  refine GoH.seq ?_
  refine GoH.region ?_
  refine GoH.bx rfl rfl rfl rfl (fun b2 => ?_)
  refine GoH.v (Vop.asg rfl rfl rfl rfl) ?_
  refine GoH.regionEnd ?_
  refine GoH.seq ?_
  refine GoH.region ?_
  refine GoH.v (Vop.ldB rfl rfl rfl rfl Tryd.isAgg25 0 rfl Tryd.sizeOf25 rfl) ?_
  refine GoH.v (Vop.mv rfl rfl rfl rfl) ?_
  refine GoH.callM _ rfl rfl rfl rfl rfl (fun _ _ => Tryd.call67 _ _) (fun w _ hS => gather_c m n g w (hm.ex0 hS.ext) hv hn hg) ?_
  rintro v w1 w2 Y' hS he ho
  obtain ⟨q, cap, sp, rfl, hq, hcap, hS'⟩ := gainO hS he ho
  refine ⟨_, hS', ?_⟩
  refine GoH.v (Vop.asg rfl rfl rfl rfl) ?_
  refine GoH.regionEnd ?_
  refine GoH.ret Tryd.f49 Tryd.func49 rfl (fun w' hS => ?_)
  exact ⟨hS.ext, q, cap, sp, rfl, hq, hcap, fun b' hb => by subst hb; exact ⟨hS.fresh (j := 0) rfl, hS.get (j := 0) rfl⟩⟩
end Go.Proofs.YtpifbcbdbkbbjaaDoor
