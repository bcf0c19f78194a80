/- Contracts of functions of the program: what each call returns and that nothing else of memory is turned, under the conditions that each theorem states. -/
import Derived.Test.YtcljmlnnfdaljaaDoorS24
import Derived.Test.YtcljmlnnfdaljaaDoorS27
import Derived.Test.YtcljmlnnfdaljaaDoorS12
namespace Go.Proofs.YtcljmlnnfdaljaaDoor
open Go.RowKit Go.Proofs.Wit
/-! groups -/
theorem meet1_c (x y : W64) (w : World) : Cn Tryd.prog 71 [U x, U y] w (fun v _ => v = U (x &&& y)) := by
  refine Cn.of Tryd.func71 rfl rfl ?_
  refine GoH.seq ?_
  refine GoH.region ?_
  refine GoH.v (Vop.asg (v := U 0#64) rfl rfl rfl rfl) ?_
  refine GoH.regionEnd ?_
  refine GoH.seq ?_
  refine GoH.region ?_
  refine GoH.v (Vop.mv rfl rfl rfl rfl) ?_
  refine GoH.v (Vop.mv rfl rfl rfl rfl) ?_
  refine GoH.v (Vop.bin rfl rfl rfl rfl bAnd rfl) ?_
  refine GoH.v (Vop.asg rfl rfl rfl rfl) ?_
  refine GoH.regionEnd ?_
  refine GoH.ret Tryd.f71 Tryd.func71 rfl (fun w' hS => ?_)
  exact ⟨hS.ext, rfl⟩
theorem cloneRow_c (r : Row) (w : World) (hr : r.At w) (hl : r.xs.length ≤ 100000) : Cn Tryd.prog 90 [r.v] w (fun v w' => Own w w' v r.xs) := clone_c r.a r.cap r.xs w hr.at_ hl hr.cap
set_option maxRecDepth 4000 in
theorem gather_c (m : MV) (n g : Nat) (w : World) (hm : m.At w) (hv : ValM m.n m.val m.rel) (hn : m.n = (n : Int)) (hg : 1 ≤ g ∧ g < 2 ^ m.rows.length) :
    Cn Tryd.prog 70 [m.v, .int .i64 g, .func (.func 71) #[] #[]] w (fun v w' => Own w w' v (meetL n m.rel g)) := by
  have hn64 := hv.n64
  have hn1 := hv.n1
  have hag := hv.agents
  have hrl : m.rel.length = m.rows.length := by simp [MV.rel]
  have hp4 : (2 : Nat) ^ m.rows.length ≤ 2 ^ 4 := Nat.pow_le_pow_right (by decide) (by omega)
  have h16 : (2 : Nat) ^ 4 = 16 := by decide
  refine Cn.of Tryd.func70 rfl rfl ?_
  refine GoH.seq ?_
  refine GoH.region ?_
  refine GoH.bx rfl rfl rfl rfl (fun b3 => ?_)
  refine GoH.v (Vop.asg rfl rfl rfl rfl) ?_
  refine GoH.regionEnd ?_
  refine GoH.seq ?_
  refine GoH.seq ?_
  refine GoH.region ?_
  refine GoH.v (Vop.ldB rfl rfl rfl rfl Tryd.isAgg25 0 rfl Tryd.sizeOf25 rfl) ?_
  refine GoH.callP rfl rfl rfl rfl rfl (fun _ _ => Tryd.call35 _ _) (fun w _ hS => (by exact (mcheck_c m w (hm.ex0 hS.ext)).mono (fun v w' _ e => by rw [e, checkM_zero.2 hv]))) ?_
  refine GoH.v (Vop.bin rfl rfl rfl rfl (bNeV (v := false) rfl) rfl) ?_
  refine GoH.v (Vop.mv rfl rfl rfl rfl) ?_
  refine GoH.v (Vop.mv rfl rfl rfl rfl) ?_
  refine GoH.v (Vop.bin rfl rfl rfl rfl (bLtV (v := false) (decide_eq_false (by omega))) rfl) ?_
  refine GoH.v (Vop.pickF rfl rfl rfl rfl rfl) ?_
  refine GoH.v (Vop.mv rfl rfl rfl rfl) ?_
  refine GoH.v (Vop.mv rfl rfl rfl rfl) ?_
  refine GoH.v (Vop.fldP rfl rfl rfl rfl Tryd.underlying25 rfl (by exact Tryd.sizeOf23) 2 rfl) ?_
  refine GoH.v (Vop.ldo (v := .slice m.ra m.rows.length m.rc) rfl rfl rfl rfl Tryd.isAgg23 0 rfl rfl) ?_
  refine GoH.v (Vop.blt rfl rfl rfl (blt_len_slice Tryd.underlying23) rfl) ?_
  refine GoH.v (Vop.bin rfl rfl rfl rfl (bShlN (x := 1) (j := m.rows.length) rfl (by omega) (by omega)) rfl) ?_
  refine GoH.v (Vop.bin rfl rfl rfl rfl (bGeV (v := false) (decide_eq_false (by omega))) rfl) ?_
  refine GoH.v (Vop.pickF rfl rfl rfl rfl rfl) ?_
  refine GoH.regionEnd ?_
  refine GoH.condF rfl ?_
  refine GoH.skip ?_
  refine GoH.seq ?_
  refine GoH.region ?_
  refine GoH.v (Vop.asg rfl rfl rfl rfl) ?_
  refine GoH.regionEnd ?_
  refine GoH.seq ?_
  refine GoH.seq ?_
  refine GoH.region ?_
  refine GoH.v (Vop.fldP rfl rfl rfl rfl Tryd.underlying25 rfl (by exact Tryd.sizeOf23) 2 rfl) ?_
  refine GoH.v (Vop.ldo (v := .slice m.ra m.rows.length m.rc) rfl rfl rfl rfl Tryd.isAgg23 0 rfl rfl) ?_
  refine GoH.v (Vop.blt rfl rfl rfl (blt_len_slice Tryd.underlying23) rfl) ?_
  refine GoH.v (Vop.mv rfl rfl rfl rfl) ?_
  refine GoH.regionEnd ?_
  refine GoH.block ?_
  refine GoH.addNone (ob U 33 [] []) ?_
  refine GoH.loop (σ := Nat × Option Nat × Nat × List Value × List W64) (fun z => [(1, .int .i64 g), (2, .func (.func 71) #[] #[]), (7, osv z.2.1 z.2.2.2.2.length z.2.2.1), (27, .slice m.ra m.rows.length m.rc), (28, .int .i64 m.rows.length), (29, .int .i64 z.1)]) (fun z => [(z.2.1, ob U 33 z.2.2.2.2 z.2.2.2.1)])
    (fun z => z.1 ≤ m.rows.length ∧ (z.2.1 = none ∧ z.2.2.1 = 0 ∧ z.2.2.2.2 = [] ∧ (∀ a, a < z.1 → gb g a = 0) ∨ ∃ b, z.2.1 = some b ∧ z.2.2.2.2 = meetTo n m.rel g z.1 ∧ (z.2.2.2.2.map U ++ z.2.2.2.1).length = z.2.2.1)) (fun z => m.rows.length - z.1) (0, none, 0, [], [])
    ⟨Nat.zero_le _, .inl ⟨rfl, rfl, rfl, fun a ha => absurd ha (Nat.not_lt_zero _)⟩⟩ ⟨rfl, rfl, rfl, rfl, rfl, rfl, trivial⟩ (.cons_cons _ (.cons _ .slnil)) (fun z hI IH => ?_)
  obtain ⟨k, q, cap, sp, xs⟩ := z
  obtain ⟨hk, hcase⟩ := hI
  dsimp only at hk hcase IH ⊢
  -- heap: q
  refine GoH.seq ?_
  refine GoH.region ?_
  refine GoH.v (Vop.bin rfl rfl rfl rfl bLt rfl) ?_
  refine GoH.regionEnd ?_
  refine GoH.seq ?_
  refine GoH.cond rfl (fun hc => ?_) (fun hc => ?_)
  · -- yes
    have hlt : k < m.rows.length := by simpa using hc
    have hrow := hm.row m.rows[k] (List.getElem_mem hlt)
    have hrm : m.rows[k].xs ∈ m.rel := List.mem_map.2 ⟨_, List.getElem_mem hlt, rfl⟩
    have hrv := hv.rels _ hrm
    have hrn : m.rows[k].xs.length = n := by have := hv.len _ hrm; omega
    have hrd : m.rel.getD k [] = m.rows[k].xs := relD hlt
    refine GoH.skip ?_
    refine GoH.seq ?_
    refine GoH.block ?_
    refine GoH.seq ?_
    refine GoH.region ?_
    refine GoH.v (Vop.mv rfl rfl rfl rfl) ?_
    refine GoH.v (Vop.idx rfl rfl rfl rfl rfl Tryd.underlying23 Tryd.sizeOf22 ⟨_, hm.rel⟩ (by simp) (k) ⟨rfl, by simpa using hlt⟩) ?_
    refine GoH.v (Vop.ld rfl rfl rfl rfl Tryd.isAgg22 (fun w _ hS => (SlR.ex0 hm.rel hS.ext).at (k) hlt)) ?_
    refine GoH.v (Vop.asg rfl rfl rfl rfl) ?_
    refine GoH.v (Vop.asg rfl rfl rfl rfl) ?_
    refine GoH.regionEnd ?_
    refine GoH.seq ?_
    refine GoH.seq ?_
    refine GoH.region ?_
    refine GoH.v (Vop.mv rfl rfl rfl rfl) ?_
    refine GoH.v (Vop.mv rfl rfl rfl rfl) ?_
    refine GoH.v (Vop.bin rfl rfl rfl rfl (bShrN (j := k) rfl (by omega) (by omega)) rfl) ?_
    refine GoH.v (Vop.bin rfl rfl rfl rfl (bAnd1N (by have : g / 2 ^ k ≤ g := Nat.div_le_self _ _; omega)) rfl) ?_
    refine GoH.v (Vop.bin rfl rfl rfl rfl bEq rfl) ?_
    refine GoH.regionEnd ?_
    refine GoH.cond rfl (fun hc => ?_) (fun hc => ?_)
    · -- yes
      have hb0 : gb g k = 0 := Int.ofNat_inj.1 (show ((gb g k : Nat) : Int) = ((0 : Nat) : Int) from beq_iff_eq.1 hc)
      refine GoH.exit rfl ?_
      refine GoH.region ?_
      refine GoH.v (Vop.bin rfl rfl rfl rfl (bAdd (by omega)) rfl) ?_
      refine GoH.v (Vop.mv rfl rfl rfl rfl) ?_
      refine GoH.regionEnd ?_
      refine IH (k + 1, q, cap, sp, xs) _ _ ⟨hlt, ?_⟩ (by dsimp only; omega) ⟨rfl, rfl, rfl, rfl, rfl, rfl, trivial⟩ (List.Sublist.refl _)
      rcases hcase with ⟨h1, h2, h3, h4⟩ | ⟨b, h1, h2, h3⟩
      · exact .inl ⟨h1, h2, h3, fun a ha => by
          rcases Nat.lt_succ_iff_lt_or_eq.1 ha with ha | rfl
          · exact h4 a ha
          · exact hb0⟩
      · exact .inr ⟨b, h1, by rw [meetTo_skip hb0]; exact h2, h3⟩
    · -- no
      have hb1 : gb g k = 1 := by
        rcases gb_cases g k with h | h
        · exact absurd (show ((gb g k : Nat) : Int) = 0 by rw [h]; rfl) (beq_eq_false_iff_ne.1 hc)
        · exact h
      refine GoH.skip ?_
      refine GoH.seq ?_
      refine GoH.seq ?_
      refine GoH.region ?_
      refine GoH.v (Vop.mv rfl rfl rfl rfl) ?_
      refine GoH.v (Vop.bin rfl rfl rfl rfl (bSlNil Tryd.underlying22) rfl) ?_
      refine GoH.regionEnd ?_
      refine GoH.cond rfl (fun hc => ?_) (fun hc => ?_)
      · -- yes
        obtain ⟨rfl, rfl, rfl, hno⟩ : q = none ∧ cap = 0 ∧ xs = [] ∧ ∀ a, a < k → gb g a = 0 := by
          rcases hcase with h | ⟨b, rfl, _⟩
          · exact h
          · cases hc
        refine GoH.seq ?_
        refine GoH.region ?_
        refine GoH.v (Vop.mv rfl rfl rfl rfl) ?_
        refine GoH.callM _ rfl rfl rfl rfl rfl (fun _ _ => Tryd.call90 _ _) (fun w _ hS => cloneRow_c m.rows[k] w (hrow.ex0 hS.ext) (by omega)) ?_
        rintro v w1 w2 Y' hS he ho
        obtain ⟨q2, cap2, sp2, rfl, hq2, hcap2, hS'⟩ := gainO hS he ho
        obtain ⟨b2, rfl⟩ : ∃ b, q2 = some b := by
          cases q2 with
          | none => have := (hq2 rfl).1; omega
          | some b => exact ⟨b, rfl⟩
        refine ⟨_, hS', ?_⟩
        -- heap: b2 q
        refine GoH.v (Vop.asg rfl rfl rfl rfl) ?_
        refine GoH.regionEnd ?_
        refine GoH.exit rfl ?_
        refine GoH.region ?_
        refine GoH.v (Vop.bin rfl rfl rfl rfl (bAdd (by omega)) rfl) ?_
        refine GoH.v (Vop.mv rfl rfl rfl rfl) ?_
        refine GoH.regionEnd ?_
        exact IH (k + 1, some b2, cap2, sp2, m.rows[k].xs) _ _ ⟨hlt, .inr ⟨b2, rfl, (meetTo_first (by omega) hno hb1 hrd hrn hrv).symm, hcap2⟩⟩ (by dsimp only; omega) ⟨rfl, rfl, rfl, rfl, rfl, rfl, trivial⟩ (.cons_cons _ (.cons _ .slnil))
      · -- no
        obtain ⟨b, rfl, hxs, hcap⟩ : ∃ b, q = some b ∧ xs = meetTo n m.rel g k ∧ (xs.map U ++ sp).length = cap := by
          rcases hcase with ⟨rfl, _⟩ | h
          · cases hc
          · exact h
        have hxl : xs.length = n := by rw [hxs, meetTo_len]
        refine GoH.skip ?_
        refine GoH.seq ?_
        refine GoH.region ?_
        refine GoH.v (Vop.mv rfl rfl rfl rfl) ?_
        refine GoH.v (Vop.blt rfl rfl rfl (blt_len_slice Tryd.underlying22) rfl) ?_
        refine GoH.v (Vop.mv rfl rfl rfl rfl) ?_
        refine GoH.regionEnd ?_
        refine GoH.block ?_
        refine GoH.loop (σ := Nat) (fun j => [(1, .int .i64 g), (2, .func (.func 71) #[] #[]), (7, osv (some b) xs.length cap), (9, m.rows[k].v), (27, .slice m.ra m.rows.length m.rc), (28, .int .i64 m.rows.length), (29, .int .i64 k), (44, .int .i64 xs.length), (45, .int .i64 j)]) (fun j => [(some b, ob U 33 (flm (fun w x => x &&& m.rows[k].xs.getD w 0#64) xs j) sp)])
          (fun j => j ≤ xs.length) (fun j => xs.length - j) 0 (Nat.zero_le _) ⟨rfl, rfl, rfl, rfl, rfl, rfl, rfl, rfl, rfl, trivial⟩ (by rw [flm_zero]; exact List.Sublist.refl _) (fun j hj IH2 => ?_)
        -- heap: b
        refine GoH.seq ?_
        refine GoH.region ?_
        refine GoH.v (Vop.bin rfl rfl rfl rfl bLt rfl) ?_
        refine GoH.regionEnd ?_
        refine GoH.seq ?_
        refine GoH.cond rfl (fun hc => ?_) (fun hc => ?_)
        · -- yes
          have hjl : j < xs.length := by simpa using hc
          have hjr : j < m.rows[k].xs.length := by omega
          have hjf : j < (flm (fun w x => x &&& m.rows[k].xs.getD w 0#64) xs j).length := by rw [flm_length]; exact hjl
          refine GoH.skip ?_
          refine GoH.seq ?_
          refine GoH.block ?_
          refine GoH.seq ?_
          refine GoH.region ?_
          refine GoH.v (Vop.mv rfl rfl rfl rfl) ?_
          refine GoH.v (Vop.asg rfl rfl rfl rfl) ?_
          refine GoH.regionEnd ?_
          refine GoH.draw 13 mixed rfl ?_
          refine RdGo.v (Vop.mv rfl rfl rfl rfl) ?_
          refine RdGo.v (Vop.mv rfl rfl rfl rfl) ?_
          refine RdGo.v (Vop.mv rfl rfl rfl rfl) ?_
          refine RdGo.v (Vop.mv rfl rfl rfl rfl) ?_
          refine RdGo.v (Vop.mv rfl rfl rfl rfl) ?_
          refine RdGo.v (Vop.idxS rfl rfl rfl rfl rfl Tryd.underlying22 Tryd.sizeOf33 (j) ⟨rfl, hjl⟩) ?_
          refine RdGo.v (Vop.ldE U 0#64 rfl rfl rfl rfl Tryd.isAgg33 0 rfl hjf) ?_
          refine RdGo.v (Vop.mv rfl rfl rfl rfl) ?_
          refine RdGo.v (Vop.mv rfl rfl rfl rfl) ?_
          refine RdGo.v (Vop.idx rfl rfl rfl rfl rfl Tryd.underlying22 Tryd.sizeOf33 ⟨_, hrow.at_⟩ (by simp) (j) ⟨rfl, by simpa using hjr⟩) ?_
          refine RdGo.v (Vop.ld rfl rfl rfl rfl Tryd.isAgg33 (fun w _ hS => (SlU.ex0 hrow.at_ hS.ext).at (j) hjr)) ?_
          refine RdGo.callP rfl rfl rfl rfl rfl (fun _ _ => Tryd.call71 _ _) (fun w _ hS => meet1_c _ _ w) ?_
          refine RdGo.v (Vop.idxS rfl rfl rfl rfl rfl Tryd.underlying22 Tryd.sizeOf33 (j) ⟨rfl, hjl⟩) ?_
          refine RdGo.nil ?_
          refine GoH.stE U _ rfl rfl rfl rfl Tryd.sizeOf33 rfl 0 rfl hjf ?_
          refine GoH.regionEnd ?_
          refine GoH.inBlock ?_
          refine GoH.region ?_
          refine GoH.v (Vop.bin rfl rfl rfl rfl (bAdd (by omega)) rfl) ?_
          refine GoH.v (Vop.mv rfl rfl rfl rfl) ?_
          refine GoH.regionEnd ?_
          exact IH2 (j + 1) _ _ hjl (by omega) ⟨rfl, rfl, rfl, rfl, rfl, rfl, rfl, rfl, rfl, trivial⟩ (by rw [← flm_next hjl]; exact List.Sublist.refl _)
        · -- no
          have hge : ¬ j < xs.length := by simpa using hc
          obtain rfl : j = xs.length := by omega
          have hst : flm (fun w x => x &&& m.rows[k].xs.getD w 0#64) xs xs.length = meetTo n m.rel g (k + 1) := by rw [hxl, hxs]; exact meetTo_step hb1 hrd
          refine GoH.exit rfl ?_
          refine GoH.inBlock ?_
          refine GoH.region ?_
          refine GoH.v (Vop.bin rfl rfl rfl rfl (bAdd (by omega)) rfl) ?_
          refine GoH.v (Vop.mv rfl rfl rfl rfl) ?_
          refine GoH.regionEnd ?_
          exact IH (k + 1, some b, cap, sp, flm (fun w x => x &&& m.rows[k].xs.getD w 0#64) xs xs.length) _ _ ⟨hlt, .inr ⟨b, rfl, hst, by rw [← hcap]; simp [flm_length]⟩⟩ (by dsimp only; omega) ⟨rfl, rfl, (by rw [flm_length]; rfl), rfl, rfl, rfl, trivial⟩ (List.Sublist.refl _)
  · -- no
    have hge : ¬ k < m.rows.length := by simpa using hc
    obtain rfl : k = m.rows.length := by omega
    obtain ⟨b, rfl, hxs, hcap⟩ : ∃ b, q = some b ∧ xs = meetTo n m.rel g m.rows.length ∧ (xs.map U ++ sp).length = cap := by
      rcases hcase with ⟨_, _, _, h⟩ | h
      · exact absurd h (gb_some hg.1 hg.2)
      · exact h
    obtain rfl : xs = meetL n m.rel g := by rw [hxs, meetL, hrl]
    refine GoH.exit rfl ?_
    refine GoH.seq ?_
    refine GoH.region ?_
    refine GoH.v (Vop.mv rfl rfl rfl rfl) ?_
    refine GoH.v (Vop.asg rfl rfl rfl rfl) ?_
    refine GoH.regionEnd ?_
    refine GoH.ret Tryd.f70 Tryd.func70 rfl (fun w' hS => ?_)
    exact ⟨hS.ext, some b, cap, sp, rfl, (fun h => by cases h), hcap, fun b' hb => by cases hb; exact ⟨hS.fresh (j := 0) rfl, hS.get (j := 0) rfl⟩⟩
theorem meetM_c (m : MV) (n g : Nat) (w : World) (hm : m.At w) (hv : ValM m.n m.val m.rel) (hn : m.n = (n : Int)) (hg : 1 ≤ g ∧ g < 2 ^ m.rows.length) :
    Cn Tryd.prog 43 [m.v, .int .i64 g] w (fun v w' => Own w w' v (meetL n m.rel g)) := by
  refine Cn.of Tryd.func43 rfl rfl ?_
  refine GoH.seq ?_
  refine GoH.region ?_
  refine GoH.bx rfl rfl rfl rfl (fun b2 => ?_)
  refine GoH.v (Vop.asg rfl rfl rfl rfl) ?_
  refine GoH.regionEnd ?_
  refine GoH.seq ?_
  refine GoH.region ?_
  refine GoH.v (Vop.ldB rfl rfl rfl rfl Tryd.isAgg25 0 rfl Tryd.sizeOf25 rfl) ?_
  refine GoH.v (Vop.mv rfl rfl rfl rfl) ?_
  refine GoH.callM _ rfl rfl rfl rfl rfl (fun _ _ => Tryd.call70 _ _) (fun w _ hS => gather_c m n g w (hm.ex0 hS.ext) hv hn hg) ?_
  rintro v w1 w2 Y' hS he ho
  obtain ⟨q, cap, sp, rfl, hq, hcap, hS'⟩ := gainO hS he ho
  refine ⟨_, hS', ?_⟩
  refine GoH.v (Vop.asg rfl rfl rfl rfl) ?_
  refine GoH.regionEnd ?_
  refine GoH.ret Tryd.f43 Tryd.func43 rfl (fun w' hS => ?_)
  exact ⟨hS.ext, q, cap, sp, rfl, hq, hcap, fun b' hb => by subst hb; exact ⟨hS.fresh (j := 0) rfl, hS.get (j := 0) rfl⟩⟩
end Go.Proofs.YtcljmlnnfdaljaaDoor
namespace Go.Proofs.YtcljmlnnfdaljaaDoor
open Go.RowKit Go.Proofs.Wit
/-! the partition with groups -/
theorem infoS2 : (Tryd.prog.info? 22).map (fun i => (i.zero, i.size, i.bytes)) = some (some (Value.slice none 0 0), 1, 24) := by kernel_rfl
theorem cloneRows_c (a : Option Addr) (ca : Nat) (rows : List Row) (w : World) (ha : SlR w a rows) (hl : rows.length ≤ 1000) :
    Cn Tryd.prog 42 [.slice a rows.length ca] w (fun v w' => OwnS Row.v 22 w w' v rows) := by
  obtain ⟨i0, hi, hz, hsz, hby⟩ := info_parts infoS2
  refine Cn.of Tryd.func42 rfl rfl ?_
  refine GoH.seq ?_
  refine GoH.region ?_
  refine GoH.v (Vop.asg rfl rfl rfl rfl) ?_
  refine GoH.regionEnd ?_
  refine GoH.seq ?_
  refine GoH.seq ?_
  refine GoH.region ?_
  refine GoH.v (Vop.mv rfl rfl rfl rfl) ?_
  refine GoH.v (Vop.bin rfl rfl rfl rfl (bSlNil Tryd.underlying23) rfl) ?_
  refine GoH.regionEnd ?_
  refine GoH.cond rfl (fun hc => ?_) (fun hc => ?_)
  · -- yes
    obtain rfl : a = none := by simpa using hc
    have hx : rows = [] := by
      cases rows with
      | nil => rfl
      | cons r rs => obtain ⟨b, o, e, _⟩ := Sl.isSome ha (by simp); cases e
    subst hx
    refine GoH.seq ?_
    refine GoH.region ?_
    refine GoH.v (Vop.asg rfl rfl rfl rfl) ?_
    refine GoH.regionEnd ?_
    refine GoH.ret Tryd.f42 Tryd.func42 rfl (fun w' hS => ?_)
    exact ⟨hS.ext, OwnS.nil0⟩
  · -- no
    refine GoH.skip ?_
    refine GoH.seq ?_
    refine GoH.region ?_
    refine GoH.bs0 Row.v rfl rfl rfl Tryd.underlying23 hi (fun b => ?_)
    -- heap: b
    refine GoH.v (Vop.mv rfl rfl rfl rfl) ?_
    by_cases hx : rows.length = 0
    · obtain rfl : rows = [] := List.eq_nil_of_length_eq_zero hx
      refine GoH.v (Vop.blt rfl rfl rfl (blt_app0 Tryd.underlying23 hi (Nat.le_refl 0)) rfl) ?_
      refine GoH.v (Vop.asg rfl rfl rfl rfl) (GoH.regionEnd (GoH.ret Tryd.f42 Tryd.func42 rfl (fun w' hS => ?_)))
      exact ⟨hS.ext, OwnS.one hS 0 rfl rfl⟩
    refine GoH.appS Row.v rows rfl rfl rfl rfl rfl Tryd.underlying23 hi hz hsz rfl (fun h => by cases h) 0 rfl (fun w Y' hS => ha.ex0 hS.ext) rfl rfl (by omega) (fun _ => rfl) (by simp [maxLen]; omega) (by simp [hby]; omega) (fun b' sp' cap' hlen => ?_)
    rw [List.nil_append] at *
    refine GoH.v (Vop.asg rfl rfl rfl rfl) ?_
    refine GoH.regionEnd ?_
    refine GoH.ret Tryd.f42 Tryd.func42 rfl (fun w' hS => ?_)
    exact ⟨hS.ext, OwnS.mk hS 0 (q := some b') rfl rfl (fun e => by cases e) hlen⟩
set_option maxRecDepth 4000 in
theorem withGroups_c (m : MV) (a : Option Addr) (ca : Nat) (gs : List Int) (w : World) (hT : Tab w) (hm : m.At w) (ha : SlI w a gs) (hgl : gs.length ≤ maxLen) :
    Cn Tryd.prog 19 [m.v, .slice a gs.length ca] w (fun v w' => ∃ sv, v = .tuple #[sv, .int .i64 (grpE m.n m.val m.rel gs)] ∧ OwnS I64 3 w w' sv (grpP m.n m.val m.rel gs)) := by
  obtain ⟨i0, hi, hz, hsz, hby⟩ := info_parts infoS2
  unfold maxLen at hgl
  refine Cn.of Tryd.func19 rfl rfl ?_
  refine GoH.seq ?_
  refine GoH.region ?_
  refine GoH.bx rfl rfl rfl rfl (fun b2 => ?_)
  refine GoH.v (Vop.asg rfl rfl rfl rfl) ?_
  refine GoH.v (Vop.asg rfl rfl rfl rfl) ?_
  refine GoH.regionEnd ?_
  refine GoH.seq ?_
  refine GoH.seq ?_
  refine GoH.region ?_
  refine GoH.v (Vop.ldB rfl rfl rfl rfl Tryd.isAgg25 0 rfl Tryd.sizeOf25 rfl) ?_
  refine GoH.callP rfl rfl rfl rfl rfl (fun _ _ => Tryd.call35 _ _) (fun w _ hS => (by exact mcheck_c m w (hm.ex0 hS.ext))) ?_
  refine GoH.v (Vop.asg rfl rfl rfl rfl) ?_
  refine GoH.regionEnd ?_
  refine GoH.seq ?_
  refine GoH.region ?_
  refine GoH.v (Vop.mv rfl rfl rfl rfl) ?_
  refine GoH.v (Vop.bin rfl rfl rfl rfl bNe rfl) ?_
  refine GoH.regionEnd ?_
  refine GoH.cond rfl (fun hc => ?_) (fun hc => ?_)
  · -- yes
    have h1 : checkM m.n m.val m.rel ≠ 0 := by simpa using hc
    have h2 : grpE m.n m.val m.rel gs = checkM m.n m.val m.rel := if_pos h1
    refine GoH.seq ?_
    refine GoH.region ?_
    refine GoH.v (Vop.mv rfl rfl rfl rfl) ?_
    refine GoH.v (Vop.asg rfl rfl rfl rfl) ?_
    refine GoH.v (Vop.asg rfl rfl rfl rfl) ?_
    refine GoH.regionEnd ?_
    refine GoH.ret Tryd.f19 Tryd.func19 rfl (fun w' hS => ?_)
    exact ⟨hS.ext, _, by rw [h2]; rfl, by rw [grpP_bad (by rw [h2]; exact h1)]; exact OwnS.nil0⟩
  · -- no
    have h1 : checkM m.n m.val m.rel = 0 := by simpa using hc
    have hv := checkM_zero.1 h1
    obtain ⟨n, hn⟩ : ∃ n : Nat, m.n = n := ⟨m.n.toNat, by have := hv.n1; omega⟩
    have hn64 := hv.n64
    have hag := hv.agents
    have hrl : m.rel.length = m.rows.length := by simp [MV.rel]
    have hp4 : (2 : Nat) ^ m.rows.length ≤ 2 ^ 4 := Nat.pow_le_pow_right (by decide) (by omega)
    have h16 : (2 : Nat) ^ 4 = 16 := by decide
    refine GoH.skip ?_
    refine GoH.seq ?_
    refine GoH.seq ?_
    refine GoH.region ?_
    refine GoH.v (Vop.mv rfl rfl rfl rfl) ?_
    refine GoH.v (Vop.blt rfl rfl rfl (blt_len_slice Tryd.underlying36) rfl) ?_
    refine GoH.v (Vop.bin rfl rfl rfl rfl bGt rfl) ?_
    refine GoH.regionEnd ?_
    refine GoH.cond rfl (fun hc => ?_) (fun hc => ?_)
    · -- yes
      have h3 : 15 < gs.length := by simp at hc; omega
      have h2 : grpE m.n m.val m.rel gs = 8 := by rw [grpE, if_neg (by simp [h1]), if_pos h3]
      refine GoH.seq ?_
      refine GoH.region ?_
      refine GoH.v (Vop.asg rfl rfl rfl rfl) ?_
      refine GoH.v (Vop.asg rfl rfl rfl rfl) ?_
      refine GoH.regionEnd ?_
      refine GoH.ret Tryd.f19 Tryd.func19 rfl (fun w' hS => ?_)
      exact ⟨hS.ext, _, by rw [h2]; rfl, by rw [grpP_bad (by rw [h2]; decide)]; exact OwnS.nil0⟩
    · -- no
      have h3 : ¬ 15 < gs.length := by simp at hc; omega
      refine GoH.skip ?_
      refine GoH.seq ?_
      refine GoH.region ?_
      refine GoH.v (Vop.fldP rfl rfl rfl rfl Tryd.underlying25 rfl (by exact Tryd.sizeOf23) 2 rfl) ?_
      refine GoH.v (Vop.ldo (v := .slice m.ra m.rows.length m.rc) rfl rfl rfl rfl Tryd.isAgg23 0 rfl rfl) ?_
      refine GoH.callM _ rfl rfl rfl rfl rfl (fun _ _ => Tryd.call42 _ _) (fun w _ hS => cloneRows_c m.ra m.rc m.rows w (hm.rel.ex0 hS.ext) (by omega)) ?_
      rintro v w1 w2 Y' hS he ho
      obtain ⟨q0, cap0, sp0, rfl, hq0, hcap0, hS'⟩ := gainS hS he ho
      refine ⟨_, hS', ?_⟩
      -- heap: q0 b2
      refine GoH.v (Vop.asg rfl rfl rfl rfl) ?_
      refine GoH.regionEnd ?_
      refine GoH.seq ?_
      refine GoH.seq ?_
      refine GoH.region ?_
      refine GoH.v (Vop.mv rfl rfl rfl rfl) ?_
      refine GoH.v (Vop.blt rfl rfl rfl (blt_len_slice Tryd.underlying36) rfl) ?_
      refine GoH.v (Vop.mv rfl rfl rfl rfl) ?_
      refine GoH.regionEnd ?_
      refine GoH.block ?_
      refine GoH.loop (σ := Nat × List Row × Option Nat × Nat × List Value × Hl) (fun z => [(2, .pointer (some ⟨b2, 0, none⟩)), (7, osv z.2.2.1 (m.rows ++ z.2.1).length z.2.2.2.1), (23, .slice a gs.length ca), (24, .int .i64 gs.length), (25, .int .i64 z.1)])
        (fun z => [(z.2.2.1, ob Row.v 22 (m.rows ++ z.2.1) z.2.2.2.2.1), (some b2, .cells m.v.cells 25 (0, 0))] ++ z.2.2.2.2.2)
        (fun z => z.1 ≤ gs.length ∧ z.2.1.length = z.1 ∧ (z.2.2.1 = none → (m.rows ++ z.2.1).length = 0 ∧ z.2.2.2.1 = 0) ∧ ((m.rows ++ z.2.1).map Row.v ++ z.2.2.2.2.1).length = z.2.2.2.1 ∧ (∀ r ∈ z.2.1, InS U z.2.2.2.2.2 r.a r.xs ∧ r.xs.length ≤ maxLen ∧ r.xs.length ≤ r.cap) ∧
          z.2.1.map Row.xs = grpR n m.rel (gs.take z.1) ∧ ∀ (i : Nat) (hi : i < gs.length), i < z.1 → 1 ≤ gs[i] ∧ gs[i] < (2 ^ m.rel.length : Nat)) (fun z => gs.length - z.1) (0, [], q0, cap0, sp0, [])
        ⟨Nat.zero_le _, rfl, by rw [List.append_nil]; exact hq0, by rw [List.append_nil]; exact hcap0, by simp, rfl, fun i _ hi => absurd hi (Nat.not_lt_zero _)⟩ ⟨rfl, (by rw [List.append_nil]; rfl), rfl, rfl, rfl, trivial⟩ (by rw [List.append_nil, List.append_nil]; exact List.Sublist.refl _) (fun z hI IH => ?_)
      obtain ⟨k, ex, q, cap, sp, HR⟩ := z
      obtain ⟨hk, hel, hq, hcap, hex, hxs, hok⟩ := hI
      dsimp only at hk hel hq hcap hex hxs hok IH ⊢
      have hml : (m.rows ++ ex).length = m.rows.length + k := by rw [List.length_append, hel]
      -- heap: q b2
      -- ptr: 2=b2
      refine GoH.seq ?_
      refine GoH.region ?_
      refine GoH.v (Vop.bin rfl rfl rfl rfl bLt rfl) ?_
      refine GoH.regionEnd ?_
      refine GoH.seq ?_
      refine GoH.cond rfl (fun hc => ?_) (fun hc => ?_)
      · -- yes
        have hlt : k < gs.length := by simpa using hc
        refine GoH.skip ?_
        refine GoH.seq ?_
        refine GoH.block ?_
        refine GoH.seq ?_
        refine GoH.region ?_
        refine GoH.v (Vop.idx rfl rfl rfl rfl rfl Tryd.underlying36 Tryd.sizeOf3 ⟨_, ha⟩ (by simp) (k) ⟨rfl, by simpa using hlt⟩) ?_
        refine GoH.v (Vop.ld rfl rfl rfl rfl Tryd.isAgg3 (fun w _ hS => (SlI.ex0 ha hS.ext).at (k) hlt)) ?_
        refine GoH.v (Vop.asg rfl rfl rfl rfl) ?_
        refine GoH.regionEnd ?_
        refine GoH.seq ?_
        refine GoH.seq ?_
        refine GoH.region ?_
        refine GoH.v (Vop.mv rfl rfl rfl rfl) ?_
        refine GoH.v (Vop.bin rfl rfl rfl rfl bLt rfl) ?_
        refine GoH.v (Vop.mv rfl rfl rfl rfl) ?_
        -- guard on slot 31 (bisim.go:122)
        refine GoH.cases (d := 31) rfl (fun hc => ?_) (fun hc => ?_)
        · -- yes
          have hb : gs[k] < 1 := by simpa using hc
          have h2 : grpE m.n m.val m.rel gs = 2 := by rw [grpE, if_neg (by simp [h1]), if_neg h3, if_pos (gbad_hit hlt (.inl hb))]
          refine GoH.no rfl rfl rfl rfl ?_
          refine GoH.no rfl rfl rfl rfl ?_
          refine GoH.no rfl rfl rfl rfl ?_
          refine GoH.no rfl rfl rfl rfl ?_
          refine GoH.no rfl rfl rfl rfl ?_
          refine GoH.no rfl rfl rfl rfl ?_
          refine GoH.v (Vop.pickT rfl rfl rfl rfl rfl) ?_
          refine GoH.regionEnd ?_
          refine GoH.condT rfl ?_
          refine GoH.seq ?_
          refine GoH.region ?_
          refine GoH.v (Vop.asg rfl rfl rfl rfl) ?_
          refine GoH.v (Vop.asg rfl rfl rfl rfl) ?_
          refine GoH.regionEnd ?_
          refine GoH.ret Tryd.f19 Tryd.func19 rfl (fun w' hS => ?_)
          exact ⟨hS.ext, _, by rw [h2]; rfl, by rw [grpP_bad (by rw [h2]; decide)]; exact OwnS.nil0⟩
        · -- no
          have hb1 : ¬ gs[k] < 1 := by simpa using hc
          refine GoH.v (Vop.mv rfl rfl rfl rfl) ?_
          refine GoH.v (Vop.fldP rfl rfl rfl rfl Tryd.underlying25 rfl (by exact Tryd.sizeOf23) 2 rfl) ?_
          refine GoH.v (Vop.ldo (v := .slice m.ra m.rows.length m.rc) rfl rfl rfl rfl Tryd.isAgg23 1 rfl rfl) ?_
          refine GoH.v (Vop.blt rfl rfl rfl (blt_len_slice Tryd.underlying23) rfl) ?_
          refine GoH.v (Vop.bin rfl rfl rfl rfl (bShlN (x := 1) (j := m.rows.length) rfl (by omega) (by omega)) rfl) ?_
          refine GoH.v (Vop.bin rfl rfl rfl rfl bGe rfl) ?_
          refine GoH.v (Vop.pickF rfl rfl rfl rfl rfl) ?_
          refine GoH.regionEnd ?_
          refine GoH.cond rfl (fun hc => ?_) (fun hc => ?_)
          · -- yes
            have hb : ((1 * 2 ^ m.rows.length : Nat) : Int) ≤ gs[k] := of_decide_eq_true hc
            rw [Nat.one_mul, ← hrl] at hb
            have h2 : grpE m.n m.val m.rel gs = 2 := by rw [grpE, if_neg (by simp [h1]), if_neg h3, if_pos (gbad_hit hlt (.inr hb))]
            refine GoH.seq ?_
            refine GoH.region ?_
            refine GoH.v (Vop.asg rfl rfl rfl rfl) ?_
            refine GoH.v (Vop.asg rfl rfl rfl rfl) ?_
            refine GoH.regionEnd ?_
            refine GoH.ret Tryd.f19 Tryd.func19 rfl (fun w' hS => ?_)
            exact ⟨hS.ext, _, by rw [h2]; rfl, by rw [grpP_bad (by rw [h2]; decide)]; exact OwnS.nil0⟩
          · -- no
            have hb2 : ¬ ((1 * 2 ^ m.rows.length : Nat) : Int) ≤ gs[k] := of_decide_eq_false hc
            rw [Nat.one_mul] at hb2
            obtain ⟨g, hg⟩ : ∃ g : Nat, gs[k] = (g : Int) := ⟨gs[k].toNat, by omega⟩
            have hgt : gs[k].toNat = g := by rw [hg]; rfl
            have hgg : 1 ≤ g ∧ g < 2 ^ m.rows.length := by omega
            refine GoH.skip ?_
            refine GoH.region ?_
            refine GoH.v (Vop.mv rfl rfl rfl rfl) ?_
            refine GoH.v (Vop.ldB rfl rfl rfl rfl Tryd.isAgg25 1 rfl Tryd.sizeOf25 rfl) ?_
            refine GoH.v (Vop.mv rfl rfl rfl rfl) ?_
            refine GoH.callM _ rfl rfl rfl rfl rfl (fun _ _ => Tryd.call43 _ _) (fun w _ hS => (by
              have := meetM_c m n g w (hm.ex0 hS.ext) hv hn hgg
              rw [← hg] at this
              exact this)) ?_
            rintro v w1 w2 Y' hS he ho
            obtain ⟨q42, cap42, sp42, rfl, hq42, hcap42, hS'⟩ := gainO hS he ho
            have hml42 : (meetL n m.rel g).length = n := meetTo_len
            refine ⟨_, hS', ?_⟩
            -- heap: q42 q b2
            refine GoH.bsN (c := [_]) rfl rfl rfl rfl Tryd.underlying23 Tryd.sizeOf22 Tryd.zeroValue22 rfl rfl (fun b43 => ?_)
            refine GoH.appE Row.v (news := [⟨q42.map (fun b => ⟨b, 0, none⟩), cap42, meetL n m.rel g⟩]) (spn := []) (xs := m.rows ++ ex) (sp := sp) (q := q) rfl rfl rfl rfl rfl Tryd.underlying23 hi hz hsz rfl hq 2 rfl 0 rfl hcap rfl (by decide) (fun _ => rfl) (by rw [hml]; simp [maxLen]; omega) (by rw [hml]; simp [hby]; omega) (fun b' sp' cap' hlen => ?_)
            -- heap: b43 q42 b' b2
            refine GoH.v (Vop.asg rfl rfl rfl rfl) ?_
            refine GoH.regionEnd ?_
            refine GoH.inBlock ?_
            refine GoH.region ?_
            refine GoH.v (Vop.bin rfl rfl rfl rfl (bAdd (by omega)) rfl) ?_
            refine GoH.v (Vop.mv rfl rfl rfl rfl) ?_
            refine GoH.regionEnd ?_
            rw [List.append_assoc] at hlen ⊢
            refine GoH.pickT (pre := [_, _, _, _]) (pre' := [_, _, _]) HR [2, 3, 1] (by decide) rfl ?_
            exact IH (k + 1, ex ++ [⟨q42.map (fun b => ⟨b, 0, none⟩), cap42, meetL n m.rel g⟩], some b', cap', sp', (q42, ob U 33 (meetL n m.rel g) sp42) :: HR) _ _ ⟨hlt, by simp [hel], (fun e => by cases e), hlen, fun r hr => by
              rcases List.mem_append.1 hr with hr | hr
              · obtain ⟨a1, a2⟩ := hex r hr
                exact ⟨a1.mono (List.subset_cons_self _ _), a2⟩
              · obtain rfl := List.mem_singleton.1 hr
                exact ⟨InS.at (fun e => (hq42 e).1) (List.mem_cons_self ..), by show (meetL n m.rel g).length ≤ _; exact le_mx (by omega), by rw [← hcap42]; simp⟩, by
              rw [List.map_append, hxs, grpR_snoc hlt, hgt]; rfl, fun i hi hik => by
              by_cases e : i = k
              · subst e; rw [hrl]; omega
              · exact hok i hi (by omega)⟩ (by dsimp only; omega) ⟨rfl, rfl, rfl, rfl, rfl, trivial⟩ (List.Sublist.refl _)
      · -- no
        have hge : ¬ k < gs.length := by simpa using hc
        obtain rfl : k = gs.length := by omega
        rw [List.take_length] at hxs
        have h2 : grpE m.n m.val m.rel gs = 0 := by rw [grpE, if_neg (by simp [h1]), if_neg h3, if_neg (by rw [gbad_none (fun i hi => hok i hi hi)]; simp)]
        have hall : (m.rows ++ ex).map Row.xs = m.rel ++ grpR n m.rel gs := by rw [List.map_append, hxs]; rfl
        have hexv : ∀ r ∈ ex, Val r.xs ∧ r.xs.length = n := fun r hr => by
          have h4 : r.xs ∈ grpR n m.rel gs := by rw [← hxs]; exact List.mem_map.2 ⟨r, hr, rfl⟩
          obtain ⟨g, _, e⟩ := List.mem_map.1 h4
          rw [← e]
          exact ⟨meetTo_val (by omega), meetTo_len⟩
        refine GoH.exit rfl ?_
        refine GoH.seq ?_
        refine GoH.region ?_
        refine GoH.v (Vop.ldB rfl rfl rfl rfl Tryd.isAgg25 1 rfl Tryd.sizeOf25 rfl) ?_
        refine GoH.v (Vop.mv rfl rfl rfl rfl) ?_
        refine GoH.callM _ rfl rfl rfl rfl rfl (fun _ _ => Tryd.call36 _ _) (fun w _ hS => (by
          refine stable_c m n (q.map (fun b => ⟨b, 0, none⟩)) cap (m.rows ++ ex) w (hT.ex hS.ext) (hm.ex0 hS.ext) hv hn ⟨?_, fun r hr => ?_, by rw [hml]; omega⟩
          · exact slrAt hS 0 rfl (fun e => (hq e).1)
          · refine (List.mem_append.1 hr).elim (fun hr => (ValM.relAt hv (hm.ex0 hS.ext) hn).row r hr) (fun hr => ?_)
            obtain ⟨a1, a2, a3⟩ := hex r hr
            exact ⟨⟨InS.sl (a1.mono (fun x hx => List.mem_append_right [_, _] hx)) hS, a2, a3⟩, hexv r hr⟩)) ?_
        rintro v w1 w2 Y' hS he ⟨q2, rfl, hq2, hh⟩
        refine ⟨_, hS.gain he hh rfl hq2, ?_⟩
        -- heap: q2 q b2
        refine GoH.v (Vop.mv rfl rfl rfl rfl) ?_
        refine GoH.v (Vop.ext rfl rfl rfl rfl rfl) ?_
        refine GoH.v (Vop.ext rfl rfl rfl rfl rfl) ?_
        refine GoH.v (Vop.asg rfl rfl rfl rfl) ?_
        refine GoH.v (Vop.asg rfl rfl rfl rfl) ?_
        refine GoH.regionEnd ?_
        refine GoH.seq ?_
        refine GoH.region ?_
        refine GoH.v (Vop.mv rfl rfl rfl rfl) ?_
        refine GoH.v (Vop.asg rfl rfl rfl rfl) ?_
        refine GoH.v (Vop.asg rfl rfl rfl rfl) ?_
        refine GoH.regionEnd ?_
        refine GoH.ret Tryd.f19 Tryd.func19 rfl (fun w' hS => ?_)
        refine ⟨hS.ext, _, by rw [h2]; rfl, ?_⟩
        rw [grpP_ok h2, hn]
        have := OwnS.one (w0 := w) (enc := I64) (t := 3) (m := n) (xs := psM n m (m.rows ++ ex) (dep n m.val ((m.rows ++ ex).map Row.xs))) hS 0 rfl (psq_len _).symm
        unfold psM at this
        rw [hall] at this
        exact this
end Go.Proofs.YtcljmlnnfdaljaaDoor
namespace Go.Proofs.YtcljmlnnfdaljaaDoor
open Go.RowKit Go.Proofs.Wit
/-! the reference's partition with groups -/
set_option maxRecDepth 4000 in
theorem rgroup_c (m : MV) (n g : Nat) (w : World) (hm : m.At w) (hv : ValM m.n m.val m.rel) (hn : m.n = (n : Int)) (hg : 1 ≤ g ∧ g < 2 ^ m.rows.length) :
    Cn Tryd.prog 99 [m.v, .int .i64 g, .bool true] w (fun v w' => Own w w' v (meetL n m.rel g)) := by
  obtain ⟨i0, hi, hz, hsz, hby⟩ := info_parts infoU
  have hn64 := hv.n64
  have hn1 := hv.n1
  have hag := hv.agents
  have hrl : m.rel.length = m.rows.length := by simp [MV.rel]
  have hp4 : (2 : Nat) ^ m.rows.length ≤ 2 ^ 4 := Nat.pow_le_pow_right (by decide) (by omega)
  have h16 : (2 : Nat) ^ 4 = 16 := by decide
  refine Cn.of Tryd.func99 rfl rfl ?_
  refine GoH.seq ?_
  refine GoH.region ?_
  refine GoH.bx rfl rfl rfl rfl (fun b3 => ?_)
  refine GoH.v (Vop.asg rfl rfl rfl rfl) ?_
  refine GoH.regionEnd ?_
  refine GoH.seq ?_
  refine GoH.seq ?_
  refine GoH.region ?_
  refine GoH.v (Vop.ldB rfl rfl rfl rfl Tryd.isAgg25 0 rfl Tryd.sizeOf25 rfl) ?_
  refine GoH.callP rfl rfl rfl rfl rfl (fun _ _ => Tryd.call8 _ _) (fun w _ hS => (by exact (rmCheck_c m w (hm.ex0 hS.ext)).mono (fun v w' _ e => by rw [e, checkM_zero.2 hv]))) ?_
  refine GoH.v (Vop.bin rfl rfl rfl rfl (bNeV (v := false) rfl) rfl) ?_
  refine GoH.v (Vop.mv rfl rfl rfl rfl) ?_
  refine GoH.v (Vop.mv rfl rfl rfl rfl) ?_
  refine GoH.v (Vop.bin rfl rfl rfl rfl (bLtV (v := false) (decide_eq_false (by omega))) rfl) ?_
  refine GoH.v (Vop.pickF rfl rfl rfl rfl rfl) ?_
  refine GoH.v (Vop.mv rfl rfl rfl rfl) ?_
  refine GoH.v (Vop.mv rfl rfl rfl rfl) ?_
  refine GoH.v (Vop.fldP rfl rfl rfl rfl Tryd.underlying25 rfl (by exact Tryd.sizeOf23) 2 rfl) ?_
  refine GoH.v (Vop.ldo (v := .slice m.ra m.rows.length m.rc) rfl rfl rfl rfl Tryd.isAgg23 0 rfl rfl) ?_
  refine GoH.v (Vop.blt rfl rfl rfl (blt_len_slice Tryd.underlying23) rfl) ?_
  refine GoH.v (Vop.bin rfl rfl rfl rfl (bShlN (x := 1) (j := m.rows.length) rfl (by omega) (by omega)) rfl) ?_
  refine GoH.v (Vop.bin rfl rfl rfl rfl (bGeV (v := false) (decide_eq_false (by omega))) rfl) ?_
  refine GoH.v (Vop.pickF rfl rfl rfl rfl rfl) ?_
  refine GoH.regionEnd ?_
  refine GoH.condF rfl ?_
  refine GoH.skip ?_
  refine GoH.seq ?_
  refine GoH.region ?_
  refine GoH.v (Vop.asg rfl rfl rfl rfl) ?_
  refine GoH.regionEnd ?_
  refine GoH.seq ?_
  refine GoH.seq ?_
  refine GoH.region ?_
  refine GoH.v (Vop.asg rfl rfl rfl rfl) ?_
  refine GoH.regionEnd ?_
  refine GoH.block ?_
  refine GoH.addNone (ob U 33 [] []) ?_
  refine GoH.loop (σ := Nat × Option Nat × Nat × List Value) (fun z => [(1, .int .i64 g), (2, .bool true), (3, .pointer (some ⟨b3, 0, none⟩)), (7, osv z.2.1 ((meetL n m.rel g).take z.1).length z.2.2.1), (8, .int .i64 z.1)]) (fun z => [(z.2.1, ob U 33 ((meetL n m.rel g).take z.1) z.2.2.2), (some b3, .cells m.v.cells 25 (0, 0))])
    (fun z => z.1 ≤ n ∧ (z.2.1 = none → ((meetL n m.rel g).take z.1).length = 0 ∧ z.2.2.1 = 0) ∧ (((meetL n m.rel g).take z.1).map U ++ z.2.2.2).length = z.2.2.1) (fun z => n - z.1) (0, none, 0, [])
    ⟨Nat.zero_le _, fun _ => ⟨rfl, rfl⟩, rfl⟩ ⟨rfl, rfl, rfl, rfl, rfl, trivial⟩ (List.Sublist.refl _) (fun z hI IH => ?_)
  obtain ⟨k, q, cap, sp⟩ := z
  obtain ⟨hk, hq, hcap⟩ := hI
  dsimp only at hk hq hcap IH ⊢
  -- heap: q b3
  -- ptr: 3=b3
  refine GoH.seq ?_
  refine GoH.seq ?_
  refine GoH.region ?_
  refine GoH.v (Vop.mv rfl rfl rfl rfl) ?_
  refine GoH.v (Vop.fldP rfl rfl rfl rfl Tryd.underlying25 rfl (by exact Tryd.sizeOf3) 0 rfl) ?_
  refine GoH.v (Vop.ldo (v := .int .i64 m.n) rfl rfl rfl rfl Tryd.isAgg3 1 rfl rfl) ?_
  refine GoH.v (Vop.bin rfl rfl rfl rfl bLt rfl) ?_
  refine GoH.regionEnd ?_
  refine GoH.cond rfl (fun hc => ?_) (fun hc => ?_)
  · -- yes
    have hlt : k < n := by have : (k : Int) < m.n := by simpa using hc
                           omega
    have hml : (meetL n m.rel g).length = n := meetTo_len
    have hlk : ((meetL n m.rel g).take k).length = k := by rw [List.length_take]; omega
    refine GoH.skip ?_
    refine GoH.seq ?_
    refine GoH.block ?_
    refine GoH.seq ?_
    refine GoH.region ?_
    refine GoH.v (Vop.asg (v := U 0#64) rfl rfl rfl rfl) ?_
    refine GoH.regionEnd ?_
    refine GoH.seq ?_
    refine GoH.seq ?_
    refine GoH.region ?_
    refine GoH.v (Vop.mv rfl rfl rfl rfl) ?_
    refine GoH.regionEnd ?_
    refine GoH.cond rfl (fun hc => ?_) (fun hc => ?_)
    · -- yes
      refine GoH.region ?_
      refine GoH.v (Vop.fldP rfl rfl rfl rfl Tryd.underlying25 rfl (by exact Tryd.sizeOf3) 0 rfl) ?_
      refine GoH.v (Vop.ldo (v := .int .i64 m.n) rfl rfl rfl rfl Tryd.isAgg3 1 rfl rfl) ?_
      refine GoH.callP rfl rfl rfl rfl rfl (fun _ _ => Tryd.call52 _ _) (fun w _ hS => (by have := rmAll_c n w (by omega); rw [← hn] at this; exact this)) ?_
      refine GoH.v (Vop.asg rfl rfl rfl rfl) ?_
      refine GoH.regionEnd ?_
      refine GoH.seq ?_
      refine GoH.seq ?_
      refine GoH.region ?_
      refine GoH.v (Vop.asg rfl rfl rfl rfl) ?_
      refine GoH.regionEnd ?_
      refine GoH.block ?_
      refine GoH.loop (σ := Nat) (fun j => [(1, .int .i64 g), (2, .bool true), (3, .pointer (some ⟨b3, 0, none⟩)), (7, osv q ((meetL n m.rel g).take k).length cap), (8, .int .i64 k), (9, U (meetW n m.rel g k j)), (10, .int .i64 j)]) (fun _ => [(q, ob U 33 ((meetL n m.rel g).take k) sp), (some b3, .cells m.v.cells 25 (0, 0))])
        (fun j => j ≤ m.rows.length) (fun j => m.rows.length - j) 0 (Nat.zero_le _) ⟨rfl, rfl, rfl, rfl, rfl, rfl, rfl, trivial⟩ (List.Sublist.refl _) (fun j hj IH2 => ?_)
      -- heap: q b3
      -- ptr: 3=b3
      refine GoH.seq ?_
      refine GoH.seq ?_
      refine GoH.region ?_
      refine GoH.v (Vop.mv rfl rfl rfl rfl) ?_
      refine GoH.v (Vop.fldP rfl rfl rfl rfl Tryd.underlying25 rfl (by exact Tryd.sizeOf23) 2 rfl) ?_
      refine GoH.v (Vop.ldo (v := .slice m.ra m.rows.length m.rc) rfl rfl rfl rfl Tryd.isAgg23 1 rfl rfl) ?_
      refine GoH.v (Vop.blt rfl rfl rfl (blt_len_slice Tryd.underlying23) rfl) ?_
      refine GoH.v (Vop.bin rfl rfl rfl rfl bLt rfl) ?_
      refine GoH.regionEnd ?_
      refine GoH.cond rfl (fun hc => ?_) (fun hc => ?_)
      · -- yes
        have hjl : j < m.rows.length := by simpa using hc
        have hrow := hm.row m.rows[j] (List.getElem_mem hjl)
        have hrn : m.rows[j].xs.length = n := by have := hv.len _ (List.mem_map.2 ⟨m.rows[j], List.getElem_mem hjl, rfl⟩ : m.rows[j].xs ∈ m.rel); omega
        have hkr : k < m.rows[j].xs.length := by omega
        have hsc := meetW_succ (n := n) (rel := m.rel) (g := g) (w := k) (k := j)
        rw [relD hjl] at hsc
        refine GoH.skip ?_
        refine GoH.seq ?_
        refine GoH.block ?_
        refine GoH.seq ?_
        refine GoH.seq ?_
        refine GoH.region ?_
        refine GoH.v (Vop.mv rfl rfl rfl rfl) ?_
        refine GoH.v (Vop.mv rfl rfl rfl rfl) ?_
        refine GoH.v (Vop.bin rfl rfl rfl rfl (bShrN (j := j) rfl (by omega) (by omega)) rfl) ?_
        refine GoH.v (Vop.bin rfl rfl rfl rfl bRem2N rfl) ?_
        refine GoH.v (Vop.bin rfl rfl rfl rfl bEq rfl) ?_
        refine GoH.v (Vop.mv rfl rfl rfl rfl) ?_
        -- guard on slot 48 (ref.go:242)
        refine GoH.cases (d := 48) rfl (fun hc => ?_) (fun hc => ?_)
        · -- yes
          have hb1 : gb g j = 1 := Int.ofNat_inj.1 (show ((gb g j : Nat) : Int) = ((1 : Nat) : Int) from beq_iff_eq.1 hc)
          rw [if_pos hb1] at hsc
          refine GoH.v (Vop.mv rfl rfl rfl rfl) ?_
          refine GoH.v (Vop.pickT rfl rfl rfl rfl rfl) ?_
          refine GoH.regionEnd ?_
          refine GoH.cond rfl (fun hc => ?_) (fun hc => ?_)
          · -- yes
            refine GoH.region ?_
            refine GoH.v (Vop.mv rfl rfl rfl rfl) ?_
            refine GoH.v (Vop.fldP rfl rfl rfl rfl Tryd.underlying25 rfl (by exact Tryd.sizeOf23) 2 rfl) ?_
            refine GoH.v (Vop.ldo (v := .slice m.ra m.rows.length m.rc) rfl rfl rfl rfl Tryd.isAgg23 1 rfl rfl) ?_
            refine GoH.v (Vop.mv rfl rfl rfl rfl) ?_
            refine GoH.v (Vop.idx rfl rfl rfl rfl rfl Tryd.underlying23 Tryd.sizeOf22 ⟨_, hm.rel⟩ (by simp) (j) ⟨rfl, by simpa using hjl⟩) ?_
            refine GoH.v (Vop.ld rfl rfl rfl rfl Tryd.isAgg22 (fun w _ hS => (SlR.ex0 hm.rel hS.ext).at (j) hjl)) ?_
            refine GoH.v (Vop.mv rfl rfl rfl rfl) ?_
            refine GoH.v (Vop.idx rfl rfl rfl rfl rfl Tryd.underlying22 Tryd.sizeOf33 ⟨_, hrow.at_⟩ (by simp) (k) ⟨rfl, by simpa using hkr⟩) ?_
            refine GoH.v (Vop.ld rfl rfl rfl rfl Tryd.isAgg33 (fun w _ hS => (SlU.ex0 hrow.at_ hS.ext).at (k) hkr)) ?_
            refine GoH.v (Vop.bin rfl rfl rfl rfl bAnd rfl) ?_
            refine GoH.v (Vop.asg rfl rfl rfl rfl) ?_
            refine GoH.regionEnd ?_
            refine GoH.seq ?_
            refine GoH.region ?_
            refine GoH.v (Vop.mv rfl rfl rfl rfl) ?_
            refine GoH.v (Vop.mv rfl rfl rfl rfl) ?_
            refine GoH.v (Vop.bin rfl rfl rfl rfl (bShrN (j := j) rfl (by omega) (by omega)) rfl) ?_
            refine GoH.v (Vop.bin rfl rfl rfl rfl bRem2N rfl) ?_
            refine GoH.v (Vop.bin rfl rfl rfl rfl (bEqV (v := true) (show ((((gb g j : Nat) : Int)) == 1) = true by rw [hb1]; rfl)) rfl) ?_
            refine GoH.v (Vop.mv rfl rfl rfl rfl) ?_
            refine GoH.v (Vop.mv rfl rfl rfl rfl) ?_
            refine GoH.v (Vop.un rfl rfl rfl uNot rfl) ?_
            refine GoH.v (Vop.pickT rfl rfl rfl rfl rfl) ?_
            refine GoH.regionEnd ?_
            refine GoH.cond rfl (fun hc => ?_) (fun hc => ?_)
            · -- yes
              cases ‹(!true) = true›
            · -- no
              refine GoH.skip ?_
              refine GoH.inBlock ?_
              refine GoH.region ?_
              refine GoH.v (Vop.mv rfl rfl rfl rfl) ?_
              refine GoH.v (Vop.bin rfl rfl rfl rfl (bAdd (by omega)) rfl) ?_
              refine GoH.v (Vop.asg rfl rfl rfl rfl) ?_
              refine GoH.regionEnd ?_
              exact IH2 (j + 1) _ _ hjl (by omega) ⟨rfl, rfl, rfl, rfl, rfl, (by rw [hsc]; rfl), rfl, trivial⟩ (List.Sublist.refl _)
          · -- no
            cases ‹(true) = false›
        · -- no
          have hb0 : gb g j = 0 := by
            rcases gb_cases g j with h | h
            · exact h
            · exact absurd (show ((gb g j : Nat) : Int) = 1 by rw [h]; rfl) (beq_eq_false_iff_ne.1 hc)
          rw [if_neg (by rw [hb0]; decide)] at hsc
          refine GoH.no rfl rfl rfl rfl ?_
          refine GoH.v (Vop.pickF rfl rfl rfl rfl rfl) ?_
          refine GoH.regionEnd ?_
          refine GoH.condF rfl ?_
          refine GoH.skip ?_
          refine GoH.seq ?_
          refine GoH.region ?_
          refine GoH.v (Vop.mv rfl rfl rfl rfl) ?_
          refine GoH.v (Vop.mv rfl rfl rfl rfl) ?_
          refine GoH.v (Vop.bin rfl rfl rfl rfl (bShrN (j := j) rfl (by omega) (by omega)) rfl) ?_
          refine GoH.v (Vop.bin rfl rfl rfl rfl bRem2N rfl) ?_
          refine GoH.v (Vop.bin rfl rfl rfl rfl (bEqV (v := false) (show ((((gb g j : Nat) : Int)) == 1) = false by rw [hb0]; rfl)) rfl) ?_
          refine GoH.v (Vop.mv rfl rfl rfl rfl) ?_
          refine GoH.no rfl rfl rfl rfl ?_
          refine GoH.no rfl rfl rfl rfl ?_
          refine GoH.v (Vop.pickF rfl rfl rfl rfl rfl) ?_
          refine GoH.regionEnd ?_
          refine GoH.condF rfl ?_
          refine GoH.skip ?_
          refine GoH.inBlock ?_
          refine GoH.region ?_
          refine GoH.v (Vop.mv rfl rfl rfl rfl) ?_
          refine GoH.v (Vop.bin rfl rfl rfl rfl (bAdd (by omega)) rfl) ?_
          refine GoH.v (Vop.asg rfl rfl rfl rfl) ?_
          refine GoH.regionEnd ?_
          exact IH2 (j + 1) _ _ hjl (by omega) ⟨rfl, rfl, rfl, rfl, rfl, (by rw [hsc]; rfl), rfl, trivial⟩ (List.Sublist.refl _)
      · -- no
        have hge : ¬ j < m.rows.length := by simpa using hc
        obtain rfl : j = m.rows.length := by omega
        have hnx : meetW n m.rel g k m.rows.length = (meetL n m.rel g)[k]'(by omega) := by simp [meetL, meetTo, hrl]
        rw [hnx]
        refine GoH.exit rfl ?_
        refine GoH.region ?_
        refine GoH.v (Vop.mv rfl rfl rfl rfl) ?_
        refine GoH.v (Vop.mv rfl rfl rfl rfl) ?_
        refine GoH.bs1 (v := U ((meetL n m.rel g)[k]'(by omega))) rfl rfl rfl rfl Tryd.underlying22 hi hz hsz rfl rfl (fun b82 => ?_)
        -- heap: b82 q b3
        refine GoH.appE U (xs := (meetL n m.rel g).take k) (sp := sp) (news := [(meetL n m.rel g)[k]'(by omega)]) (spn := []) rfl rfl rfl rfl rfl Tryd.underlying22 hi hz hsz rfl hq 1 rfl 0 rfl hcap rfl (by decide) (fun _ => rfl) (by unfold maxLen; rw [hlk]; omega) (by rw [hby, hlk]; omega) (fun b' sp' cap' hlen2 => ?_)
        rw [← List.take_succ_eq_append_getElem (by omega : k < (meetL n m.rel g).length)] at *
        -- heap: b82 b' b3
        refine GoH.v (Vop.asg rfl rfl rfl rfl) ?_
        refine GoH.regionEnd ?_
        refine GoH.inBlock ?_
        refine GoH.region ?_
        refine GoH.v (Vop.mv rfl rfl rfl rfl) ?_
        refine GoH.v (Vop.bin rfl rfl rfl rfl (bAdd (by omega)) rfl) ?_
        refine GoH.v (Vop.asg rfl rfl rfl rfl) ?_
        refine GoH.regionEnd ?_
        exact IH (k + 1, some b', cap', sp') _ _ ⟨hlt, (fun e => by cases e), hlen2⟩ (by dsimp only; omega) ⟨rfl, rfl, rfl, rfl, rfl, trivial⟩ (.cons _ (List.Sublist.refl _))
    · -- no
      cases hc
  · -- no
    have hge : ¬ k < n := by have : ¬ (k : Int) < m.n := by simpa using hc
                             omega
    obtain rfl : k = n := by omega
    have htk : (meetL k m.rel g).take k = meetL k m.rel g := List.take_of_length_le (by rw [meetL, meetTo_len]; exact Nat.le_refl _)
    rw [htk] at hq hcap ⊢
    refine GoH.exit rfl ?_
    refine GoH.seq ?_
    refine GoH.region ?_
    refine GoH.v (Vop.mv rfl rfl rfl rfl) ?_
    refine GoH.v (Vop.asg rfl rfl rfl rfl) ?_
    refine GoH.regionEnd ?_
    refine GoH.ret Tryd.f99 Tryd.func99 rfl (fun w' hS => ?_)
    exact ⟨hS.ext, q, cap, sp, rfl, hq, hcap, fun b' hb => by subst hb; exact ⟨hS.fresh (j := 0) rfl, hS.get (j := 0) rfl⟩⟩
theorem rmeetM_c (m : MV) (n g : Nat) (w : World) (hm : m.At w) (hv : ValM m.n m.val m.rel) (hn : m.n = (n : Int)) (hg : 1 ≤ g ∧ g < 2 ^ m.rows.length) :
    Cn Tryd.prog 80 [m.v, .int .i64 g] w (fun v w' => Own w w' v (meetL n m.rel g)) := by
  refine Cn.of Tryd.func80 rfl rfl ?_
  refine GoH.seq ?_
  refine GoH.region ?_
  refine GoH.bx rfl rfl rfl rfl (fun b2 => ?_)
  refine GoH.v (Vop.asg rfl rfl rfl rfl) ?_
  refine GoH.regionEnd ?_
  refine GoH.seq ?_
  refine GoH.region ?_
  refine GoH.v (Vop.ldB rfl rfl rfl rfl Tryd.isAgg25 0 rfl Tryd.sizeOf25 rfl) ?_
  refine GoH.v (Vop.mv rfl rfl rfl rfl) ?_
  refine GoH.callM _ rfl rfl rfl rfl rfl (fun _ _ => Tryd.call99 _ _) (fun w _ hS => rgroup_c m n g w (hm.ex0 hS.ext) hv hn hg) ?_
  rintro v w1 w2 Y' hS he ho
  obtain ⟨q, cap, sp, rfl, hq, hcap, hS'⟩ := gainO hS he ho
  refine ⟨_, hS', ?_⟩
  refine GoH.v (Vop.asg rfl rfl rfl rfl) ?_
  refine GoH.regionEnd ?_
  refine GoH.ret Tryd.f80 Tryd.func80 rfl (fun w' hS => ?_)
  exact ⟨hS.ext, q, cap, sp, rfl, hq, hcap, fun b' hb => by subst hb; exact ⟨hS.fresh (j := 0) rfl, hS.get (j := 0) rfl⟩⟩
end Go.Proofs.YtcljmlnnfdaljaaDoor
namespace Go.Proofs.YtcljmlnnfdaljaaDoor
open Go.RowKit Go.Proofs.Wit
/-! closing a relation to a logic -/
theorem indexI_c (a : Option Addr) (ca : Nat) (xs : List Int) (s : Int) (w : World) (ha : SlI w a xs) (hl : xs.length ≤ maxLen) :
    Cn Tryd.prog 41 [.slice a xs.length ca, .int .i64 s] w (fun v _ => ∃ j : Int, v = .int .i64 j ∧ (0 ≤ j ↔ s ∈ xs)) := by
  have hl' := hl
  unfold maxLen at hl'
  refine Cn.of Tryd.func41 rfl rfl ?_
  refine GoH.seq ?_
  refine GoH.region ?_
  refine GoH.v (Vop.asg rfl rfl rfl rfl) ?_
  refine GoH.regionEnd ?_
  refine GoH.seq ?_
  refine GoH.seq ?_
  refine GoH.region ?_
  refine GoH.v (Vop.mv rfl rfl rfl rfl) ?_
  refine GoH.v (Vop.blt rfl rfl rfl (blt_len_slice Tryd.underlying36) rfl) ?_
  refine GoH.v (Vop.mv rfl rfl rfl rfl) ?_
  refine GoH.regionEnd ?_
  refine GoH.block ?_
  refine GoH.loop (σ := Nat) (fun k => [(0, .slice a xs.length ca), (1, .int .i64 s), (7, .int .i64 xs.length), (8, .int .i64 k)]) (fun _ => [])
    (fun k => k ≤ xs.length ∧ ∀ i y, i < k → xs[i]? = some y → s ≠ y) (fun k => xs.length - k) 0 ⟨Nat.zero_le _, fun i y hi => by omega⟩ ⟨rfl, rfl, rfl, rfl, trivial⟩ .slnil (fun k hI IH => ?_)
  obtain ⟨hk, hno⟩ := hI
  refine GoH.seq ?_
  refine GoH.region ?_
  refine GoH.v (Vop.bin rfl rfl rfl rfl bLt rfl) ?_
  refine GoH.regionEnd ?_
  refine GoH.seq ?_
  refine GoH.cond rfl (fun hc => ?_) (fun hc => ?_)
  · -- yes
    have hlt : k < xs.length := by simpa using hc
    refine GoH.skip ?_
    refine GoH.seq ?_
    refine GoH.block ?_
    refine GoH.seq ?_
    refine GoH.region ?_
    refine GoH.v (Vop.mv rfl rfl rfl rfl) ?_
    refine GoH.v (Vop.asg rfl rfl rfl rfl) ?_
    refine GoH.regionEnd ?_
    refine GoH.seq ?_
    refine GoH.region ?_
    refine GoH.v (Vop.mv rfl rfl rfl rfl) ?_
    refine GoH.v (Vop.mv rfl rfl rfl rfl) ?_
    refine GoH.v (Vop.mv rfl rfl rfl rfl) ?_
    refine GoH.v (Vop.idx rfl rfl rfl rfl rfl Tryd.underlying36 Tryd.sizeOf3 ⟨_, ha⟩ (by simp) (k) ⟨rfl, by simpa using hlt⟩) ?_
    refine GoH.v (Vop.ld rfl rfl rfl rfl Tryd.isAgg3 (fun w _ hS => (SlI.ex0 ha hS.ext).at (k) hlt)) ?_
    refine GoH.v (Vop.bin rfl rfl rfl rfl bEq rfl) ?_
    refine GoH.regionEnd ?_
    refine GoH.cond rfl (fun hc => ?_) (fun hc => ?_)
    · -- yes
      have h1 : s = xs[k] := by simpa using hc
      refine GoH.seq ?_
      refine GoH.region ?_
      refine GoH.v (Vop.mv rfl rfl rfl rfl) ?_
      refine GoH.v (Vop.asg rfl rfl rfl rfl) ?_
      refine GoH.regionEnd ?_
      refine GoH.ret Tryd.f41 Tryd.func41 rfl (fun w' hS => ?_)
      exact ⟨hS.ext, _, rfl, ⟨fun _ => by rw [h1]; exact List.getElem_mem hlt, fun _ => by omega⟩⟩
    · -- no
      have h1 : s ≠ xs[k] := by simpa using hc
      refine GoH.skip ?_
      refine GoH.inBlock ?_
      refine GoH.region ?_
      refine GoH.v (Vop.bin rfl rfl rfl rfl (bAdd (by omega)) rfl) ?_
      refine GoH.v (Vop.mv rfl rfl rfl rfl) ?_
      refine GoH.regionEnd ?_
      exact IH (k + 1) _ _ ⟨hlt, fun i y hi hy => by
      by_cases e : i = k
      · subst e; rw [List.getElem?_eq_getElem hlt] at hy; cases hy; exact h1
      · exact hno i y (by omega) hy⟩ (by omega) ⟨rfl, rfl, rfl, rfl, trivial⟩ .slnil
  · -- no
    have hge : ¬ k < xs.length := by simpa using hc
    obtain rfl : k = xs.length := by omega
    refine GoH.exit rfl ?_
    refine GoH.seq ?_
    refine GoH.region ?_
    refine GoH.v (Vop.asg rfl rfl rfl rfl) ?_
    refine GoH.regionEnd ?_
    refine GoH.ret Tryd.f41 Tryd.func41 rfl (fun w' hS => ?_)
    exact ⟨hS.ext, _, rfl, ⟨fun h => by omega, fun h => by
    obtain ⟨i, hi, e⟩ := List.mem_iff_getElem.1 h
    exact absurd e.symm (hno i _ hi (List.getElem?_eq_getElem hi))⟩⟩
theorem containsI_c (a : Option Addr) (ca : Nat) (xs : List Int) (s : Int) (w : World) (ha : SlI w a xs) (hl : xs.length ≤ maxLen) :
    Cn Tryd.prog 18 [.slice a xs.length ca, .int .i64 s] w (fun v _ => v = .bool (decide (s ∈ xs))) := by
  refine Cn.of Tryd.func18 rfl rfl ?_
  refine GoH.seq ?_
  refine GoH.region ?_
  refine GoH.v (Vop.asg rfl rfl rfl rfl) ?_
  refine GoH.regionEnd ?_
  refine GoH.seq ?_
  refine GoH.region ?_
  refine GoH.v (Vop.mv rfl rfl rfl rfl) ?_
  refine GoH.v (Vop.mv rfl rfl rfl rfl) ?_
  refine GoH.callM _ rfl rfl rfl rfl rfl (fun _ _ => Tryd.call41 _ _) (fun w _ hS => indexI_c a ca xs s w (ha.ex0 hS.ext) hl) ?_
  rintro v w1 w2 Y' hS he ⟨j, rfl, hj⟩
  refine ⟨_, hS.later he, ?_⟩
  refine GoH.v (Vop.bin rfl rfl rfl rfl bGe rfl) ?_
  refine GoH.v (Vop.asg rfl rfl rfl rfl) ?_
  refine GoH.regionEnd ?_
  refine GoH.ret Tryd.f18 Tryd.func18 rfl (fun w' hS => ?_)
  exact ⟨hS.ext, by show Value.bool (decide (j ≥ 0)) = _; congr 1; rw [decide_eq_decide]; exact hj⟩
/-- where the relation lies that is being closed: still where it came from, or in a block of one's own -/
structure CurAt (a : Option Addr) (ca : Nat) (r : List W64) (A : Option Addr) (cA : Nat) (cur : List W64) (q : Option Nat) (sp : List Value) : Prop where
  cap : cur.length ≤ cA
  at_ : (A = a ∧ cur = r) ∨ (A = q.map (fun b => ⟨b, 0, none⟩) ∧ (q = none → cur.length = 0))
theorem Grown.least {F : List W64 → Prop} {r : List W64} {p : List W64 × Int} (h : Grown F r p) (hv : Val r) : p.2 = 0 ∧ Least F r p.1 := by
  rw [Grown, if_neg (by rw [check_zero.2 hv]; simp)] at h
  exact h
end Go.Proofs.YtcljmlnnfdaljaaDoor
