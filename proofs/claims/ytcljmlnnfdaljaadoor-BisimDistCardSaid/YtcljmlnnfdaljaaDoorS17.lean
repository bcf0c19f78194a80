/- Contracts of functions of the program: what each call returns and that nothing else of memory is turned, under the conditions that each theorem states. -/
import Derived.Test.YtcljmlnnfdaljaaDoorS16
namespace Go.Proofs.YtcljmlnnfdaljaaDoor
open Go.RowKit Go.Proofs.Wit
/-! partitions into bisimilar worlds -/
theorem rounds_c (m : MV) (ra : Option Addr) (rc : Nat) (rl : Nat) (w : World) :
    Cn Tryd.prog 37 [m.v, .slice ra rl rc] w (fun v w' => ∃ b c, v = .func (.func 64) #[] #[.pointer (some ⟨b, 0, none⟩), .pointer (some ⟨c, 0, none⟩)] ∧ NewH w w' [(some b, .cells m.v.cells 25 (0, 0)), (some c, .cells #[.slice ra rl rc] 23 (0, 0))]) := by
  refine Cn.of Tryd.func37 rfl rfl ?_
  refine GoH.seq ?_
  refine GoH.region ?_
  refine GoH.bx rfl rfl rfl rfl (fun b2 => ?_)
  refine GoH.bx rfl rfl rfl rfl (fun b3 => ?_)
  refine GoH.v (Vop.asg rfl rfl rfl rfl) ?_
  refine GoH.regionEnd ?_
  refine GoH.seq ?_
  refine GoH.region ?_
  refine GoH.v (Vop.mkFunc rfl rfl rfl rfl rfl) ?_
  refine GoH.v (Vop.asg rfl rfl rfl rfl) ?_
  refine GoH.regionEnd ?_
  refine GoH.ret Tryd.f37 Tryd.func37 rfl (fun w' hS => ?_)
  exact ⟨hS.ext, b2, b3, rfl, (NewH.of (hS.pickT (pre := [_, _]) (pre' := [_, _]) (HR := []) [1, 0] (by decide) rfl)).sub (List.Sublist.refl _)⟩
def prevA : List Nat → Option Addr
  | [] => none
  | b :: _ => some ⟨b, 0, none⟩
def prevL (pf : Nat → List Int) : List Nat → List Int
  | [] => []
  | _ :: t => pf t.length
def Chain (pf : Nat → List Int) (t : List Nat) : Prop := ∀ j, j + 1 < t.length → pf j ≠ pf (j + 1)
def prevV (pf : Nat → List Int) (t : List Nat) : Value := .slice (prevA t) (prevL pf t).length (prevL pf t).length
set_option maxRecDepth 8000 in
theorem stable_c (m : MV) (n : Nat) (ra : Option Addr) (rc : Nat) (rows : List Row) (w : World) (hT : Tab w) (hm : m.At w) (hv : ValM m.n m.val m.rel) (hn : m.n = (n : Int)) (hr : RelAt w n ra rows) :
    Cn Tryd.prog 36 [m.v, .slice ra rows.length rc] w (fun v w' => ∃ q, v = .tuple #[.slice (some ⟨q, 0, none⟩) n n, .int .i64 (dep n m.val (rows.map Row.xs))] ∧ w.heap.size ≤ q ∧ w'.heap[q]? = some (ob I64 3 (psM n m rows (dep n m.val (rows.map Row.xs))) [])) := by
  have hn64 := hv.n64
  have hn1 := hv.n1
  obtain ⟨hd1, hd2, hd3⟩ := dep_spec (n := n) (val := m.val) (rels := rows.map Row.xs) (by omega) (by omega)
  have hlt : ∀ t, Chain (psM n m rows) t → t.length ≤ n := fun t ht => by
    apply Classical.byContradiction
    intro hc
    exact ht (dep n m.val (rows.map Row.xs)) (by omega) hd2
  refine Cn.of Tryd.func36 rfl rfl ?_
  refine GoH.seq ?_
  refine GoH.region ?_
  refine GoH.bx rfl rfl rfl rfl (fun b2 => ?_)
  refine GoH.v (Vop.asg rfl rfl rfl rfl) ?_
  refine GoH.v (Vop.asg rfl rfl rfl rfl) ?_
  refine GoH.regionEnd ?_
  refine GoH.seq ?_
  refine GoH.region ?_
  refine GoH.alc rfl rfl rfl (fun _ => Tryd.zeroValue36 _) (fun b6 => ?_)
  refine GoH.regionEnd ?_
  refine GoH.seq ?_
  refine GoH.region ?_
  refine GoH.alc rfl rfl rfl (fun _ => Tryd.zeroValue3 _) (fun b7 => ?_)
  refine GoH.st rfl rfl rfl rfl Tryd.sizeOf3 rfl 0 rfl rfl ?_
  refine GoH.regionEnd ?_
  refine GoH.seq ?_
  refine GoH.seq ?_
  refine GoH.region ?_
  refine GoH.v (Vop.ldB rfl rfl rfl rfl Tryd.isAgg25 2 rfl Tryd.sizeOf25 rfl) ?_
  refine GoH.v (Vop.mv rfl rfl rfl rfl) ?_
  refine GoH.callM _ rfl rfl rfl rfl rfl (fun _ _ => Tryd.call37 _ _) (fun w _ hS => rounds_c m ra rc rows.length w) ?_
  rintro v w1 w2 Y' hS he ⟨bm, br, rfl, hH⟩
  refine ⟨_, hS.gainL he hH, ?_⟩
  -- heap: bm br b7 b6 b2
  refine GoH.regionEnd ?_
  refine GoH.block ?_
  refine GoH.rangeE (σ := List Nat) (cap := [(some bm, .cells m.v.cells 25 (0, 0)), (some br, .cells #[.slice ra rows.length rc] 23 (0, 0))]) (fun s => [(some b7, .cells #[.int .i64 ((s.length : Int) - 1)] 3 (0, 0)), (some b6, .cells #[prevV (psM n m rows) s] 36 (0, 0)), (some b2, .cells m.v.cells 25 (0, 0))]) n (fun t s => t = s ∧ Chain (psM n m rows) t)
    (fun c t s => c = .exit 0 ∧ ∃ b b' s', t = b :: s ∧ s = b' :: s' ∧ Chain (psM n m rows) s ∧ psM n m rows s'.length = psM n m rows (s'.length + 1)) []
    rfl (fun _ _ => Tryd.call64 _ _) (rounds1_it m n ra rc rows _ hT hm hv hn hr bm br) rfl rfl (fun t s h => hlt t h.2) ⟨rfl, fun j hj => by simp at hj⟩ (List.Sublist.refl _) ?_ ?_ ?_
  -- heap: b7 b6 b2
  · -- a round
    intro L Y' rec hi b t s hI hrec
    obtain ⟨rfl, hch⟩ := hI
    dsimp only [pV]
    have htl := hlt t hch
    refine GoH.region ?_
    refine GoH.v (Vop.asg rfl rfl rfl rfl) ?_
    refine GoH.regionEnd ?_
    refine GoH.beginRound hrec ?_
    refine GoH.block ?_
    refine GoH.seq ?_
    refine GoH.seq ?_
    refine GoH.region ?_
    refine GoH.v (Vop.mv rfl rfl rfl rfl) ?_
    refine GoH.v (Vop.ldo rfl rfl rfl rfl Tryd.isAgg36 1 rfl rfl) ?_
    refine GoH.callP rfl rfl rfl rfl rfl (fun _ _ => Tryd.call31 _ _) (fun w _ hS => (by
    refine equalI_c (some ⟨b, 0, none⟩) (psM n m rows t.length).length (psM n m rows t.length) (prevA t) (prevL (psM n m rows) t).length (prevL (psM n m rows) t) w (sliAt hS 3 (q := some b) rfl (fun e => by cases e)) ?_ (by rw [psq_len]; unfold maxLen; omega)
    cases t with
    | nil => exact Sl.nil _ _
    | cons b' t' => exact sliAt hS 4 (q := some b') rfl (fun e => by cases e))) ?_
    refine GoH.regionEnd ?_
    refine GoH.cond rfl (fun hc => ?_) (fun hc => ?_)
    · -- yes
      have h1 : psM n m rows t.length = prevL (psM n m rows) t := by simpa using hc
      cases t with
      | nil => have h2 := congrArg List.length h1; rw [psq_len] at h2; simp [prevL] at h2; omega
      | cons b' t' => exact GoH.rExit (b :: b' :: t', b' :: t') rfl ⟨rfl, rfl, b, b', t', rfl, rfl, hch, h1.symm⟩ (List.Sublist.refl _)
    · -- no
      have h1 : psM n m rows t.length ≠ prevL (psM n m rows) t := by simpa using hc
      refine GoH.skip ?_
      refine GoH.seq ?_
      refine GoH.region ?_
      refine GoH.v (Vop.mv rfl rfl rfl rfl) ?_
      refine GoH.st rfl rfl rfl rfl Tryd.sizeOf36 rfl 1 rfl rfl ?_
      refine GoH.regionEnd ?_
      refine GoH.region ?_
      refine GoH.v (Vop.ldo rfl rfl rfl rfl Tryd.isAgg3 0 rfl rfl) ?_
      refine GoH.v (Vop.bin rfl rfl rfl rfl (bAdd (by omega)) rfl) ?_
      refine GoH.st rfl rfl rfl rfl Tryd.sizeOf3 rfl 0 rfl rfl ?_
      refine GoH.regionEnd ?_
      refine GoH.inBlock ?_
      refine GoH.rEnd (b :: t, b :: t) ⟨rfl, rfl, fun j hj => ?_⟩ (by simp only [List.length_cons]; rw [show ((t.length + 1 : Nat) : Int) - 1 = (t.length : Int) - 1 + 1 from by omega]; exact List.Sublist.refl _)
      simp only [List.length_cons] at hj
      by_cases e : j + 1 < t.length
      · exact hch j e
      · cases t with
        | nil => simp at hj
        | cons b' t' =>
          simp only [List.length_cons] at hj e
          obtain rfl : j = t'.length := by omega
          exact fun e => h1 e.symm
  · -- all have come
    exact fun h => h
  · -- stopped
    rintro c t s ⟨rfl, b, b', s', rfl, rfl, hch, hq⟩
    have hdq : s'.length = dep n m.val (rows.map Row.xs) := dep_uniq (by omega) (by omega) hq (fun j hj => hch j (by simp only [List.length_cons]; omega))
    dsimp only [prevV, prevL, prevA]
    -- exit 0
    refine GoH.exit rfl ?_
    refine GoH.seq ?_
    refine GoH.draw 4 mixed rfl ?_
    refine RdGo.v (Vop.ldo rfl rfl rfl rfl Tryd.isAgg36 1 rfl rfl) ?_
    refine RdGo.v (Vop.ldo rfl rfl rfl rfl Tryd.isAgg3 0 rfl rfl) ?_
    refine RdGo.v (Vop.asg rfl rfl rfl rfl) ?_
    refine RdGo.v (Vop.asg rfl rfl rfl rfl) ?_
    refine RdGo.nil ?_
    refine GoH.regionEnd ?_
    refine GoH.ret Tryd.f36 Tryd.func36 rfl (fun w' hS => ?_)
    refine ⟨hS.ext, b', by rw [← hdq, psq_len]; simp; rfl, ?_⟩
    rw [← hdq]
    exact ⟨hS.fresh (j := 4) rfl, hS.get (j := 4) rfl⟩
theorem ValM.relAt {m : MV} {w : World} {n : Nat} (hv : ValM m.n m.val m.rel) (hm : m.At w) (hn : m.n = (n : Int)) : RelAt w n m.ra m.rows :=
  ⟨hm.rel, fun r h => ⟨hm.row r h, hv.rels r.xs (List.mem_map.2 ⟨r, h, rfl⟩), by have := hv.len r.xs (List.mem_map.2 ⟨r, h, rfl⟩); omega⟩, by
    have h1 := hv.agents
    have h2 : m.rel.length = m.rows.length := by simp [MV.rel]
    omega⟩
theorem coarsest_c (m : MV) (w : World) (hT : Tab w) (hm : m.At w) :
    Cn Tryd.prog 14 [m.v] w (fun v w' => ∃ sv, v = .tuple #[sv, .int .i64 (checkM m.n m.val m.rel)] ∧ OwnS I64 3 w w' sv (crs m.n m.val m.rel)) := by
  refine Cn.of Tryd.func14 rfl rfl ?_
  refine GoH.seq ?_
  refine GoH.region ?_
  refine GoH.bx rfl rfl rfl rfl (fun b1 => ?_)
  refine GoH.v (Vop.asg rfl rfl rfl rfl) ?_
  refine GoH.v (Vop.asg rfl rfl rfl rfl) ?_
  refine GoH.regionEnd ?_
  refine GoH.seq ?_
  refine GoH.seq ?_
  refine GoH.region ?_
  refine GoH.v (Vop.ldB rfl rfl rfl rfl Tryd.isAgg25 0 rfl Tryd.sizeOf25 rfl) ?_
  refine GoH.callP rfl rfl rfl rfl rfl (fun _ _ => Tryd.call35 _ _) (fun w _ hS => (by exact mcheck_c m w (hm.ex0 hS.ext))) ?_
  refine GoH.v (Vop.asg rfl rfl rfl rfl) ?_
  refine GoH.regionEnd ?_
  refine GoH.seq ?_
  refine GoH.region ?_
  refine GoH.v (Vop.mv rfl rfl rfl rfl) ?_
  refine GoH.v (Vop.bin rfl rfl rfl rfl bNe rfl) ?_
  refine GoH.regionEnd ?_
  refine GoH.cond rfl (fun hc => ?_) (fun hc => ?_)
  · -- yes
    have h1 : checkM m.n m.val m.rel ≠ 0 := by simpa using hc
    refine GoH.seq ?_
    refine GoH.region ?_
    refine GoH.v (Vop.mv rfl rfl rfl rfl) ?_
    refine GoH.v (Vop.asg rfl rfl rfl rfl) ?_
    refine GoH.v (Vop.asg rfl rfl rfl rfl) ?_
    refine GoH.regionEnd ?_
    refine GoH.ret Tryd.f14 Tryd.func14 rfl (fun w' hS => ?_)
    exact ⟨hS.ext, _, rfl, by rw [crs_bad h1]; exact OwnS.nil0⟩
  · -- no
    have h1 : checkM m.n m.val m.rel = 0 := by simpa using hc
    have hv := checkM_zero.1 h1
    obtain ⟨n, hn⟩ : ∃ n : Nat, m.n = n := ⟨m.n.toNat, by have := hv.n1; omega⟩
    refine GoH.skip ?_
    refine GoH.seq ?_
    refine GoH.region ?_
    refine GoH.v (Vop.ldB rfl rfl rfl rfl Tryd.isAgg25 0 rfl Tryd.sizeOf25 rfl) ?_
    refine GoH.v (Vop.fldP rfl rfl rfl rfl Tryd.underlying25 rfl (by exact Tryd.sizeOf23) 2 rfl) ?_
    refine GoH.v (Vop.ldo (v := .slice m.ra m.rows.length m.rc) rfl rfl rfl rfl Tryd.isAgg23 0 rfl rfl) ?_
    refine GoH.callM _ rfl rfl rfl rfl rfl (fun _ _ => Tryd.call36 _ _) (fun w _ hS => stable_c m n m.ra m.rc m.rows w (hT.ex hS.ext) (hm.ex0 hS.ext) hv hn (ValM.relAt hv (hm.ex0 hS.ext) hn)) ?_
    rintro v w1 w2 Y' hS he ⟨q, rfl, hq, hh⟩
    refine ⟨_, hS.gain he hh rfl hq, ?_⟩
    refine GoH.v (Vop.mv rfl rfl rfl rfl) ?_
    refine GoH.v (Vop.ext rfl rfl rfl rfl rfl) ?_
    refine GoH.v (Vop.ext rfl rfl rfl rfl rfl) ?_
    refine GoH.v (Vop.asg rfl rfl rfl rfl) ?_
    refine GoH.v (Vop.asg rfl rfl rfl rfl) ?_
    refine GoH.regionEnd ?_
    refine GoH.seq ?_
    refine GoH.region ?_
    refine GoH.v (Vop.mv rfl rfl rfl rfl) ?_
    refine GoH.v (Vop.asg rfl rfl rfl rfl) ?_
    refine GoH.v (Vop.asg rfl rfl rfl rfl) ?_
    refine GoH.regionEnd ?_
    refine GoH.ret Tryd.f14 Tryd.func14 rfl (fun w' hS => ?_)
    exact ⟨hS.ext, _, by rw [h1]; rfl, by rw [crs_ok h1, hn]; exact OwnS.one hS 0 rfl (psq_len _).symm⟩
theorem depth_c (m : MV) (w : World) (hT : Tab w) (hm : m.At w) :
    Cn Tryd.prog 29 [m.v] w (fun v _ => v = .tuple #[.int .i64 (dpt m.n m.val m.rel), .int .i64 (checkM m.n m.val m.rel)]) := by
  refine Cn.of Tryd.func29 rfl rfl ?_
  refine GoH.seq ?_
  refine GoH.region ?_
  refine GoH.bx rfl rfl rfl rfl (fun b1 => ?_)
  refine GoH.v (Vop.asg rfl rfl rfl rfl) ?_
  refine GoH.v (Vop.asg rfl rfl rfl rfl) ?_
  refine GoH.regionEnd ?_
  refine GoH.seq ?_
  refine GoH.seq ?_
  refine GoH.region ?_
  refine GoH.v (Vop.ldB rfl rfl rfl rfl Tryd.isAgg25 0 rfl Tryd.sizeOf25 rfl) ?_
  refine GoH.callP rfl rfl rfl rfl rfl (fun _ _ => Tryd.call35 _ _) (fun w _ hS => (by exact mcheck_c m w (hm.ex0 hS.ext))) ?_
  refine GoH.v (Vop.asg rfl rfl rfl rfl) ?_
  refine GoH.regionEnd ?_
  refine GoH.seq ?_
  refine GoH.region ?_
  refine GoH.v (Vop.mv rfl rfl rfl rfl) ?_
  refine GoH.v (Vop.bin rfl rfl rfl rfl bNe rfl) ?_
  refine GoH.regionEnd ?_
  refine GoH.cond rfl (fun hc => ?_) (fun hc => ?_)
  · -- yes
    have h1 : checkM m.n m.val m.rel ≠ 0 := by simpa using hc
    refine GoH.seq ?_
    refine GoH.region ?_
    refine GoH.v (Vop.mv rfl rfl rfl rfl) ?_
    refine GoH.v (Vop.asg rfl rfl rfl rfl) ?_
    refine GoH.v (Vop.asg rfl rfl rfl rfl) ?_
    refine GoH.regionEnd ?_
    refine GoH.ret Tryd.f29 Tryd.func29 rfl (fun w' hS => ?_)
    exact ⟨hS.ext, by rw [dpt, if_pos h1]; rfl⟩
  · -- no
    have h1 : checkM m.n m.val m.rel = 0 := by simpa using hc
    have hv := checkM_zero.1 h1
    obtain ⟨n, hn⟩ : ∃ n : Nat, m.n = n := ⟨m.n.toNat, by have := hv.n1; omega⟩
    refine GoH.skip ?_
    refine GoH.seq ?_
    refine GoH.region ?_
    refine GoH.v (Vop.ldB rfl rfl rfl rfl Tryd.isAgg25 0 rfl Tryd.sizeOf25 rfl) ?_
    refine GoH.v (Vop.fldP rfl rfl rfl rfl Tryd.underlying25 rfl (by exact Tryd.sizeOf23) 2 rfl) ?_
    refine GoH.v (Vop.ldo (v := .slice m.ra m.rows.length m.rc) rfl rfl rfl rfl Tryd.isAgg23 0 rfl rfl) ?_
    refine GoH.callM _ rfl rfl rfl rfl rfl (fun _ _ => Tryd.call36 _ _) (fun w _ hS => stable_c m n m.ra m.rc m.rows w (hT.ex hS.ext) (hm.ex0 hS.ext) hv hn (ValM.relAt hv (hm.ex0 hS.ext) hn)) ?_
    rintro v w1 w2 Y' hS he ⟨q, rfl, hq, hh⟩
    refine ⟨_, hS.gain he hh rfl hq, ?_⟩
    refine GoH.v (Vop.mv rfl rfl rfl rfl) ?_
    refine GoH.v (Vop.ext rfl rfl rfl rfl rfl) ?_
    refine GoH.v (Vop.ext rfl rfl rfl rfl rfl) ?_
    refine GoH.v (Vop.asg rfl rfl rfl rfl) ?_
    refine GoH.v (Vop.asg rfl rfl rfl rfl) ?_
    refine GoH.regionEnd ?_
    refine GoH.seq ?_
    refine GoH.region ?_
    refine GoH.v (Vop.mv rfl rfl rfl rfl) ?_
    refine GoH.v (Vop.asg rfl rfl rfl rfl) ?_
    refine GoH.v (Vop.asg rfl rfl rfl rfl) ?_
    refine GoH.regionEnd ?_
    refine GoH.ret Tryd.f29 Tryd.func29 rfl (fun w' hS => ?_)
    exact ⟨hS.ext, by rw [dpt, if_neg (by simp [h1]), h1, hn]; rfl⟩
set_option maxRecDepth 8000 in
theorem roundsX_c (m : MV) (k : Int) (w : World) (hT : Tab w) (hm : m.At w) :
    Cn Tryd.prog 15 [m.v, .int .i64 k] w (fun v w' => ∃ sv, v = .tuple #[sv, .int .i64 (rndsE m.n m.val m.rel k)] ∧ OwnS I64 3 w w' sv (rnds m.n m.val m.rel k)) := by
  refine Cn.of Tryd.func15 rfl rfl ?_
  refine GoH.seq ?_
  refine GoH.region ?_
  refine GoH.bx rfl rfl rfl rfl (fun b2 => ?_)
  refine GoH.bx rfl rfl rfl rfl (fun b3 => ?_)
  refine GoH.alc rfl rfl rfl (fun _ => Tryd.zeroValue36 _) (fun b4 => ?_)
  refine GoH.alc rfl rfl rfl (fun _ => Tryd.zeroValue3 _) (fun b5 => ?_)
  refine GoH.regionEnd ?_
  refine GoH.seq ?_
  refine GoH.seq ?_
  refine GoH.region ?_
  refine GoH.v (Vop.ldB rfl rfl rfl rfl Tryd.isAgg25 3 rfl Tryd.sizeOf25 rfl) ?_
  refine GoH.callP rfl rfl rfl rfl rfl (fun _ _ => Tryd.call35 _ _) (fun w _ hS => (by exact mcheck_c m w (hm.ex0 hS.ext))) ?_
  refine GoH.v (Vop.asg rfl rfl rfl rfl) ?_
  refine GoH.regionEnd ?_
  refine GoH.seq ?_
  refine GoH.region ?_
  refine GoH.v (Vop.mv rfl rfl rfl rfl) ?_
  refine GoH.v (Vop.bin rfl rfl rfl rfl bNe rfl) ?_
  refine GoH.regionEnd ?_
  refine GoH.cond rfl (fun hc => ?_) (fun hc => ?_)
  · -- yes
    have h1 : checkM m.n m.val m.rel ≠ 0 := by simpa using hc
    have h2 : rndsE m.n m.val m.rel k ≠ 0 := by rw [rndsE, if_pos h1]; exact h1
    refine GoH.seq ?_
    refine GoH.region ?_
    refine GoH.v (Vop.mv rfl rfl rfl rfl) ?_
    refine GoH.st rfl rfl rfl rfl Tryd.sizeOf36 rfl 1 rfl rfl ?_
    refine GoH.st rfl rfl rfl rfl Tryd.sizeOf3 rfl 0 rfl rfl ?_
    refine GoH.regionEnd ?_
    refine GoH.retH Tryd.f15 Tryd.func15 _ (resH.cell1 rfl Tryd.isAgg36 (j := 1) rfl rfl (resH.cell1 rfl Tryd.isAgg3 (j := 0) rfl rfl resH.nil)) (fun w' hS => ?_)
    exact ⟨hS.ext, _, by rw [rndsE, if_pos h1]; rfl, by rw [rnds_bad h2]; exact OwnS.nil0⟩
  · -- no
    have h1 : checkM m.n m.val m.rel = 0 := by simpa using hc
    have hv := checkM_zero.1 h1
    obtain ⟨n, hn⟩ : ∃ n : Nat, m.n = n := ⟨m.n.toNat, by have := hv.n1; omega⟩
    have hn64 := hv.n64
    have hn1 := hv.n1
    refine GoH.skip ?_
    refine GoH.seq ?_
    refine GoH.seq ?_
    refine GoH.region ?_
    refine GoH.v (Vop.ldo rfl rfl rfl rfl Tryd.isAgg3 2 rfl rfl) ?_
    refine GoH.v (Vop.bin rfl rfl rfl rfl bLt rfl) ?_
    refine GoH.regionEnd ?_
    refine GoH.cond rfl (fun hc => ?_) (fun hc => ?_)
    · -- yes
      have h3 : k < 0 := by simpa using hc
      have h2 : rndsE m.n m.val m.rel k = 2 := by rw [rndsE, if_neg (by simp [h1]), if_pos h3]
      refine GoH.seq ?_
      refine GoH.region ?_
      refine GoH.st rfl rfl rfl rfl Tryd.sizeOf36 rfl 1 rfl rfl ?_
      refine GoH.st rfl rfl rfl rfl Tryd.sizeOf3 rfl 0 rfl rfl ?_
      refine GoH.regionEnd ?_
      refine GoH.retH Tryd.f15 Tryd.func15 _ (resH.cell1 rfl Tryd.isAgg36 (j := 1) rfl rfl (resH.cell1 rfl Tryd.isAgg3 (j := 0) rfl rfl resH.nil)) (fun w' hS => ?_)
      exact ⟨hS.ext, _, by rw [h2]; rfl, by rw [rnds_bad (by rw [h2]; decide)]; exact OwnS.nil0⟩
    · -- no
      have h3 : ¬ k < 0 := by simpa using hc
      have h2 : rndsE m.n m.val m.rel k = 0 := by rw [rndsE, if_neg (by simp [h1]), if_neg h3]
      refine GoH.skip ?_
      refine GoH.seq ?_
      refine GoH.region ?_
      refine GoH.alc rfl rfl rfl (fun _ => Tryd.zeroValue3 _) (fun b7 => ?_)
      refine GoH.st rfl rfl rfl rfl Tryd.sizeOf3 rfl 0 rfl rfl ?_
      refine GoH.regionEnd ?_
      refine GoH.seq ?_
      refine GoH.seq ?_
      refine GoH.region ?_
      refine GoH.v (Vop.ldB rfl rfl rfl rfl Tryd.isAgg25 4 rfl Tryd.sizeOf25 rfl) ?_
      refine GoH.v (Vop.fldP rfl rfl rfl rfl Tryd.underlying25 rfl (by exact Tryd.sizeOf23) 2 rfl) ?_
      refine GoH.v (Vop.ldo (v := .slice m.ra m.rows.length m.rc) rfl rfl rfl rfl Tryd.isAgg23 4 rfl rfl) ?_
      refine GoH.callM _ rfl rfl rfl rfl rfl (fun _ _ => Tryd.call37 _ _) (fun w _ hS => rounds_c m m.ra m.rc m.rows.length w) ?_
      rintro v w1 w2 Y' hS he ⟨bm, br, rfl, hH⟩
      refine ⟨_, hS.gainL he hH, ?_⟩
      -- heap: bm br b7 b5 b4 b3 b2
      refine GoH.regionEnd ?_
      refine GoH.block ?_
      refine GoH.rangeE (σ := Option Nat × Nat) (cap := [(some bm, .cells m.v.cells 25 (0, 0)), (some br, .cells #[.slice m.ra m.rows.length m.rc] 23 (0, 0))]) (fun s => [(some b7, .cells #[.int .i64 (s.2 : Int)] 3 (0, 0)), (some b5, .cells #[.int .i64 0] 3 (0, 0)), (some b4, .cells #[match s.1 with | none => .slice none 0 0 | some b => .slice (some ⟨b, 0, none⟩) n n] 36 (0, 0)), (some b3, .cells #[.int .i64 k] 3 (0, 0)), (some b2, .cells m.v.cells 25 (0, 0))]) n (fun t s => s.1 = none ∧ t.length = s.2 ∧ s.2 ≤ k.toNat ∧ s.2 ≤ n)
        (fun c t s => c = .ret ∧ ∃ b t', t = b :: t' ∧ s.1 = some b ∧ t'.length = min k.toNat n) (none, 0)
        rfl (fun _ _ => Tryd.call64 _ _) (rounds1_it m n m.ra m.rc m.rows _ hT hm hv hn (ValM.relAt hv hm hn) bm br) rfl rfl (fun t s h => by omega) ⟨rfl, rfl, Nat.zero_le _, Nat.zero_le _⟩ (List.Sublist.refl _) ?_ ?_ ?_
      -- heap: b7 b5 b4 b3 b2
      · -- a round
        rintro L Y' rec hi b t ⟨s, i⟩ ⟨hI, hi1, hi2, hi3⟩ hrec
        dsimp only at hI hi1 hi2 hi3
        subst hI
        dsimp only [pV]
        rw [show (psM n m m.rows t.length).length = n from psq_len _]
        refine GoH.region ?_
        refine GoH.v (Vop.asg rfl rfl rfl rfl) ?_
        refine GoH.regionEnd ?_
        refine GoH.beginRound hrec ?_
        refine GoH.block ?_
        refine GoH.seq ?_
        refine GoH.seq ?_
        refine GoH.region ?_
        refine GoH.v (Vop.ldo rfl rfl rfl rfl Tryd.isAgg3 0 rfl rfl) ?_
        refine GoH.v (Vop.ldo rfl rfl rfl rfl Tryd.isAgg3 3 rfl rfl) ?_
        refine GoH.v (Vop.bin rfl rfl rfl rfl bEq rfl) ?_
        refine GoH.v (Vop.mv rfl rfl rfl rfl) ?_
        -- guard on slot 24 (bisim.go:95)
        refine GoH.cases (d := 24) rfl (fun hc => ?_) (fun hc => ?_)
        · -- yes
          have hik : (i : Int) = k := by simpa using hc
          refine GoH.no rfl rfl rfl rfl ?_
          refine GoH.no rfl rfl rfl rfl ?_
          refine GoH.no rfl rfl rfl rfl ?_
          refine GoH.no rfl rfl rfl rfl ?_
          refine GoH.v (Vop.pickT rfl rfl rfl rfl rfl) ?_
          refine GoH.regionEnd ?_
          refine GoH.condT rfl ?_
          refine GoH.seq ?_
          refine GoH.region ?_
          refine GoH.v (Vop.mv rfl rfl rfl rfl) ?_
          refine GoH.st rfl rfl rfl rfl Tryd.sizeOf36 rfl 2 rfl rfl ?_
          refine GoH.st rfl rfl rfl rfl Tryd.sizeOf3 rfl 1 rfl rfl ?_
          refine GoH.regionEnd ?_
          exact GoH.rRet (b :: t, (some b, i)) ⟨rfl, rfl, b, t, rfl, rfl, by omega⟩ (List.Sublist.refl _)
        · -- no
          have hik : (i : Int) ≠ k := by simpa using hc
          refine GoH.v (Vop.ldo rfl rfl rfl rfl Tryd.isAgg3 0 rfl rfl) ?_
          refine GoH.v (Vop.fldP rfl rfl rfl rfl Tryd.underlying25 rfl (by exact Tryd.sizeOf3) 0 rfl) ?_
          refine GoH.v (Vop.ldo (v := .int .i64 m.n) rfl rfl rfl rfl Tryd.isAgg3 4 rfl rfl) ?_
          refine GoH.v (Vop.bin rfl rfl rfl rfl bEq rfl) ?_
          refine GoH.v (Vop.pickF rfl rfl rfl rfl rfl) ?_
          refine GoH.regionEnd ?_
          refine GoH.cond rfl (fun hc => ?_) (fun hc => ?_)
          · -- yes
            have hin : (i : Int) = m.n := by simpa using hc
            refine GoH.seq ?_
            refine GoH.region ?_
            refine GoH.v (Vop.mv rfl rfl rfl rfl) ?_
            refine GoH.st rfl rfl rfl rfl Tryd.sizeOf36 rfl 2 rfl rfl ?_
            refine GoH.st rfl rfl rfl rfl Tryd.sizeOf3 rfl 1 rfl rfl ?_
            refine GoH.regionEnd ?_
            exact GoH.rRet (b :: t, (some b, i)) ⟨rfl, rfl, b, t, rfl, rfl, by omega⟩ (List.Sublist.refl _)
          · -- no
            have hin : (i : Int) ≠ m.n := by simpa using hc
            refine GoH.skip ?_
            refine GoH.region ?_
            refine GoH.v (Vop.ldo rfl rfl rfl rfl Tryd.isAgg3 0 rfl rfl) ?_
            refine GoH.v (Vop.bin rfl rfl rfl rfl (bAdd (by omega)) rfl) ?_
            refine GoH.st rfl rfl rfl rfl Tryd.sizeOf3 rfl 0 rfl rfl ?_
            refine GoH.regionEnd ?_
            refine GoH.inBlock ?_
            exact GoH.rEnd (b :: t, (none, i + 1)) ⟨rfl, rfl, by simp only [List.length_cons]; omega, by dsimp only; omega, by dsimp only; omega⟩ (List.Sublist.refl _)
      · -- all have come
        exact fun h => h
      · -- stopped
        rintro c t ⟨s, i⟩ ⟨rfl, b, t', rfl, hs, ht⟩
        dsimp only at hs
        subst hs
        dsimp only
        refine GoH.retH Tryd.f15 Tryd.func15 _ (resH.cell1 rfl Tryd.isAgg36 (j := 2) rfl rfl (resH.cell1 rfl Tryd.isAgg3 (j := 1) rfl rfl resH.nil)) (fun w' hS => ?_)
        refine ⟨hS.ext, _, by rw [h2]; rfl, ?_⟩
        rw [rnds_ok h2, hn, show min k.toNat ((n : Int)).toNat = t'.length from ht.symm]
        exact OwnS.one hS 5 rfl (psq_len _).symm
end Go.Proofs.YtcljmlnnfdaljaaDoor
