/- Contracts of functions of the program: what each call returns and that nothing else of memory is turned, under the conditions that each theorem states. -/
import Derived.Test.YtpifbcbdbkbbjaaDoorB3
namespace Go.Proofs.YtpifbcbdbkbbjaaDoor
open Go.RowKit Go.Proofs.Wit
/-! the rounds -/
theorem eqI_of {xs ys : List Int} (hl : xs.length = ys.length) (h : ∀ i, i < xs.length → xs.getD i 0 = ys.getD i 0) : xs = ys := by
  apply List.ext_getElem hl
  intro i h1 h2
  have := h i h1
  simpa [List.getD_eq_getElem?_getD, h1, h2] using this
theorem equalI_c (a : Option Addr) (ca : Nat) (xs : List Int) (b : Option Addr) (cb : Nat) (ys : List Int) (w : World) (ha : SlI w a xs) (hb : SlI w b ys) (hl : xs.length ≤ maxLen) :
    Cn Tryd.prog 18 [.slice a xs.length ca, .slice b ys.length cb] w (fun v _ => v = .bool (xs == ys)) := by
  unfold maxLen at hl
  refine Cn.of Tryd.func18 rfl rfl ?_
  refine GoH.seq ?_
  refine GoH.region ?_
  refine GoH.v (Vop.asg rfl rfl rfl rfl) ?_
  refine GoH.regionEnd ?_
  refine GoH.seq ?_
  refine GoH.seq ?_
  refine GoH.region ?_
  refine GoH.v (Vop.mv rfl rfl rfl rfl) ?_
  refine GoH.v (Vop.blt rfl rfl rfl (blt_len_slice Tryd.underlying28) rfl) ?_
  refine GoH.v (Vop.mv rfl rfl rfl rfl) ?_
  refine GoH.v (Vop.blt rfl rfl rfl (blt_len_slice Tryd.underlying28) rfl) ?_
  refine GoH.v (Vop.bin rfl rfl rfl rfl bNe rfl) ?_
  refine GoH.regionEnd ?_
  refine GoH.cond rfl (fun hc => ?_) (fun hc => ?_)
  · -- yes
    have h1 : xs.length ≠ ys.length := by simp at hc; omega
    refine GoH.seq ?_
    refine GoH.region ?_
    refine GoH.v (Vop.asg rfl rfl rfl rfl) ?_
    refine GoH.regionEnd ?_
    refine GoH.ret Tryd.f18 Tryd.func18 rfl (fun w' hS => ?_)
    exact ⟨hS.ext, by rw [show (xs == ys) = false from by rw [beq_eq_false_iff_ne]; rintro rfl; exact h1 rfl]; rfl⟩
  · -- no
    have h1 : xs.length = ys.length := by simp at hc; omega
    refine GoH.skip ?_
    refine GoH.seq ?_
    refine GoH.seq ?_
    refine GoH.region ?_
    refine GoH.v (Vop.mv rfl rfl rfl rfl) ?_
    refine GoH.v (Vop.blt rfl rfl rfl (blt_len_slice Tryd.underlying28) rfl) ?_
    refine GoH.v (Vop.mv rfl rfl rfl rfl) ?_
    refine GoH.regionEnd ?_
    refine GoH.block ?_
    refine GoH.loop (σ := Nat) (fun k => [(0, .slice a xs.length ca), (1, .slice b ys.length cb), (12, .int .i64 xs.length), (13, .int .i64 k)]) (fun _ => []) (fun k => k ≤ xs.length ∧ ∀ i, i < k → xs.getD i 0 = ys.getD i 0) (fun k => xs.length - k) 0 ⟨Nat.zero_le _, fun i hi => by omega⟩ ⟨rfl, rfl, rfl, rfl, trivial⟩ .slnil (fun k hI IH => ?_)
    obtain ⟨hk, hall⟩ := hI
    refine GoH.seq ?_
    refine GoH.region ?_
    refine GoH.v (Vop.bin rfl rfl rfl rfl bLt rfl) ?_
    refine GoH.regionEnd ?_
    refine GoH.seq ?_
    refine GoH.cond rfl (fun hc => ?_) (fun hc => ?_)
    · -- yes
      have hlt : k < xs.length := by simpa using hc
      have hlt2 : k < ys.length := h1 ▸ hlt
      refine GoH.skip ?_
      refine GoH.seq ?_
      refine GoH.block ?_
      refine GoH.seq ?_
      refine GoH.region ?_
      refine GoH.v (Vop.mv rfl rfl rfl rfl) ?_
      refine GoH.v (Vop.asg rfl rfl rfl rfl) ?_
      refine GoH.regionEnd ?_
      refine GoH.seq ?_
      refine GoH.draw 9 mixed rfl ?_
      refine RdGo.v (Vop.mv rfl rfl rfl rfl) ?_
      refine RdGo.v (Vop.mv rfl rfl rfl rfl) ?_
      refine RdGo.v (Vop.idx rfl rfl rfl rfl rfl Tryd.underlying28 Tryd.sizeOf3 ⟨_, ha⟩ (by simp) (k) ⟨rfl, by simpa using hlt⟩) ?_
      refine RdGo.v (Vop.ld rfl rfl rfl rfl Tryd.isAgg3 (fun w _ hS => (SlI.ex0 ha hS.ext).at (k) hlt)) ?_
      refine RdGo.v (Vop.mv rfl rfl rfl rfl) ?_
      refine RdGo.v (Vop.mv rfl rfl rfl rfl) ?_
      refine RdGo.v (Vop.idx rfl rfl rfl rfl rfl Tryd.underlying28 Tryd.sizeOf3 ⟨_, hb⟩ (by simp) (k) ⟨rfl, by simpa using hlt2⟩) ?_
      refine RdGo.v (Vop.ld rfl rfl rfl rfl Tryd.isAgg3 (fun w _ hS => (SlI.ex0 hb hS.ext).at (k) hlt2)) ?_
      refine RdGo.v (Vop.bin rfl rfl rfl rfl bNe rfl) ?_
      refine RdGo.nil ?_
      refine GoH.regionEnd ?_
      refine GoH.cond rfl (fun hc => ?_) (fun hc => ?_)
      · -- yes
        have h2 : (xs == ys) = false := by
          rw [beq_eq_false_iff_ne]
          rintro rfl
          simp at hc
        refine GoH.seq ?_
        refine GoH.region ?_
        refine GoH.v (Vop.asg rfl rfl rfl rfl) ?_
        refine GoH.regionEnd ?_
        refine GoH.ret Tryd.f18 Tryd.func18 rfl (fun w' hS => ?_)
        exact ⟨hS.ext, by rw [h2]; rfl⟩
      · -- no
        have h2 : xs[k] = ys[k] := by simpa using hc
        refine GoH.skip ?_
        refine GoH.inBlock ?_
        refine GoH.region ?_
        refine GoH.v (Vop.bin rfl rfl rfl rfl (bAdd (by omega)) rfl) ?_
        refine GoH.v (Vop.mv rfl rfl rfl rfl) ?_
        refine GoH.regionEnd ?_
        exact IH (k + 1) _ _ ⟨hlt, fun i hi => by
        by_cases e : i = k
        · subst e; rw [← lowE hlt, ← lowE hlt2, h2]
        · exact hall i (by omega)⟩ (by omega) ⟨rfl, rfl, rfl, rfl, trivial⟩ .slnil
    · -- no
      have hge : ¬ k < xs.length := by simpa using hc
      obtain rfl : k = xs.length := by omega
      refine GoH.exit rfl ?_
      refine GoH.seq ?_
      refine GoH.region ?_
      refine GoH.v (Vop.asg rfl rfl rfl rfl) ?_
      refine GoH.regionEnd ?_
      refine GoH.ret Tryd.f18 Tryd.func18 rfl (fun w' hS => ?_)
      exact ⟨hS.ext, by rw [eqI_of h1 hall, beq_self_eq_true]; rfl⟩
theorem reachedN_c (a : Option Addr) (ca : Nat) (p : List Int) (s : W64) (w : World) (n : Nat) (hn : p.length = n) (hT : Tab w) (ha : SlI w a p) (hp : OkP p) (hv : ∀ i ∈ pts s, i < n) :
    Cn Tryd.prog 58 [.slice a n ca, U s] w (fun v _ => v = U (rch p s)) := by subst hn; exact reached_c a ca p s w hT ha hp hv
theorem splitN_c (a : Option Addr) (ca : Nat) (xs : List Int) (b : Option Addr) (cb : Nat) (ys : List Int) (w : World) (n : Nat) (hx : xs.length = n) (hy : ys.length = n) (ha : SlI w a xs) (hb : SlI w b ys) (hp : OkP xs) :
    Cn Tryd.prog 56 [.slice a n ca, .slice b n cb] w (fun v w' => ∃ q, v = .tuple #[.slice (some ⟨q, 0, none⟩) n n, .int .i64 0] ∧ w.heap.size ≤ q ∧ w'.heap[q]? = some (ob I64 3 (divP xs ys) [])) := by
  subst hx; have := split_c a ca xs b cb ys w ha hb hp hy; rw [hy] at this; exact this
/-- relations of n worlds, as a list of lists in memory -/
structure RelAt (w : World) (n : Nat) (ra : Option Addr) (rows : List Row) : Prop where
  rel : SlR w ra rows
  row : ∀ r ∈ rows, r.At w ∧ Val r.xs ∧ r.xs.length = n
  len : rows.length ≤ 20
theorem RelAt.ex0 {w0 w : World} {n : Nat} {ra : Option Addr} {rows : List Row} (h : RelAt w0 n ra rows) (e : Ex [] w0 w) : RelAt w n ra rows := ⟨h.rel.ex0 e, fun r hr => ⟨((h.row r hr).1).ex0 e, (h.row r hr).2⟩, h.len⟩
abbrev psM (n : Nat) (m : MV) (rows : List Row) : Nat → List Int := psq n m.val (rows.map Row.xs)
set_option maxRecDepth 8000 in
theorem rounds1_it (m : MV) (n : Nat) (ra : Option Addr) (rc : Nat) (rows : List Row) (w0 : World) (hT : Tab w0) (hm : m.At w0) (hv : ValM m.n m.val m.rel) (hn : m.n = (n : Int)) (hr : RelAt w0 n ra rows) (bm br : Nat) :
    IterE Tryd.prog w0 [] 54 [.pointer (some ⟨bm, 0, none⟩), .pointer (some ⟨br, 0, none⟩)] 3 (psM n m rows) [(some bm, .cells m.v.cells 25 (0, 0)), (some br, .cells #[.slice ra rows.length rc] 23 (0, 0))] := by
  obtain ⟨i0, hi, hz, hsz, hby⟩ := info_parts infoI
  have hn64 := hv.n64
  have hn1 := hv.n1
  have hrl := hr.len
  refine IterE.of Tryd.func54 rfl rfl (fun Y σ Hc N I X Yx L hN hy c0 hI0 => ?_)
  refine GoH.seq ?_
  refine GoH.region ?_
  refine GoH.v (Vop.fldP rfl rfl rfl rfl Tryd.underlying25 rfl (by exact Tryd.sizeOf3) 0 rfl) ?_
  refine GoH.v (Vop.ldo (v := .int .i64 m.n) rfl rfl rfl rfl Tryd.isAgg3 0 rfl rfl) ?_
  refine GoH.mkE I64 0 (m := n) rfl rfl (by rw [← hn]; rfl) (by rw [← hn]; rfl) rfl Tryd.underlying28 hi hz rfl hsz (by rw [hby]; omega) (by unfold maxLen; omega) (fun b17 => ?_)
  -- heap: b17 b1 b2
  refine GoH.v (Vop.asg rfl rfl rfl rfl) ?_
  refine GoH.regionEnd ?_
  refine GoH.seq ?_
  refine GoH.region ?_
  refine GoH.v (Vop.fldP rfl rfl rfl rfl Tryd.underlying25 rfl (by exact Tryd.sizeOf3) 0 rfl) ?_
  refine GoH.v (Vop.ldo (v := .int .i64 m.n) rfl rfl rfl rfl Tryd.isAgg3 1 rfl rfl) ?_
  refine GoH.mkE I64 0 (m := n) rfl rfl (by rw [← hn]; rfl) (by rw [← hn]; rfl) rfl Tryd.underlying28 hi hz rfl hsz (by rw [hby]; omega) (by unfold maxLen; omega) (fun b20 => ?_)
  -- heap: b20 b17 b1 b2
  refine GoH.v (Vop.asg rfl rfl rfl rfl) ?_
  refine GoH.regionEnd ?_
  refine GoH.seq ?_
  refine GoH.seq ?_
  refine GoH.region ?_
  refine GoH.v (Vop.mv rfl rfl rfl rfl) ?_
  refine GoH.v (Vop.blt rfl rfl rfl (blt_len_slice Tryd.underlying28) rfl) ?_
  refine GoH.v (Vop.mv rfl rfl rfl rfl) ?_
  refine GoH.regionEnd ?_
  refine GoH.block ?_
  refine GoH.loop (σ := Nat) (fun k => [(0, Value.func (.yield L) #[] #[]), (1, .pointer (some ⟨bm, 0, none⟩)), (2, .pointer (some ⟨br, 0, none⟩)), (4, .slice (some ⟨b17, 0, none⟩) n n), (5, .slice (some ⟨b20, 0, none⟩) n n), (22, .int .i64 n), (23, .int .i64 k)])
    (fun k => (some b20, ob I64 3 (fillI n (fun x => (fm m.val x : Int)) k) []) :: (some b17, ob I64 3 (List.replicate n 0) []) :: (some bm, .cells m.v.cells 25 (0, 0)) :: (some br, .cells #[.slice ra rows.length rc] 23 (0, 0)) :: Hc c0)
    (fun k => k ≤ n) (fun k => n - k) 0 (Nat.zero_le _) ⟨rfl, rfl, rfl, rfl, rfl, rfl, rfl, trivial⟩ (by rw [fillI_zero]; exact List.Sublist.refl _) (fun k hI IH => ?_)
  -- heap: b20 b17 b1 b2
  refine GoH.seq ?_
  refine GoH.region ?_
  refine GoH.v (Vop.bin rfl rfl rfl rfl bLt rfl) ?_
  refine GoH.regionEnd ?_
  refine GoH.seq ?_
  refine GoH.cond rfl (fun hc => ?_) (fun hc => ?_)
  · -- yes
    have hlt : k < n := by simpa using hc
    refine GoH.skip ?_
    refine GoH.seq ?_
    refine GoH.block ?_
    refine GoH.seq ?_
    refine GoH.region ?_
    refine GoH.v (Vop.mv rfl rfl rfl rfl) ?_
    refine GoH.v (Vop.asg rfl rfl rfl rfl) ?_
    refine GoH.regionEnd ?_
    refine GoH.region ?_
    refine GoH.v (Vop.mv rfl rfl rfl rfl) ?_
    refine GoH.v (Vop.mv rfl rfl rfl rfl) ?_
    refine GoH.v (Vop.ldB rfl rfl rfl rfl Tryd.isAgg25 2 rfl Tryd.sizeOf25 rfl) ?_
    refine GoH.v (Vop.mv rfl rfl rfl rfl) ?_
    refine GoH.callP rfl rfl rfl rfl rfl (fun _ _ => Tryd.call55 _ _) (fun w _ hS => facts_c m k w (hm.ex0 hS.ext) hv (by omega)) ?_
    refine GoH.v (Vop.idxS rfl rfl rfl rfl rfl Tryd.underlying28 Tryd.sizeOf3 (k) ⟨rfl, (by simpa using hlt)⟩) ?_
    refine GoH.stE (Value.int .i64) _ rfl rfl rfl rfl Tryd.sizeOf3 rfl 0 rfl (by rw [fillI_len]; exact hlt) ?_
    refine GoH.regionEnd ?_
    refine GoH.inBlock ?_
    refine GoH.region ?_
    refine GoH.v (Vop.bin rfl rfl rfl rfl (bAdd (by omega)) rfl) ?_
    refine GoH.v (Vop.mv rfl rfl rfl rfl) ?_
    refine GoH.regionEnd ?_
    exact IH (k + 1) _ _ hlt (by omega) ⟨rfl, rfl, rfl, rfl, rfl, rfl, rfl, trivial⟩ (by rw [← fillI_set hlt]; exact List.Sublist.refl _)
  · -- no
    have hge : ¬ k < n := by simpa using hc
    obtain rfl : n = k := by omega
    refine GoH.exit rfl ?_
    refine GoH.seq ?_
    refine GoH.region ?_
    refine GoH.v (Vop.mv rfl rfl rfl rfl) ?_
    refine GoH.v (Vop.mv rfl rfl rfl rfl) ?_
    refine GoH.callM _ rfl rfl rfl rfl rfl (fun _ _ => Tryd.call56 _ _) (fun w _ hS => splitN_c (some ⟨b17, 0, none⟩) n (List.replicate n 0) (some ⟨b20, 0, none⟩) n (fillI n (fun x => (fm m.val x : Int)) n) w n (by simp) fillI_len (sliAt hS 1 (q := some b17) rfl (fun e => by cases e)) (sliAt hS 0 (q := some b20) rfl (fun e => by cases e)) (okP_zero (by omega))) ?_
    rintro v w1 w2 Y' hS he ⟨q, rfl, hq, hh⟩
    rw [fillI_all, div_zero] at hh
    refine ⟨_, hS.gain he hh rfl hq, ?_⟩
    -- heap: q b20 b17 b1 b2
    refine GoH.v (Vop.mv rfl rfl rfl rfl) ?_
    refine GoH.v (Vop.ext rfl rfl rfl rfl rfl) ?_
    refine GoH.v (Vop.ext rfl rfl rfl rfl rfl) ?_
    refine GoH.v (Vop.asg rfl rfl rfl rfl) ?_
    refine GoH.regionEnd ?_
    refine GoH.block ?_
    have hpl : ∀ i, (psM n m rows i).length = n := fun i => psq_len i
    have hpo : ∀ i, OkP (psM n m rows i) := fun i => psq_ok (by omega) i
    have hV0 : ∀ b (t : List Nat), pV (psM n m rows) b t = .slice (some ⟨b, 0, none⟩) n n := fun b t => by rw [pV, hpl]
    refine GoH.pickT (pre := [_, _, _, _, _]) (pre' := [(some bm, .cells m.v.cells 25 (0, 0)), (some br, .cells #[.slice ra rows.length rc] 23 (0, 0)), (some q, ob I64 3 (psM n m rows 0) [])]) (Hc c0) [3, 4, 0] (by decide) rfl ?_
    refine GoH.loop (σ := List Nat × Nat × σ) (fun z => [(0, Value.func (.yield L) #[] #[]), (1, .pointer (some ⟨bm, 0, none⟩)), (2, .pointer (some ⟨br, 0, none⟩)), (4, .slice (some ⟨z.2.1, 0, none⟩) n n)])
      (fun z => (some bm, .cells m.v.cells 25 (0, 0)) :: (some br, .cells #[.slice ra rows.length rc] 23 (0, 0)) :: (some z.2.1, ob I64 3 (psM n m rows z.1.length) []) :: (Hist 3 (psM n m rows) z.1 ++ Hc z.2.2))
      (fun z => I z.1 z.2.2) (fun z => N + 1 - z.1.length) ([], q, c0) hI0 ⟨rfl, rfl, rfl, rfl, trivial⟩ (List.Sublist.refl _) (fun z hI IH => ?_)
    obtain ⟨t, q, c⟩ := z
    dsimp only at hI IH ⊢
    -- heap: b1 b2 q
    refine GoH.seq ?_
    refine GoH.seq ?_
    refine GoH.region ?_
    refine GoH.v (Vop.mv rfl rfl rfl rfl) ?_
    refine GoH.v (Vop.mv rfl rfl rfl rfl) ?_
    refine GoH.yieldI (a := [pV (psM n m rows) q t]) (fun h' => ∃ c', I (q :: t) c' ∧ h' = (some bm, .cells m.v.cells 25 (0, 0)) :: (some br, .cells #[.slice ra rows.length rc] 23 (0, 0)) :: (some q, ob I64 3 (psM n m rows t.length) []) :: (Hist 3 (psM n m rows) t ++ Hc c'))
      (fun h' Y' => ∃ c', X (q :: t) c' ∧ h' = (some bm, .cells m.v.cells 25 (0, 0)) :: (some br, .cells #[.slice ra rows.length rc] 23 (0, 0)) :: (some q, ob I64 3 (psM n m rows t.length) []) :: (Hist 3 (psM n m rows) t ++ Hc c') ∧ Y' = Yx c') rfl rfl rfl (by rw [hV0]; rfl) rfl
      (fun w Y1 hS => ?_) (fun h' hh => ?_) (fun h' Y' hh => ?_)
    · obtain ⟨fn, tm, as', bd, hyy, hrr⟩ := hy q t c hI [(some bm, .cells m.v.cells 25 (0, 0)), (some br, .cells #[.slice ra rows.length rc] 23 (0, 0))] w Y1 hS
      refine ⟨fn, tm, as', bd, hyy, fun c2 cs => ?_⟩
      obtain ⟨v, w', hpost, hst⟩ := hrr c2 cs
      refine ⟨v, w', ?_, hst⟩
      rcases hpost with ⟨hv, c', hI', hS'⟩ | ⟨hv, c', hX', hS'⟩
      · exact .inl ⟨hv, _, ⟨c', hI', rfl⟩, hS'⟩
      · exact .inr ⟨hv, _, _, ⟨c', hX', rfl, rfl⟩, hS'⟩
    rotate_left
    · obtain ⟨c', hX', rfl, rfl⟩ := hh
      refine GoH.regionEnd (GoH.condF rfl (GoH.exit rfl (GoH.fin Tryd.f54 Tryd.func54 rfl (fun w' hS => ⟨q :: t, c', hX', hS.subH (.cons _ (.cons _ (List.Sublist.refl _)))⟩))))
    obtain ⟨c', hI', rfl⟩ := hh
    have htN := hN _ _ hI'
    rw [List.length_cons] at htN
    -- known: true
    refine GoH.regionEnd ?_
    refine GoH.condT rfl ?_
    refine GoH.skip ?_
    refine GoH.block ?_
    refine GoH.seq ?_
    refine GoH.region ?_
    refine GoH.mkMap bstr evN rfl rfl rfl (fun b42 => ?_)
    -- heap: b42 b1 b2 q
    refine GoH.v (Vop.asg rfl rfl rfl rfl) ?_
    refine GoH.regionEnd ?_
    refine GoH.seq ?_
    refine GoH.region ?_
    refine GoH.v (Vop.fldP rfl rfl rfl rfl Tryd.underlying25 rfl (by exact Tryd.sizeOf3) 0 rfl) ?_
    refine GoH.v (Vop.ldo (v := .int .i64 m.n) rfl rfl rfl rfl Tryd.isAgg3 1 rfl rfl) ?_
    refine GoH.mkE I64 0 (m := n) rfl rfl (by rw [← hn]; rfl) (by rw [← hn]; rfl) rfl Tryd.underlying28 hi hz rfl hsz (by rw [hby]; omega) (by unfold maxLen; omega) (fun b45 => ?_)
    -- heap: b45 b42 b1 b2 q
    refine GoH.v (Vop.asg rfl rfl rfl rfl) ?_
    refine GoH.regionEnd ?_
    refine GoH.seq ?_
    refine GoH.seq ?_
    refine GoH.region ?_
    refine GoH.v (Vop.mv rfl rfl rfl rfl) ?_
    refine GoH.v (Vop.blt rfl rfl rfl (blt_len_slice Tryd.underlying28) rfl) ?_
    refine GoH.v (Vop.mv rfl rfl rfl rfl) ?_
    refine GoH.regionEnd ?_
    refine GoH.block ?_
    obtain ⟨p, hp⟩ : ∃ p, psM n m rows t.length = p := ⟨_, rfl⟩
    have hpn : p.length = n := by rw [← hp]; exact hpl _
    have hpk : OkP p := by rw [← hp]; exact hpo _
    have hKs := KeyOk.bstr (P := Tryd.prog) (kt := 9) Tryd.underlying9
    refine GoH.loop (σ := Nat × List (List UInt8 × Nat) × List Int) (fun z => [(0, Value.func (.yield L) #[] #[]), (1, .pointer (some ⟨bm, 0, none⟩)), (2, .pointer (some ⟨br, 0, none⟩)), (4, .slice (some ⟨q, 0, none⟩) n n), (7, .map (some b42)), (8, .slice (some ⟨b45, 0, none⟩) n n), (47, .int .i64 n), (48, .int .i64 z.1)])
      (fun z => (some b45, ob I64 3 z.2.2 []) :: (some b42, mobj bstr evN z.2.1) :: (some bm, .cells m.v.cells 25 (0, 0)) :: (some br, .cells #[.slice ra rows.length rc] 23 (0, 0)) :: (some q, ob I64 3 p []) :: (Hist 3 (psM n m rows) t ++ Hc c'))
      (fun z => Nums (ksOf (rows.map Row.xs) p) n z.2.1 z.2.2 z.1) (fun z => n - z.1) (0, [], List.replicate n 0) Nums.start ⟨rfl, rfl, rfl, rfl, rfl, rfl, rfl, rfl, trivial⟩ (by rw [← hp]; exact List.Sublist.refl _) (fun z hI IH2 => ?_)
    obtain ⟨k, Lm, l⟩ := z
    have hIk := hI.le
    have hIl := hI.len
    dsimp only at hI IH2 hIk hIl ⊢
    -- heap: b45 b42 b1 b2 q
    refine GoH.seq ?_
    refine GoH.region ?_
    refine GoH.v (Vop.bin rfl rfl rfl rfl bLt rfl) ?_
    refine GoH.regionEnd ?_
    refine GoH.seq ?_
    refine GoH.cond rfl (fun hc => ?_) (fun hc => ?_)
    · -- yes
      have hlt : k < n := by simpa using hc
      refine GoH.skip ?_
      refine GoH.seq ?_
      refine GoH.block ?_
      refine GoH.seq ?_
      refine GoH.region ?_
      refine GoH.v (Vop.mv rfl rfl rfl rfl) ?_
      refine GoH.v (Vop.asg rfl rfl rfl rfl) ?_
      refine GoH.regionEnd ?_
      refine GoH.seq ?_
      refine GoH.region ?_
      refine GoH.v (Vop.asg rfl rfl rfl rfl) ?_
      refine GoH.regionEnd ?_
      refine GoH.seq ?_
      refine GoH.seq ?_
      refine GoH.region ?_
      refine GoH.v (Vop.ldo rfl rfl rfl rfl Tryd.isAgg23 3 rfl rfl) ?_
      refine GoH.v (Vop.blt rfl rfl rfl (blt_len_slice Tryd.underlying23) rfl) ?_
      refine GoH.v (Vop.mv rfl rfl rfl rfl) ?_
      refine GoH.regionEnd ?_
      refine GoH.block ?_
      refine GoH.loop (σ := Nat) (fun j => [(0, Value.func (.yield L) #[] #[]), (1, .pointer (some ⟨bm, 0, none⟩)), (2, .pointer (some ⟨br, 0, none⟩)), (4, .slice (some ⟨q, 0, none⟩) n n), (7, .map (some b42)), (8, .slice (some ⟨b45, 0, none⟩) n n), (47, .int .i64 n), (48, .int .i64 k), (9, .int .i64 k), (10, bstr (keyL ((rows.take j).map (fun r => rch p (r.xs.getD k 0#64))))), (51, .slice ra rows.length rc), (52, .int .i64 rows.length), (53, .int .i64 j)])
        (fun _ => (some b45, ob I64 3 l []) :: (some b42, mobj bstr evN Lm) :: (some bm, .cells m.v.cells 25 (0, 0)) :: (some br, .cells #[.slice ra rows.length rc] 23 (0, 0)) :: (some q, ob I64 3 p []) :: (Hist 3 (psM n m rows) t ++ Hc c'))
        (fun j => j ≤ rows.length) (fun j => rows.length - j) 0 (Nat.zero_le _) ⟨rfl, rfl, rfl, rfl, rfl, rfl, rfl, rfl, rfl, rfl, rfl, rfl, rfl, trivial⟩ (List.Sublist.refl _) (fun j hj IH3 => ?_)
      -- heap: b45 b42 b1 b2 q
      refine GoH.seq ?_
      refine GoH.region ?_
      refine GoH.v (Vop.bin rfl rfl rfl rfl bLt rfl) ?_
      refine GoH.regionEnd ?_
      refine GoH.seq ?_
      refine GoH.cond rfl (fun hc => ?_) (fun hc => ?_)
      · -- yes
        have hltj : j < rows.length := by simpa using hc
        obtain ⟨hrow, hrv, hrn⟩ := hr.row rows[j] (List.getElem_mem hltj)
        have hkr : k < rows[j].xs.length := by omega
        have hb0 := hexW_len (rch p (rows[j].xs.getD k 0#64))
        have hb1 : (hexN (rch p (rows[j].xs.getD k 0#64)).toNat).length + ([32] : List UInt8).length ≤ 1000000 := by rw [List.length_singleton]; omega
        have hb2 : (keyL ((rows.take j).map (fun r => rch p (r.xs.getD k 0#64)))).length + (hexN (rch p (rows[j].xs.getD k 0#64)).toNat ++ [32]).length ≤ 1000000 := by
          rw [List.length_append, List.length_singleton]
          have h2 := keyL_len ((rows.take j).map (fun r => rch p (r.xs.getD k 0#64)))
          have h3 : ((rows.take j).map (fun r => rch p (r.xs.getD k 0#64))).length = j := by rw [List.length_map, List.length_take]; omega
          rw [h3] at h2; omega
        refine GoH.skip ?_
        refine GoH.seq ?_
        refine GoH.block ?_
        refine GoH.seq ?_
        refine GoH.region ?_
        refine GoH.v (Vop.idx rfl rfl rfl rfl rfl Tryd.underlying23 Tryd.sizeOf22 ⟨_, hr.rel⟩ (by simp) (j) ⟨rfl, by simpa using hltj⟩) ?_
        refine GoH.v (Vop.ld rfl rfl rfl rfl Tryd.isAgg22 (fun w _ hS => (SlR.ex0 hr.rel hS.ext).at (j) hltj)) ?_
        refine GoH.v (Vop.asg rfl rfl rfl rfl) ?_
        refine GoH.regionEnd ?_
        refine GoH.region ?_
        refine GoH.v (Vop.mv rfl rfl rfl rfl) ?_
        refine GoH.v (Vop.mv rfl rfl rfl rfl) ?_
        refine GoH.v (Vop.mv rfl rfl rfl rfl) ?_
        refine GoH.v (Vop.mv rfl rfl rfl rfl) ?_
        refine GoH.v (Vop.idx rfl rfl rfl rfl rfl Tryd.underlying22 Tryd.sizeOf44 ⟨_, hrow.at_⟩ (by simp) (k) ⟨rfl, by simpa using hkr⟩) ?_
        refine GoH.v (Vop.ld rfl rfl rfl rfl Tryd.isAgg44 (fun w _ hS => (SlU.ex0 hrow.at_ hS.ext).at (k) hkr)) ?_
        refine GoH.callP rfl rfl rfl rfl rfl (fun _ _ => Tryd.call58 _ _) (fun w _ hS => reachedN_c (some ⟨q, 0, none⟩) n p (rows[j].xs.getD k 0#64) w n hpn (hT.ex hS.ext) (sliAt hS 4 (q := some q) rfl (fun e => by cases e)) hpk (fun i hi => by have := hrv.pts k i hi; omega)) ?_
        refine GoH.callP rfl rfl rfl rfl rfl (fun _ _ => Tryd.call57 _ _) (fun w _ hS => fmtU_c (rch p (rows[j].xs.getD k 0#64)) w (hT.ex hS.ext)) ?_
        refine GoH.v (Vop.bin rfl rfl rfl rfl (bCat (b := [32]) hb1) rfl) ?_
        refine GoH.v (Vop.bin rfl rfl rfl rfl (bCat hb2) rfl) ?_
        refine GoH.v (Vop.asg rfl rfl rfl rfl) ?_
        refine GoH.regionEnd ?_
        refine GoH.inBlock ?_
        refine GoH.region ?_
        refine GoH.v (Vop.bin rfl rfl rfl rfl (bAdd (by omega)) rfl) ?_
        refine GoH.v (Vop.mv rfl rfl rfl rfl) ?_
        refine GoH.regionEnd ?_
        exact IH3 (j + 1) _ _ hltj (by omega) ⟨rfl, rfl, rfl, rfl, rfl, rfl, rfl, rfl, rfl, (by rw [List.take_succ_eq_append_getElem hltj, List.map_append, List.map_singleton, keyL_snoc]; rfl), rfl, rfl, rfl, trivial⟩ (List.Sublist.refl _)
      · -- no
        have hge : ¬ j < rows.length := by simpa using hc
        obtain rfl : j = rows.length := by omega
        have hks : keyL ((rows.take rows.length).map (fun r => rch p (r.xs.getD k 0#64))) = ksOf (rows.map Row.xs) p k := by rw [List.take_length, ksOf, List.map_map]; rfl
        rw [hks]
        refine GoH.exit rfl ?_
        refine GoH.seq ?_
        refine GoH.seq ?_
        refine GoH.region ?_
        refine GoH.v (Vop.mv rfl rfl rfl rfl) ?_
        refine GoH.v (Vop.mv rfl rfl rfl rfl) ?_
        refine GoH.v (Vop.lkup (ev := evN) (a := ksOf (rows.map Row.xs) p k) (z := .int .i64 0) (L := Lm) hKs rfl rfl rfl rfl rfl Tryd.underlying76 (fun _ => Tryd.zeroValue3 _) 1 rfl) ?_
        refine GoH.v (Vop.mv rfl rfl rfl rfl) ?_
        refine GoH.v (Vop.ext rfl rfl rfl rfl rfl) ?_
        refine GoH.v (Vop.ext rfl rfl rfl rfl rfl) ?_
        refine GoH.v (Vop.asg rfl rfl rfl rfl) ?_
        refine GoH.v (Vop.asg rfl rfl rfl rfl) ?_
        refine GoH.regionEnd ?_
        refine GoH.seq ?_
        refine GoH.region ?_
        refine GoH.v (Vop.mv rfl rfl rfl rfl) ?_
        refine GoH.v (Vop.un rfl rfl rfl uNot rfl) ?_
        refine GoH.regionEnd ?_
        refine GoH.cond rfl (fun hc => ?_) (fun hc => ?_)
        · -- yes
          have hno : mget (fun a b => a == b) Lm (ksOf (rows.map Row.xs) p k) = none := by
            cases h : mget (fun a b => a == b) Lm (ksOf (rows.map Row.xs) p k) with
            | none => rfl
            | some v => rw [h] at hc; simp at hc
          obtain ⟨hI2, hnew⟩ := hI.new hno
          refine GoH.region ?_
          refine GoH.v (Vop.mv rfl rfl rfl rfl) ?_
          refine GoH.v (Vop.mv rfl rfl rfl rfl) ?_
          refine GoH.v (Vop.mv rfl rfl rfl rfl) ?_
          refine GoH.v (Vop.lenM rfl rfl rfl rfl Tryd.underlying76 1 rfl) ?_
          refine GoH.mapIns hKs rfl (.inl rfl) rfl rfl rfl (a := ksOf (rows.map Row.xs) p k) (v := Lm.length) rfl rfl Tryd.underlying76 1 rfl hno ?_
          refine GoH.regionEnd ?_
          refine GoH.region ?_
          refine GoH.v (Vop.mv rfl rfl rfl rfl) ?_
          refine GoH.v (Vop.mv rfl rfl rfl rfl) ?_
          refine GoH.v (Vop.mv rfl rfl rfl rfl) ?_
          refine GoH.v (Vop.mv rfl rfl rfl rfl) ?_
          refine GoH.v (Vop.lkup1 (ev := evN) (a := ksOf (rows.map Row.xs) p k) (v := Lm.length) hKs rfl rfl rfl rfl rfl Tryd.underlying76 1 rfl hnew) ?_
          refine GoH.v (Vop.idxS rfl rfl rfl rfl rfl Tryd.underlying28 Tryd.sizeOf3 (k) ⟨rfl, (by simpa using hlt)⟩) ?_
          refine GoH.stE (Value.int .i64) _ rfl rfl rfl rfl Tryd.sizeOf3 rfl 0 rfl (by rw [hIl]; exact hlt) ?_
          refine GoH.regionEnd ?_
          refine GoH.inBlock ?_
          refine GoH.region ?_
          refine GoH.v (Vop.bin rfl rfl rfl rfl (bAdd (by omega)) rfl) ?_
          refine GoH.v (Vop.mv rfl rfl rfl rfl) ?_
          refine GoH.regionEnd ?_
          exact IH2 (k + 1, Lm ++ [(ksOf (rows.map Row.xs) p k, Lm.length)], l.set k (Lm.length : Int)) _ _ (hI2.old hlt hnew) (by dsimp only; omega) ⟨rfl, rfl, rfl, rfl, rfl, rfl, rfl, rfl, trivial⟩ (List.Sublist.refl _)
        · -- no
          obtain ⟨v, hv⟩ : ∃ v, mget (fun a b => a == b) Lm (ksOf (rows.map Row.xs) p k) = some v := by
            cases h : mget (fun a b => a == b) Lm (ksOf (rows.map Row.xs) p k) with
            | none => rw [h] at hc; simp at hc
            | some v => exact ⟨v, rfl⟩
          refine GoH.skip ?_
          refine GoH.region ?_
          refine GoH.v (Vop.mv rfl rfl rfl rfl) ?_
          refine GoH.v (Vop.mv rfl rfl rfl rfl) ?_
          refine GoH.v (Vop.mv rfl rfl rfl rfl) ?_
          refine GoH.v (Vop.mv rfl rfl rfl rfl) ?_
          refine GoH.v (Vop.lkup1 (ev := evN) (a := ksOf (rows.map Row.xs) p k) (v := v) hKs rfl rfl rfl rfl rfl Tryd.underlying76 1 rfl hv) ?_
          refine GoH.v (Vop.idxS rfl rfl rfl rfl rfl Tryd.underlying28 Tryd.sizeOf3 (k) ⟨rfl, (by simpa using hlt)⟩) ?_
          refine GoH.stE (Value.int .i64) _ rfl rfl rfl rfl Tryd.sizeOf3 rfl 0 rfl (by rw [hIl]; exact hlt) ?_
          refine GoH.regionEnd ?_
          refine GoH.inBlock ?_
          refine GoH.region ?_
          refine GoH.v (Vop.bin rfl rfl rfl rfl (bAdd (by omega)) rfl) ?_
          refine GoH.v (Vop.mv rfl rfl rfl rfl) ?_
          refine GoH.regionEnd ?_
          exact IH2 (k + 1, Lm, l.set k (v : Int)) _ _ (hI.old hlt hv) (by dsimp only; omega) ⟨rfl, rfl, rfl, rfl, rfl, rfl, rfl, rfl, trivial⟩ (List.Sublist.refl _)
    · -- no
      have hge : ¬ k < n := by simpa using hc
      obtain rfl : n = k := by omega
      have hnx : divP p l = psM n m rows (t.length + 1) := by
        rw [show psM n m rows (t.length + 1) = nxt (rows.map Row.xs) (psM n m rows t.length) from rfl, hp]
        subst hpn
        exact nums_next hI
      refine GoH.exit rfl ?_
      refine GoH.region ?_
      refine GoH.v (Vop.mv rfl rfl rfl rfl) ?_
      refine GoH.v (Vop.mv rfl rfl rfl rfl) ?_
      refine GoH.callM _ rfl rfl rfl rfl rfl (fun _ _ => Tryd.call56 _ _) (fun w _ hS => splitN_c (some ⟨q, 0, none⟩) n p (some ⟨b45, 0, none⟩) n l w n hpn hIl (sliAt hS 4 (q := some q) rfl (fun e => by cases e)) (sliAt hS 0 (q := some b45) rfl (fun e => by cases e)) hpk) ?_
      rintro v w1 w2 Y' hS he ⟨q2, rfl, hq, hh⟩
      rw [hnx] at hh
      refine ⟨_, (hS.gain he hh rfl hq).pickT (pre := [_, _, _, _, _, _]) (pre' := [(some bm, .cells m.v.cells 25 (0, 0)), (some br, .cells #[.slice ra rows.length rc] 23 (0, 0)), (some q2, ob I64 3 (psM n m rows (t.length + 1)) []), (some q, ob I64 3 p [])]) [3, 4, 0, 5] (by decide) rfl, ?_⟩
      -- heap: b1 b2 q2 q
      refine GoH.v (Vop.mv rfl rfl rfl rfl) ?_
      refine GoH.v (Vop.ext rfl rfl rfl rfl rfl) ?_
      refine GoH.v (Vop.ext rfl rfl rfl rfl rfl) ?_
      refine GoH.v (Vop.asg rfl rfl rfl rfl) ?_
      refine GoH.regionEnd ?_
      refine GoH.inBlock ?_
      exact IH (q :: t, q2, c') _ _ hI' (by simp only [List.length_cons]; omega) ⟨rfl, rfl, rfl, rfl, trivial⟩ (by rw [← hp]; exact List.Sublist.refl _)
end Go.Proofs.YtpifbcbdbkbbjaaDoor
