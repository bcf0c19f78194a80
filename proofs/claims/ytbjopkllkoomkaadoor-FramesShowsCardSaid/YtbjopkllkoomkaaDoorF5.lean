/- Contracts of functions of the program: what each call returns and that nothing else of memory is turned, under the conditions that each theorem states. -/
import Derived.Test.YtbjopkllkoomkaaDoorF4
namespace Go.Proofs.YtbjopkllkoomkaaDoor
open Go.RowKit Go.Proofs.Wit
/-! closing a relation to a logic -/
theorem indexI_c (a : Option Addr) (ca : Nat) (xs : List Int) (s : Int) (w : World) (ha : SlI w a xs) (hl : xs.length ≤ maxLen) :
    Cn Tryd.prog 97 [.slice a xs.length ca, .int .i64 s] w (fun v _ => ∃ j : Int, v = .int .i64 j ∧ (0 ≤ j ↔ s ∈ xs)) := by
  have hl' := hl
  unfold maxLen at hl'
  refine Cn.of Tryd.func97 rfl rfl ?_
  refine GoH.seq ?_
  refine GoH.region ?_
  refine GoH.v (Vop.asg rfl rfl rfl rfl) ?_
  refine GoH.regionEnd ?_
  refine GoH.seq ?_
  refine GoH.seq ?_
  refine GoH.region ?_
  refine GoH.v (Vop.mv rfl rfl rfl rfl) ?_
  refine GoH.v (Vop.blt rfl rfl rfl (blt_len_slice Tryd.underlying42) rfl) ?_
  refine GoH.v (Vop.mv rfl rfl rfl rfl) ?_
  refine GoH.regionEnd ?_
  refine GoH.block ?_
  refine GoH.loop (σ := Nat) (fun k => [(0, .slice a xs.length ca), (1, .int .i64 s), (7, .int .i64 xs.length), (8, .int .i64 k)]) (fun _ => [])
    (fun k => k ≤ xs.length ∧ ∀ i y, i < k → xs[i]? = some y → s ≠ y) (fun k => xs.length - k) 0 ⟨Nat.zero_le _, fun i y hi => by omega⟩ ⟨rfl, rfl, rfl, rfl, trivial⟩ .slnil (fun k hI IH => ?_)
  obtain ⟨hk, hno⟩ := hI
  refine GoH.seq ?_
  refine GoH.region ?_
  refine GoH.v (Vop.bin rfl rfl rfl rfl bLt rfl) ?_
  refine GoH.regionEnd ?_
  refine GoH.seq ?_
  refine GoH.cond rfl (fun hc => ?_) (fun hc => ?_)
  · -- yes
    have hlt : k < xs.length := by simpa using hc
    refine GoH.skip ?_
    refine GoH.seq ?_
    refine GoH.block ?_
    refine GoH.seq ?_
    refine GoH.region ?_
    refine GoH.v (Vop.mv rfl rfl rfl rfl) ?_
    refine GoH.v (Vop.asg rfl rfl rfl rfl) ?_
    refine GoH.regionEnd ?_
    refine GoH.seq ?_
    refine GoH.region ?_
    refine GoH.v (Vop.mv rfl rfl rfl rfl) ?_
    refine GoH.v (Vop.mv rfl rfl rfl rfl) ?_
    refine GoH.v (Vop.mv rfl rfl rfl rfl) ?_
    refine GoH.v (Vop.idx rfl rfl rfl rfl rfl Tryd.underlying42 Tryd.sizeOf3 ⟨_, ha⟩ (by simp) (k) ⟨rfl, by simpa using hlt⟩) ?_
    refine GoH.v (Vop.ld rfl rfl rfl rfl Tryd.isAgg3 (fun w _ hS => (SlI.ex0 ha hS.ext).at (k) hlt)) ?_
    refine GoH.v (Vop.bin rfl rfl rfl rfl bEq rfl) ?_
    refine GoH.regionEnd ?_
    refine GoH.cond rfl (fun hc => ?_) (fun hc => ?_)
    · -- yes
      have h1 : s = xs[k] := by simpa using hc
      refine GoH.seq ?_
      refine GoH.region ?_
      refine GoH.v (Vop.mv rfl rfl rfl rfl) ?_
      refine GoH.v (Vop.asg rfl rfl rfl rfl) ?_
      refine GoH.regionEnd ?_
      refine GoH.ret Tryd.f97 Tryd.func97 rfl (fun w' hS => ?_)
      exact ⟨hS.ext, _, rfl, ⟨fun _ => by rw [h1]; exact List.getElem_mem hlt, fun _ => by omega⟩⟩
    · -- no
      have h1 : s ≠ xs[k] := by simpa using hc
      refine GoH.skip ?_
      refine GoH.inBlock ?_
      refine GoH.region ?_
      refine GoH.v (Vop.bin rfl rfl rfl rfl (bAdd (by omega)) rfl) ?_
      refine GoH.v (Vop.mv rfl rfl rfl rfl) ?_
      refine GoH.regionEnd ?_
      exact IH (k + 1) _ _ ⟨hlt, fun i y hi hy => by
      by_cases e : i = k
      · subst e; rw [List.getElem?_eq_getElem hlt] at hy; cases hy; exact h1
      · exact hno i y (by omega) hy⟩ (by omega) ⟨rfl, rfl, rfl, rfl, trivial⟩ .slnil
  · -- no
    have hge : ¬ k < xs.length := by simpa using hc
    obtain rfl : k = xs.length := by omega
    refine GoH.exit rfl ?_
    refine GoH.seq ?_
    refine GoH.region ?_
    refine GoH.v (Vop.asg rfl rfl rfl rfl) ?_
    refine GoH.regionEnd ?_
    refine GoH.ret Tryd.f97 Tryd.func97 rfl (fun w' hS => ?_)
    exact ⟨hS.ext, _, rfl, ⟨fun h => by omega, fun h => by
    obtain ⟨i, hi, e⟩ := List.mem_iff_getElem.1 h
    exact absurd e.symm (hno i _ hi (List.getElem?_eq_getElem hi))⟩⟩
theorem containsI_c (a : Option Addr) (ca : Nat) (xs : List Int) (s : Int) (w : World) (ha : SlI w a xs) (hl : xs.length ≤ maxLen) :
    Cn Tryd.prog 68 [.slice a xs.length ca, .int .i64 s] w (fun v _ => v = .bool (decide (s ∈ xs))) := by
  refine Cn.of Tryd.func68 rfl rfl ?_
  refine GoH.seq ?_
  refine GoH.region ?_
  refine GoH.v (Vop.asg rfl rfl rfl rfl) ?_
  refine GoH.regionEnd ?_
  refine GoH.seq ?_
  refine GoH.region ?_
  refine GoH.v (Vop.mv rfl rfl rfl rfl) ?_
  refine GoH.v (Vop.mv rfl rfl rfl rfl) ?_
  refine GoH.callM _ rfl rfl rfl rfl rfl (fun _ _ => Tryd.call97 _ _) (fun w _ hS => indexI_c a ca xs s w (ha.ex0 hS.ext) hl) ?_
  rintro v w1 w2 Y' hS he ⟨j, rfl, hj⟩
  refine ⟨_, hS.later he, ?_⟩
  refine GoH.v (Vop.bin rfl rfl rfl rfl bGe rfl) ?_
  refine GoH.v (Vop.asg rfl rfl rfl rfl) ?_
  refine GoH.regionEnd ?_
  refine GoH.ret Tryd.f68 Tryd.func68 rfl (fun w' hS => ?_)
  exact ⟨hS.ext, by show Value.bool (decide (j ≥ 0)) = _; congr 1; rw [decide_eq_decide]; exact hj⟩
/-- where the relation lies that is being closed: still where it came from, or in a block of one's own -/
structure CurAt (a : Option Addr) (ca : Nat) (r : List W64) (A : Option Addr) (cA : Nat) (cur : List W64) (q : Option Nat) (sp : List Value) : Prop where
  cap : cur.length ≤ cA
  at_ : (A = a ∧ cur = r) ∨ (A = q.map (fun b => ⟨b, 0, none⟩) ∧ (q = none → cur.length = 0))
theorem CurAt.slu {a A : Option Addr} {ca cA : Nat} {r cur : List W64} {q : Option Nat} {sp : List Value} (g : CurAt a ca r A cA cur q sp) {w0 w : World} {h : Hl} {Y : List (Nat × Obj)} (s : St w0 [] w h Y) (ha : SlU w0 a r) (j : Nat) (hj : h[j]? = some (q, ob U 28 cur sp)) : SlU w A cur := by
  rcases g.at_ with ⟨rfl, rfl⟩ | ⟨rfl, h2⟩
  · exact ha.ex0 s.ext
  · exact sluAt s j hj (c := 0) (fun e => ⟨h2 e, rfl⟩)
theorem Grown.least {F : List W64 → Prop} {r : List W64} {p : List W64 × Int} (h : Grown F r p) (hv : Val r) : p.2 = 0 ∧ Least F r p.1 := by
  rw [Grown, if_neg (by rw [check_zero.2 hv]; simp)] at h
  exact h
set_option maxRecDepth 4000 in
theorem closed_c (a : Option Addr) (ca : Nat) (r : List W64) (pa : Option Addr) (pc : Nat) (ps : List Int) (w : World) (hT : Tab w) (ha : SlU w a r) (hv : Val r) (hca : r.length ≤ ca) (hps : SlI w pa ps) (hpl : ps.length ≤ 1000) :
    Cn Tryd.prog 41 [.slice a r.length ca, .slice pa ps.length pc] w (fun v w' => ∃ c, Least (closP ps) r c ∧ Own w w' v (serU ps c)) := by
  have hpm : ps.length ≤ maxLen := by unfold maxLen; omega
  refine Cn.of Tryd.func41 rfl rfl ?_
  refine GoH.seq ?_
  refine GoH.region ?_
  refine GoH.v (Vop.asg rfl rfl rfl rfl) ?_
  refine GoH.regionEnd ?_
  refine GoH.seq ?_
  refine GoH.block ?_
  refine GoH.addNone (ob U 28 r []) ?_
  refine GoH.loop (σ := List W64 × Option Addr × Nat × Option Nat × List Value) (fun z => [(0, .slice z.2.1 z.1.length z.2.2.1), (1, .slice pa ps.length pc)]) (fun z => [(z.2.2.2.1, ob U 28 z.1 z.2.2.2.2)])
    (fun z => CurAt a ca r z.2.1 z.2.2.1 z.1 z.2.2.2.1 z.2.2.2.2 ∧ Val z.1 ∧ Le r z.1 ∧ ∀ c, Val c → Le r c → closP ps c → Le z.1 c) (fun z => room z.1) (r, a, ca, none, [])
    ⟨⟨hca, .inl ⟨rfl, rfl⟩⟩, hv, .refl _, fun c _ h _ => h⟩ ⟨rfl, rfl, trivial⟩ (List.Sublist.refl _) (fun z hI IH => ?_)
  obtain ⟨cur, A, cA, q, sp⟩ := z
  obtain ⟨hA, hvc, hle, hmin⟩ := hI
  dsimp only at hA hvc hle hmin IH
  have hcl := hvc.len
  -- heap: q
  refine GoH.block ?_
  refine GoH.seq ?_
  refine GoH.region ?_
  refine GoH.v (Vop.mv rfl rfl rfl rfl) ?_
  refine GoH.callM _ rfl rfl rfl rfl rfl (fun _ _ => Tryd.call40 _ _) (fun w _ hS => clone_c A cA cur w (hA.slu hS ha 0 rfl) (by omega) hA.cap) ?_
  rintro v w1 w2 Y' hS he ho
  obtain ⟨q5, cap5, sp5, rfl, hq5, hcap5, hS'⟩ := gainO hS he ho
  refine ⟨_, hS', ?_⟩
  -- heap: q5 q
  refine GoH.v (Vop.asg rfl rfl rfl rfl) ?_
  refine GoH.regionEnd ?_
  refine GoH.seq ?_
  refine GoH.seq ?_
  refine GoH.region ?_
  refine GoH.v (Vop.mv rfl rfl rfl rfl) ?_
  refine GoH.v (Vop.blt rfl rfl rfl (blt_len_slice Tryd.underlying42) rfl) ?_
  refine GoH.v (Vop.mv rfl rfl rfl rfl) ?_
  refine GoH.regionEnd ?_
  refine GoH.block ?_
  refine GoH.loop (σ := Nat × List W64 × Option Addr × Nat × Option Nat × List Value) (fun z => [(0, .slice z.2.2.1 z.2.1.length z.2.2.2.1), (1, .slice pa ps.length pc), (5, osv q5 cur.length cap5), (12, .slice pa ps.length pc), (13, .int .i64 ps.length), (14, .int .i64 z.1)])
    (fun z => [(q5, ob U 28 cur sp5), (z.2.2.2.2.1, ob U 28 z.2.1 z.2.2.2.2.2)])
    (fun z => z.1 ≤ ps.length ∧ CurAt a ca r z.2.2.1 z.2.2.2.1 z.2.1 z.2.2.2.2.1 z.2.2.2.2.2 ∧ Val z.2.1 ∧ Le cur z.2.1 ∧ (∀ c, Val c → Le r c → closP ps c → Le z.2.1 c) ∧ (z.2.1 = cur → ∀ i p, i < z.1 → ps[i]? = some p → propC p cur)) (fun z => ps.length - z.1) (0, cur, A, cA, q, sp)
    ⟨Nat.zero_le _, hA, hvc, .refl _, hmin, fun _ i p hi => by omega⟩ ⟨rfl, rfl, rfl, rfl, rfl, rfl, trivial⟩ (List.Sublist.refl _) (fun z hI IH2 => ?_)
  obtain ⟨k, cu, A2, cA2, q2, sp2⟩ := z
  obtain ⟨hk, hA2, hvu, hleu, hminu, hfix⟩ := hI
  dsimp only at hk hA2 hvu hleu hminu hfix IH2
  have hul := hvu.len
  have hum : cu.length ≤ maxLen := by unfold maxLen; omega
  -- heap: q5 q2
  refine GoH.seq ?_
  refine GoH.region ?_
  refine GoH.v (Vop.bin rfl rfl rfl rfl bLt rfl) ?_
  refine GoH.regionEnd ?_
  refine GoH.seq ?_
  refine GoH.cond rfl (fun hc => ?_) (fun hc => ?_)
  · -- yes
    have hlt : k < ps.length := by simpa using hc
    have step : ∀ {F : List W64 → Prop} {out : List W64} {e : Int}, Grown F cu (out, e) → (∀ c, closP ps c → F c) → (F out → propC ps[k] out) → Val out ∧ Le cur out ∧ (∀ c, Val c → Le r c → closP ps c → Le out c) ∧ (out = cur → ∀ i p, i < k + 1 → ps[i]? = some p → propC p cur) := by
      intro F out e hg hF1 hF2
      obtain ⟨_, hL⟩ := hg.least hvu
      refine ⟨hL.val, hleu.trans hL.le, fun c h1 h2 h3 => hL.least c h1 (hminu c h1 h2 h3) (hF1 c h3), fun e i p hi hp => ?_⟩
      have e2 : cu = cur := (Le.antisymm hleu (by have := hL.le; rw [show out = cur from e] at this; exact this)).symm
      by_cases h : i = k
      · subst h
        rw [List.getElem?_eq_getElem hlt] at hp; cases hp
        have := hF2 hL.has
        rw [show out = cur from e] at this
        exact this
      · exact hfix e2 i p (by omega) hp
    refine GoH.skip ?_
    refine GoH.seq ?_
    refine GoH.block ?_
    refine GoH.seq ?_
    refine GoH.region ?_
    refine GoH.v (Vop.idx rfl rfl rfl rfl rfl Tryd.underlying42 Tryd.sizeOf3 ⟨_, hps⟩ (by simp) (k) ⟨rfl, by simpa using hlt⟩) ?_
    refine GoH.v (Vop.ld rfl rfl rfl rfl Tryd.isAgg3 (fun w _ hS => (SlI.ex0 hps hS.ext).at (k) hlt)) ?_
    refine GoH.v (Vop.asg rfl rfl rfl rfl) ?_
    refine GoH.regionEnd ?_
    refine GoH.seq ?_
    refine GoH.region ?_
    refine GoH.v (Vop.mv rfl rfl rfl rfl) ?_
    refine GoH.regionEnd ?_
    refine GoH.block ?_
    refine GoH.seq ?_
    refine GoH.region ?_
    refine GoH.v (Vop.bin rfl rfl rfl rfl bEq rfl) ?_
    refine GoH.v (Vop.asg rfl rfl rfl rfl) ?_
    refine GoH.regionEnd ?_
    refine GoH.cond rfl (fun hc => ?_) (fun hc => ?_)
    · -- yes
      have e2 : ps[k] = 2 := by simpa using hc
      refine GoH.region ?_
      refine GoH.v (Vop.mv rfl rfl rfl rfl) ?_
      refine GoH.callM _ rfl rfl rfl rfl rfl (fun _ _ => Tryd.call65 _ _) (fun w _ hS => reflexive_c A2 cA2 cu w (hT.ex hS.ext) (hA2.slu hS ha 1 rfl) hum hA2.cap) ?_
      rintro v w1 w2 Y' hS he ⟨⟨out, e⟩, ⟨sv, rfl, ho⟩, hg⟩
      obtain ⟨q3, cap3, sp3, rfl, hq3, hcap3, hS'⟩ := gainO hS he ho
      obtain ⟨g1, g2, g3, g4⟩ := step hg (fun c h => h.1 (by rw [← e2]; exact List.getElem_mem hlt)) (fun h => by rw [e2]; exact propC2 h)
      refine ⟨_, hS', ?_⟩
      -- heap: q3 q5 q2
      refine GoH.v (Vop.mv rfl rfl rfl rfl) ?_
      refine GoH.v (Vop.ext rfl rfl rfl rfl rfl) ?_
      refine GoH.v (Vop.ext rfl rfl rfl rfl rfl) ?_
      refine GoH.v (Vop.asg rfl rfl rfl rfl) ?_
      refine GoH.regionEnd ?_
      refine GoH.inBlock ?_
      refine GoH.inBlock ?_
      refine GoH.region ?_
      refine GoH.v (Vop.bin rfl rfl rfl rfl (bAdd (by omega)) rfl) ?_
      refine GoH.v (Vop.mv rfl rfl rfl rfl) ?_
      refine GoH.regionEnd ?_
      refine GoH.pick (pre' := [(q5, ob U 28 cur sp5), (q3, ob U 28 out sp3)]) [1, 0] (by decide) rfl ?_
      exact IH2 (k + 1, out, q3.map (fun b => ⟨b, 0, none⟩), cap3, q3, sp3) _ _ ⟨hlt, ⟨by rw [← hcap3]; simp, .inr ⟨rfl, fun e => (hq3 e).1⟩⟩, g1, g2, g3, g4⟩ (by dsimp only; omega) ⟨rfl, rfl, rfl, rfl, rfl, rfl, trivial⟩ (List.Sublist.refl _)
    · -- no
      have e2 : ps[k] ≠ 2 := by simpa using hc
      refine GoH.seq ?_
      refine GoH.region ?_
      refine GoH.v (Vop.bin rfl rfl rfl rfl bEq rfl) ?_
      refine GoH.v (Vop.asg rfl rfl rfl rfl) ?_
      refine GoH.regionEnd ?_
      refine GoH.cond rfl (fun hc => ?_) (fun hc => ?_)
      · -- yes
        have e4 : ps[k] = 4 := by simpa using hc
        refine GoH.region ?_
        refine GoH.v (Vop.mv rfl rfl rfl rfl) ?_
        refine GoH.callM _ rfl rfl rfl rfl rfl (fun _ _ => Tryd.call66 _ _) (fun w _ hS => transitive_c A2 cA2 cu w (hT.ex hS.ext) (hA2.slu hS ha 1 rfl) hum hA2.cap) ?_
        rintro v w1 w2 Y' hS he ⟨⟨out, e⟩, ⟨sv, rfl, ho⟩, hg⟩
        obtain ⟨q3, cap3, sp3, rfl, hq3, hcap3, hS'⟩ := gainO hS he ho
        obtain ⟨g1, g2, g3, g4⟩ := step hg (fun c h => h.2.1 (by rw [← e4]; exact List.getElem_mem hlt)) (fun h => by rw [e4]; exact propC4 h)
        refine ⟨_, hS', ?_⟩
        -- heap: q3 q5 q2
        refine GoH.v (Vop.mv rfl rfl rfl rfl) ?_
        refine GoH.v (Vop.ext rfl rfl rfl rfl rfl) ?_
        refine GoH.v (Vop.ext rfl rfl rfl rfl rfl) ?_
        refine GoH.v (Vop.asg rfl rfl rfl rfl) ?_
        refine GoH.regionEnd ?_
        refine GoH.inBlock ?_
        refine GoH.inBlock ?_
        refine GoH.region ?_
        refine GoH.v (Vop.bin rfl rfl rfl rfl (bAdd (by omega)) rfl) ?_
        refine GoH.v (Vop.mv rfl rfl rfl rfl) ?_
        refine GoH.regionEnd ?_
        refine GoH.pick (pre' := [(q5, ob U 28 cur sp5), (q3, ob U 28 out sp3)]) [1, 0] (by decide) rfl ?_
        exact IH2 (k + 1, out, q3.map (fun b => ⟨b, 0, none⟩), cap3, q3, sp3) _ _ ⟨hlt, ⟨by rw [← hcap3]; simp, .inr ⟨rfl, fun e => (hq3 e).1⟩⟩, g1, g2, g3, g4⟩ (by dsimp only; omega) ⟨rfl, rfl, rfl, rfl, rfl, rfl, trivial⟩ (List.Sublist.refl _)
      · -- no
        have e4 : ps[k] ≠ 4 := by simpa using hc
        refine GoH.seq ?_
        refine GoH.region ?_
        refine GoH.v (Vop.bin rfl rfl rfl rfl bEq rfl) ?_
        refine GoH.v (Vop.asg rfl rfl rfl rfl) ?_
        refine GoH.regionEnd ?_
        refine GoH.cond rfl (fun hc => ?_) (fun hc => ?_)
        · -- yes
          have e5 : ps[k] = 5 := by simpa using hc
          refine GoH.region ?_
          refine GoH.v (Vop.mv rfl rfl rfl rfl) ?_
          refine GoH.callM _ rfl rfl rfl rfl rfl (fun _ _ => Tryd.call67 _ _) (fun w _ hS => euclidean_c A2 cA2 cu w (hT.ex hS.ext) (hA2.slu hS ha 1 rfl) hum hA2.cap) ?_
          rintro v w1 w2 Y' hS he ⟨⟨out, e⟩, ⟨sv, rfl, ho⟩, hg⟩
          obtain ⟨q3, cap3, sp3, rfl, hq3, hcap3, hS'⟩ := gainO hS he ho
          obtain ⟨g1, g2, g3, g4⟩ := step hg (fun c h => h.2.2 (by rw [← e5]; exact List.getElem_mem hlt)) (fun h => by rw [e5]; exact propC5 h)
          refine ⟨_, hS', ?_⟩
          -- heap: q3 q5 q2
          refine GoH.v (Vop.mv rfl rfl rfl rfl) ?_
          refine GoH.v (Vop.ext rfl rfl rfl rfl rfl) ?_
          refine GoH.v (Vop.ext rfl rfl rfl rfl rfl) ?_
          refine GoH.v (Vop.asg rfl rfl rfl rfl) ?_
          refine GoH.regionEnd ?_
          refine GoH.inBlock ?_
          refine GoH.inBlock ?_
          refine GoH.region ?_
          refine GoH.v (Vop.bin rfl rfl rfl rfl (bAdd (by omega)) rfl) ?_
          refine GoH.v (Vop.mv rfl rfl rfl rfl) ?_
          refine GoH.regionEnd ?_
          refine GoH.pick (pre' := [(q5, ob U 28 cur sp5), (q3, ob U 28 out sp3)]) [1, 0] (by decide) rfl ?_
          exact IH2 (k + 1, out, q3.map (fun b => ⟨b, 0, none⟩), cap3, q3, sp3) _ _ ⟨hlt, ⟨by rw [← hcap3]; simp, .inr ⟨rfl, fun e => (hq3 e).1⟩⟩, g1, g2, g3, g4⟩ (by dsimp only; omega) ⟨rfl, rfl, rfl, rfl, rfl, rfl, trivial⟩ (List.Sublist.refl _)
        · -- no
          have e5 : ps[k] ≠ 5 := by simpa using hc
          refine GoH.skip ?_
          refine GoH.inBlock ?_
          refine GoH.inBlock ?_
          refine GoH.region ?_
          refine GoH.v (Vop.bin rfl rfl rfl rfl (bAdd (by omega)) rfl) ?_
          refine GoH.v (Vop.mv rfl rfl rfl rfl) ?_
          refine GoH.regionEnd ?_
          exact IH2 (k + 1, cu, A2, cA2, q2, sp2) _ _ ⟨hlt, hA2, hvu, hleu, hminu, fun e i p hi hp => by
            by_cases h : i = k
            · subst h
              rw [List.getElem?_eq_getElem hlt] at hp; cases hp
              exact propCx e2 e4 e5
            · exact hfix e i p (by omega) hp⟩ (by dsimp only; omega) ⟨rfl, rfl, rfl, rfl, rfl, rfl, trivial⟩ (List.Sublist.refl _)
  · -- no
    have hge : ¬ k < ps.length := by simpa using hc
    obtain rfl : k = ps.length := by omega
    refine GoH.exit rfl ?_
    refine GoH.seq ?_
    refine GoH.region ?_
    refine GoH.v (Vop.mv rfl rfl rfl rfl) ?_
    refine GoH.v (Vop.mv rfl rfl rfl rfl) ?_
    refine GoH.callP rfl rfl rfl rfl rfl (fun _ _ => Tryd.call43 _ _) (fun w _ hS => equal_c (q5.map (fun b => ⟨b, 0, none⟩)) cap5 cur A2 cA2 cu w (sluAt hS 0 rfl hq5) (hA2.slu hS ha 1 rfl) (by omega)) ?_
    refine GoH.regionEnd ?_
    refine GoH.cond rfl (fun hc => ?_) (fun hc => ?_)
    · -- yes
      have e1 : cur = cu := by simpa using hc
      subst e1
      have hL : Least (closP ps) r cur := ⟨hvc, hle, closP_iff.2 (fun p hp => by
        obtain ⟨i, hi, e⟩ := List.mem_iff_getElem.1 hp
        exact hfix rfl i p hi (by rw [List.getElem?_eq_getElem hi, e])), hmin⟩
      refine GoH.exit rfl ?_
      refine GoH.seq ?_
      refine GoH.region ?_
      refine GoH.v (Vop.mv rfl rfl rfl rfl) ?_
      refine GoH.callM _ rfl rfl rfl rfl rfl (fun _ _ => Tryd.call40 _ _) (fun w _ hS => clone_c A2 cA2 cur w (hA2.slu hS ha 1 rfl) (by omega) hA2.cap) ?_
      rintro v w1 w2 Y' hS he ho
      obtain ⟨q8, cap8, sp8, rfl, hq8, hcap8, hS'⟩ := gainO hS he ho
      refine ⟨_, hS', ?_⟩
      -- heap: q8 q5 q2
      refine GoH.v (Vop.asg rfl rfl rfl rfl) ?_
      refine GoH.regionEnd ?_
      refine GoH.seq ?_
      refine GoH.seq ?_
      refine GoH.region ?_
      refine GoH.v (Vop.mv rfl rfl rfl rfl) ?_
      refine GoH.v (Vop.blt rfl rfl rfl (blt_len_slice Tryd.underlying22) rfl) ?_
      refine GoH.v (Vop.mv rfl rfl rfl rfl) ?_
      refine GoH.regionEnd ?_
      refine GoH.block ?_
      refine GoH.loop (σ := Nat) (fun k => [(1, .slice pa ps.length pc), (8, osv q8 cur.length cap8), (47, .int .i64 cur.length), (48, .int .i64 k)]) (fun k => [(q8, ob U 28 (upTo (serS ps) cur k) sp8)])
        (fun k => k ≤ cur.length) (fun k => cur.length - k) 0 (Nat.zero_le _) ⟨rfl, rfl, rfl, rfl, trivial⟩ (.cons_cons _ (.cons _ (.cons _ .slnil))) (fun k hk IH3 => ?_)
      -- heap: q8
      refine GoH.seq ?_
      refine GoH.region ?_
      refine GoH.v (Vop.bin rfl rfl rfl rfl bLt rfl) ?_
      refine GoH.regionEnd ?_
      refine GoH.seq ?_
      refine GoH.cond rfl (fun hc => ?_) (fun hc => ?_)
      · -- yes
        have hlt : k < cur.length := by simpa using hc
        have hlt2 : k < (upTo (serS ps) cur k).length := by rw [upSer_length]; exact hlt
        obtain ⟨b8, rfl⟩ : ∃ b8, q8 = some b8 := by
          cases q8 with
          | none => have := (hq8 rfl).1; omega
          | some b8 => exact ⟨b8, rfl⟩
        refine GoH.skip ?_
        refine GoH.seq ?_
        refine GoH.block ?_
        refine GoH.seq ?_
        refine GoH.region ?_
        refine GoH.v (Vop.mv rfl rfl rfl rfl) ?_
        refine GoH.v (Vop.asg rfl rfl rfl rfl) ?_
        refine GoH.regionEnd ?_
        refine GoH.seq ?_
        refine GoH.region ?_
        refine GoH.v (Vop.mv rfl rfl rfl rfl) ?_
        refine GoH.callP rfl rfl rfl rfl rfl (fun _ _ => Tryd.call68 _ _) (fun w _ hS => containsI_c pa pc ps 1 w (hps.ex0 hS.ext) hpm) ?_
        refine GoH.v (Vop.mv rfl rfl rfl rfl) ?_
        -- guard on slot 53 (frames.go:69)
        refine GoH.cases (d := 53) rfl (fun hc => ?_) (fun hc => ?_)
        · -- yes
          have h1 : (1 : Int) ∈ ps := by simpa using hc
          refine GoH.v (Vop.mv rfl rfl rfl rfl) ?_
          refine GoH.v (Vop.mv rfl rfl rfl rfl) ?_
          refine GoH.v (Vop.idxS rfl rfl rfl rfl rfl Tryd.underlying22 Tryd.sizeOf28 (k) ⟨rfl, hlt⟩) ?_
          refine GoH.v (Vop.ldE U 0#64 rfl rfl rfl rfl Tryd.isAgg28 0 rfl hlt2) ?_
          refine GoH.v (Vop.bin (b := U 0#64) rfl rfl rfl rfl bEqU rfl) ?_
          refine GoH.v (Vop.pickT rfl rfl rfl rfl rfl) ?_
          refine GoH.regionEnd ?_
          refine GoH.cond rfl (fun hc => ?_) (fun hc => ?_)
          · -- yes
            have h2 : (upTo (serS ps) cur k).getD k 0#64 = 0#64 := by simpa using hc
            have h3 : upTo (serS ps) cur (k + 1) = (upTo (serS ps) cur k).set k (1#64 <<< k) := by rw [upTo, serS, if_pos ⟨h1, h2⟩]
            refine GoH.region ?_
            refine GoH.v (Vop.mv rfl rfl rfl rfl) ?_
            refine GoH.v (Vop.mv rfl rfl rfl rfl) ?_
            refine GoH.v (Vop.mv rfl rfl rfl rfl) ?_
            refine GoH.v (Vop.bin (a := U 1#64) rfl rfl rfl rfl (bShl _ rfl) rfl) ?_
            refine GoH.v (Vop.idxS rfl rfl rfl rfl rfl Tryd.underlying22 Tryd.sizeOf28 (k) ⟨rfl, hlt⟩) ?_
            refine GoH.stE U _ rfl rfl rfl rfl Tryd.sizeOf28 rfl 0 rfl hlt2 ?_
            refine GoH.regionEnd ?_
            refine GoH.inBlock ?_
            refine GoH.region ?_
            refine GoH.v (Vop.bin rfl rfl rfl rfl (bAdd (by omega)) rfl) ?_
            refine GoH.v (Vop.mv rfl rfl rfl rfl) ?_
            refine GoH.regionEnd ?_
            rw [← h3]
            exact IH3 (k + 1) _ _ hlt (by omega) ⟨rfl, rfl, rfl, rfl, trivial⟩ (List.Sublist.refl _)
          · -- no
            have h2 : (upTo (serS ps) cur k).getD k 0#64 ≠ 0#64 := by simpa using hc
            have h3 : upTo (serS ps) cur (k + 1) = upTo (serS ps) cur k := by rw [upTo, serS, if_neg (fun h => h2 h.2)]
            refine GoH.skip ?_
            refine GoH.inBlock ?_
            refine GoH.region ?_
            refine GoH.v (Vop.bin rfl rfl rfl rfl (bAdd (by omega)) rfl) ?_
            refine GoH.v (Vop.mv rfl rfl rfl rfl) ?_
            refine GoH.regionEnd ?_
            rw [← h3]
            exact IH3 (k + 1) _ _ hlt (by omega) ⟨rfl, rfl, rfl, rfl, trivial⟩ (List.Sublist.refl _)
        · -- no
          have h1 : ¬ (1 : Int) ∈ ps := by simpa using hc
          have h3 : upTo (serS ps) cur (k + 1) = upTo (serS ps) cur k := by rw [upTo, serS, if_neg (fun h => h1 h.1)]
          refine GoH.no rfl rfl rfl rfl ?_
          refine GoH.no rfl rfl rfl rfl ?_
          refine GoH.no rfl rfl rfl rfl ?_
          refine GoH.no rfl rfl rfl rfl ?_
          refine GoH.no rfl rfl rfl rfl ?_
          refine GoH.v (Vop.pickF rfl rfl rfl rfl rfl) ?_
          refine GoH.regionEnd ?_
          refine GoH.condF rfl ?_
          refine GoH.skip ?_
          refine GoH.inBlock ?_
          refine GoH.region ?_
          refine GoH.v (Vop.bin rfl rfl rfl rfl (bAdd (by omega)) rfl) ?_
          refine GoH.v (Vop.mv rfl rfl rfl rfl) ?_
          refine GoH.regionEnd ?_
          rw [← h3]
          exact IH3 (k + 1) _ _ hlt (by omega) ⟨rfl, rfl, rfl, rfl, trivial⟩ (List.Sublist.refl _)
      · -- no
        have hge : ¬ k < cur.length := by simpa using hc
        obtain rfl : k = cur.length := by omega
        refine GoH.exit rfl ?_
        refine GoH.seq ?_
        refine GoH.region ?_
        refine GoH.v (Vop.mv rfl rfl rfl rfl) ?_
        refine GoH.v (Vop.asg rfl rfl rfl rfl) ?_
        refine GoH.regionEnd ?_
        refine GoH.ret Tryd.f41 Tryd.func41 rfl (fun w' hS => ?_)
        exact ⟨hS.ext, cur, hL, ownAt hS 0 rfl (by rw [upSer_length]) (fun e => by rw [upSer_length]; exact hq8 e) (by rw [← hcap8]; simp [upSer_length])⟩
    · -- no
      have e1 : cur ≠ cu := by simpa using hc
      refine GoH.skip ?_
      refine GoH.inBlock ?_
      exact IH (cu, A2, cA2, q2, sp2) _ _ ⟨hA2, hvu, hle.trans hleu, hminu⟩ (hleu.room_lt e1) ⟨rfl, rfl, trivial⟩ (.cons _ (List.Sublist.refl _))
end Go.Proofs.YtbjopkllkoomkaaDoor
