/- Contracts of functions of the program: what each call returns and that nothing else of memory is turned, under the conditions that each theorem states. -/
import Derived.Test.YtbjopkllkoomkaaDoorF8
namespace Go.Proofs.YtbjopkllkoomkaaDoor
open Go.RowKit Go.Proofs.Wit
/-! counterexamples; lists of defects -/
def CounterIs (v : Value) (r : List W64) (p : Int) : Prop := v = .tuple #[.int .i64 (counterR r p).1, U (counterR r p).2.1, .int .i64 (counterR r p).2.2]
set_option maxRecDepth 4000 in
theorem counter_c (a : Option Addr) (ca : Nat) (r : List W64) (p : Int) (w : World) (ha : SlU w a r) (hl : r.length ≤ maxLen) :
    Cn Tryd.prog 8 [.slice a r.length ca, .int .i64 p] w (fun v _ => CounterIs v r p) := by
  refine Cn.of Tryd.func8 rfl rfl ?_
  refine GoH.seq ?_
  refine GoH.region ?_
  refine GoH.v (Vop.asg rfl rfl rfl rfl) ?_
  refine GoH.v (Vop.asg (v := U 0#64) rfl rfl rfl rfl) ?_
  refine GoH.v (Vop.asg rfl rfl rfl rfl) ?_
  refine GoH.regionEnd ?_
  refine GoH.seq ?_
  refine GoH.seq ?_
  refine GoH.region ?_
  refine GoH.v (Vop.mv rfl rfl rfl rfl) ?_
  refine GoH.v (Vop.blt rfl rfl rfl (blt_len_slice Tryd.underlying22) rfl) ?_
  refine GoH.v (Vop.mv rfl rfl rfl rfl) ?_
  refine GoH.callP rfl rfl rfl rfl rfl (fun _ _ => Tryd.call30 _ _) (fun w _ hS => check_c _ a ca r w (ha.ex0 hS.ext) hl) ?_
  refine GoH.v (Vop.asg rfl rfl rfl rfl) ?_
  refine GoH.regionEnd ?_
  refine GoH.seq ?_
  refine GoH.region ?_
  refine GoH.v (Vop.mv rfl rfl rfl rfl) ?_
  refine GoH.v (Vop.bin rfl rfl rfl rfl bNe rfl) ?_
  refine GoH.regionEnd ?_
  refine GoH.cond rfl (fun hc => ?_) (fun hc => ?_)
  · -- yes
    have h1 : checkR r.length r ≠ 0 := by simpa using hc
    refine GoH.seq ?_
    refine GoH.region ?_
    refine GoH.v (Vop.mv rfl rfl rfl rfl) ?_
    refine GoH.v (Vop.asg rfl rfl rfl rfl) ?_
    refine GoH.v (Vop.asg (v := U 0#64) rfl rfl rfl rfl) ?_
    refine GoH.v (Vop.asg rfl rfl rfl rfl) ?_
    refine GoH.regionEnd ?_
    refine GoH.ret Tryd.f8 Tryd.func8 rfl (fun w' hS => ?_)
    exact ⟨hS.ext, by rw [CounterIs, counterR, if_pos h1]; rfl⟩
  · -- no
    have h1 : checkR r.length r = 0 := by simpa using hc
    have hv := check_zero.1 h1
    have h1 : ¬ checkR r.length r ≠ 0 := by simp [h1]
    refine GoH.skip ?_
    refine GoH.seq ?_
    refine GoH.seq ?_
    refine GoH.region ?_
    refine GoH.v (Vop.mv rfl rfl rfl rfl) ?_
    refine GoH.v (Vop.bin rfl rfl rfl rfl bLt rfl) ?_
    refine GoH.v (Vop.mv rfl rfl rfl rfl) ?_
    -- guard on slot 18 (frames.go:199)
    refine GoH.cases (d := 18) rfl (fun hc => ?_) (fun hc => ?_)
    · -- yes
      have h2 : p < 1 := by simpa using hc
      refine GoH.no rfl rfl rfl rfl ?_
      refine GoH.no rfl rfl rfl rfl ?_
      refine GoH.v (Vop.pickT rfl rfl rfl rfl rfl) ?_
      refine GoH.regionEnd ?_
      refine GoH.condT rfl ?_
      refine GoH.seq ?_
      refine GoH.region ?_
      refine GoH.v (Vop.asg rfl rfl rfl rfl) ?_
      refine GoH.v (Vop.asg (v := U 0#64) rfl rfl rfl rfl) ?_
      refine GoH.v (Vop.asg rfl rfl rfl rfl) ?_
      refine GoH.regionEnd ?_
      refine GoH.ret Tryd.f8 Tryd.func8 rfl (fun w' hS => ?_)
      exact ⟨hS.ext, by rw [CounterIs, counterR, if_neg h1, if_pos (.inl h2)]; rfl⟩
    · -- no
      have h2 : ¬ p < 1 := by simpa using hc
      refine GoH.v (Vop.mv rfl rfl rfl rfl) ?_
      refine GoH.v (Vop.bin rfl rfl rfl rfl bGt rfl) ?_
      refine GoH.v (Vop.pickF rfl rfl rfl rfl rfl) ?_
      refine GoH.regionEnd ?_
      refine GoH.cond rfl (fun hc => ?_) (fun hc => ?_)
      · -- yes
        have h3 : 5 < p := by simpa using hc
        refine GoH.seq ?_
        refine GoH.region ?_
        refine GoH.v (Vop.asg rfl rfl rfl rfl) ?_
        refine GoH.v (Vop.asg (v := U 0#64) rfl rfl rfl rfl) ?_
        refine GoH.v (Vop.asg rfl rfl rfl rfl) ?_
        refine GoH.regionEnd ?_
        refine GoH.ret Tryd.f8 Tryd.func8 rfl (fun w' hS => ?_)
        exact ⟨hS.ext, by rw [CounterIs, counterR, if_neg h1, if_pos (.inr h3)]; rfl⟩
      · -- no
        have h3 : ¬ 5 < p := by simpa using hc
        have h4 : ¬ (p < 1 ∨ 5 < p) := by omega
        refine GoH.skip ?_
        refine GoH.seq ?_
        refine GoH.region ?_
        refine GoH.v (Vop.mv rfl rfl rfl rfl) ?_
        refine GoH.v (Vop.mv rfl rfl rfl rfl) ?_
        refine GoH.callM _ rfl rfl rfl rfl rfl (fun _ _ => Tryd.call31 _ _) (fun w _ hS => witness_c a ca r p w (ha.ex0 hS.ext) hv) ?_
        rintro v w1 w2 Y' hS he ho
        obtain ⟨q, cap, sp, rfl, hq, hcap, hS'⟩ := gainS hS he ho
        refine ⟨_, hS', ?_⟩
        -- heap: q
        refine GoH.v (Vop.asg rfl rfl rfl rfl) ?_
        refine GoH.regionEnd ?_
        refine GoH.seq ?_
        refine GoH.seq ?_
        refine GoH.region ?_
        refine GoH.v (Vop.mv rfl rfl rfl rfl) ?_
        refine GoH.v (Vop.blt rfl rfl rfl (blt_len_slice Tryd.underlying42) rfl) ?_
        refine GoH.v (Vop.bin rfl rfl rfl rfl bEq rfl) ?_
        refine GoH.regionEnd ?_
        refine GoH.cond rfl (fun hc => ?_) (fun hc => ?_)
        · -- yes
          have h5 : witO r p = none := witL_nil.1 (List.eq_nil_of_length_eq_zero (by simpa using hc))
          refine GoH.seq ?_
          refine GoH.region ?_
          refine GoH.v (Vop.asg rfl rfl rfl rfl) ?_
          refine GoH.v (Vop.asg (v := U 0#64) rfl rfl rfl rfl) ?_
          refine GoH.v (Vop.asg rfl rfl rfl rfl) ?_
          refine GoH.regionEnd ?_
          refine GoH.ret Tryd.f8 Tryd.func8 rfl (fun w' hS => ?_)
          exact ⟨hS.ext, by rw [CounterIs, counterR, if_neg h1, if_neg h4, h5]; rfl⟩
        · -- no
          have h5 : (witL r p).length ≠ 0 := by simpa using hc
          obtain ⟨⟨x, u, y⟩, hO⟩ : ∃ z, witO r p = some z := by
            cases h : witO r p with
            | none => rw [witL_nil.2 h] at h5; exact absurd rfl h5
            | some z => exact ⟨z, rfl⟩
          obtain ⟨hx, _, hy, _, _⟩ := witO_some hO
          have hw0 := witL_0 hO
          have hwl := witL_len hO
          have hp0 : 0 < (witL r p).length := by omega
          obtain ⟨b, rfl⟩ : ∃ b, q = some b := by
            cases q with
            | none => have := (hq rfl).1; omega
            | some b => exact ⟨b, rfl⟩
          refine GoH.skip ?_
          refine GoH.seq ?_
          refine GoH.seq ?_
          refine GoH.region ?_
          refine GoH.v (Vop.mv rfl rfl rfl rfl) ?_
          refine GoH.regionEnd ?_
          refine GoH.block ?_
          refine GoH.seq ?_
          refine GoH.region ?_
          refine GoH.v (Vop.bin rfl rfl rfl rfl bEq rfl) ?_
          refine GoH.v (Vop.asg rfl rfl rfl rfl) ?_
          refine GoH.regionEnd ?_
          refine GoH.cond rfl (fun hc => ?_) (fun hc => ?_)
          · -- yes
            have h6 : p = 1 := by simpa using hc
            refine GoH.seq ?_
            refine GoH.region ?_
            refine GoH.v (Vop.mv rfl rfl rfl rfl) ?_
            refine GoH.v (Vop.idxS rfl rfl rfl rfl rfl Tryd.underlying42 Tryd.sizeOf3 (0) ⟨rfl, hp0⟩) ?_
            refine GoH.v (Vop.ldE I64 0 rfl rfl rfl rfl Tryd.isAgg3 0 rfl hp0) ?_
            refine GoH.v (Vop.asg rfl rfl rfl rfl) ?_
            refine GoH.v (Vop.asg (v := U 0#64) rfl rfl rfl rfl) ?_
            refine GoH.v (Vop.asg rfl rfl rfl rfl) ?_
            refine GoH.regionEnd ?_
            refine GoH.ret Tryd.f8 Tryd.func8 rfl (fun w' hS => ?_)
            exact ⟨hS.ext, by rw [CounterIs, counterR, if_neg h1, if_neg h4, hO]; simp only [if_pos h6]; rw [← hw0]; rfl⟩
          · -- no
            have h6 : p ≠ 1 := by simpa using hc
            refine GoH.seq ?_
            refine GoH.region ?_
            refine GoH.v (Vop.bin rfl rfl rfl rfl bEq rfl) ?_
            refine GoH.v (Vop.asg rfl rfl rfl rfl) ?_
            refine GoH.regionEnd ?_
            refine GoH.cond rfl (fun hc => ?_) (fun hc => ?_)
            · -- yes
              have h7 : p = 3 := by simpa using hc
              refine GoH.seq ?_
              refine GoH.draw 10 mixed rfl ?_
              refine RdGo.v (Vop.mv rfl rfl rfl rfl) ?_
              refine RdGo.v (Vop.idxS rfl rfl rfl rfl rfl Tryd.underlying42 Tryd.sizeOf3 (0) ⟨rfl, hp0⟩) ?_
              refine RdGo.v (Vop.ldE I64 0 rfl rfl rfl rfl Tryd.isAgg3 0 rfl hp0) ?_
              refine RdGo.v (Vop.mv rfl rfl rfl rfl) ?_
              refine RdGo.v (Vop.idxS rfl rfl rfl rfl rfl Tryd.underlying42 Tryd.sizeOf3 (0) ⟨rfl, hp0⟩) ?_
              refine RdGo.v (Vop.ldE I64 0 rfl rfl rfl rfl Tryd.isAgg3 0 rfl hp0) ?_
              refine RdGo.v (Vop.bin (a := U 1#64) rfl rfl rfl rfl (bShl x hw0) rfl) ?_
              refine RdGo.v (Vop.asg rfl rfl rfl rfl) ?_
              refine RdGo.v (Vop.asg rfl rfl rfl rfl) ?_
              refine RdGo.v (Vop.asg rfl rfl rfl rfl) ?_
              refine RdGo.nil ?_
              refine GoH.regionEnd ?_
              refine GoH.ret Tryd.f8 Tryd.func8 rfl (fun w' hS => ?_)
              exact ⟨hS.ext, by rw [CounterIs, counterR, if_neg h1, if_neg h4, hO]; simp only [if_neg h6, if_pos h7]; rw [← hw0]; rfl⟩
            · -- no
              have h7 : p ≠ 3 := by simpa using hc
              refine GoH.seq ?_
              refine GoH.region ?_
              refine GoH.v (Vop.bin rfl rfl rfl rfl bEq rfl) ?_
              refine GoH.v (Vop.asg rfl rfl rfl rfl) ?_
              refine GoH.regionEnd ?_
              refine GoH.cond rfl (fun hc => ?_) (fun hc => ?_)
              · -- yes
                have h8 : p = 5 := by simpa using hc
                have hc3 : cnt p = 3 := by rw [h8]; rfl
                have hp2 : 2 < (witL r p).length := by omega
                refine GoH.seq ?_
                refine GoH.draw 10 mixed rfl ?_
                refine RdGo.v (Vop.mv rfl rfl rfl rfl) ?_
                refine RdGo.v (Vop.idxS rfl rfl rfl rfl rfl Tryd.underlying42 Tryd.sizeOf3 (0) ⟨rfl, hp0⟩) ?_
                refine RdGo.v (Vop.ldE I64 0 rfl rfl rfl rfl Tryd.isAgg3 0 rfl hp0) ?_
                refine RdGo.v (Vop.mv rfl rfl rfl rfl) ?_
                refine RdGo.v (Vop.idxS rfl rfl rfl rfl rfl Tryd.underlying42 Tryd.sizeOf3 (2) ⟨rfl, hp2⟩) ?_
                refine RdGo.v (Vop.ldE I64 0 rfl rfl rfl rfl Tryd.isAgg3 0 rfl hp2) ?_
                refine RdGo.v (Vop.bin (a := U 1#64) rfl rfl rfl rfl (bShl y (witL_2 hO hc3)) rfl) ?_
                refine RdGo.v (Vop.asg rfl rfl rfl rfl) ?_
                refine RdGo.v (Vop.asg rfl rfl rfl rfl) ?_
                refine RdGo.v (Vop.asg rfl rfl rfl rfl) ?_
                refine RdGo.nil ?_
                refine GoH.regionEnd ?_
                refine GoH.ret Tryd.f8 Tryd.func8 rfl (fun w' hS => ?_)
                exact ⟨hS.ext, by rw [CounterIs, counterR, if_neg h1, if_neg h4, hO]; simp only [if_neg h6, if_neg h7, if_pos h8]; rw [← hw0]; rfl⟩
              · -- no
                have h8 : p ≠ 5 := by simpa using hc
                refine GoH.skip ?_
                refine GoH.inBlock ?_
                refine GoH.seq ?_
                refine GoH.draw 12 mixed rfl ?_
                refine RdGo.v (Vop.mv rfl rfl rfl rfl) ?_
                refine RdGo.v (Vop.idxS rfl rfl rfl rfl rfl Tryd.underlying42 Tryd.sizeOf3 (0) ⟨rfl, hp0⟩) ?_
                refine RdGo.v (Vop.ldE I64 0 rfl rfl rfl rfl Tryd.isAgg3 0 rfl hp0) ?_
                refine RdGo.v (Vop.mv rfl rfl rfl rfl) ?_
                refine RdGo.v (Vop.mv rfl rfl rfl rfl) ?_
                refine RdGo.v (Vop.idxS rfl rfl rfl rfl rfl Tryd.underlying42 Tryd.sizeOf3 (0) ⟨rfl, hp0⟩) ?_
                refine RdGo.v (Vop.ldE I64 0 rfl rfl rfl rfl Tryd.isAgg3 0 rfl hp0) ?_
                refine RdGo.v (Vop.idx rfl rfl rfl rfl rfl Tryd.underlying22 Tryd.sizeOf28 ⟨_, ha⟩ (by simp) x ⟨hw0, by simpa using hx⟩) ?_
                refine RdGo.v (Vop.ld rfl rfl rfl rfl Tryd.isAgg28 (fun w _ hS => (ha.ex0 hS.ext).at x hx)) ?_
                refine RdGo.v (Vop.asg rfl rfl rfl rfl) ?_
                refine RdGo.v (Vop.asg rfl rfl rfl rfl) ?_
                refine RdGo.v (Vop.asg rfl rfl rfl rfl) ?_
                refine RdGo.nil ?_
                refine GoH.regionEnd ?_
                refine GoH.ret Tryd.f8 Tryd.func8 rfl (fun w' hS => ?_)
                exact ⟨hS.ext, by rw [CounterIs, counterR, if_neg h1, if_neg h4, hO]; simp only [if_neg h6, if_neg h7, if_neg h8]; rw [← hw0]; rfl⟩
theorem counterR_c (r : Row) (p : Int) (w : World) (ha : r.At w) : Cn Tryd.prog 8 [r.v, .int .i64 p] w (fun v _ => CounterIs v r.xs p) := counter_c r.a r.cap r.xs p w ha.at_ ha.len
set_option maxRecDepth 4000 in
theorem same15_c (a : Option Addr) (ca : Nat) (ds : List DV) (b : Option Addr) (cb : Nat) (es : List DV) (w : World) (ha : DefsAt w a ds) (hb : DefsAt w b es) :
    Cn Tryd.prog 19 [.slice a ds.length ca, .slice b es.length cb] w (fun v _ => v = .bool (ds.map DV.plain == es.map DV.plain)) := by
  have hdl := ha.len
  unfold maxLen at hdl
  have neq : ∀ (k : Nat) (h1 : k < ds.length) (h2 : k < es.length), ds[k].plain ≠ es[k].plain → (ds.map DV.plain == es.map DV.plain) = false := fun k h1 h2 h => beq_false_of_ne (fun e => h (by
    have := congrArg (fun l => l[k]?) e
    simpa [h1, h2] using this))
  refine Cn.of Tryd.func19 rfl rfl ?_
  refine GoH.seq ?_
  refine GoH.region ?_
  refine GoH.v (Vop.asg rfl rfl rfl rfl) ?_
  refine GoH.regionEnd ?_
  refine GoH.seq ?_
  refine GoH.seq ?_
  refine GoH.region ?_
  refine GoH.v (Vop.mv rfl rfl rfl rfl) ?_
  refine GoH.v (Vop.blt rfl rfl rfl (blt_len_slice Tryd.underlying37) rfl) ?_
  refine GoH.v (Vop.mv rfl rfl rfl rfl) ?_
  refine GoH.v (Vop.blt rfl rfl rfl (blt_len_slice Tryd.underlying37) rfl) ?_
  refine GoH.v (Vop.bin rfl rfl rfl rfl bNe rfl) ?_
  refine GoH.regionEnd ?_
  refine GoH.cond rfl (fun hc => ?_) (fun hc => ?_)
  · -- yes
    have h1 : ds.length ≠ es.length := by simp at hc; omega
    refine GoH.seq ?_
    refine GoH.region ?_
    refine GoH.v (Vop.asg rfl rfl rfl rfl) ?_
    refine GoH.regionEnd ?_
    refine GoH.ret Tryd.f19 Tryd.func19 rfl (fun w' hS => ?_)
    exact ⟨hS.ext, by rw [beq_false_of_ne (fun e => h1 (by simpa using congrArg List.length e))]; rfl⟩
  · -- no
    have h1 : ds.length = es.length := by simp at hc; omega
    refine GoH.skip ?_
    refine GoH.seq ?_
    refine GoH.seq ?_
    refine GoH.region ?_
    refine GoH.v (Vop.asg rfl rfl rfl rfl) ?_
    refine GoH.regionEnd ?_
    refine GoH.block ?_
    refine GoH.loop (σ := Nat) (fun k => [(0, .slice a ds.length ca), (1, .slice b es.length cb), (5, .int .i64 k)]) (fun _ => [])
      (fun k => k ≤ ds.length ∧ ∀ (i : Nat) (x y : DV), i < k → ds[i]? = some x → es[i]? = some y → x.plain = y.plain) (fun k => ds.length - k) 0 ⟨Nat.zero_le _, fun i x y hi => by omega⟩ ⟨rfl, rfl, rfl, trivial⟩ .slnil (fun k hI IH => ?_)
    obtain ⟨hk, hall⟩ := hI
    refine GoH.seq ?_
    refine GoH.seq ?_
    refine GoH.region ?_
    refine GoH.v (Vop.mv rfl rfl rfl rfl) ?_
    refine GoH.v (Vop.mv rfl rfl rfl rfl) ?_
    refine GoH.v (Vop.blt rfl rfl rfl (blt_len_slice Tryd.underlying37) rfl) ?_
    refine GoH.v (Vop.bin rfl rfl rfl rfl bLt rfl) ?_
    refine GoH.regionEnd ?_
    refine GoH.cond rfl (fun hc => ?_) (fun hc => ?_)
    · -- yes
      have hlt : k < ds.length := by simpa using hc
      have hlt' : k < es.length := by omega
      have hd := ha.each _ (List.getElem_mem hlt)
      have he := hb.each _ (List.getElem_mem hlt')
      have hdw := hd.len
      unfold maxLen at hdw
      refine GoH.skip ?_
      refine GoH.seq ?_
      refine GoH.block ?_
      refine GoH.seq ?_
      refine GoH.seq ?_
      refine GoH.draw 39 mixed rfl ?_
      refine RdGo.v (Vop.mv rfl rfl rfl rfl) ?_
      refine RdGo.v (Vop.mv rfl rfl rfl rfl) ?_
      refine RdGo.v (Vop.idxN rfl rfl rfl rfl rfl Tryd.underlying37 Tryd.sizeOf44 ⟨_, (ha).at_⟩ (flat_len (enc := DV.cells) (sz := 3) (fun _ => rfl)) (by decide) (k) ⟨rfl, hlt⟩) ?_
      refine RdGo.v (Vop.fldA rfl rfl rfl rfl Tryd.underlying44 rfl Tryd.sizeOf3 ((k) * 3 + 0) rfl) ?_
      refine RdGo.v (Vop.ld rfl rfl rfl rfl Tryd.isAgg3 (fun w _ hS => Sl.fld (enc := DV.cells) (sz := 3) ((ha).ex0 hS.ext).at_ (fun _ => rfl) hlt rfl)) ?_
      refine RdGo.v (Vop.mv rfl rfl rfl rfl) ?_
      refine RdGo.v (Vop.mv rfl rfl rfl rfl) ?_
      refine RdGo.v (Vop.idxN rfl rfl rfl rfl rfl Tryd.underlying37 Tryd.sizeOf44 ⟨_, (hb).at_⟩ (flat_len (enc := DV.cells) (sz := 3) (fun _ => rfl)) (by decide) (k) ⟨rfl, hlt'⟩) ?_
      refine RdGo.v (Vop.fldA rfl rfl rfl rfl Tryd.underlying44 rfl Tryd.sizeOf3 ((k) * 3 + 0) rfl) ?_
      refine RdGo.v (Vop.ld rfl rfl rfl rfl Tryd.isAgg3 (fun w _ hS => Sl.fld (enc := DV.cells) (sz := 3) ((hb).ex0 hS.ext).at_ (fun _ => rfl) hlt' rfl)) ?_
      refine RdGo.v (Vop.bin rfl rfl rfl rfl bNe rfl) ?_
      refine RdGo.v (Vop.mv rfl rfl rfl rfl) ?_
      -- guard on slot 29 (ref.go:253)
      refine RdGo.cases (d := 29) rfl (fun hc => ?_) (fun hc => ?_)
      · -- yes
        have h2 : ds[k].agent ≠ es[k].agent := by simpa using hc
        refine RdGo.no rfl rfl rfl rfl rfl ?_
        refine RdGo.no rfl rfl rfl rfl rfl ?_
        refine RdGo.no rfl rfl rfl rfl rfl ?_
        refine RdGo.no rfl rfl rfl rfl rfl ?_
        refine RdGo.no rfl rfl rfl rfl rfl ?_
        refine RdGo.no rfl rfl rfl rfl rfl ?_
        refine RdGo.no rfl rfl rfl rfl rfl ?_
        refine RdGo.no rfl rfl rfl rfl rfl ?_
        refine RdGo.no rfl rfl rfl rfl rfl ?_
        refine RdGo.no rfl rfl rfl rfl rfl ?_
        refine RdGo.no rfl rfl rfl rfl rfl ?_
        refine RdGo.v (Vop.pickT rfl rfl rfl rfl rfl) ?_
        refine RdGo.v (Vop.mv rfl rfl rfl rfl) ?_
        refine RdGo.no rfl rfl rfl rfl rfl ?_
        refine RdGo.no rfl rfl rfl rfl rfl ?_
        refine RdGo.no rfl rfl rfl rfl rfl ?_
        refine RdGo.no rfl rfl rfl rfl rfl ?_
        refine RdGo.no rfl rfl rfl rfl rfl ?_
        refine RdGo.no rfl rfl rfl rfl rfl ?_
        refine RdGo.no rfl rfl rfl rfl rfl ?_
        refine RdGo.no rfl rfl rfl rfl rfl ?_
        refine RdGo.no rfl rfl rfl rfl rfl ?_
        refine RdGo.no rfl rfl rfl rfl rfl ?_
        refine RdGo.no rfl rfl rfl rfl rfl ?_
        refine RdGo.no rfl rfl rfl rfl rfl ?_
        refine RdGo.no rfl rfl rfl rfl rfl ?_
        refine RdGo.v (Vop.pickT rfl rfl rfl rfl rfl) ?_
        refine RdGo.nil ?_
        refine GoH.regionEnd ?_
        refine GoH.condT rfl ?_
        refine GoH.seq ?_
        refine GoH.region ?_
        refine GoH.v (Vop.asg rfl rfl rfl rfl) ?_
        refine GoH.regionEnd ?_
        refine GoH.ret Tryd.f19 Tryd.func19 rfl (fun w' hS => ?_)
        exact ⟨hS.ext, by rw [neq k hlt hlt' (fun e => h2 (by simpa [DV.plain] using congrArg (fun z => z.1) e))]; rfl⟩
      · -- no
        have h2 : ds[k].agent = es[k].agent := by simpa using hc
        refine RdGo.v (Vop.mv rfl rfl rfl rfl) ?_
        refine RdGo.v (Vop.mv rfl rfl rfl rfl) ?_
        refine RdGo.v (Vop.idxN rfl rfl rfl rfl rfl Tryd.underlying37 Tryd.sizeOf44 ⟨_, (ha).at_⟩ (flat_len (enc := DV.cells) (sz := 3) (fun _ => rfl)) (by decide) (k) ⟨rfl, hlt⟩) ?_
        refine RdGo.v (Vop.fldA rfl rfl rfl rfl Tryd.underlying44 rfl Tryd.sizeOf3 ((k) * 3 + 1) rfl) ?_
        refine RdGo.v (Vop.ld rfl rfl rfl rfl Tryd.isAgg3 (fun w _ hS => Sl.fld (enc := DV.cells) (sz := 3) ((ha).ex0 hS.ext).at_ (fun _ => rfl) hlt rfl)) ?_
        refine RdGo.v (Vop.mv rfl rfl rfl rfl) ?_
        refine RdGo.v (Vop.mv rfl rfl rfl rfl) ?_
        refine RdGo.v (Vop.idxN rfl rfl rfl rfl rfl Tryd.underlying37 Tryd.sizeOf44 ⟨_, (hb).at_⟩ (flat_len (enc := DV.cells) (sz := 3) (fun _ => rfl)) (by decide) (k) ⟨rfl, hlt'⟩) ?_
        refine RdGo.v (Vop.fldA rfl rfl rfl rfl Tryd.underlying44 rfl Tryd.sizeOf3 ((k) * 3 + 1) rfl) ?_
        refine RdGo.v (Vop.ld rfl rfl rfl rfl Tryd.isAgg3 (fun w _ hS => Sl.fld (enc := DV.cells) (sz := 3) ((hb).ex0 hS.ext).at_ (fun _ => rfl) hlt' rfl)) ?_
        refine RdGo.v (Vop.bin rfl rfl rfl rfl bNe rfl) ?_
        refine RdGo.v (Vop.pickF rfl rfl rfl rfl rfl) ?_
        refine RdGo.v (Vop.mv rfl rfl rfl rfl) ?_
        -- guard on slot 42 (ref.go:253)
        refine RdGo.cases (d := 42) rfl (fun hc => ?_) (fun hc => ?_)
        · -- yes
          have h3 : ds[k].prop ≠ es[k].prop := by simpa using hc
          refine RdGo.no rfl rfl rfl rfl rfl ?_
          refine RdGo.no rfl rfl rfl rfl rfl ?_
          refine RdGo.no rfl rfl rfl rfl rfl ?_
          refine RdGo.no rfl rfl rfl rfl rfl ?_
          refine RdGo.no rfl rfl rfl rfl rfl ?_
          refine RdGo.no rfl rfl rfl rfl rfl ?_
          refine RdGo.no rfl rfl rfl rfl rfl ?_
          refine RdGo.no rfl rfl rfl rfl rfl ?_
          refine RdGo.no rfl rfl rfl rfl rfl ?_
          refine RdGo.no rfl rfl rfl rfl rfl ?_
          refine RdGo.no rfl rfl rfl rfl rfl ?_
          refine RdGo.no rfl rfl rfl rfl rfl ?_
          refine RdGo.no rfl rfl rfl rfl rfl ?_
          refine RdGo.v (Vop.pickT rfl rfl rfl rfl rfl) ?_
          refine RdGo.nil ?_
          refine GoH.regionEnd ?_
          refine GoH.condT rfl ?_
          refine GoH.seq ?_
          refine GoH.region ?_
          refine GoH.v (Vop.asg rfl rfl rfl rfl) ?_
          refine GoH.regionEnd ?_
          refine GoH.ret Tryd.f19 Tryd.func19 rfl (fun w' hS => ?_)
          exact ⟨hS.ext, by rw [neq k hlt hlt' (fun e => h3 (by simpa [DV.plain] using congrArg (fun z => z.2.1) e))]; rfl⟩
        · -- no
          have h3 : ds[k].prop = es[k].prop := by simpa using hc
          refine RdGo.v (Vop.mv rfl rfl rfl rfl) ?_
          refine RdGo.v (Vop.mv rfl rfl rfl rfl) ?_
          refine RdGo.v (Vop.idxN rfl rfl rfl rfl rfl Tryd.underlying37 Tryd.sizeOf44 ⟨_, (ha).at_⟩ (flat_len (enc := DV.cells) (sz := 3) (fun _ => rfl)) (by decide) (k) ⟨rfl, hlt⟩) ?_
          refine RdGo.v (Vop.fldA rfl rfl rfl rfl Tryd.underlying44 rfl Tryd.sizeOf42 ((k) * 3 + 2) rfl) ?_
          refine RdGo.v (Vop.ld rfl rfl rfl rfl Tryd.isAgg42 (fun w _ hS => Sl.fld (enc := DV.cells) (sz := 3) ((ha).ex0 hS.ext).at_ (fun _ => rfl) hlt rfl)) ?_
          refine RdGo.v (Vop.blt rfl rfl rfl (blt_len_slice Tryd.underlying42) rfl) ?_
          refine RdGo.v (Vop.mv rfl rfl rfl rfl) ?_
          refine RdGo.v (Vop.mv rfl rfl rfl rfl) ?_
          refine RdGo.v (Vop.idxN rfl rfl rfl rfl rfl Tryd.underlying37 Tryd.sizeOf44 ⟨_, (hb).at_⟩ (flat_len (enc := DV.cells) (sz := 3) (fun _ => rfl)) (by decide) (k) ⟨rfl, hlt'⟩) ?_
          refine RdGo.v (Vop.fldA rfl rfl rfl rfl Tryd.underlying44 rfl Tryd.sizeOf42 ((k) * 3 + 2) rfl) ?_
          refine RdGo.v (Vop.ld rfl rfl rfl rfl Tryd.isAgg42 (fun w _ hS => Sl.fld (enc := DV.cells) (sz := 3) ((hb).ex0 hS.ext).at_ (fun _ => rfl) hlt' rfl)) ?_
          refine RdGo.v (Vop.blt rfl rfl rfl (blt_len_slice Tryd.underlying42) rfl) ?_
          refine RdGo.v (Vop.bin rfl rfl rfl rfl bNe rfl) ?_
          refine RdGo.v (Vop.pickF rfl rfl rfl rfl rfl) ?_
          refine RdGo.nil ?_
          refine GoH.regionEnd ?_
          refine GoH.cond rfl (fun hc => ?_) (fun hc => ?_)
          · -- yes
            have h4 : ds[k].ws.length ≠ es[k].ws.length := by simp at hc; omega
            refine GoH.seq ?_
            refine GoH.region ?_
            refine GoH.v (Vop.asg rfl rfl rfl rfl) ?_
            refine GoH.regionEnd ?_
            refine GoH.ret Tryd.f19 Tryd.func19 rfl (fun w' hS => ?_)
            exact ⟨hS.ext, by rw [neq k hlt hlt' (fun e => h4 (by simpa [DV.plain] using congrArg (fun z => z.2.2.length) e))]; rfl⟩
          · -- no
            have h4 : ds[k].ws.length = es[k].ws.length := by simp at hc; omega
            refine GoH.skip ?_
            refine GoH.seq ?_
            refine GoH.region ?_
            refine GoH.v (Vop.asg rfl rfl rfl rfl) ?_
            refine GoH.regionEnd ?_
            refine GoH.block ?_
            refine GoH.loop (σ := Nat) (fun j => [(0, .slice a ds.length ca), (1, .slice b es.length cb), (5, .int .i64 k), (6, .int .i64 j)]) (fun _ => [])
              (fun j => j ≤ ds[k].ws.length ∧ ∀ (i : Nat) (x y : Int), i < j → ds[k].ws[i]? = some x → es[k].ws[i]? = some y → x = y) (fun j => ds[k].ws.length - j) 0 ⟨Nat.zero_le _, fun i x y hi => by omega⟩ ⟨rfl, rfl, rfl, rfl, trivial⟩ .slnil (fun j hI IH2 => ?_)
            obtain ⟨hjk, hws⟩ := hI
            refine GoH.seq ?_
            refine GoH.seq ?_
            refine GoH.region ?_
            refine GoH.v (Vop.mv rfl rfl rfl rfl) ?_
            refine GoH.v (Vop.mv rfl rfl rfl rfl) ?_
            refine GoH.v (Vop.mv rfl rfl rfl rfl) ?_
            refine GoH.v (Vop.idxN rfl rfl rfl rfl rfl Tryd.underlying37 Tryd.sizeOf44 ⟨_, (ha).at_⟩ (flat_len (enc := DV.cells) (sz := 3) (fun _ => rfl)) (by decide) (k) ⟨rfl, hlt⟩) ?_
            refine GoH.v (Vop.fldA rfl rfl rfl rfl Tryd.underlying44 rfl Tryd.sizeOf42 ((k) * 3 + 2) rfl) ?_
            refine GoH.v (Vop.ld rfl rfl rfl rfl Tryd.isAgg42 (fun w _ hS => Sl.fld (enc := DV.cells) (sz := 3) ((ha).ex0 hS.ext).at_ (fun _ => rfl) hlt rfl)) ?_
            refine GoH.v (Vop.blt rfl rfl rfl (blt_len_slice Tryd.underlying42) rfl) ?_
            refine GoH.v (Vop.bin rfl rfl rfl rfl bLt rfl) ?_
            refine GoH.regionEnd ?_
            refine GoH.cond rfl (fun hc => ?_) (fun hc => ?_)
            · -- yes
              have hj : j < ds[k].ws.length := by simpa using hc
              have hj' : j < es[k].ws.length := by omega
              refine GoH.skip ?_
              refine GoH.seq ?_
              refine GoH.block ?_
              refine GoH.seq ?_
              refine GoH.draw 17 mixed rfl ?_
              refine RdGo.v (Vop.mv rfl rfl rfl rfl) ?_
              refine RdGo.v (Vop.mv rfl rfl rfl rfl) ?_
              refine RdGo.v (Vop.idxN rfl rfl rfl rfl rfl Tryd.underlying37 Tryd.sizeOf44 ⟨_, (ha).at_⟩ (flat_len (enc := DV.cells) (sz := 3) (fun _ => rfl)) (by decide) (k) ⟨rfl, hlt⟩) ?_
              refine RdGo.v (Vop.fldA rfl rfl rfl rfl Tryd.underlying44 rfl Tryd.sizeOf42 ((k) * 3 + 2) rfl) ?_
              refine RdGo.v (Vop.ld rfl rfl rfl rfl Tryd.isAgg42 (fun w _ hS => Sl.fld (enc := DV.cells) (sz := 3) ((ha).ex0 hS.ext).at_ (fun _ => rfl) hlt rfl)) ?_
              refine RdGo.v (Vop.mv rfl rfl rfl rfl) ?_
              refine RdGo.v (Vop.idx rfl rfl rfl rfl rfl Tryd.underlying42 Tryd.sizeOf3 ⟨_, hd.at_⟩ (by simp) (j) ⟨rfl, by simpa using hj⟩) ?_
              refine RdGo.v (Vop.ld rfl rfl rfl rfl Tryd.isAgg3 (fun w _ hS => (SlI.ex0 hd.at_ hS.ext).at (j) hj)) ?_
              refine RdGo.v (Vop.mv rfl rfl rfl rfl) ?_
              refine RdGo.v (Vop.mv rfl rfl rfl rfl) ?_
              refine RdGo.v (Vop.idxN rfl rfl rfl rfl rfl Tryd.underlying37 Tryd.sizeOf44 ⟨_, (hb).at_⟩ (flat_len (enc := DV.cells) (sz := 3) (fun _ => rfl)) (by decide) (k) ⟨rfl, hlt'⟩) ?_
              refine RdGo.v (Vop.fldA rfl rfl rfl rfl Tryd.underlying44 rfl Tryd.sizeOf42 ((k) * 3 + 2) rfl) ?_
              refine RdGo.v (Vop.ld rfl rfl rfl rfl Tryd.isAgg42 (fun w _ hS => Sl.fld (enc := DV.cells) (sz := 3) ((hb).ex0 hS.ext).at_ (fun _ => rfl) hlt' rfl)) ?_
              refine RdGo.v (Vop.mv rfl rfl rfl rfl) ?_
              refine RdGo.v (Vop.idx rfl rfl rfl rfl rfl Tryd.underlying42 Tryd.sizeOf3 ⟨_, he.at_⟩ (by simp) (j) ⟨rfl, by simpa using hj'⟩) ?_
              refine RdGo.v (Vop.ld rfl rfl rfl rfl Tryd.isAgg3 (fun w _ hS => (SlI.ex0 he.at_ hS.ext).at (j) hj')) ?_
              refine RdGo.v (Vop.bin rfl rfl rfl rfl bNe rfl) ?_
              refine RdGo.nil ?_
              refine GoH.regionEnd ?_
              refine GoH.cond rfl (fun hc => ?_) (fun hc => ?_)
              · -- yes
                have h5 : ds[k].ws[j] ≠ es[k].ws[j] := by simpa using hc
                refine GoH.seq ?_
                refine GoH.region ?_
                refine GoH.v (Vop.asg rfl rfl rfl rfl) ?_
                refine GoH.regionEnd ?_
                refine GoH.ret Tryd.f19 Tryd.func19 rfl (fun w' hS => ?_)
                exact ⟨hS.ext, by rw [neq k hlt hlt' (fun e => h5 (by
                have := congrArg (fun z => z.2.2[j]?) e
                simpa [DV.plain, hj, hj'] using this))]; rfl⟩
              · -- no
                have h5 : ds[k].ws[j] = es[k].ws[j] := by simpa using hc
                refine GoH.skip ?_
                refine GoH.inBlock ?_
                refine GoH.region ?_
                refine GoH.v (Vop.mv rfl rfl rfl rfl) ?_
                refine GoH.v (Vop.bin rfl rfl rfl rfl (bAdd (by omega)) rfl) ?_
                refine GoH.v (Vop.asg rfl rfl rfl rfl) ?_
                refine GoH.regionEnd ?_
                exact IH2 (j + 1) _ _ ⟨hj, fun i x y hi hx hy => by
                by_cases e : i = j
                · subst e
                  rw [List.getElem?_eq_getElem hj] at hx; rw [List.getElem?_eq_getElem hj'] at hy
                  cases hx; cases hy; exact h5
                · exact hws i x y (by omega) hx hy⟩ (by omega) ⟨rfl, rfl, rfl, rfl, trivial⟩ .slnil
            · -- no
              have hge : ¬ j < ds[k].ws.length := by simpa using hc
              obtain rfl : j = ds[k].ws.length := by omega
              have h6 : ds[k].plain = es[k].plain := by
                have : ds[k].ws = es[k].ws := List.ext_getElem h4 (fun i a1 a2 => hws i _ _ a1 (List.getElem?_eq_getElem a1) (List.getElem?_eq_getElem a2))
                simp [DV.plain, h2, h3, this]
              refine GoH.exit rfl ?_
              refine GoH.inBlock ?_
              refine GoH.region ?_
              refine GoH.v (Vop.mv rfl rfl rfl rfl) ?_
              refine GoH.v (Vop.bin rfl rfl rfl rfl (bAdd (by omega)) rfl) ?_
              refine GoH.v (Vop.asg rfl rfl rfl rfl) ?_
              refine GoH.regionEnd ?_
              exact IH (k + 1) _ _ ⟨hlt, fun i x y hi hx hy => by
              by_cases e : i = k
              · subst e
                rw [List.getElem?_eq_getElem hlt] at hx; rw [List.getElem?_eq_getElem hlt'] at hy
                cases hx; cases hy; exact h6
              · exact hall i x y (by omega) hx hy⟩ (by omega) ⟨rfl, rfl, rfl, trivial⟩ .slnil
    · -- no
      have hge : ¬ k < ds.length := by simpa using hc
      obtain rfl : k = ds.length := by omega
      have h6 : (ds.map DV.plain == es.map DV.plain) = true := by
        rw [beq_iff_eq]
        apply List.ext_getElem (by simpa using h1)
        intro i a1 a2
        simp only [List.length_map] at a1 a2
        simpa using hall i _ _ a1 (List.getElem?_eq_getElem a1) (List.getElem?_eq_getElem a2)
      refine GoH.exit rfl ?_
      refine GoH.seq ?_
      refine GoH.region ?_
      refine GoH.v (Vop.asg rfl rfl rfl rfl) ?_
      refine GoH.regionEnd ?_
      refine GoH.ret Tryd.f19 Tryd.func19 rfl (fun w' hS => ?_)
      exact ⟨hS.ext, by rw [h6]; rfl⟩
end Go.Proofs.YtbjopkllkoomkaaDoor
