/- Laws of a calculus of walks, proved for any program: no condition beyond those that each theorem states. -/
import Derived.Test.YtoiafcoaeomnlaaDoorWbase
import Derived.RangeFuncLeaves
namespace Go.Proofs.Wit
open Go

/-! ## The judgement on the machine: a frame's todo list runs to the frame's end -/

/-- the frame of function f, in round r, with these temporaries, at this todo list -/
def mkF (f : FuncId) (r : Option Nat) (t : Array Value) (ds : List Deferred) (k : List Item) : Frame :=
  { fn := f, tmps := t, todo := k, defers := ds, mode := .run, kind := .normal, roundOf := r }

/-- where the frame has ended: a function's frame is leaving with v; a round's frame has handed v to its caller -/
def Tgt (P : Program) (r : Option Nat) (f : FuncId) (cs : List Frame) (v : Value) (w : World) (m : Machine) : Prop :=
  match r with
  | none => ∃ fr, m = lone fr cs w ∧ fr.fn = f ∧ fr.leaving P w (.returned v)
  | some _ => ∃ c cs', cs = c :: cs' ∧ m = lone (c.finish v) cs' w

def Gos (P : Program) (r : Option Nat) (f : FuncId) (R : Value → World → Prop) (k : List Item) (t : Array Value) (ds : List Deferred) (w : World) : Prop :=
  ∀ cs : List Frame, (r.isSome = true → cs ≠ []) → ∃ v w' m, R v w' ∧ Steps P (lone (mkF f r t ds k) cs w) m ∧ Tgt P r f cs v w' m

section
variable {P : Program} {r : Option Nat} {f : FuncId} {R : Value → World → Prop} {k k' : List Item} {t t' : Array Value} {ds ds' : List Deferred} {w w' : World}

theorem mkF_at : mkF f r t ds k = (mkF f r #[] [] []).atR ⟨t, ds⟩ k := rfl

theorem Gos.step (hs : ∀ cs, step P (lone (mkF f r t ds k) cs w) = .next (lone (mkF f r t' ds' k') cs w')) (h : Gos P r f R k' t' ds' w') : Gos P r f R k t ds w := by
  intro cs hc
  obtain ⟨v, w2, m, hR, hst, ht⟩ := h cs hc
  exact ⟨v, w2, m, hR, .head (hs cs) hst, ht⟩

theorem Gos.mono {R' : Value → World → Prop} (h : Gos P r f R k t ds w) (hr : ∀ v w, R v w → R' v w) : Gos P r f R' k t ds w := by
  intro cs hc
  obtain ⟨v, w2, m, hR, hst, ht⟩ := h cs hc
  exact ⟨v, w2, m, hr _ _ hR, hst, ht⟩

theorem Gos.skip (h : Gos P r f R k t ds w) : Gos P r f R (.code .skip :: k) t ds w := .step (fun _ => by rw [mkF_at, mkF_at]; exact stepR_skip) h
theorem Gos.label {l : Nat} (h : Gos P r f R k t ds w) : Gos P r f R (.code (.label l) :: k) t ds w := .step (fun _ => by rw [mkF_at, mkF_at]; exact stepR_label) h
theorem Gos.inBlock {id : Nat} (h : Gos P r f R k t ds w) : Gos P r f R (.inBlock id :: k) t ds w := .step (fun _ => by rw [mkF_at, mkF_at]; exact stepR_inBlock) h
theorem Gos.seq {x y : Code} (h : Gos P r f R (.code x :: .code y :: k) t ds w) : Gos P r f R (.code (.seq x y) :: k) t ds w := .step (fun _ => by rw [mkF_at, mkF_at]; exact stepR_seq) h
theorem Gos.block {id : Nat} {c : Code} (h : Gos P r f R (.code c :: .inBlock id :: k) t ds w) : Gos P r f R (.code (.block id c) :: k) t ds w := .step (fun _ => by rw [mkF_at, mkF_at]; exact stepR_block) h
theorem Gos.loop {c : Code} (h : Gos P r f R (.code c :: .inLoop c :: k) t ds w) : Gos P r f R (.code (.loop c) :: k) t ds w := .step (fun _ => by rw [mkF_at, mkF_at]; exact stepR_loop) h
theorem Gos.inLoop {c : Code} (h : Gos P r f R (.code c :: .inLoop c :: k) t ds w) : Gos P r f R (.inLoop c :: k) t ds w := .step (fun _ => by rw [mkF_at, mkF_at]; exact stepR_inLoop) h
theorem Gos.exit {id : Nat} (he : exitTo id k = some k') (h : Gos P r f R k' t ds w) : Gos P r f R (.code (.exit id) :: k) t ds w := .step (fun _ => by rw [mkF_at, mkF_at]; exact stepR_exit he) h
theorem Gos.goto {l : Nat} (he : gotoIn l k = some k') (h : Gos P r f R k' t ds w) : Gos P r f R (.code (.goto l) :: k) t ds w := .step (fun _ => by rw [mkF_at, mkF_at]; exact stepR_goto he) h
theorem stepR_scope {b : Frame} {a : Act} {k : List Item} {cs : List Frame} {w : World} {c : Code} :
    Go.step P (lone (b.atR a (.code (.scope c) :: k)) cs w) = .next (lone (b.atR a (.code c :: .inScope c :: k)) cs w) :=
  step_lone_go (by simp [stepG, stepG.exec, Frame.atR])
theorem stepR_inScope {b : Frame} {a : Act} {k : List Item} {cs : List Frame} {w : World} {c : Code} :
    Go.step P (lone (b.atR a (.inScope c :: k)) cs w) = .next (lone (b.atR a k) cs w) :=
  step_lone_go (by simp [stepG, stepG.exec, Frame.atR])
theorem Gos.scope {c : Code} (h : Gos P r f R (.code c :: .inScope c :: k) t ds w) : Gos P r f R (.code (.scope c) :: k) t ds w := .step (fun _ => by rw [mkF_at, mkF_at]; exact stepR_scope) h
theorem Gos.inScope {c : Code} (h : Gos P r f R k t ds w) : Gos P r f R (.inScope c :: k) t ds w := .step (fun _ => by rw [mkF_at, mkF_at]; exact stepR_inScope) h
theorem Gos.cond {c : Operand} {x y : Code} {b : Bool} (hc : (⟨t, ds⟩ : Act).eval c = .bool b) (h : Gos P r f R (.code (if b then x else y) :: k) t ds w) : Gos P r f R (.code (.cond c x y) :: k) t ds w := .step (fun _ => by rw [mkF_at, mkF_at]; exact stepR_cond hc) h
theorem Gos.region {id : Nat} {ops : Array Oper} (h : Gos P r f R (.inRegion ops (List.range ops.size) :: k) t ds w) : Gos P r f R (.code (.region id ops false) :: k) t ds w := .step (fun _ => by rw [mkF_at, mkF_at]; exact stepR_region) h
theorem Gos.regionDraw {id : Nat} {ops : Array Oper} (h : ∀ n, Gos P r f R (.inRegion ops (Region.schedule (P.follows .mixedOrders) ops n) :: k) t ds { w with drawn := w.drawn + 1 }) : Gos P r f R (.code (.region id ops true) :: k) t ds w := .step (fun _ => by rw [mkF_at, mkF_at]; exact stepR_region_draw) (h _)
theorem Gos.regionEnd {ops : Array Oper} (h : Gos P r f R k t ds w) : Gos P r f R (.inRegion ops [] :: k) t ds w := .step (fun _ => by rw [mkF_at, mkF_at]; exact stepR_region_end) h

theorem put_eq (t : Array Value) (ds : List Deferred) (d : Option Tmp) (v : Value) : ((⟨t, ds⟩ : Act).put d v) = ⟨((⟨t, ds⟩ : Act).put d v).tmps, ds⟩ := by cases d <;> rfl
theorem stepR_val {b : Frame} {a : Act} {cs : List Frame} {ops : Array Oper} {i : Nat} {rest : List Nat} {o : Oper} {nx : Next} {v : Value} (ho : ops[i]? = some o) (hw : Region.wanted o (yielded ops a.tmps) = true) (hnd : ∀ c, o.op ≠ .defer c)
    (hr : (execOp a.eval o).run P w = .ok nx w') (hx : nx = .value v ∨ (nx = .skip ∧ v = undef)) :
    Go.step P (lone (b.atR a (.inRegion ops (i :: rest) :: k)) cs w) = .next (lone (b.atR (a.put o.dst v) (.inRegion ops rest :: k)) cs w') := by
  refine step_lone_go ?_
  rw [stepGR_op ho hw, Oper.semAt_eq _ _ _ hnd]
  have hf := Frame.finish_atR b a ops i rest k v
  rw [ho] at hf
  simp only [Option.bind_some] at hf
  rcases hx with rfl | ⟨rfl, rfl⟩
  · simp [stepG.apply, Sem.runT_eq, hr, GStep.bare_after, hf]
  · simp [stepG.apply, Sem.runT_eq, hr, GStep.bare_after, hf]
theorem stepR_enter {b : Frame} {a : Act} {cs : List Frame} {ops : Array Oper} {i : Nat} {rest : List Nat} {o : Oper} {g : FuncId} {args : Array Value} (ho : ops[i]? = some o) (hw : Region.wanted o (yielded ops a.tmps) = true) (hnd : ∀ c, o.op ≠ .defer c)
    (hr : (execOp a.eval o).run P w = .ok (.enter g args) w') :
    Go.step P (lone (b.atR a (.inRegion ops (i :: rest) :: k)) cs w) = .next (lone (Frame.enter P g args .normal) (b.atR a (.inRegion ops (i :: rest) :: k) :: cs) w') := by
  refine step_lone_go ?_
  rw [stepGR_op ho hw, Oper.semAt_eq _ _ _ hnd]
  simp [stepG.apply, Sem.runT_eq, hr, GStep.bare_after, Frame.atR]
theorem stepR_yield {b : Frame} {a : Act} {cs : List Frame} {ops : Array Oper} {i : Nat} {rest : List Nat} {o : Oper} {l fn : Nat} {tmps : Array Value} {assign body : Code} (ho : ops[i]? = some o) (hw : Region.wanted o (yielded ops a.tmps) = true) (hnd : ∀ c, o.op ≠ .defer c)
    (hr : (execOp a.eval o).run P w = .ok (.round l fn tmps assign body) w') :
    Go.step P (lone (b.atR a (.inRegion ops (i :: rest) :: k)) cs w) = .next (lone (Frame.round l fn tmps assign body .normal) (b.atR a (.inRegion ops (i :: rest) :: k) :: cs) w') := by
  refine step_lone_go ?_
  rw [stepGR_op ho hw, Oper.semAt_eq _ _ _ hnd]
  simp [stepG.apply, Sem.runT_eq, hr, GStep.bare_after, Frame.atR]
theorem finish_op {b : Frame} {a : Act} {ops : Array Oper} {i : Nat} {rest : List Nat} {o : Oper} (ho : ops[i]? = some o) (v : Value) : (b.atR a (.inRegion ops (i :: rest) :: k)).finish v = b.atR (a.put o.dst v) (.inRegion ops rest :: k) := by
  rw [Frame.finish_atR, ho]; rfl
/-- one operation that yields a value -/
theorem Gos.op {ops : Array Oper} {i : Nat} {rest : List Nat} {o : Oper} {nx : Next} {v : Value} (ho : ops[i]? = some o) (hw : Region.wanted o (yielded ops t) = true) (hnd : ∀ c, o.op ≠ .defer c)
    (hr : (execOp (Act.eval ⟨t, ds⟩) o).run P w = .ok nx w') (hx : nx = .value v ∨ (nx = .skip ∧ v = undef))
    (h : Gos P r f R (.inRegion ops rest :: k) ((⟨t, ds⟩ : Act).put o.dst v).tmps ds w') : Gos P r f R (.inRegion ops (i :: rest) :: k) t ds w := by
  refine .step (fun cs => ?_) h
  have hs := stepR_val (b := mkF f r #[] [] []) (a := ⟨t, ds⟩) (k := k) (cs := cs) (rest := rest) ho hw hnd hr hx
  rw [put_eq] at hs
  exact hs
/-- an operation whose guard says no -/
theorem Gos.opSkip {ops : Array Oper} {i : Nat} {rest : List Nat} {o : Oper} (ho : ops[i]? = some o) (hw : Region.wanted o (yielded ops t) = false)
    (h : Gos P r f R (.inRegion ops rest :: k) ((⟨t, ds⟩ : Act).put o.dst undef).tmps ds w) : Gos P r f R (.inRegion ops (i :: rest) :: k) t ds w := by
  refine .step (fun cs => ?_) h
  have hs := stepR_op_skip (P := P) (b := mkF f r #[] [] []) (a := ⟨t, ds⟩) (k := k) (cs := cs) (w := w) (ops := ops) (i := i) (rest := rest) (by simp [ho, hw])
  rw [ho, Option.bind_some, put_eq] at hs
  exact hs
/-- a call that is entered -/
theorem Gos.call {ops : Array Oper} {i : Nat} {rest : List Nat} {o : Oper} {g : FuncId} {args : Array Value} {Rc : Value → World → Prop} (ho : ops[i]? = some o) (hw : Region.wanted o (yielded ops t) = true) (hnd : ∀ c, o.op ≠ .defer c)
    (hr : (execOp (Act.eval ⟨t, ds⟩) o).run P w = .ok (.enter g args) w') (hc : Calls P g args w' fun e w2 => ∃ v, e = .returned v ∧ Rc v w2)
    (h : ∀ v w2, Rc v w2 → Gos P r f R (.inRegion ops rest :: k) ((⟨t, ds⟩ : Act).put o.dst v).tmps ds w2) : Gos P r f R (.inRegion ops (i :: rest) :: k) t ds w := by
  intro cs hcs
  obtain ⟨e, w2, fr, ⟨v, rfl, hRc⟩, hcomes, hfn, hleave⟩ := hc (mkF f r t ds (.inRegion ops (i :: rest) :: k) :: cs)
  obtain ⟨v2, w3, m, hR, hst, htg⟩ := h v w2 hRc cs hcs
  have h1 := stepR_enter (b := mkF f r #[] [] []) (a := ⟨t, ds⟩) (k := k) (cs := cs) (rest := rest) ho hw hnd hr
  have h2 := step_leave_returned (c := mkF f r t ds (.inRegion ops (i :: rest) :: k)) (cs := cs) hleave
  have h3 := finish_op (b := mkF f r #[] [] []) (a := ⟨t, ds⟩) (k := k) (rest := rest) ho v
  rw [put_eq] at h3
  exact ⟨v2, w3, m, hR, .head h1 (Steps.trans hcomes (.head (h2.trans (congrArg (fun x => Stepped.next (lone x cs w2)) h3)) hst)), htg⟩

/-- what a round does -/
def Rnd (P : Program) (l : Nat) (args : Array Value) (w : World) (Rr : Value → World → Prop) : Prop :=
  ∃ fn tmps assign body, (Instr.yield l args).run P w = .ok (.round l fn tmps assign body) w ∧
    ∀ (c : Frame) (cs : List Frame), ∃ v w', Rr v w' ∧ Steps P (lone (Frame.round l fn tmps assign body .normal) (c :: cs) w) (lone (c.finish v) cs w')
/-- a call of yield -/
theorem Gos.yield {ops : Array Oper} {i : Nat} {rest : List Nat} {o : Oper} {l : Nat} {args : Array Value} {Rr : Value → World → Prop} (ho : ops[i]? = some o) (hw : Region.wanted o (yielded ops t) = true) (hnd : ∀ c, o.op ≠ .defer c)
    (hr : (execOp (Act.eval ⟨t, ds⟩) o).run P w = (Instr.yield l args).run P w) (hc : Rnd P l args w Rr)
    (h : ∀ v w2, Rr v w2 → Gos P r f R (.inRegion ops rest :: k) ((⟨t, ds⟩ : Act).put o.dst v).tmps ds w2) : Gos P r f R (.inRegion ops (i :: rest) :: k) t ds w := by
  intro cs hcs
  obtain ⟨fn, tmps, assign, body, hy, hrun⟩ := hc
  rw [hy] at hr
  obtain ⟨v, w2, hRr, hsteps⟩ := hrun (mkF f r t ds (.inRegion ops (i :: rest) :: k)) cs
  obtain ⟨v2, w3, m, hR, hst, htg⟩ := h v w2 hRr cs hcs
  have h1 := stepR_yield (b := mkF f r #[] [] []) (a := ⟨t, ds⟩) (k := k) (cs := cs) (rest := rest) ho hw hnd hr
  have h3 := finish_op (b := mkF f r #[] [] []) (a := ⟨t, ds⟩) (k := k) (rest := rest) ho v
  rw [put_eq] at h3
  have hsteps' : Steps P (lone (Frame.round l fn tmps assign body .normal) (mkF f r t ds (.inRegion ops (i :: rest) :: k) :: cs) w) (lone (mkF f r ((⟨t, ds⟩ : Act).put o.dst v).tmps ds (.inRegion ops rest :: k)) cs w2) := by
    have := hsteps; rw [show (mkF f r t ds (.inRegion ops (i :: rest) :: k)).finish v = _ from h3] at this; exact this
  exact ⟨v2, w3, m, hR, .head h1 (Steps.trans hsteps' hst), htg⟩
end
end Go.Proofs.Wit
