/- Laws of a calculus of walks, proved for any program: no condition beyond those that each theorem states. -/
import Derived.WalkKit
import Derived.Lib.Hide
import Derived.RangeFuncLeaves
namespace Go.Proofs.Wit
open Go.RowKit
abbrev W64 := BitVec 64
/-- a word as a value -/
def U (x : W64) : Value := .int .u64 (x.toNat : Int)

section
variable (t : TypeId) (x y : W64)
theorem ofInt_toNat64 (x : W64) : BitVec.ofInt 64 (x.toNat : Int) = x := by
  rw [BitVec.ofInt_natCast]; simp
theorem wrap_toNat (x : W64) : IntKind.u64.wrap (x.toNat : Int) = x.toNat := by
  rw [IntKind.wrap_u64]; have := x.isLt; omega
theorem bits_U (f : W64 → W64 → W64) : (.int .u64 (IntKind.u64.wrap ((f (BitVec.ofInt 64 (x.toNat : Int)) (BitVec.ofInt 64 (y.toNat : Int))).toNat : Int)) : Value) = U (f x y) := by
  rw [ofInt_toNat64, ofInt_toNat64, wrap_toNat]; rfl
theorem bin_and : binOp .and t (U x) (U y) = pure (U (x &&& y)) :=
  congrArg pure (bits_U x y (fun a b => a &&& b))
theorem bin_or : binOp .or t (U x) (U y) = pure (U (x ||| y)) :=
  congrArg pure (bits_U x y (fun a b => a ||| b))
theorem bin_xor : binOp .xor t (U x) (U y) = pure (U (x ^^^ y)) :=
  congrArg pure (bits_U x y (fun a b => a ^^^ b))
theorem bin_andNot : binOp .andNot t (U x) (U y) = pure (U (x &&& ~~~y)) :=
  congrArg pure (bits_U x y (fun a b => a &&& ~~~b))
theorem wrapU {n : Int} (z : W64) (h : n % 18446744073709551616 = z.toNat) : (.int .u64 (IntKind.u64.wrap n) : Value) = U z := by
  rw [IntKind.wrap_u64, h]; rfl
theorem bin_sub : binOp .sub t (U x) (U y) = pure (U (x - y)) :=
  congrArg pure (wrapU _ (by rw [BitVec.toNat_sub]; have := x.isLt; have := y.isLt; omega))
theorem bin_mul : binOp .mul t (U x) (U y) = pure (U (x * y)) :=
  congrArg pure (wrapU _ (by rw [BitVec.toNat_mul, Int.natCast_emod, Int.natCast_mul]; rfl))
theorem cast_inj : ((x.toNat : Int) = y.toNat) ↔ x = y := by
  rw [Int.ofNat_inj]; exact BitVec.toNat_inj
theorem bin_eql : binOp .eql t (U x) (U y) = pure (.bool (x == y)) := by
  have e : ((x.toNat : Int) == (y.toNat : Int)) = (x == y) := by rw [Bool.eq_iff_iff]; simp [cast_inj]
  rw [← e]; rfl
theorem bin_neq : binOp .neq t (U x) (U y) = pure (.bool (x != y)) := by
  have e : ((x.toNat : Int) != (y.toNat : Int)) = (x != y) := by rw [Bool.eq_iff_iff]; simp [cast_inj]
  rw [← e]; rfl
theorem pow64 : (18446744073709551616 : Nat) = 2 ^ 64 := by decide
theorem bin_shl_nat (k : IntKind) (n : Nat) : binOp .shl t (U x) (.int k (n : Int)) = pure (U (x <<< n)) := by
  show Op.shift .shl .u64 (x.toNat : Int) k (n : Int) = _
  unfold Op.shift
  rw [if_neg (by omega)]
  refine congrArg pure (wrapU _ ?_)
  rw [BitVec.toNat_shiftLeft, Nat.shiftLeft_eq, Int.toNat_natCast]
  show ((x.toNat : Int) * 2 ^ (min n 64)) % ((18446744073709551616 : Nat) : Int) = _
  rw [pow64]
  by_cases h : n ≤ 64
  · rw [Nat.min_eq_left h]; norm_cast
  · rw [Nat.min_eq_right (by omega)]
    have e1 : x.toNat * 2 ^ n % 2 ^ 64 = 0 := by
      obtain ⟨d, rfl⟩ : ∃ d, n = 64 + d := ⟨n - 64, by omega⟩
      rw [Nat.pow_add, ← Nat.mul_assoc, Nat.mul_right_comm]; exact Nat.mul_mod_left _ _
    rw [e1]; norm_cast; exact Nat.mul_mod_left _ _
theorem bin_shr_nat (k : IntKind) (n : Nat) : binOp .shr t (U x) (.int k (n : Int)) = pure (U (x >>> n)) := by
  show Op.shift .shr .u64 (x.toNat : Int) k (n : Int) = _
  unfold Op.shift
  rw [if_neg (by omega)]
  refine congrArg pure (congrArg (Value.int .u64) ?_)
  rw [BitVec.toNat_ushiftRight, Nat.shiftRight_eq_div_pow, Int.toNat_natCast]
  show Int.fdiv (x.toNat : Int) (2 ^ (min n 64)) = _
  have hf : ∀ m : Nat, Int.fdiv (x.toNat : Int) (2 ^ m) = ((x.toNat / 2 ^ m : Nat) : Int) := by
    intro m
    rw [Int.fdiv_eq_ediv_of_nonneg _ (Int.pow_nonneg (by decide))]; norm_cast
  rw [hf]
  by_cases h : n ≤ 64
  · rw [Nat.min_eq_left h]
  · rw [Nat.min_eq_right (by omega), Nat.div_eq_of_lt x.isLt, Nat.div_eq_of_lt]
    exact Nat.lt_of_lt_of_le x.isLt (Nat.pow_le_pow_right (by decide) (by omega))
theorem eqGuard_U (op : BinOp) (a b : Operand) : eqGuard op t a b (U x) (U y) = pure () := by
  unfold eqGuard U; cases op <;> rfl
theorem unary_neg : Op.unary .neg (U x) = pure (U (-x)) :=
  congrArg pure (wrapU _ (by rw [BitVec.toNat_neg]; have := x.isLt; omega))
end
end Go.Proofs.Wit
namespace Go.Proofs.Wit
open Go
/-! ## The judgement on the machine: a frame's todo list runs to the frame's end -/
/-- the frame of function f, in round r, with these temporaries, at this todo list -/
def mkF (f : FuncId) (r : Option Nat) (t : Array Value) (ds : List Deferred) (k : List Item) : Frame :=
  { fn := f, tmps := t, todo := k, defers := ds, mode := .run, kind := .normal, roundOf := r }

/-- where the frame has ended: a function's frame is leaving with v; a round's frame has handed v to its caller -/
def Tgt (P : Program) (r : Option Nat) (f : FuncId) (cs : List Frame) (v : Value) (w : World) (m : Machine) : Prop :=
  match r with
  | none => ∃ fr, m = lone fr cs w ∧ fr.fn = f ∧ fr.leaving P w (.returned v)
  | some _ => ∃ c cs', cs = c :: cs' ∧ m = lone (c.finish v) cs' w

def Gos (P : Program) (r : Option Nat) (f : FuncId) (R : Value → World → Prop) (k : List Item) (t : Array Value) (ds : List Deferred) (w : World) : Prop :=
  ∀ cs : List Frame, (r.isSome = true → cs ≠ []) → ∃ v w' m, R v w' ∧ Steps P (lone (mkF f r t ds k) cs w) m ∧ Tgt P r f cs v w' m

section
variable {P : Program} {r : Option Nat} {f : FuncId} {R : Value → World → Prop} {k k' : List Item} {t t' : Array Value} {ds ds' : List Deferred} {w w' : World}
theorem mkF_at : mkF f r t ds k = (mkF f r #[] [] []).atR ⟨t, ds⟩ k := rfl

theorem Gos.step (hs : ∀ cs, step P (lone (mkF f r t ds k) cs w) = .next (lone (mkF f r t' ds' k') cs w')) (h : Gos P r f R k' t' ds' w') : Gos P r f R k t ds w := by
  intro cs hc
  obtain ⟨v, w2, m, hR, hst, ht⟩ := h cs hc
  exact ⟨v, w2, m, hR, .head (hs cs) hst, ht⟩

theorem Gos.mono {R' : Value → World → Prop} (h : Gos P r f R k t ds w) (hr : ∀ v w, R v w → R' v w) : Gos P r f R' k t ds w := by
  intro cs hc
  obtain ⟨v, w2, m, hR, hst, ht⟩ := h cs hc
  exact ⟨v, w2, m, hr _ _ hR, hst, ht⟩

theorem Gos.skip (h : Gos P r f R k t ds w) : Gos P r f R (.code .skip :: k) t ds w := .step (fun _ => by rw [mkF_at, mkF_at]; exact stepR_skip) h
theorem Gos.inBlock {id : Nat} (h : Gos P r f R k t ds w) : Gos P r f R (.inBlock id :: k) t ds w := .step (fun _ => by rw [mkF_at, mkF_at]; exact stepR_inBlock) h
theorem Gos.seq {x y : Code} (h : Gos P r f R (.code x :: .code y :: k) t ds w) : Gos P r f R (.code (.seq x y) :: k) t ds w := .step (fun _ => by rw [mkF_at, mkF_at]; exact stepR_seq) h
theorem Gos.block {id : Nat} {c : Code} (h : Gos P r f R (.code c :: .inBlock id :: k) t ds w) : Gos P r f R (.code (.block id c) :: k) t ds w := .step (fun _ => by rw [mkF_at, mkF_at]; exact stepR_block) h
theorem Gos.loop {c : Code} (h : Gos P r f R (.code c :: .inLoop c :: k) t ds w) : Gos P r f R (.code (.loop c) :: k) t ds w := .step (fun _ => by rw [mkF_at, mkF_at]; exact stepR_loop) h
theorem Gos.inLoop {c : Code} (h : Gos P r f R (.code c :: .inLoop c :: k) t ds w) : Gos P r f R (.inLoop c :: k) t ds w := .step (fun _ => by rw [mkF_at, mkF_at]; exact stepR_inLoop) h
theorem Gos.exit {id : Nat} (he : exitTo id k = some k') (h : Gos P r f R k' t ds w) : Gos P r f R (.code (.exit id) :: k) t ds w := .step (fun _ => by rw [mkF_at, mkF_at]; exact stepR_exit he) h
theorem Gos.cond {c : Operand} {x y : Code} {b : Bool} (hc : (⟨t, ds⟩ : Act).eval c = .bool b) (h : Gos P r f R (.code (if b then x else y) :: k) t ds w) : Gos P r f R (.code (.cond c x y) :: k) t ds w := .step (fun _ => by rw [mkF_at, mkF_at]; exact stepR_cond hc) h
theorem Gos.region {id : Nat} {ops : Array Oper} (h : Gos P r f R (.inRegion ops (List.range ops.size) :: k) t ds w) : Gos P r f R (.code (.region id ops false) :: k) t ds w := .step (fun _ => by rw [mkF_at, mkF_at]; exact stepR_region) h
theorem Gos.regionDraw {id : Nat} {ops : Array Oper} (h : ∀ n, Gos P r f R (.inRegion ops (Region.schedule (P.follows .mixedOrders) ops n) :: k) t ds { w with drawn := w.drawn + 1 }) : Gos P r f R (.code (.region id ops true) :: k) t ds w := .step (fun _ => by rw [mkF_at, mkF_at]; exact stepR_region_draw) (h _)
theorem Gos.regionEnd {ops : Array Oper} (h : Gos P r f R k t ds w) : Gos P r f R (.inRegion ops [] :: k) t ds w := .step (fun _ => by rw [mkF_at, mkF_at]; exact stepR_region_end) h

theorem put_eq (t : Array Value) (ds : List Deferred) (d : Option Tmp) (v : Value) : ((⟨t, ds⟩ : Act).put d v) = ⟨((⟨t, ds⟩ : Act).put d v).tmps, ds⟩ := by cases d <;> rfl
theorem stepR_val {b : Frame} {a : Act} {cs : List Frame} {ops : Array Oper} {i : Nat} {rest : List Nat} {o : Oper} {nx : Next} {v : Value} (ho : ops[i]? = some o) (hw : Region.wanted o (yielded ops a.tmps) = true) (hnd : ∀ c, o.op ≠ .defer c)
    (hr : (execOp a.eval o).run P w = .ok nx w') (hx : nx = .value v ∨ (nx = .skip ∧ v = undef)) :
    Go.step P (lone (b.atR a (.inRegion ops (i :: rest) :: k)) cs w) = .next (lone (b.atR (a.put o.dst v) (.inRegion ops rest :: k)) cs w') := by
  refine step_lone_go ?_
  rw [stepGR_op ho hw, Oper.semAt_eq _ _ _ hnd]
  have hf := Frame.finish_atR b a ops i rest k v
  rw [ho] at hf
  simp only [Option.bind_some] at hf
  rcases hx with rfl | ⟨rfl, rfl⟩
  · simp [stepG.apply, Sem.runT_eq, hr, GStep.bare_after, hf]
  · simp [stepG.apply, Sem.runT_eq, hr, GStep.bare_after, hf]
theorem stepR_enter {b : Frame} {a : Act} {cs : List Frame} {ops : Array Oper} {i : Nat} {rest : List Nat} {o : Oper} {g : FuncId} {args : Array Value} (ho : ops[i]? = some o) (hw : Region.wanted o (yielded ops a.tmps) = true) (hnd : ∀ c, o.op ≠ .defer c)
    (hr : (execOp a.eval o).run P w = .ok (.enter g args) w') :
    Go.step P (lone (b.atR a (.inRegion ops (i :: rest) :: k)) cs w) = .next (lone (Frame.enter P g args .normal) (b.atR a (.inRegion ops (i :: rest) :: k) :: cs) w') := by
  refine step_lone_go ?_
  rw [stepGR_op ho hw, Oper.semAt_eq _ _ _ hnd]
  simp [stepG.apply, Sem.runT_eq, hr, GStep.bare_after, Frame.atR]
theorem stepR_yield {b : Frame} {a : Act} {cs : List Frame} {ops : Array Oper} {i : Nat} {rest : List Nat} {o : Oper} {l fn : Nat} {tmps : Array Value} {assign body : Code} (ho : ops[i]? = some o) (hw : Region.wanted o (yielded ops a.tmps) = true) (hnd : ∀ c, o.op ≠ .defer c)
    (hr : (execOp a.eval o).run P w = .ok (.round l fn tmps assign body) w') :
    Go.step P (lone (b.atR a (.inRegion ops (i :: rest) :: k)) cs w) = .next (lone (Frame.round l fn tmps assign body .normal) (b.atR a (.inRegion ops (i :: rest) :: k) :: cs) w') := by
  refine step_lone_go ?_
  rw [stepGR_op ho hw, Oper.semAt_eq _ _ _ hnd]
  simp [stepG.apply, Sem.runT_eq, hr, GStep.bare_after, Frame.atR]
theorem finish_op {b : Frame} {a : Act} {ops : Array Oper} {i : Nat} {rest : List Nat} {o : Oper} (ho : ops[i]? = some o) (v : Value) : (b.atR a (.inRegion ops (i :: rest) :: k)).finish v = b.atR (a.put o.dst v) (.inRegion ops rest :: k) := by
  rw [Frame.finish_atR, ho]; rfl
/-- one operation that yields a value -/
theorem Gos.op {ops : Array Oper} {i : Nat} {rest : List Nat} {o : Oper} {nx : Next} {v : Value} (ho : ops[i]? = some o) (hw : Region.wanted o (yielded ops t) = true) (hnd : ∀ c, o.op ≠ .defer c)
    (hr : (execOp (Act.eval ⟨t, ds⟩) o).run P w = .ok nx w') (hx : nx = .value v ∨ (nx = .skip ∧ v = undef))
    (h : Gos P r f R (.inRegion ops rest :: k) ((⟨t, ds⟩ : Act).put o.dst v).tmps ds w') : Gos P r f R (.inRegion ops (i :: rest) :: k) t ds w := by
  refine .step (fun cs => ?_) h
  have hs := stepR_val (b := mkF f r #[] [] []) (a := ⟨t, ds⟩) (k := k) (cs := cs) (rest := rest) ho hw hnd hr hx
  rw [put_eq] at hs
  exact hs
/-- an operation whose guard says no -/
theorem Gos.opSkip {ops : Array Oper} {i : Nat} {rest : List Nat} {o : Oper} (ho : ops[i]? = some o) (hw : Region.wanted o (yielded ops t) = false)
    (h : Gos P r f R (.inRegion ops rest :: k) ((⟨t, ds⟩ : Act).put o.dst undef).tmps ds w) : Gos P r f R (.inRegion ops (i :: rest) :: k) t ds w := by
  refine .step (fun cs => ?_) h
  have hs := stepR_op_skip (P := P) (b := mkF f r #[] [] []) (a := ⟨t, ds⟩) (k := k) (cs := cs) (w := w) (ops := ops) (i := i) (rest := rest) (by simp [ho, hw])
  rw [ho, Option.bind_some, put_eq] at hs
  exact hs
/-- a call that is entered -/
theorem Gos.call {ops : Array Oper} {i : Nat} {rest : List Nat} {o : Oper} {g : FuncId} {args : Array Value} {Rc : Value → World → Prop} (ho : ops[i]? = some o) (hw : Region.wanted o (yielded ops t) = true) (hnd : ∀ c, o.op ≠ .defer c)
    (hr : (execOp (Act.eval ⟨t, ds⟩) o).run P w = .ok (.enter g args) w') (hc : Calls P g args w' fun e w2 => ∃ v, e = .returned v ∧ Rc v w2)
    (h : ∀ v w2, Rc v w2 → Gos P r f R (.inRegion ops rest :: k) ((⟨t, ds⟩ : Act).put o.dst v).tmps ds w2) : Gos P r f R (.inRegion ops (i :: rest) :: k) t ds w := by
  intro cs hcs
  obtain ⟨e, w2, fr, ⟨v, rfl, hRc⟩, hcomes, hfn, hleave⟩ := hc (mkF f r t ds (.inRegion ops (i :: rest) :: k) :: cs)
  obtain ⟨v2, w3, m, hR, hst, htg⟩ := h v w2 hRc cs hcs
  have h1 := stepR_enter (b := mkF f r #[] [] []) (a := ⟨t, ds⟩) (k := k) (cs := cs) (rest := rest) ho hw hnd hr
  have h2 := step_leave_returned (c := mkF f r t ds (.inRegion ops (i :: rest) :: k)) (cs := cs) hleave
  have h3 := finish_op (b := mkF f r #[] [] []) (a := ⟨t, ds⟩) (k := k) (rest := rest) ho v
  rw [put_eq] at h3
  exact ⟨v2, w3, m, hR, .head h1 (Steps.trans hcomes (.head (h2.trans (congrArg (fun x => Stepped.next (lone x cs w2)) h3)) hst)), htg⟩

/-- what a round does -/
def Rnd (P : Program) (l : Nat) (args : Array Value) (w : World) (Rr : Value → World → Prop) : Prop :=
  ∃ fn tmps assign body, (Instr.yield l args).run P w = .ok (.round l fn tmps assign body) w ∧
    ∀ (c : Frame) (cs : List Frame), ∃ v w', Rr v w' ∧ Steps P (lone (Frame.round l fn tmps assign body .normal) (c :: cs) w) (lone (c.finish v) cs w')
/-- a call of yield -/
theorem Gos.yield {ops : Array Oper} {i : Nat} {rest : List Nat} {o : Oper} {l : Nat} {args : Array Value} {Rr : Value → World → Prop} (ho : ops[i]? = some o) (hw : Region.wanted o (yielded ops t) = true) (hnd : ∀ c, o.op ≠ .defer c)
    (hr : (execOp (Act.eval ⟨t, ds⟩) o).run P w = (Instr.yield l args).run P w) (hc : Rnd P l args w Rr)
    (h : ∀ v w2, Rr v w2 → Gos P r f R (.inRegion ops rest :: k) ((⟨t, ds⟩ : Act).put o.dst v).tmps ds w2) : Gos P r f R (.inRegion ops (i :: rest) :: k) t ds w := by
  intro cs hcs
  obtain ⟨fn, tmps, assign, body, hy, hrun⟩ := hc
  rw [hy] at hr
  obtain ⟨v, w2, hRr, hsteps⟩ := hrun (mkF f r t ds (.inRegion ops (i :: rest) :: k)) cs
  obtain ⟨v2, w3, m, hR, hst, htg⟩ := h v w2 hRr cs hcs
  have h1 := stepR_yield (b := mkF f r #[] [] []) (a := ⟨t, ds⟩) (k := k) (cs := cs) (rest := rest) ho hw hnd hr
  have h3 := finish_op (b := mkF f r #[] [] []) (a := ⟨t, ds⟩) (k := k) (rest := rest) ho v
  rw [put_eq] at h3
  have hsteps' : Steps P (lone (Frame.round l fn tmps assign body .normal) (mkF f r t ds (.inRegion ops (i :: rest) :: k) :: cs) w) (lone (mkF f r ((⟨t, ds⟩ : Act).put o.dst v).tmps ds (.inRegion ops rest :: k)) cs w2) := by
    have := hsteps; rw [show (mkF f r t ds (.inRegion ops (i :: rest) :: k)).finish v = _ from h3] at this; exact this
  exact ⟨v2, w3, m, hR, .head h1 (Steps.trans hsteps' hst), htg⟩
end
end Go.Proofs.Wit
namespace Go.Proofs.Wit
open Go Go.RowKit
/-! ## What is known of a frame: a list of slots with their values (the first entry of a slot counts) -/
abbrev Fl := List (Nat × Value)
def look : Fl → Nat → Option Value
  | [], _ => none
  | (j, v) :: l, i => cond (Nat.beq j i) (some v) (look l i)
def Frm (n : Nat) (t : Array Value) (l : Fl) : Prop := t.size = n ∧ ∀ i v, look l i = some v → t.getD i undef = v
theorem Frm.put {n : Nat} {t : Array Value} {l : Fl} (h : Frm n t l) {d : Nat} (v : Value) (hd : Nat.blt d n = true) : Frm n (t.setIfInBounds d v) ((d, v) :: l) := by
  have hd' : d < n := by simpa [Nat.blt_eq] using hd
  refine ⟨by simp [h.1], fun i u hu => ?_⟩
  unfold look at hu
  cases hb : Nat.beq d i with
  | true =>
    obtain rfl := Nat.eq_of_beq_eq_true hb
    rw [hb] at hu; cases hu
    simp [Array.getD_eq_getD_getElem?, h.1, hd']
  | false =>
    rw [hb] at hu
    have hne : d ≠ i := Nat.ne_of_beq_eq_false hb
    have := h.2 i u hu
    rw [← this]
    simp [Array.getD_eq_getD_getElem?, hne]
def opd (l : Fl) : Operand → Option Value
  | .tmp i => look l i
  | .const v => some v
  | .global g => some (.pointer (some ⟨g, 0, none⟩))
  | .func f => some (.func (.func f) #[] #[])
theorem Frm.opd {n : Nat} {t : Array Value} {l : Fl} (h : Frm n t l) {x : Operand} {v : Value} (hx : opd l x = some v) (ds : List Deferred) : Act.eval ⟨t, ds⟩ x = v := by
  cases x <;> simp only [Wit.opd, Option.some.injEq] at hx
  · exact h.2 _ _ hx
  all_goals exact hx
def opds (l : Fl) : List Operand → Option (List Value)
  | [] => some []
  | x :: xs => match Wit.opd l x, opds l xs with
    | some v, some vs => some (v :: vs)
    | _, _ => none
theorem Frm.opds {n : Nat} {t : Array Value} {l : Fl} (h : Frm n t l) (ds : List Deferred) : ∀ {xs : List Operand} {vs : List Value}, opds l xs = some vs → xs.map (Act.eval ⟨t, ds⟩) = vs := by
  intro xs
  induction xs with
  | nil => intro vs e; cases e; rfl
  | cons x xs ih =>
    intro vs e
    simp only [Wit.opds] at e
    cases hx : Wit.opd l x with
    | none => simp [hx] at e
    | some v =>
      cases hxs : Wit.opds l xs with
      | none => simp [hx, hxs] at e
      | some us =>
        simp only [hx, hxs, Option.some.injEq] at e
        subst e
        rw [List.map_cons, h.opd hx, ih hxs]
def SubF : Fl → Fl → Prop
  | [], _ => True
  | (i, v) :: l', l => look l i = some v ∧ SubF l' l
theorem SubF.nil {l : Fl} : SubF [] l := trivial
theorem SubF.cons {l l' : Fl} {i : Nat} {v : Value} (h : look l i = some v) (h' : SubF l' l) : SubF ((i, v) :: l') l := ⟨h, h'⟩
theorem SubF.look {l : Fl} : ∀ {l' : Fl}, SubF l' l → ∀ {i v}, look l' i = some v → Wit.look l i = some v
  | [], _, _, _, h => by cases h
  | (j, u) :: l', hs, i, v, h => by
    unfold Wit.look at h
    cases hb : Nat.beq j i with
    | true => rw [hb] at h; obtain rfl := Nat.eq_of_beq_eq_true hb; cases h; exact hs.1
    | false => rw [hb] at h; exact SubF.look hs.2 h
theorem Frm.sub {n : Nat} {t : Array Value} {l l' : Fl} (h : Frm n t l) (hs : SubF l' l) : Frm n t l' := ⟨h.1, fun i v hv => h.2 i v (hs.look hv)⟩

/-! ## What is known of memory -/
def isSys : Obj → Bool
  | .loop _ | .deferred _ => true
  | _ => false
/-- w has come of w0: of what was there only the blocks of S may have turned -/
structure Ex (S : List Nat) (w0 w : World) : Prop where
  os : w.os = w0.os
  tape : w.tape = w0.tape
  output : w.output = w0.output
  size : w0.heap.size ≤ w.heap.size
  block : ∀ b, b < w0.heap.size → b ∉ S → w.heap[b]? = w0.heap[b]?
theorem Ex.refl (S : List Nat) (w : World) : Ex S w w := ⟨rfl, rfl, rfl, Nat.le_refl _, fun _ _ _ => rfl⟩
theorem Ex.trans {S S' : List Nat} {a b c : World} (h : Ex S a b) (k : Ex S' b c) (hS : ∀ x ∈ S', x ∈ S ∨ a.heap.size ≤ x) : Ex S a c :=
  ⟨k.os.trans h.os, k.tape.trans h.tape, k.output.trans h.output, Nat.le_trans h.size k.size, fun i hi hn =>
    (k.block i (Nat.lt_of_lt_of_le hi h.size) (fun hm => by rcases hS i hm with h' | h'; exact hn h'; omega)).trans (h.block i hi hn)⟩
theorem Ex.toBelow {w0 w : World} (h : Ex [] w0 w) : Below w0.heap.size w0 w := ⟨h.os, h.tape, h.output, h.size, fun k hk => h.block k hk (by simp)⟩
/-- blocks that are known: an entry without a number says nothing (a nil slice's) -/
abbrev Hl := List (Option Nat × Obj)
def mark (D : Nat) : Deferred := { target := .collected D, args := #[] }
def apartH (p q : Option Nat × Obj) : Prop := ∀ b, p.1 = some b → q.1 ≠ some b
/-- memory, as the walk knows it -/
structure St (w0 : World) (S : List Nat) (w : World) (h : Hl) (Y : List (Nat × Obj)) : Prop where
  ext : Ex S w0 w
  own : ∀ p ∈ h, ∀ b, p.1 = some b → w.heap[b]? = some p.2 ∧ isSys p.2 = false ∧ (w0.heap.size ≤ b ∨ b ∈ S)
  apart : h.Pairwise apartH
  sys : ∀ p ∈ Y, w0.heap.size ≤ p.1 ∧ w.heap[p.1]? = some p.2 ∧ isSys p.2 = true
  ynd : (Y.map (·.1)).Nodup
/-- the marks of a frame's own loops over functions -/
def mkY (Ds : List Nat) : List (Nat × Obj) := Ds.map (fun D => (D, .deferred (some [])))
section
variable {w0 : World} {S : List Nat} {w w' : World} {h : Hl} {Y : List (Nat × Obj)}
theorem St.get (s : St w0 S w h Y) {j b : Nat} {o : Obj} (hj : h[j]? = some (some b, o)) : w.heap[b]? = some o :=
  (s.own _ (List.mem_of_getElem? hj) b rfl).1
theorem St.lt (s : St w0 S w h Y) {j b : Nat} {o : Obj} (hj : h[j]? = some (some b, o)) : b < w.heap.size :=
  (Array.getElem?_eq_some_iff.1 (s.get hj)).1
theorem St.inj (s : St w0 S w h Y) {i j b : Nat} {o o' : Obj} (hi : h[i]? = some (some b, o)) (hj : h[j]? = some (some b, o')) : i = j := by
  obtain ⟨i1, i2⟩ := List.getElem?_eq_some_iff.1 hi
  obtain ⟨j1, j2⟩ := List.getElem?_eq_some_iff.1 hj
  have := List.pairwise_iff_getElem.1 s.apart
  rcases Nat.lt_trichotomy i j with hlt | he | hlt
  · exact absurd (by rw [j2]) (this i j i1 j1 hlt b (by rw [i2]))
  · exact he
  · exact absurd (by rw [i2]) (this j i j1 i1 hlt b (by rw [j2]))
theorem heap_alloc_new (w : World) (o : Obj) : (w.alloc o).heap[w.heap.size]? = some o := by
  show (w.heap.push o)[w.heap.size]? = some o
  simp
theorem St.new_apart (s : St w0 S w h Y) {b : Nat} {o : Obj} (hb : w.heap.size ≤ b) : ∀ q ∈ h, apartH (some b, o) q := by
  intro q hq c hc hqc
  cases hc
  have := (Array.getElem?_eq_some_iff.1 (s.own q hq b hqc).1).1
  omega
/-- a callee has turned nothing -/
theorem St.later (s : St w0 S w h Y) (e : Ex [] w w') : St w0 S w' h Y := by
  have hk : ∀ b (o : Obj), w.heap[b]? = some o → w'.heap[b]? = some o := fun b o hb => by
    rw [e.block b (Array.getElem?_eq_some_iff.1 hb).1 (by simp)]; exact hb
  refine ⟨s.ext.trans e (by simp), fun p hp b hb => ?_, s.apart, fun D hD => ?_, s.ynd⟩
  · obtain ⟨h1, h2, h3⟩ := s.own p hp b hb
    exact ⟨hk _ _ h1, h2, h3⟩
  · obtain ⟨h1, h2, h3⟩ := s.sys D hD
    exact ⟨h1, hk _ _ h2, h3⟩
/-- a new block of a callee's is known -/
theorem St.gain (s : St w0 S w h Y) (e : Ex [] w w') {b : Nat} {o : Obj} (hb : w'.heap[b]? = some o) (ho : isSys o = false) (hn : w.heap.size ≤ b) : St w0 S w' ((some b, o) :: h) Y := by
  have s' := s.later e
  refine ⟨s'.ext, ?_, List.pairwise_cons.2 ⟨s.new_apart hn, s.apart⟩, s'.sys, s'.ynd⟩
  intro p hp c hc
  rcases List.mem_cons.1 hp with rfl | hp
  · cases hc; exact ⟨hb, ho, .inl (Nat.le_trans s.ext.size hn)⟩
  · exact s'.own p hp c hc
theorem ex_alloc (w : World) (o : Obj) : Ex [] w (w.alloc o) :=
  ⟨rfl, rfl, rfl, by rw [World.size_alloc]; omega, fun b hb _ => Below.heap_alloc _ _ _ hb⟩
theorem St.alloc (s : St w0 S w h Y) {o : Obj} (ho : isSys o = false) : St w0 S (w.alloc o) ((some w.heap.size, o) :: h) Y :=
  s.gain (ex_alloc w o) (heap_alloc_new w o) ho (Nat.le_refl _)
theorem St.none (s : St w0 S w h Y) (o : Obj) : St w0 S w ((none, o) :: h) Y :=
  ⟨s.ext, fun p hp c hc => by
    rcases List.mem_cons.1 hp with rfl | hp
    · cases hc
    · exact s.own p hp c hc, List.pairwise_cons.2 ⟨fun q _ c hc => by simp at hc, s.apart⟩, s.sys, s.ynd⟩
theorem ex_drew (w : World) : Ex [] w { w with drawn := w.drawn + 1 } := ⟨rfl, rfl, rfl, Nat.le_refl _, fun _ _ _ => rfl⟩
theorem St.drew (s : St w0 S w h Y) : St w0 S { w with drawn := w.drawn + 1 } h Y := s.later (ex_drew w)
/-- one block of the call's own is turned, or has gone over into a new one -/
theorem St.turn (s : St w0 S w h Y) {j b : Nat} {o o' : Obj} (hj : h[j]? = some (some b, o)) (ho : isSys o' = false)
    (h1 : w'.os = w.os) (h2 : w'.tape = w.tape) (h3 : w'.output = w.output) (h4 : w.heap.size ≤ w'.heap.size) (h5 : w'.heap[b]? = some o') (h6 : ∀ i, i < w.heap.size → i ≠ b → w'.heap[i]? = w.heap[i]?) : St w0 S w' (h.set j (some b, o')) Y := by
  have hb := s.own _ (List.mem_of_getElem? hj) b rfl
  have hjl : j < h.length := (List.getElem?_eq_some_iff.1 hj).1
  have hbl := s.lt hj
  refine ⟨⟨h1.trans s.ext.os, h2.trans s.ext.tape, h3.trans s.ext.output, Nat.le_trans s.ext.size h4, ?_⟩, ?_, ?_, ?_, s.ynd⟩
  · intro i hi hn
    have hne : i ≠ b := by
      rintro rfl
      rcases hb.2.2 with hc | hc
      · omega
      · exact hn hc
    rw [h6 i (Nat.lt_of_lt_of_le hi s.ext.size) hne]; exact s.ext.block i hi hn
  · intro p hp c hc
    obtain ⟨i, hi⟩ := List.mem_iff_getElem?.1 hp
    rw [List.getElem?_set] at hi
    split at hi
    · rename_i e; subst e
      simp at hi; obtain ⟨_, rfl⟩ := hi
      cases hc
      exact ⟨h5, ho, hb.2.2⟩
    · rename_i hne
      obtain ⟨q1, q2, q3⟩ := s.own p (List.mem_of_getElem? hi) c hc
      refine ⟨?_, q2, q3⟩
      rw [h6 c (Array.getElem?_eq_some_iff.1 q1).1 ?_]; exact q1
      rintro rfl
      obtain ⟨p1, p2⟩ := p
      simp only at hc; subst hc
      exact hne (s.inj hj hi)
  · rw [List.pairwise_iff_getElem]
    intro i i' hi hi' hlt c hc hc'
    rw [List.length_set] at hi hi'
    have hap := List.pairwise_iff_getElem.1 s.apart i i' hi hi' hlt c
    obtain ⟨_, hj2⟩ := List.getElem?_eq_some_iff.1 hj
    rw [List.getElem_set] at hc hc'
    apply hap
    · split at hc
      · rename_i e; subst e; rw [hj2]; exact hc
      · exact hc
    · split at hc'
      · rename_i e; subst e; rw [hj2]; exact hc'
      · exact hc'
  · intro D hD
    obtain ⟨m1, m2, m3⟩ := s.sys D hD
    refine ⟨m1, ?_, m3⟩
    rw [h6 D.1 (Array.getElem?_eq_some_iff.1 m2).1 ?_]; exact m2
    intro e
    rw [e] at m2
    have e1 := Option.some.inj (hb.1.symm.trans m2)
    rw [← e1, hb.2.1] at m3
    cases m3
theorem St.subH {h' : Hl} (s : St w0 S w h Y) (hs : h'.Sublist h) : St w0 S w h' Y :=
  ⟨s.ext, fun p hp => s.own p (hs.subset hp), s.apart.sublist hs, s.sys, s.ynd⟩
/-- an entry is exchanged for a new block -/
theorem St.swap (s : St w0 S w h Y) (e : Ex [] w w') (j : Nat) {b : Nat} {o : Obj} (hb : w'.heap[b]? = some o) (ho : isSys o = false) (hn : w.heap.size ≤ b) : St w0 S w' (h.set j (some b, o)) Y := by
  have s' := s.later e
  refine ⟨s'.ext, ?_, ?_, s'.sys, s'.ynd⟩
  · intro p hp c hc
    obtain ⟨i, hi⟩ := List.mem_iff_getElem?.1 hp
    rw [List.getElem?_set] at hi
    split at hi
    · simp at hi; obtain ⟨_, rfl⟩ := hi
      cases hc; exact ⟨hb, ho, .inl (Nat.le_trans s.ext.size hn)⟩
    · exact s'.own p (List.mem_of_getElem? hi) c hc
  · rw [List.pairwise_iff_getElem]
    intro i i' hi hi' hlt c hc hc'
    rw [List.length_set] at hi hi'
    rw [List.getElem_set] at hc hc'
    split at hc
    · split at hc'
      · omega
      · exact s.new_apart hn (o := o) _ (List.getElem_mem hi') c hc hc'
    · split at hc'
      · exact s.new_apart hn (o := o) _ (List.getElem_mem hi) c hc' hc
      · exact List.pairwise_iff_getElem.1 s.apart i i' hi hi' hlt c hc hc'
end
end Go.Proofs.Wit
namespace Go.Proofs.Wit
open Go Go.RowKit
/-- the judgement: from every frame and memory that is known as l and h say, the todo list k runs to the end of the frame -/
def GoH (P : Program) (r : Option Nat) (f : FuncId) (R : Value → World → Prop) (w0 : World) (S : List Nat) (Y : List (Nat × Obj)) (n : Nat) (k : List Item) (l : Fl) (h : Hl) : Prop :=
  ∀ t w Ds, Frm n t l → St w0 S w h (mkY Ds ++ Y) → Gos P r f R k t (Ds.map mark) w

def wantL (ops : Array Oper) (l : Fl) : Option (Nat × Bool) → Bool
  | none => true
  | some (j, want) => match (ops[j]?).bind (·.dst) with
    | some d => match look l d with
      | some (.bool b) => b == want
      | _ => false
    | none => false
/-- the guard says no: what it looks at is the other bool, or nothing -/
def skipL (ops : Array Oper) (l : Fl) : Option (Nat × Bool) → Bool
  | none => false
  | some (j, want) => match (ops[j]?).bind (·.dst) with
    | some d => match look l d with
      | some (.bool b) => b != want
      | some (.tuple _) => true
      | _ => false
    | none => false
def isDefer : Op → Bool
  | .defer _ => true
  | _ => false
theorem not_defer {o : Op} (h : isDefer o = false) : ∀ c, o ≠ .defer c := by rintro c rfl; cases h

section
variable {P : Program} {r : Option Nat} {f : FuncId} {R : Value → World → Prop} {w0 : World} {S : List Nat} {Y : List (Nat × Obj)} {n : Nat} {k k' : List Item} {l l' : Fl} {h h' : Hl}
theorem yielded_eq {ops : Array Oper} {t : Array Value} {j d : Nat} {v : Value} (hF : Frm n t l) (hd : (ops[j]?).bind (·.dst) = some d) (hv : look l d = some v) (hne : v ≠ undef) :
    yielded ops t j = match v with | .bool b => some b | _ => none := by
  have h1 := hF.2 _ _ hv
  unfold yielded
  rw [hd]
  simp only [Option.bind_some]
  rw [Array.getD_eq_getD_getElem?] at h1
  cases ht : t[d]? with
  | none => rw [ht] at h1; simp at h1; exact absurd h1.symm hne
  | some u => rw [ht] at h1; simp at h1; subst h1; cases u <;> rfl
theorem want_of {ops : Array Oper} {t : Array Value} {o : Oper} (hF : Frm n t l) (hw : wantL ops l o.guard = true) : Region.wanted o (yielded ops t) = true := by
  unfold Region.wanted
  cases hg : o.guard with
  | none => rfl
  | some p =>
    obtain ⟨j, want⟩ := p
    rw [hg] at hw
    simp only [wantL] at hw
    split at hw
    · rename_i d hd
      split at hw
      · rename_i b hb
        show (yielded ops t j == some want) = true
        rw [yielded_eq hF hd hb (by simp [undef])]
        simp only [beq_iff_eq] at hw; subst hw; simp
      · cases hw
    · cases hw
theorem skip_of {ops : Array Oper} {t : Array Value} {o : Oper} (hF : Frm n t l) (hw : skipL ops l o.guard = true) : Region.wanted o (yielded ops t) = false := by
  unfold Region.wanted
  cases hg : o.guard with
  | none => rw [hg] at hw; cases hw
  | some p =>
    obtain ⟨j, want⟩ := p
    rw [hg] at hw
    simp only [skipL] at hw
    split at hw
    · rename_i d hd
      split at hw
      · rename_i b hb
        show (yielded ops t j == some want) = false
        rw [yielded_eq hF hd hb (by simp [undef])]
        simp at hw ⊢; exact hw
      · rename_i vs hb
        have h1 := hF.2 _ _ hb
        have : yielded ops t j = none := by
          unfold yielded
          rw [hd]
          simp only [Option.bind_some]
          rw [Array.getD_eq_getD_getElem?] at h1
          cases ht : t[d]? with
          | none => rfl
          | some u => rw [ht] at h1; simp at h1; subst h1; rfl
        show (yielded ops t j == some want) = false
        rw [this]; rfl
      · cases hw
    · cases hw

theorem GoH.mono {R' : Value → World → Prop} (hg : GoH P r f R w0 S Y n k l h) (hr : ∀ v w, R v w → R' v w) : GoH P r f R' w0 S Y n k l h := fun t w Ds hF hS => (hg t w Ds hF hS).mono hr
theorem GoH.sub (hs : SubF l' l) (hg : GoH P r f R w0 S Y n k l' h) : GoH P r f R w0 S Y n k l h := fun t w Ds hF hS => hg t w Ds (hF.sub hs) hS
theorem GoH.subH (hs : h'.Sublist h) (hg : GoH P r f R w0 S Y n k l h') : GoH P r f R w0 S Y n k l h := fun t w Ds hF hS => hg t w Ds hF (hS.subH hs)
theorem GoH.skip (hg : GoH P r f R w0 S Y n k l h) : GoH P r f R w0 S Y n (.code .skip :: k) l h := fun t w Ds hF hS => .skip (hg t w Ds hF hS)
theorem GoH.inBlock {id : Nat} (hg : GoH P r f R w0 S Y n k l h) : GoH P r f R w0 S Y n (.inBlock id :: k) l h := fun t w Ds hF hS => .inBlock (hg t w Ds hF hS)
theorem GoH.seq {x y : Code} (hg : GoH P r f R w0 S Y n (.code x :: .code y :: k) l h) : GoH P r f R w0 S Y n (.code (.seq x y) :: k) l h := fun t w Ds hF hS => .seq (hg t w Ds hF hS)
theorem GoH.block {id : Nat} {c : Code} (hg : GoH P r f R w0 S Y n (.code c :: .inBlock id :: k) l h) : GoH P r f R w0 S Y n (.code (.block id c) :: k) l h := fun t w Ds hF hS => .block (hg t w Ds hF hS)
theorem GoH.exit {id : Nat} (he : exitTo id k = some k') (hg : GoH P r f R w0 S Y n k' l h) : GoH P r f R w0 S Y n (.code (.exit id) :: k) l h := fun t w Ds hF hS => .exit he (hg t w Ds hF hS)
theorem GoH.region {id : Nat} {ops : Array Oper} (hg : GoH P r f R w0 S Y n (.inRegion ops (List.range' 0 ops.size) :: k) l h) : GoH P r f R w0 S Y n (.code (.region id ops false) :: k) l h := fun t w Ds hF hS => .region (by rw [List.range_eq_range']; exact hg t w Ds hF hS)
theorem GoH.regionEnd {ops : Array Oper} (hg : GoH P r f R w0 S Y n k l h) : GoH P r f R w0 S Y n (.inRegion ops [] :: k) l h := fun t w Ds hF hS => .regionEnd (hg t w Ds hF hS)
theorem GoH.cond {c : Operand} {x y : Code} {b : Bool} (hc : opd l c = some (.bool b)) (ht : b = true → GoH P r f R w0 S Y n (.code x :: k) l h) (hf : b = false → GoH P r f R w0 S Y n (.code y :: k) l h) : GoH P r f R w0 S Y n (.code (.cond c x y) :: k) l h := fun t w Ds hF hS =>
  .cond (hF.opd hc _) (by cases b; exact hf rfl t w Ds hF hS; exact ht rfl t w Ds hF hS)
theorem GoH.condT {c : Operand} {x y : Code} (hc : opd l c = some (.bool true)) (ht : GoH P r f R w0 S Y n (.code x :: k) l h) : GoH P r f R w0 S Y n (.code (.cond c x y) :: k) l h := .cond hc (fun _ => ht) (fun e => by cases e)
theorem GoH.condF {c : Operand} {x y : Code} (hc : opd l c = some (.bool false)) (hf : GoH P r f R w0 S Y n (.code y :: k) l h) : GoH P r f R w0 S Y n (.code (.cond c x y) :: k) l h := .cond hc (fun e => by cases e) (fun _ => hf)
/-- a bool of the frame is looked at -/
theorem GoH.cases {d : Nat} {b : Bool} (hv : look l d = some (.bool b)) (ht : b = true → GoH P r f R w0 S Y n k ((d, .bool true) :: l) h) (hf : b = false → GoH P r f R w0 S Y n k ((d, .bool false) :: l) h) : GoH P r f R w0 S Y n k l h := by
  have key : ∀ t c, Frm n t l → b = c → Frm n t ((d, .bool c) :: l) := by
    rintro t c hF rfl
    refine ⟨hF.1, fun i u hu => ?_⟩
    unfold look at hu
    cases hb : Nat.beq d i with
    | true => rw [hb] at hu; obtain rfl := Nat.eq_of_beq_eq_true hb; cases hu; exact hF.2 _ _ hv
    | false => rw [hb] at hu; exact hF.2 _ _ hu
  cases b
  · exact fun t w Ds hF hS => hf rfl t w Ds (key t _ hF rfl) hS
  · exact fun t w Ds hF hS => ht rfl t w Ds (key t _ hF rfl) hS
theorem GoH.loop {σ : Type} {c : Code} (L : σ → Fl) (H : σ → Hl) (I : σ → Prop) (μ : σ → Nat) (s0 : σ) (h0 : I s0) (hl : SubF (L s0) l) (hh : (H s0).Sublist h)
    (round : ∀ s, I s → (∀ (s' : σ) (l' : Fl) (h' : Hl), I s' → μ s' < μ s → SubF (L s') l' → (H s').Sublist h' → GoH P r f R w0 S Y n (.inLoop c :: k) l' h') → GoH P r f R w0 S Y n (.code c :: .inLoop c :: k) (L s) (H s)) :
    GoH P r f R w0 S Y n (.code (.loop c) :: k) l h := by
  have key : ∀ m s, μ s = m → I s → GoH P r f R w0 S Y n (.code c :: .inLoop c :: k) (L s) (H s) := by
    intro m
    induction m using Nat.strongRecOn with
    | _ m ih =>
      intro s hm hI
      refine round s hI (fun s' l' h' hI' hlt hsl hsh => ?_)
      have := ih (μ s') (hm ▸ hlt) s' rfl hI'
      exact .sub hsl (.subH hsh (fun t w Ds hF hS => .inLoop (this t w Ds hF hS)))
  exact .sub hl (.subH hh (fun t w Ds hF hS => .loop (key _ s0 rfl h0 t w Ds hF hS)))

/-! ### operations -/
theorem GoH.val {ops : Array Oper} {i d : Nat} {rest : List Nat} {o : Oper} {v : Value} (ho : ops[i]? = some o) (hw : wantL ops l o.guard = true) (hdst : o.dst = some d) (hnd : isDefer o.op = false) (hd : Nat.blt d n = true)
    (hr : ∀ (t : Array Value) (w : World) (Ds : List Nat) (Y' : List (Nat × Obj)), Frm n t l → St w0 S w h Y' → ∃ nx, (execOp (Act.eval ⟨t, Ds.map mark⟩) o).run P w = .ok nx w ∧ nx = .value v)
    (hk : GoH P r f R w0 S Y n (.inRegion ops rest :: k) ((d, v) :: l) h) : GoH P r f R w0 S Y n (.inRegion ops (i :: rest) :: k) l h := by
  intro t w Ds hF hS
  obtain ⟨nx, hx, rfl⟩ := hr t w Ds _ hF hS
  refine Gos.op ho (want_of hF hw) (not_defer hnd) hx (.inl rfl) ?_
  rw [hdst]
  exact hk _ w Ds (hF.put v hd) hS
/-- the general operation: memory may turn -/
theorem GoH.mem {ops : Array Oper} {i d : Nat} {rest : List Nat} {o : Oper} (ho : ops[i]? = some o) (hw : wantL ops l o.guard = true) (hdst : o.dst = some d) (hnd : isDefer o.op = false) (hd : Nat.blt d n = true)
    (hr : ∀ (t : Array Value) (w : World) (Ds : List Nat) (Y' : List (Nat × Obj)), Frm n t l → St w0 S w h Y' → ∃ v w' h', (execOp (Act.eval ⟨t, Ds.map mark⟩) o).run P w = .ok (.value v) w' ∧ St w0 S w' h' Y' ∧ GoH P r f R w0 S Y n (.inRegion ops rest :: k) ((d, v) :: l) h') :
    GoH P r f R w0 S Y n (.inRegion ops (i :: rest) :: k) l h := by
  intro t w Ds hF hS
  obtain ⟨v, w', h', hx, hS', hk⟩ := hr t w Ds _ hF hS
  refine Gos.op ho (want_of hF hw) (not_defer hnd) hx (.inl rfl) ?_
  rw [hdst]
  exact hk _ w' Ds (hF.put v hd) hS'
/-- an operation that has no value: a store -/
theorem GoH.eff {ops : Array Oper} {i : Nat} {rest : List Nat} {o : Oper} (ho : ops[i]? = some o) (hw : wantL ops l o.guard = true) (hdst : o.dst = none) (hnd : isDefer o.op = false)
    (hr : ∀ (t : Array Value) (w : World) (Ds : List Nat) (Y' : List (Nat × Obj)), Frm n t l → St w0 S w h Y' → ∃ w' h', (execOp (Act.eval ⟨t, Ds.map mark⟩) o).run P w = .ok .skip w' ∧ St w0 S w' h' Y' ∧ GoH P r f R w0 S Y n (.inRegion ops rest :: k) l h') :
    GoH P r f R w0 S Y n (.inRegion ops (i :: rest) :: k) l h := by
  intro t w Ds hF hS
  obtain ⟨w', h', hx, hS', hk⟩ := hr t w Ds _ hF hS
  refine Gos.op ho (want_of hF hw) (not_defer hnd) hx (.inr ⟨rfl, rfl⟩) ?_
  rw [hdst]
  exact hk _ w' Ds hF hS'
theorem GoH.no {ops : Array Oper} {i d : Nat} {rest : List Nat} {o : Oper} (ho : ops[i]? = some o) (hw : skipL ops l o.guard = true) (hdst : o.dst = some d) (hd : Nat.blt d n = true)
    (hk : GoH P r f R w0 S Y n (.inRegion ops rest :: k) ((d, undef) :: l) h) : GoH P r f R w0 S Y n (.inRegion ops (i :: rest) :: k) l h := by
  intro t w Ds hF hS
  refine Gos.opSkip ho (skip_of hF hw) ?_
  rw [hdst]
  exact hk _ w Ds (hF.put undef hd) hS
/-- operation i yields v into slot d, and turns nothing -/
def Vop (P : Program) (w0 : World) (S : List Nat) (n : Nat) (h : Hl) (ops : Array Oper) (i : Nat) (l : Fl) (d : Nat) (v : Value) : Prop :=
  ∃ o, ops[i]? = some o ∧ wantL ops l o.guard = true ∧ o.dst = some d ∧ isDefer o.op = false ∧ Nat.blt d n = true ∧
    ∀ (t : Array Value) (w : World) (Ds : List Nat) (Y' : List (Nat × Obj)), Frm n t l → St w0 S w h Y' → ∃ nx, (execOp (Act.eval ⟨t, Ds.map mark⟩) o).run P w = .ok nx w ∧ nx = .value v
theorem Vop.of {ops : Array Oper} {i d : Nat} {o : Oper} {v : Value} (ho : ops[i]? = some o) (hw : wantL ops l o.guard = true) (hdst : o.dst = some d) (hnd : isDefer o.op = false) (hd : Nat.blt d n = true)
    (hr : ∀ (t : Array Value) (w : World) (Ds : List Nat) (Y' : List (Nat × Obj)), Frm n t l → St w0 S w h Y' → ∃ nx, (execOp (Act.eval ⟨t, Ds.map mark⟩) o).run P w = .ok nx w ∧ nx = .value v) : Vop P w0 S n h ops i l d v :=
  ⟨o, ho, hw, hdst, hnd, hd, hr⟩
theorem GoH.v {ops : Array Oper} {i d : Nat} {rest : List Nat} {v : Value} (hv : Vop P w0 S n h ops i l d v) (hk : GoH P r f R w0 S Y n (.inRegion ops rest :: k) ((d, v) :: l) h) : GoH P r f R w0 S Y n (.inRegion ops (i :: rest) :: k) l h := by
  obtain ⟨o, ho, hw, hdst, hnd, hd, hr⟩ := hv
  exact .val ho hw hdst hnd hd hr hk
end
end Go.Proofs.Wit
