/- Laws of walks, for any program, under the conditions that each theorem states. -/
import Derived.WalkKit
import Derived.Lib.Hide
import Derived.RangeFuncLeaves
import Derived.RangeFuncRecord
namespace Go.Proofs.Wit
open Go.RowKit
abbrev W64 := BitVec 64
def U (x : W64) : Value := .int .u64 (x.toNat : Int)

section
variable (t : TypeId) (x y : W64)
theorem ofInt_toNat64 (x : W64) : BitVec.ofInt 64 (x.toNat : Int) = x := by
 rw [BitVec.ofInt_natCast]; simp
theorem wrap_toNat (x : W64) : IntKind.u64.wrap (x.toNat : Int) = x.toNat := by
 rw [IntKind.wrap_u64]; have := x.isLt; omega
theorem bits_U (f : W64 → W64 → W64) : (.int .u64 (IntKind.u64.wrap ((f (BitVec.ofInt 64 (x.toNat : Int)) (BitVec.ofInt 64 (y.toNat : Int))).toNat : Int)) : Value) = U (f x y) := by
 rw [ofInt_toNat64, ofInt_toNat64, wrap_toNat]; rfl
theorem bin_and : binOp .and t (U x) (U y) = pure (U (x &&& y)) :=
 congrArg pure (bits_U x y (fun a b => a &&& b))
theorem bin_or : binOp .or t (U x) (U y) = pure (U (x ||| y)) :=
 congrArg pure (bits_U x y (fun a b => a ||| b))
theorem wrapU {n : Int} (z : W64) (h : n % 18446744073709551616 = z.toNat) : (.int .u64 (IntKind.u64.wrap n) : Value) = U z := by
 rw [IntKind.wrap_u64, h]; rfl
theorem cast_inj : ((x.toNat : Int) = y.toNat) ↔ x = y := by
 rw [Int.ofNat_inj]; exact BitVec.toNat_inj
theorem bin_eql : binOp .eql t (U x) (U y) = pure (.bool (x == y)) := by
 have e : ((x.toNat : Int) == (y.toNat : Int)) = (x == y) := by rw [Bool.eq_iff_iff]; simp [cast_inj]
 rw [← e]; rfl
theorem pow64 : (18446744073709551616 : Nat) = 2 ^ 64 := by decide
theorem bin_shl_nat (k : IntKind) (n : Nat) : binOp .shl t (U x) (.int k (n : Int)) = pure (U (x <<< n)) := by
 show Op.shift .shl .u64 (x.toNat : Int) k (n : Int) = _
 unfold Op.shift
 rw [if_neg (by omega)]
 refine congrArg pure (wrapU _ ?_)
 rw [BitVec.toNat_shiftLeft, Nat.shiftLeft_eq, Int.toNat_natCast]
 show ((x.toNat : Int) * 2 ^ (min n 64)) % ((18446744073709551616 : Nat) : Int) = _
 rw [pow64]
 by_cases h : n ≤ 64
 ·rw [Nat.min_eq_left h]; norm_cast
 ·rw [Nat.min_eq_right (by omega)]
  have e1 : x.toNat * 2 ^ n % 2 ^ 64 = 0 := by
   obtain ⟨d, rfl⟩ : ∃ d, n = 64 + d := ⟨n - 64, by omega⟩
   rw [Nat.pow_add, ← Nat.mul_assoc, Nat.mul_right_comm]; exact Nat.mul_mod_left _ _
  rw [e1]; norm_cast; exact Nat.mul_mod_left _ _
theorem bin_shr_nat (k : IntKind) (n : Nat) : binOp .shr t (U x) (.int k (n : Int)) = pure (U (x >>> n)) := by
 show Op.shift .shr .u64 (x.toNat : Int) k (n : Int) = _
 unfold Op.shift
 rw [if_neg (by omega)]
 refine congrArg pure (congrArg (Value.int .u64) ?_)
 rw [BitVec.toNat_ushiftRight, Nat.shiftRight_eq_div_pow, Int.toNat_natCast]
 show Int.fdiv (x.toNat : Int) (2 ^ (min n 64)) = _
 have hf : ∀ m : Nat, Int.fdiv (x.toNat : Int) (2 ^ m) = ((x.toNat / 2 ^ m : Nat) : Int) := by
  intro m
  rw [Int.fdiv_eq_ediv_of_nonneg _ (Int.pow_nonneg (by decide))]; norm_cast
 rw [hf]
 by_cases h : n ≤ 64
 ·rw [Nat.min_eq_left h]
 ·rw [Nat.min_eq_right (by omega), Nat.div_eq_of_lt x.isLt, Nat.div_eq_of_lt]
  exact Nat.lt_of_lt_of_le x.isLt (Nat.pow_le_pow_right (by decide) (by omega))
theorem eqGuard_U (op : BinOp) (a b : Operand) : eqGuard op t a b (U x) (U y) = pure () := by
 unfold eqGuard U; cases op <;> rfl
end
end Go.Proofs.Wit
namespace Go.Proofs.Wit
open Go
/-! ## The judgement on the machine: a frame's todo list runs to the frame's end -/
/-- the frame of function f, in round r, with these temporaries, at this todo list -/
def mkF (f : FuncId) (r : Option Nat) (t : Array Value) (ds : List Deferred) (k : List Item) : Frame :=
 { fn := f, tmps := t, todo := k, defers := ds, mode := .run, kind := .normal, roundOf := r }

def Tgt (P : Program) (r : Option Nat) (f : FuncId) (cs : List Frame) (v : Value) (w : World) (m : Machine) : Prop :=
 match r with
 | none => ∃ fr, m = lone fr cs w ∧ fr.fn = f ∧ fr.leaving P w (.returned v)
 | some _ => ∃ c cs', cs = c :: cs' ∧ m = lone (c.finish v) cs' w

def Gos (P : Program) (r : Option Nat) (f : FuncId) (R : Value → World → Prop) (k : List Item) (t : Array Value) (ds : List Deferred) (w : World) : Prop :=
 ∀ cs : List Frame, (r.isSome = true → cs ≠ []) → ∃ v w' m, R v w' ∧ Steps P (lone (mkF f r t ds k) cs w) m ∧ Tgt P r f cs v w' m

section
variable {P : Program} {r : Option Nat} {f : FuncId} {R : Value → World → Prop} {k k' : List Item} {t t' : Array Value} {ds ds' : List Deferred} {w w' : World}
theorem mkF_at : mkF f r t ds k = (mkF f r #[] [] []).atR ⟨t, ds⟩ k := rfl

theorem Gos.step (hs : ∀ cs, step P (lone (mkF f r t ds k) cs w) = .next (lone (mkF f r t' ds' k') cs w')) (h : Gos P r f R k' t' ds' w') : Gos P r f R k t ds w := by
 intro cs hc
 obtain ⟨v, w2, m, hR, hst, ht⟩ := h cs hc
 exact ⟨v, w2, m, hR, .head (hs cs) hst, ht⟩

theorem Gos.skip (h : Gos P r f R k t ds w) : Gos P r f R (.code .skip :: k) t ds w := .step (fun _ => by rw [mkF_at, mkF_at]; exact stepR_skip) h
theorem Gos.inBlock {id : Nat} (h : Gos P r f R k t ds w) : Gos P r f R (.inBlock id :: k) t ds w := .step (fun _ => by rw [mkF_at, mkF_at]; exact stepR_inBlock) h
theorem Gos.seq {x y : Code} (h : Gos P r f R (.code x :: .code y :: k) t ds w) : Gos P r f R (.code (.seq x y) :: k) t ds w := .step (fun _ => by rw [mkF_at, mkF_at]; exact stepR_seq) h
theorem Gos.block {id : Nat} {c : Code} (h : Gos P r f R (.code c :: .inBlock id :: k) t ds w) : Gos P r f R (.code (.block id c) :: k) t ds w := .step (fun _ => by rw [mkF_at, mkF_at]; exact stepR_block) h
theorem Gos.loop {c : Code} (h : Gos P r f R (.code c :: .inLoop c :: k) t ds w) : Gos P r f R (.code (.loop c) :: k) t ds w := .step (fun _ => by rw [mkF_at, mkF_at]; exact stepR_loop) h
theorem Gos.inLoop {c : Code} (h : Gos P r f R (.code c :: .inLoop c :: k) t ds w) : Gos P r f R (.inLoop c :: k) t ds w := .step (fun _ => by rw [mkF_at, mkF_at]; exact stepR_inLoop) h
theorem Gos.exit {id : Nat} (he : exitTo id k = some k') (h : Gos P r f R k' t ds w) : Gos P r f R (.code (.exit id) :: k) t ds w := .step (fun _ => by rw [mkF_at, mkF_at]; exact stepR_exit he) h
theorem Gos.cond {c : Operand} {x y : Code} {b : Bool} (hc : (⟨t, ds⟩ : Act).eval c = .bool b) (h : Gos P r f R (.code (if b then x else y) :: k) t ds w) : Gos P r f R (.code (.cond c x y) :: k) t ds w := .step (fun _ => by rw [mkF_at, mkF_at]; exact stepR_cond hc) h
theorem Gos.region {id : Nat} {ops : Array Oper} (h : Gos P r f R (.inRegion ops (List.range ops.size) :: k) t ds w) : Gos P r f R (.code (.region id ops false) :: k) t ds w := .step (fun _ => by rw [mkF_at, mkF_at]; exact stepR_region) h
theorem Gos.regionDraw {id : Nat} {ops : Array Oper} (h : ∀ n, Gos P r f R (.inRegion ops (Region.schedule (P.follows .mixedOrders) ops n) :: k) t ds { w with drawn := w.drawn + 1 }) : Gos P r f R (.code (.region id ops true) :: k) t ds w := .step (fun _ => by rw [mkF_at, mkF_at]; exact stepR_region_draw) (h _)
theorem Gos.regionEnd {ops : Array Oper} (h : Gos P r f R k t ds w) : Gos P r f R (.inRegion ops [] :: k) t ds w := .step (fun _ => by rw [mkF_at, mkF_at]; exact stepR_region_end) h

theorem put_eq (t : Array Value) (ds : List Deferred) (d : Option Tmp) (v : Value) : ((⟨t, ds⟩ : Act).put d v) = ⟨((⟨t, ds⟩ : Act).put d v).tmps, ds⟩ := by cases d <;> rfl
theorem stepR_val {b : Frame} {a : Act} {cs : List Frame} {ops : Array Oper} {i : Nat} {rest : List Nat} {o : Oper} {nx : Next} {v : Value} (ho : ops[i]? = some o) (hw : Region.wanted o (yielded ops a.tmps) = true) (hnd : ∀ c, o.op ≠ .defer c)
  (hr : (execOp a.eval o).run P w = .ok nx w') (hx : nx = .value v ∨ (nx = .skip ∧ v = undef)) :
  Go.step P (lone (b.atR a (.inRegion ops (i :: rest) :: k)) cs w) = .next (lone (b.atR (a.put o.dst v) (.inRegion ops rest :: k)) cs w') := by
 refine step_lone_go ?_
 rw [stepGR_op ho hw, Oper.semAt_eq _ _ _ hnd]
 have hf := Frame.finish_atR b a ops i rest k v
 rw [ho] at hf
 simp only [Option.bind_some] at hf
 rcases hx with rfl | ⟨rfl, rfl⟩
 ·simp [stepG.apply, Sem.runT_eq, hr, GStep.bare_after, hf]
 ·simp [stepG.apply, Sem.runT_eq, hr, GStep.bare_after, hf]
theorem stepR_enter {b : Frame} {a : Act} {cs : List Frame} {ops : Array Oper} {i : Nat} {rest : List Nat} {o : Oper} {g : FuncId} {args : Array Value} (ho : ops[i]? = some o) (hw : Region.wanted o (yielded ops a.tmps) = true) (hnd : ∀ c, o.op ≠ .defer c)
  (hr : (execOp a.eval o).run P w = .ok (.enter g args) w') :
  Go.step P (lone (b.atR a (.inRegion ops (i :: rest) :: k)) cs w) = .next (lone (Frame.enter P g args .normal) (b.atR a (.inRegion ops (i :: rest) :: k) :: cs) w') := by
 refine step_lone_go ?_
 rw [stepGR_op ho hw, Oper.semAt_eq _ _ _ hnd]
 simp [stepG.apply, Sem.runT_eq, hr, GStep.bare_after, Frame.atR]
theorem stepR_yield {b : Frame} {a : Act} {cs : List Frame} {ops : Array Oper} {i : Nat} {rest : List Nat} {o : Oper} {l fn : Nat} {tmps : Array Value} {assign body : Code} (ho : ops[i]? = some o) (hw : Region.wanted o (yielded ops a.tmps) = true) (hnd : ∀ c, o.op ≠ .defer c)
  (hr : (execOp a.eval o).run P w = .ok (.round l fn tmps assign body) w') :
  Go.step P (lone (b.atR a (.inRegion ops (i :: rest) :: k)) cs w) = .next (lone (Frame.round l fn tmps assign body .normal) (b.atR a (.inRegion ops (i :: rest) :: k) :: cs) w') := by
 refine step_lone_go ?_
 rw [stepGR_op ho hw, Oper.semAt_eq _ _ _ hnd]
 simp [stepG.apply, Sem.runT_eq, hr, GStep.bare_after, Frame.atR]
theorem finish_op {b : Frame} {a : Act} {ops : Array Oper} {i : Nat} {rest : List Nat} {o : Oper} (ho : ops[i]? = some o) (v : Value) : (b.atR a (.inRegion ops (i :: rest) :: k)).finish v = b.atR (a.put o.dst v) (.inRegion ops rest :: k) := by
 rw [Frame.finish_atR, ho]; rfl
theorem Gos.op {ops : Array Oper} {i : Nat} {rest : List Nat} {o : Oper} {nx : Next} {v : Value} (ho : ops[i]? = some o) (hw : Region.wanted o (yielded ops t) = true) (hnd : ∀ c, o.op ≠ .defer c)
  (hr : (execOp (Act.eval ⟨t, ds⟩) o).run P w = .ok nx w') (hx : nx = .value v ∨ (nx = .skip ∧ v = undef))
  (h : Gos P r f R (.inRegion ops rest :: k) ((⟨t, ds⟩ : Act).put o.dst v).tmps ds w') : Gos P r f R (.inRegion ops (i :: rest) :: k) t ds w := by
 refine .step (fun cs => ?_) h
 have hs := stepR_val (b := mkF f r #[] [] []) (a := ⟨t, ds⟩) (k := k) (cs := cs) (rest := rest) ho hw hnd hr hx
 rw [put_eq] at hs
 exact hs
theorem Gos.opSkip {ops : Array Oper} {i : Nat} {rest : List Nat} {o : Oper} (ho : ops[i]? = some o) (hw : Region.wanted o (yielded ops t) = false)
  (h : Gos P r f R (.inRegion ops rest :: k) ((⟨t, ds⟩ : Act).put o.dst undef).tmps ds w) : Gos P r f R (.inRegion ops (i :: rest) :: k) t ds w := by
 refine .step (fun cs => ?_) h
 have hs := stepR_op_skip (P := P) (b := mkF f r #[] [] []) (a := ⟨t, ds⟩) (k := k) (cs := cs) (w := w) (ops := ops) (i := i) (rest := rest) (by simp [ho, hw])
 rw [ho, Option.bind_some, put_eq] at hs
 exact hs
theorem Gos.call {ops : Array Oper} {i : Nat} {rest : List Nat} {o : Oper} {g : FuncId} {args : Array Value} {Rc : Value → World → Prop} (ho : ops[i]? = some o) (hw : Region.wanted o (yielded ops t) = true) (hnd : ∀ c, o.op ≠ .defer c)
  (hr : (execOp (Act.eval ⟨t, ds⟩) o).run P w = .ok (.enter g args) w') (hc : Calls P g args w' fun e w2 => ∃ v, e = .returned v ∧ Rc v w2)
  (h : ∀ v w2, Rc v w2 → Gos P r f R (.inRegion ops rest :: k) ((⟨t, ds⟩ : Act).put o.dst v).tmps ds w2) : Gos P r f R (.inRegion ops (i :: rest) :: k) t ds w := by
 intro cs hcs
 obtain ⟨e, w2, fr, ⟨v, rfl, hRc⟩, hcomes, hfn, hleave⟩ := hc (mkF f r t ds (.inRegion ops (i :: rest) :: k) :: cs)
 obtain ⟨v2, w3, m, hR, hst, htg⟩ := h v w2 hRc cs hcs
 have h1 := stepR_enter (b := mkF f r #[] [] []) (a := ⟨t, ds⟩) (k := k) (cs := cs) (rest := rest) ho hw hnd hr
 have h2 := step_leave_returned (c := mkF f r t ds (.inRegion ops (i :: rest) :: k)) (cs := cs) hleave
 have h3 := finish_op (b := mkF f r #[] [] []) (a := ⟨t, ds⟩) (k := k) (rest := rest) ho v
 rw [put_eq] at h3
 exact ⟨v2, w3, m, hR, .head h1 (Steps.trans hcomes (.head (h2.trans (congrArg (fun x => Stepped.next (lone x cs w2)) h3)) hst)), htg⟩

def Rnd (P : Program) (l : Nat) (args : Array Value) (w : World) (Rr : Value → World → Prop) : Prop :=
 ∃ fn tmps assign body, (Instr.yield l args).run P w = .ok (.round l fn tmps assign body) w ∧
  ∀ (c : Frame) (cs : List Frame), ∃ v w', Rr v w' ∧ Steps P (lone (Frame.round l fn tmps assign body .normal) (c :: cs) w) (lone (c.finish v) cs w')
theorem Gos.yield {ops : Array Oper} {i : Nat} {rest : List Nat} {o : Oper} {l : Nat} {args : Array Value} {Rr : Value → World → Prop} (ho : ops[i]? = some o) (hw : Region.wanted o (yielded ops t) = true) (hnd : ∀ c, o.op ≠ .defer c)
  (hr : (execOp (Act.eval ⟨t, ds⟩) o).run P w = (Instr.yield l args).run P w) (hc : Rnd P l args w Rr)
  (h : ∀ v w2, Rr v w2 → Gos P r f R (.inRegion ops rest :: k) ((⟨t, ds⟩ : Act).put o.dst v).tmps ds w2) : Gos P r f R (.inRegion ops (i :: rest) :: k) t ds w := by
 intro cs hcs
 obtain ⟨fn, tmps, assign, body, hy, hrun⟩ := hc
 rw [hy] at hr
 obtain ⟨v, w2, hRr, hsteps⟩ := hrun (mkF f r t ds (.inRegion ops (i :: rest) :: k)) cs
 obtain ⟨v2, w3, m, hR, hst, htg⟩ := h v w2 hRr cs hcs
 have h1 := stepR_yield (b := mkF f r #[] [] []) (a := ⟨t, ds⟩) (k := k) (cs := cs) (rest := rest) ho hw hnd hr
 have h3 := finish_op (b := mkF f r #[] [] []) (a := ⟨t, ds⟩) (k := k) (rest := rest) ho v
 rw [put_eq] at h3
 have hsteps' : Steps P (lone (Frame.round l fn tmps assign body .normal) (mkF f r t ds (.inRegion ops (i :: rest) :: k) :: cs) w) (lone (mkF f r ((⟨t, ds⟩ : Act).put o.dst v).tmps ds (.inRegion ops rest :: k)) cs w2) := by
  have := hsteps; rw [show (mkF f r t ds (.inRegion ops (i :: rest) :: k)).finish v = _ from h3] at this; exact this
 exact ⟨v2, w3, m, hR, .head h1 (Steps.trans hsteps' hst), htg⟩
end
end Go.Proofs.Wit
namespace Go.Proofs.Wit
open Go Go.RowKit
/-! ## What is known of a frame: a list of slots with their values (the first entry of a slot counts) -/
abbrev Fl := List (Nat × Value)
def look : Fl → Nat → Option Value
 | [], _ => none
 | (j, v) :: l, i => cond (Nat.beq j i) (some v) (look l i)
def Frm (n : Nat) (t : Array Value) (l : Fl) : Prop := t.size = n ∧ ∀ i v, look l i = some v → t.getD i undef = v
theorem Frm.put {n : Nat} {t : Array Value} {l : Fl} (h : Frm n t l) {d : Nat} (v : Value) (hd : Nat.blt d n = true) : Frm n (t.setIfInBounds d v) ((d, v) :: l) := by
 have hd' : d < n := by simpa [Nat.blt_eq] using hd
 refine ⟨by simp [h.1], fun i u hu => ?_⟩
 unfold look at hu
 cases hb : Nat.beq d i with
 | true =>
  obtain rfl := Nat.eq_of_beq_eq_true hb
  rw [hb] at hu; cases hu
  simp [Array.getD_eq_getD_getElem?, h.1, hd']
 | false =>
  rw [hb] at hu
  have hne : d ≠ i := Nat.ne_of_beq_eq_false hb
  have := h.2 i u hu
  rw [← this]
  simp [Array.getD_eq_getD_getElem?, hne]
def opd (l : Fl) : Operand → Option Value
 | .tmp i => look l i
 | .const v => some v
 | .global g => some (.pointer (some ⟨g, 0, none⟩))
 | .func f => some (.func (.func f) #[] #[])
theorem Frm.opd {n : Nat} {t : Array Value} {l : Fl} (h : Frm n t l) {x : Operand} {v : Value} (hx : opd l x = some v) (ds : List Deferred) : Act.eval ⟨t, ds⟩ x = v := by
 cases x <;> simp only [Wit.opd, Option.some.injEq] at hx
 ·exact h.2 _ _ hx
 all_goals exact hx
def opds (l : Fl) : List Operand → Option (List Value)
 | [] => some []
 | x :: xs => match Wit.opd l x, opds l xs with
  | some v, some vs => some (v :: vs)
  | _, _ => none
theorem Frm.opds {n : Nat} {t : Array Value} {l : Fl} (h : Frm n t l) (ds : List Deferred) : ∀ {xs : List Operand} {vs : List Value}, opds l xs = some vs → xs.map (Act.eval ⟨t, ds⟩) = vs := by
 intro xs
 induction xs with
 | nil => intro vs e; cases e; rfl
 | cons x xs ih =>
  intro vs e
  simp only [Wit.opds] at e
  cases hx : Wit.opd l x with
  | none => simp [hx] at e
  | some v =>
   cases hxs : Wit.opds l xs with
   | none => simp [hx, hxs] at e
   | some us =>
    simp only [hx, hxs, Option.some.injEq] at e
    subst e
    rw [List.map_cons, h.opd hx, ih hxs]
def SubF : Fl → Fl → Prop
 | [], _ => True
 | (i, v) :: l', l => look l i = some v ∧ SubF l' l
theorem SubF.nil {l : Fl} : SubF [] l := trivial
theorem SubF.cons {l l' : Fl} {i : Nat} {v : Value} (h : look l i = some v) (h' : SubF l' l) : SubF ((i, v) :: l') l := ⟨h, h'⟩
theorem SubF.look {l : Fl} : ∀ {l' : Fl}, SubF l' l → ∀ {i v}, look l' i = some v → Wit.look l i = some v
 | [], _, _, _, h => by cases h
 | (j, u) :: l', hs, i, v, h => by
  unfold Wit.look at h
  cases hb : Nat.beq j i with
  | true => rw [hb] at h; obtain rfl := Nat.eq_of_beq_eq_true hb; cases h; exact hs.1
  | false => rw [hb] at h; exact SubF.look hs.2 h
theorem Frm.sub {n : Nat} {t : Array Value} {l l' : Fl} (h : Frm n t l) (hs : SubF l' l) : Frm n t l' := ⟨h.1, fun i v hv => h.2 i v (hs.look hv)⟩

/-! ## What is known of memory -/
def isSys : Obj → Bool
 | .loop _ | .deferred _ => true
 | _ => false
structure Ex (S : List Nat) (w0 w : World) : Prop where
  os : w.os = w0.os
  tape : w.tape = w0.tape
  output : w.output = w0.output
  size : w0.heap.size ≤ w.heap.size
  block : ∀ b, b < w0.heap.size → b ∉ S → w.heap[b]? = w0.heap[b]?
theorem Ex.refl (S : List Nat) (w : World) : Ex S w w := ⟨rfl, rfl, rfl, Nat.le_refl _, fun _ _ _ => rfl⟩
theorem Ex.trans {S S' : List Nat} {a b c : World} (h : Ex S a b) (k : Ex S' b c) (hS : ∀ x ∈ S', x ∈ S ∨ a.heap.size ≤ x) : Ex S a c :=
 ⟨k.os.trans h.os, k.tape.trans h.tape, k.output.trans h.output, Nat.le_trans h.size k.size, fun i hi hn =>
  (k.block i (Nat.lt_of_lt_of_le hi h.size) (fun hm => by rcases hS i hm with h' | h'; exact hn h'; omega)).trans (h.block i hi hn)⟩
theorem Ex.toBelow {w0 w : World} (h : Ex [] w0 w) : Below w0.heap.size w0 w := ⟨h.os, h.tape, h.output, h.size, fun k hk => h.block k hk (by simp)⟩
abbrev Hl := List (Option Nat × Obj)
def mark (D : Nat) : Deferred := { target := .collected D, args := #[] }
def apartH (p q : Option Nat × Obj) : Prop := ∀ b, p.1 = some b → q.1 ≠ some b
structure St (w0 : World) (S : List Nat) (w : World) (h : Hl) (Y : List (Nat × Obj)) : Prop where
  ext : Ex S w0 w
  own : ∀ p ∈ h, ∀ b, p.1 = some b → w.heap[b]? = some p.2 ∧ isSys p.2 = false ∧ (w0.heap.size ≤ b ∨ b ∈ S)
  apart : h.Pairwise apartH
  sys : ∀ p ∈ Y, w0.heap.size ≤ p.1 ∧ w.heap[p.1]? = some p.2 ∧ isSys p.2 = true
  ynd : (Y.map (·.1)).Nodup
def mkY (Ds : List Nat) : List (Nat × Obj) := Ds.map (fun D => (D, .deferred (some [])))
section
variable {w0 : World} {S : List Nat} {w w' : World} {h : Hl} {Y : List (Nat × Obj)}
theorem St.get (s : St w0 S w h Y) {j b : Nat} {o : Obj} (hj : h[j]? = some (some b, o)) : w.heap[b]? = some o :=
 (s.own _ (List.mem_of_getElem? hj) b rfl).1
theorem St.lt (s : St w0 S w h Y) {j b : Nat} {o : Obj} (hj : h[j]? = some (some b, o)) : b < w.heap.size :=
 (Array.getElem?_eq_some_iff.1 (s.get hj)).1
theorem St.inj (s : St w0 S w h Y) {i j b : Nat} {o o' : Obj} (hi : h[i]? = some (some b, o)) (hj : h[j]? = some (some b, o')) : i = j := by
 obtain ⟨i1, i2⟩ := List.getElem?_eq_some_iff.1 hi
 obtain ⟨j1, j2⟩ := List.getElem?_eq_some_iff.1 hj
 have := List.pairwise_iff_getElem.1 s.apart
 rcases Nat.lt_trichotomy i j with hlt | he | hlt
 ·exact absurd (by rw [j2]) (this i j i1 j1 hlt b (by rw [i2]))
 ·exact he
 ·exact absurd (by rw [i2]) (this j i j1 i1 hlt b (by rw [j2]))
theorem heap_alloc_new (w : World) (o : Obj) : (w.alloc o).heap[w.heap.size]? = some o := by
 show (w.heap.push o)[w.heap.size]? = some o
 simp
theorem St.new_apart (s : St w0 S w h Y) {b : Nat} {o : Obj} (hb : w.heap.size ≤ b) : ∀ q ∈ h, apartH (some b, o) q := by
 intro q hq c hc hqc
 cases hc
 have := (Array.getElem?_eq_some_iff.1 (s.own q hq b hqc).1).1
 omega
theorem St.later (s : St w0 S w h Y) (e : Ex [] w w') : St w0 S w' h Y := by
 have hk : ∀ b (o : Obj), w.heap[b]? = some o → w'.heap[b]? = some o := fun b o hb => by
  rw [e.block b (Array.getElem?_eq_some_iff.1 hb).1 (by simp)]; exact hb
 refine ⟨s.ext.trans e (by simp), fun p hp b hb => ?_, s.apart, fun D hD => ?_, s.ynd⟩
 ·obtain ⟨h1, h2, h3⟩ := s.own p hp b hb
  exact ⟨hk _ _ h1, h2, h3⟩
 ·obtain ⟨h1, h2, h3⟩ := s.sys D hD
  exact ⟨h1, hk _ _ h2, h3⟩
theorem St.gain (s : St w0 S w h Y) (e : Ex [] w w') {b : Nat} {o : Obj} (hb : w'.heap[b]? = some o) (ho : isSys o = false) (hn : w.heap.size ≤ b) : St w0 S w' ((some b, o) :: h) Y := by
 have s' := s.later e
 refine ⟨s'.ext, ?_, List.pairwise_cons.2 ⟨s.new_apart hn, s.apart⟩, s'.sys, s'.ynd⟩
 intro p hp c hc
 rcases List.mem_cons.1 hp with rfl | hp
 ·cases hc; exact ⟨hb, ho, .inl (Nat.le_trans s.ext.size hn)⟩
 ·exact s'.own p hp c hc
theorem ex_alloc (w : World) (o : Obj) : Ex [] w (w.alloc o) :=
 ⟨rfl, rfl, rfl, by rw [World.size_alloc]; omega, fun b hb _ => Below.heap_alloc _ _ _ hb⟩
theorem St.alloc (s : St w0 S w h Y) {o : Obj} (ho : isSys o = false) : St w0 S (w.alloc o) ((some w.heap.size, o) :: h) Y :=
 s.gain (ex_alloc w o) (heap_alloc_new w o) ho (Nat.le_refl _)
theorem St.none (s : St w0 S w h Y) (o : Obj) : St w0 S w ((none, o) :: h) Y :=
 ⟨s.ext, fun p hp c hc => by
  rcases List.mem_cons.1 hp with rfl | hp
  ·cases hc
  ·exact s.own p hp c hc, List.pairwise_cons.2 ⟨fun q _ c hc => by simp at hc, s.apart⟩, s.sys, s.ynd⟩
theorem ex_drew (w : World) : Ex [] w { w with drawn := w.drawn + 1 } := ⟨rfl, rfl, rfl, Nat.le_refl _, fun _ _ _ => rfl⟩
theorem St.drew (s : St w0 S w h Y) : St w0 S { w with drawn := w.drawn + 1 } h Y := s.later (ex_drew w)
theorem St.turn (s : St w0 S w h Y) {j b : Nat} {o o' : Obj} (hj : h[j]? = some (some b, o)) (ho : isSys o' = false)
  (h1 : w'.os = w.os) (h2 : w'.tape = w.tape) (h3 : w'.output = w.output) (h4 : w.heap.size ≤ w'.heap.size) (h5 : w'.heap[b]? = some o') (h6 : ∀ i, i < w.heap.size → i ≠ b → w'.heap[i]? = w.heap[i]?) : St w0 S w' (h.set j (some b, o')) Y := by
 have hb := s.own _ (List.mem_of_getElem? hj) b rfl
 have hjl : j < h.length := (List.getElem?_eq_some_iff.1 hj).1
 have hbl := s.lt hj
 refine ⟨⟨h1.trans s.ext.os, h2.trans s.ext.tape, h3.trans s.ext.output, Nat.le_trans s.ext.size h4, ?_⟩, ?_, ?_, ?_, s.ynd⟩
 ·intro i hi hn
  have hne : i ≠ b := by
   rintro rfl
   rcases hb.2.2 with hc | hc
   ·omega
   ·exact hn hc
  rw [h6 i (Nat.lt_of_lt_of_le hi s.ext.size) hne]; exact s.ext.block i hi hn
 ·intro p hp c hc
  obtain ⟨i, hi⟩ := List.mem_iff_getElem?.1 hp
  rw [List.getElem?_set] at hi
  split at hi
  ·rename_i e; subst e
   simp at hi; obtain ⟨_, rfl⟩ := hi
   cases hc
   exact ⟨h5, ho, hb.2.2⟩
  ·rename_i hne
   obtain ⟨q1, q2, q3⟩ := s.own p (List.mem_of_getElem? hi) c hc
   refine ⟨?_, q2, q3⟩
   rw [h6 c (Array.getElem?_eq_some_iff.1 q1).1 ?_]; exact q1
   rintro rfl
   obtain ⟨p1, p2⟩ := p
   simp only at hc; subst hc
   exact hne (s.inj hj hi)
 ·rw [List.pairwise_iff_getElem]
  intro i i' hi hi' hlt c hc hc'
  rw [List.length_set] at hi hi'
  have hap := List.pairwise_iff_getElem.1 s.apart i i' hi hi' hlt c
  obtain ⟨_, hj2⟩ := List.getElem?_eq_some_iff.1 hj
  rw [List.getElem_set] at hc hc'
  apply hap
  ·split at hc
   ·rename_i e; subst e; rw [hj2]; exact hc
   ·exact hc
  ·split at hc'
   ·rename_i e; subst e; rw [hj2]; exact hc'
   ·exact hc'
 ·intro D hD
  obtain ⟨m1, m2, m3⟩ := s.sys D hD
  refine ⟨m1, ?_, m3⟩
  rw [h6 D.1 (Array.getElem?_eq_some_iff.1 m2).1 ?_]; exact m2
  intro e
  rw [e] at m2
  have e1 := Option.some.inj (hb.1.symm.trans m2)
  rw [← e1, hb.2.1] at m3
  cases m3
theorem St.subH {h' : Hl} (s : St w0 S w h Y) (hs : h'.Sublist h) : St w0 S w h' Y :=
 ⟨s.ext, fun p hp => s.own p (hs.subset hp), s.apart.sublist hs, s.sys, s.ynd⟩
theorem St.swap (s : St w0 S w h Y) (e : Ex [] w w') (j : Nat) {b : Nat} {o : Obj} (hb : w'.heap[b]? = some o) (ho : isSys o = false) (hn : w.heap.size ≤ b) : St w0 S w' (h.set j (some b, o)) Y := by
 have s' := s.later e
 refine ⟨s'.ext, ?_, ?_, s'.sys, s'.ynd⟩
 ·intro p hp c hc
  obtain ⟨i, hi⟩ := List.mem_iff_getElem?.1 hp
  rw [List.getElem?_set] at hi
  split at hi
  ·simp at hi; obtain ⟨_, rfl⟩ := hi
   cases hc; exact ⟨hb, ho, .inl (Nat.le_trans s.ext.size hn)⟩
  ·exact s'.own p (List.mem_of_getElem? hi) c hc
 ·rw [List.pairwise_iff_getElem]
  intro i i' hi hi' hlt c hc hc'
  rw [List.length_set] at hi hi'
  rw [List.getElem_set] at hc hc'
  split at hc
  ·split at hc'
   ·omega
   ·exact s.new_apart hn (o := o) _ (List.getElem_mem hi') c hc hc'
  ·split at hc'
   ·exact s.new_apart hn (o := o) _ (List.getElem_mem hi) c hc' hc
   ·exact List.pairwise_iff_getElem.1 s.apart i i' hi hi' hlt c hc hc'
end
end Go.Proofs.Wit
namespace Go.Proofs.Wit
open Go Go.RowKit
def GoH (P : Program) (r : Option Nat) (f : FuncId) (R : Value → World → Prop) (w0 : World) (S : List Nat) (Y : List (Nat × Obj)) (n : Nat) (k : List Item) (l : Fl) (h : Hl) : Prop :=
 ∀ t w Ds, Frm n t l → St w0 S w h (mkY Ds ++ Y) → Gos P r f R k t (Ds.map mark) w

def wantL (ops : Array Oper) (l : Fl) : Option (Nat × Bool) → Bool
 | none => true
 | some (j, want) => match (ops[j]?).bind (·.dst) with
  | some d => match look l d with
   | some (.bool b) => b == want
   | _ => false
  | none => false
def skipL (ops : Array Oper) (l : Fl) : Option (Nat × Bool) → Bool
 | none => false
 | some (j, want) => match (ops[j]?).bind (·.dst) with
  | some d => match look l d with
   | some (.bool b) => b != want
   | some (.tuple _) => true
   | _ => false
  | none => false
def isDefer : Op → Bool
 | .defer _ => true
 | _ => false
theorem not_defer {o : Op} (h : isDefer o = false) : ∀ c, o ≠ .defer c := by rintro c rfl; cases h

section
variable {P : Program} {r : Option Nat} {f : FuncId} {R : Value → World → Prop} {w0 : World} {S : List Nat} {Y : List (Nat × Obj)} {n : Nat} {k k' : List Item} {l l' : Fl} {h h' : Hl}
theorem yielded_eq {ops : Array Oper} {t : Array Value} {j d : Nat} {v : Value} (hF : Frm n t l) (hd : (ops[j]?).bind (·.dst) = some d) (hv : look l d = some v) (hne : v ≠ undef) :
  yielded ops t j = match v with | .bool b => some b | _ => none := by
 have h1 := hF.2 _ _ hv
 unfold yielded
 rw [hd]
 simp only [Option.bind_some]
 rw [Array.getD_eq_getD_getElem?] at h1
 cases ht : t[d]? with
 | none => rw [ht] at h1; simp at h1; exact absurd h1.symm hne
 | some u => rw [ht] at h1; simp at h1; subst h1; cases u <;> rfl
theorem want_of {ops : Array Oper} {t : Array Value} {o : Oper} (hF : Frm n t l) (hw : wantL ops l o.guard = true) : Region.wanted o (yielded ops t) = true := by
 unfold Region.wanted
 cases hg : o.guard with
 | none => rfl
 | some p =>
  obtain ⟨j, want⟩ := p
  rw [hg] at hw
  simp only [wantL] at hw
  split at hw
  ·rename_i d hd
   split at hw
   ·rename_i b hb
    show (yielded ops t j == some want) = true
    rw [yielded_eq hF hd hb (by simp [undef])]
    simp only [beq_iff_eq] at hw; subst hw; simp
   ·cases hw
  ·cases hw
theorem skip_of {ops : Array Oper} {t : Array Value} {o : Oper} (hF : Frm n t l) (hw : skipL ops l o.guard = true) : Region.wanted o (yielded ops t) = false := by
 unfold Region.wanted
 cases hg : o.guard with
 | none => rw [hg] at hw; cases hw
 | some p =>
  obtain ⟨j, want⟩ := p
  rw [hg] at hw
  simp only [skipL] at hw
  split at hw
  ·rename_i d hd
   split at hw
   ·rename_i b hb
    show (yielded ops t j == some want) = false
    rw [yielded_eq hF hd hb (by simp [undef])]
    simp at hw ⊢; exact hw
   ·rename_i vs hb
    have h1 := hF.2 _ _ hb
    have : yielded ops t j = none := by
     unfold yielded
     rw [hd]
     simp only [Option.bind_some]
     rw [Array.getD_eq_getD_getElem?] at h1
     cases ht : t[d]? with
     | none => rfl
     | some u => rw [ht] at h1; simp at h1; subst h1; rfl
    show (yielded ops t j == some want) = false
    rw [this]; rfl
   ·cases hw
  ·cases hw

theorem GoH.sub (hs : SubF l' l) (hg : GoH P r f R w0 S Y n k l' h) : GoH P r f R w0 S Y n k l h := fun t w Ds hF hS => hg t w Ds (hF.sub hs) hS
theorem GoH.subH (hs : h'.Sublist h) (hg : GoH P r f R w0 S Y n k l h') : GoH P r f R w0 S Y n k l h := fun t w Ds hF hS => hg t w Ds hF (hS.subH hs)
theorem GoH.skip (hg : GoH P r f R w0 S Y n k l h) : GoH P r f R w0 S Y n (.code .skip :: k) l h := fun t w Ds hF hS => .skip (hg t w Ds hF hS)
theorem GoH.inBlock {id : Nat} (hg : GoH P r f R w0 S Y n k l h) : GoH P r f R w0 S Y n (.inBlock id :: k) l h := fun t w Ds hF hS => .inBlock (hg t w Ds hF hS)
theorem GoH.seq {x y : Code} (hg : GoH P r f R w0 S Y n (.code x :: .code y :: k) l h) : GoH P r f R w0 S Y n (.code (.seq x y) :: k) l h := fun t w Ds hF hS => .seq (hg t w Ds hF hS)
theorem GoH.block {id : Nat} {c : Code} (hg : GoH P r f R w0 S Y n (.code c :: .inBlock id :: k) l h) : GoH P r f R w0 S Y n (.code (.block id c) :: k) l h := fun t w Ds hF hS => .block (hg t w Ds hF hS)
theorem GoH.exit {id : Nat} (he : exitTo id k = some k') (hg : GoH P r f R w0 S Y n k' l h) : GoH P r f R w0 S Y n (.code (.exit id) :: k) l h := fun t w Ds hF hS => .exit he (hg t w Ds hF hS)
theorem GoH.region {id : Nat} {ops : Array Oper} (hg : GoH P r f R w0 S Y n (.inRegion ops (List.range' 0 ops.size) :: k) l h) : GoH P r f R w0 S Y n (.code (.region id ops false) :: k) l h := fun t w Ds hF hS => .region (by rw [List.range_eq_range']; exact hg t w Ds hF hS)
theorem GoH.regionEnd {ops : Array Oper} (hg : GoH P r f R w0 S Y n k l h) : GoH P r f R w0 S Y n (.inRegion ops [] :: k) l h := fun t w Ds hF hS => .regionEnd (hg t w Ds hF hS)
theorem GoH.cond {c : Operand} {x y : Code} {b : Bool} (hc : opd l c = some (.bool b)) (ht : b = true → GoH P r f R w0 S Y n (.code x :: k) l h) (hf : b = false → GoH P r f R w0 S Y n (.code y :: k) l h) : GoH P r f R w0 S Y n (.code (.cond c x y) :: k) l h := fun t w Ds hF hS =>
 .cond (hF.opd hc _) (by cases b; exact hf rfl t w Ds hF hS; exact ht rfl t w Ds hF hS)
theorem GoH.condT {c : Operand} {x y : Code} (hc : opd l c = some (.bool true)) (ht : GoH P r f R w0 S Y n (.code x :: k) l h) : GoH P r f R w0 S Y n (.code (.cond c x y) :: k) l h := .cond hc (fun _ => ht) (fun e => by cases e)
theorem GoH.condF {c : Operand} {x y : Code} (hc : opd l c = some (.bool false)) (hf : GoH P r f R w0 S Y n (.code y :: k) l h) : GoH P r f R w0 S Y n (.code (.cond c x y) :: k) l h := .cond hc (fun e => by cases e) (fun _ => hf)
theorem GoH.cases {d : Nat} {b : Bool} (hv : look l d = some (.bool b)) (ht : b = true → GoH P r f R w0 S Y n k ((d, .bool true) :: l) h) (hf : b = false → GoH P r f R w0 S Y n k ((d, .bool false) :: l) h) : GoH P r f R w0 S Y n k l h := by
 have key : ∀ t c, Frm n t l → b = c → Frm n t ((d, .bool c) :: l) := by
  rintro t c hF rfl
  refine ⟨hF.1, fun i u hu => ?_⟩
  unfold look at hu
  cases hb : Nat.beq d i with
  | true => rw [hb] at hu; obtain rfl := Nat.eq_of_beq_eq_true hb; cases hu; exact hF.2 _ _ hv
  | false => rw [hb] at hu; exact hF.2 _ _ hu
 cases b
 ·exact fun t w Ds hF hS => hf rfl t w Ds (key t _ hF rfl) hS
 ·exact fun t w Ds hF hS => ht rfl t w Ds (key t _ hF rfl) hS
theorem GoH.loop {σ : Type} {c : Code} (L : σ → Fl) (H : σ → Hl) (I : σ → Prop) (μ : σ → Nat) (s0 : σ) (h0 : I s0) (hl : SubF (L s0) l) (hh : (H s0).Sublist h)
  (round : ∀ s, I s → (∀ (s' : σ) (l' : Fl) (h' : Hl), I s' → μ s' < μ s → SubF (L s') l' → (H s').Sublist h' → GoH P r f R w0 S Y n (.inLoop c :: k) l' h') → GoH P r f R w0 S Y n (.code c :: .inLoop c :: k) (L s) (H s)) :
  GoH P r f R w0 S Y n (.code (.loop c) :: k) l h := by
 have key : ∀ m s, μ s = m → I s → GoH P r f R w0 S Y n (.code c :: .inLoop c :: k) (L s) (H s) := by
  intro m
  induction m using Nat.strongRecOn with
  | _ m ih =>
   intro s hm hI
   refine round s hI (fun s' l' h' hI' hlt hsl hsh => ?_)
   have := ih (μ s') (hm ▸ hlt) s' rfl hI'
   exact .sub hsl (.subH hsh (fun t w Ds hF hS => .inLoop (this t w Ds hF hS)))
 exact .sub hl (.subH hh (fun t w Ds hF hS => .loop (key _ s0 rfl h0 t w Ds hF hS)))

/-! ### operations -/
theorem GoH.val {ops : Array Oper} {i d : Nat} {rest : List Nat} {o : Oper} {v : Value} (ho : ops[i]? = some o) (hw : wantL ops l o.guard = true) (hdst : o.dst = some d) (hnd : isDefer o.op = false) (hd : Nat.blt d n = true)
  (hr : ∀ (t : Array Value) (w : World) (Ds : List Nat) (Y' : List (Nat × Obj)), Frm n t l → St w0 S w h Y' → ∃ nx, (execOp (Act.eval ⟨t, Ds.map mark⟩) o).run P w = .ok nx w ∧ nx = .value v)
  (hk : GoH P r f R w0 S Y n (.inRegion ops rest :: k) ((d, v) :: l) h) : GoH P r f R w0 S Y n (.inRegion ops (i :: rest) :: k) l h := by
 intro t w Ds hF hS
 obtain ⟨nx, hx, rfl⟩ := hr t w Ds _ hF hS
 refine Gos.op ho (want_of hF hw) (not_defer hnd) hx (.inl rfl) ?_
 rw [hdst]
 exact hk _ w Ds (hF.put v hd) hS
theorem GoH.mem {ops : Array Oper} {i d : Nat} {rest : List Nat} {o : Oper} (ho : ops[i]? = some o) (hw : wantL ops l o.guard = true) (hdst : o.dst = some d) (hnd : isDefer o.op = false) (hd : Nat.blt d n = true)
  (hr : ∀ (t : Array Value) (w : World) (Ds : List Nat) (Y' : List (Nat × Obj)), Frm n t l → St w0 S w h Y' → ∃ v w' h', (execOp (Act.eval ⟨t, Ds.map mark⟩) o).run P w = .ok (.value v) w' ∧ St w0 S w' h' Y' ∧ GoH P r f R w0 S Y n (.inRegion ops rest :: k) ((d, v) :: l) h') :
  GoH P r f R w0 S Y n (.inRegion ops (i :: rest) :: k) l h := by
 intro t w Ds hF hS
 obtain ⟨v, w', h', hx, hS', hk⟩ := hr t w Ds _ hF hS
 refine Gos.op ho (want_of hF hw) (not_defer hnd) hx (.inl rfl) ?_
 rw [hdst]
 exact hk _ w' Ds (hF.put v hd) hS'
theorem GoH.eff {ops : Array Oper} {i : Nat} {rest : List Nat} {o : Oper} (ho : ops[i]? = some o) (hw : wantL ops l o.guard = true) (hdst : o.dst = none) (hnd : isDefer o.op = false)
  (hr : ∀ (t : Array Value) (w : World) (Ds : List Nat) (Y' : List (Nat × Obj)), Frm n t l → St w0 S w h Y' → ∃ w' h', (execOp (Act.eval ⟨t, Ds.map mark⟩) o).run P w = .ok .skip w' ∧ St w0 S w' h' Y' ∧ GoH P r f R w0 S Y n (.inRegion ops rest :: k) l h') :
  GoH P r f R w0 S Y n (.inRegion ops (i :: rest) :: k) l h := by
 intro t w Ds hF hS
 obtain ⟨w', h', hx, hS', hk⟩ := hr t w Ds _ hF hS
 refine Gos.op ho (want_of hF hw) (not_defer hnd) hx (.inr ⟨rfl, rfl⟩) ?_
 rw [hdst]
 exact hk _ w' Ds hF hS'
theorem GoH.no {ops : Array Oper} {i d : Nat} {rest : List Nat} {o : Oper} (ho : ops[i]? = some o) (hw : skipL ops l o.guard = true) (hdst : o.dst = some d) (hd : Nat.blt d n = true)
  (hk : GoH P r f R w0 S Y n (.inRegion ops rest :: k) ((d, undef) :: l) h) : GoH P r f R w0 S Y n (.inRegion ops (i :: rest) :: k) l h := by
 intro t w Ds hF hS
 refine Gos.opSkip ho (skip_of hF hw) ?_
 rw [hdst]
 exact hk _ w Ds (hF.put undef hd) hS
def Vop (P : Program) (w0 : World) (S : List Nat) (n : Nat) (h : Hl) (ops : Array Oper) (i : Nat) (l : Fl) (d : Nat) (v : Value) : Prop :=
 ∃ o, ops[i]? = some o ∧ wantL ops l o.guard = true ∧ o.dst = some d ∧ isDefer o.op = false ∧ Nat.blt d n = true ∧
  ∀ (t : Array Value) (w : World) (Ds : List Nat) (Y' : List (Nat × Obj)), Frm n t l → St w0 S w h Y' → ∃ nx, (execOp (Act.eval ⟨t, Ds.map mark⟩) o).run P w = .ok nx w ∧ nx = .value v
theorem Vop.of {ops : Array Oper} {i d : Nat} {o : Oper} {v : Value} (ho : ops[i]? = some o) (hw : wantL ops l o.guard = true) (hdst : o.dst = some d) (hnd : isDefer o.op = false) (hd : Nat.blt d n = true)
  (hr : ∀ (t : Array Value) (w : World) (Ds : List Nat) (Y' : List (Nat × Obj)), Frm n t l → St w0 S w h Y' → ∃ nx, (execOp (Act.eval ⟨t, Ds.map mark⟩) o).run P w = .ok nx w ∧ nx = .value v) : Vop P w0 S n h ops i l d v :=
 ⟨o, ho, hw, hdst, hnd, hd, hr⟩
theorem GoH.v {ops : Array Oper} {i d : Nat} {rest : List Nat} {v : Value} (hv : Vop P w0 S n h ops i l d v) (hk : GoH P r f R w0 S Y n (.inRegion ops rest :: k) ((d, v) :: l) h) : GoH P r f R w0 S Y n (.inRegion ops (i :: rest) :: k) l h := by
 obtain ⟨o, ho, hw, hdst, hnd, hd, hr⟩ := hv
 exact .val ho hw hdst hnd hd hr hk
end
end Go.Proofs.Wit
namespace Go.Proofs.Wit
open Go Go.RowKit
section
variable {P : Program} {r : Option Nat} {f : FuncId} {R : Value → World → Prop} {w0 : World} {S : List Nat} {Y : List (Nat × Obj)} {n : Nat} {k k' : List Item} {l l' : Fl} {h h' : Hl}
variable {ops : Array Oper} {i d : Nat} {rest : List Nat} {ty : TypeId} {pos : String} {aft : Array Edge} {g : Option (Nat × Bool)}
theorem Vop.mv {x : Operand} {v : Value} (ho : ops[i]? = some ⟨some d, .move x, ty, pos, aft, g⟩) (hw : wantL ops l g = true) (hx : opd l x = some v) (hd : Nat.blt d n = true) : Vop P w0 S n h ops i l d (v) :=
 .of ho hw rfl rfl hd (fun t w Ds _ hF _ => ⟨_, by simp only [execOp, hF.opd hx]; rfl, rfl⟩)
theorem Vop.asg {x : Operand} {v : Value} (ho : ops[i]? = some ⟨some d, .assign x, ty, pos, aft, g⟩) (hw : wantL ops l g = true) (hx : opd l x = some v) (hd : Nat.blt d n = true) : Vop P w0 S n h ops i l d (v) :=
 .of ho hw rfl rfl hd (fun t w Ds _ hF _ => ⟨_, by simp only [execOp, hF.opd hx]; rfl, rfl⟩)
theorem Vop.pickT {c x y : Operand} {u : Value} (ho : ops[i]? = some ⟨some d, .pick c x y, ty, pos, aft, g⟩) (hw : wantL ops l g = true) (hc : opd l c = some (.bool true)) (hx : opd l x = some u) (hd : Nat.blt d n = true) : Vop P w0 S n h ops i l d (u) :=
 .of ho hw rfl rfl hd (fun t w Ds _ hF _ => ⟨_, by simp only [execOp, hF.opd hc, hF.opd hx]; rfl, rfl⟩)
theorem Vop.pickF {c x y : Operand} {u : Value} (ho : ops[i]? = some ⟨some d, .pick c x y, ty, pos, aft, g⟩) (hw : wantL ops l g = true) (hc : opd l c = some (.bool false)) (hy : opd l y = some u) (hd : Nat.blt d n = true) : Vop P w0 S n h ops i l d (u) :=
 .of ho hw rfl rfl hd (fun t w Ds _ hF _ => ⟨_, by simp only [execOp, hF.opd hc, hF.opd hy]; rfl, rfl⟩)
def Bin (P : Program) (op : BinOp) (tx : TypeId) (a b v : Value) : Prop := ∀ (x y : Operand) (w : World), (do eqGuard op tx x y a b; binOp op tx a b : Sem Value).run P w = .ok v w
theorem Vop.bin {op : BinOp} {tx tyy : TypeId} {x y : Operand} {a b v : Value} (ho : ops[i]? = some ⟨some d, .binOp op tx x y tyy, ty, pos, aft, g⟩) (hw : wantL ops l g = true) (hx : opd l x = some a) (hy : opd l y = some b) (hb : Bin P op tx a b v) (hd : Nat.blt d n = true) : Vop P w0 S n h ops i l d (v) :=
 .of ho hw rfl rfl hd (fun t w Ds _ hF _ => ⟨.value v, by
  have := hb x y w
  simp only [execOp, hF.opd hx, hF.opd hy]
  rw [Sem.run_bind, this]; rfl, rfl⟩)
def Una (P : Program) (op : UnOp) (a v : Value) : Prop := ∀ (w : World), (Op.unary op a).run P w = .ok v w
theorem Vop.un {op : UnOp} {tx : TypeId} {x : Operand} {a v : Value} (ho : ops[i]? = some ⟨some d, .unOp op tx x, ty, pos, aft, g⟩) (hw : wantL ops l g = true) (hx : opd l x = some a) (hb : Una P op a v) (hd : Nat.blt d n = true) : Vop P w0 S n h ops i l d (v) :=
 .of ho hw rfl rfl hd (fun t w Ds _ hF _ => ⟨.value v, by
  have := hb w
  simp only [execOp, hF.opd hx]
  rw [Sem.run_bind, this]; rfl, rfl⟩)
def Cnv (P : Program) (s t : TypeId) (a v : Value) : Prop := ∀ (w : World), (convert s t a).run P w = .ok v w
theorem Vop.conv {s t : TypeId} {x : Operand} {a v : Value} (ho : ops[i]? = some ⟨some d, .convert s t x, ty, pos, aft, g⟩) (hw : wantL ops l g = true) (hx : opd l x = some a) (hb : Cnv P s t a v) (hd : Nat.blt d n = true) : Vop P w0 S n h ops i l d (v) :=
 .of ho hw rfl rfl hd (fun t w Ds _ hF _ => ⟨.value v, by
  have := hb w
  simp only [execOp, hF.opd hx]
  rw [Sem.run_bind, this]; rfl, rfl⟩)
theorem Vop.ext {x : Operand} {j : Nat} {vs : Array Value} {v : Value} (ho : ops[i]? = some ⟨some d, .extract x j, ty, pos, aft, g⟩) (hw : wantL ops l g = true) (hx : opd l x = some (.tuple vs)) (hb : vs[j]? = some v) (hd : Nat.blt d n = true) : Vop P w0 S n h ops i l d (v) :=
 .of ho hw rfl rfl hd (fun t w Ds _ hF _ => ⟨.value v, by
  simp only [execOp, hF.opd hx, Instr.extract, hb]; rfl, rfl⟩)
theorem Vop.mkFunc {fn : Fn} {first captured : Array Operand} {fs cs : List Value} (ho : ops[i]? = some ⟨some d, .makeFunc fn first captured, ty, pos, aft, g⟩) (hw : wantL ops l g = true) (hf : opds l first.toList = some fs) (hc : opds l captured.toList = some cs) (hd : Nat.blt d n = true) : Vop P w0 S n h ops i l d (.func fn fs.toArray cs.toArray) :=
 .of ho hw rfl rfl hd (fun t w Ds _ hF _ => ⟨.value (.func fn fs.toArray cs.toArray), by
  have e1 : first.map (Act.eval ⟨t, Ds.map mark⟩) = fs.toArray := by rw [← Array.toList_inj]; simp [hF.opds (Ds.map mark) hf]
  have e2 : captured.map (Act.eval ⟨t, Ds.map mark⟩) = cs.toArray := by rw [← Array.toList_inj]; simp [hF.opds (Ds.map mark) hc]
  simp only [execOp, Instr.makeFunc, e1, e2]; rfl, rfl⟩)
def Blt (P : Program) (b : Builtin) (ts : Array TypeId) (ty : TypeId) (vs : List Value) (v : Value) : Prop := ∀ (cs : Array Bool) (w : World), (builtin b ts ty cs vs.toArray).run P w = .ok (.value v) w
theorem Vop.blt {b : Builtin} {az : Array Operand} {ts : Array TypeId} {vs : List Value} {v : Value} (ho : ops[i]? = some ⟨some d, .call ⟨.builtin b, az, ts⟩, ty, pos, aft, g⟩) (hw : wantL ops l g = true) (hx : opds l az.toList = some vs) (hb : Blt P b ts ty vs v) (hd : Nat.blt d n = true) : Vop P w0 S n h ops i l d (v) :=
 .of ho hw rfl rfl hd (fun t w Ds _ hF _ => ⟨.value v, by
  have e1 : az.map (Act.eval ⟨t, Ds.map mark⟩) = vs.toArray := by rw [← Array.toList_inj]; simp [hF.opds (Ds.map mark) hx]
  have := hb (az.map fun | .const _ => true | _ => false) w
  simp only [execOp, resolve, e1, Sem.run_bind, Sem.run_pure, Result.andThen_ok, invoke]
  exact this, rfl⟩)
theorem blt_len_slice {t e : TypeId} (hu : P.underlying t = some (.slice e)) {a : Option Addr} {m c : Nat} : Blt P .len #[t] ty [.slice a m c] (.int .i64 m) := by
 intro cs w
 simp [builtin, Builtin.len_, run_underlying hu, goInt]

/-! slices that are read -/
def adr (a : Option Addr) (i : Nat) : Addr := ⟨(a.getD ⟨0, 0, none⟩).block, (a.getD ⟨0, 0, none⟩).off + i, none⟩
structure Sl (w : World) (a : Option Addr) (xs : List Value) : Prop where
  isSome : 0 < xs.length → ∃ b o, a = some ⟨b, o, none⟩ ∧ b < w.heap.size
  cell : ∀ i, i < xs.length → w.cell? (adr a i) = some (xs.getD i undef)
theorem Sl.ex {w0 w : World} {S : List Nat} {a : Option Addr} {xs : List Value} (h : Sl w0 a xs) (e : Ex S w0 w) (hS : ∀ b o, a = some ⟨b, o, none⟩ → b ∉ S) : Sl w a xs := by
 refine ⟨fun h0 => ?_, fun i hi => ?_⟩
 ·obtain ⟨b, o, ha, hb⟩ := h.isSome h0
  exact ⟨b, o, ha, Nat.lt_of_lt_of_le hb e.size⟩
 ·obtain ⟨b, o, ha, hb⟩ := h.isSome (by omega)
  rw [← h.cell i hi]
  refine World.cell?_of_block ?_
  subst ha
  exact e.block b hb (hS b o rfl)
theorem Sl.nil (w : World) (a : Option Addr) : Sl w a [] := ⟨fun h => by simp at h, fun i hi => by simp at hi⟩
theorem Sl.blk {w : World} {b : Nat} {xs sp : List Value} {e : TypeId} {fr : Nat × Nat} (h : w.heap[b]? = some (.cells (xs ++ sp).toArray e fr)) : Sl w (some ⟨b, 0, none⟩) xs := by
 refine ⟨fun _ => ⟨b, 0, rfl, (Array.getElem?_eq_some_iff.1 h).1⟩, fun i hi => ?_⟩
 simp [World.cell?, adr, h, List.getElem?_append, hi]
theorem idx_run {w : World} {a : Option Addr} {xs : List Value} (h : Sl w a xs) {t e : TypeId}
  (hu : P.underlying t = some (.slice e)) (he : ∀ w, (sizeOf e).run P w = .ok 1 w) (cap : Nat) (kd : IntKind) (j : Nat) (hj : j < xs.length) (w' : World) :
  (Instr.indexAt t (.slice a xs.length cap) (.int kd j)).run P w' = .ok (.pointer (some (adr a j))) w' := by
 obtain ⟨b, o, rfl, _⟩ := h.isSome (by omega)
 simp only [Instr.indexAt, asIntOf, Sem.run_bind, Sem.run_pure, Result.andThen_ok, run_underlying hu]
 rw [if_pos ⟨by omega, by omega⟩]
 simp only [Sem.run_bind, he, Result.andThen_ok, Sem.run_pure, Addr.add, adr, Nat.mul_one, Option.getD_some, Int.toNat_natCast]
 split
 ·rename_i h0; rw [h0]; rfl
 ·rfl
theorem Vop.idx {t e : TypeId} {x y : Operand} {a : Option Addr} {m cap : Nat} {kd : IntKind} {j : Int} {xs : List Value} (ho : ops[i]? = some ⟨some d, .indexAddr t x y, ty, pos, aft, g⟩) (hw : wantL ops l g = true)
  (hx : opd l x = some (.slice a m cap)) (hy : opd l y = some (.int kd j)) (hd : Nat.blt d n = true) (hu : P.underlying t = some (.slice e)) (he : ∀ w, (sizeOf e).run P w = .ok 1 w)
  (hs : ∃ w, Sl w a xs) (hm : m = xs.length) (j' : Nat) (hj : j = j' ∧ j' < xs.length) : Vop P w0 S n h ops i l d (.pointer (some (adr a j'))) := by
 obtain ⟨w1, hs⟩ := hs
 obtain ⟨rfl, hj⟩ := hj
 subst hm
 exact .of ho hw rfl rfl hd (fun t w Ds _ hF _ => ⟨.value (.pointer (some (adr a j'))), by
  simp only [execOp, hF.opd hx, hF.opd hy, Sem.run_bind, idx_run hs hu he cap kd j' hj w]; rfl, rfl⟩)
theorem load_run {t : TypeId} (ha : ∀ w, (isAgg t).run P w = .ok false w) {p : Addr} {v : Value} {w : World} (hc : w.cell? p = some v) : (Instr.loadAt t (.pointer (some p))).run P w = .ok v w := by
 simp [Instr.loadAt, Instr.sureAddr, loadVar, ha, hc]
theorem Vop.ld {t : TypeId} {x : Operand} {p : Addr} {v : Value} (ho : ops[i]? = some ⟨some d, .load t x, ty, pos, aft, g⟩) (hw : wantL ops l g = true)
  (hx : opd l x = some (.pointer (some p))) (hd : Nat.blt d n = true) (ha : ∀ w, (isAgg t).run P w = .ok false w) (hc : ∀ w Y', St w0 S w h Y' → w.cell? p = some v) : Vop P w0 S n h ops i l d (v) :=
 .of ho hw rfl rfl hd (fun t w Ds _ hF hS => ⟨.value v, by
  simp only [execOp, hF.opd hx, Sem.run_bind, load_run ha (hc w _ hS)]; rfl, rfl⟩)
theorem Vop.ldo {t : TypeId} {x : Operand} {b off : Nat} {cs : Array Value} {e : TypeId} {fr : Nat × Nat} {v : Value} (ho : ops[i]? = some ⟨some d, .load t x, ty, pos, aft, g⟩) (hw : wantL ops l g = true)
  (hx : opd l x = some (.pointer (some ⟨b, off, none⟩))) (hd : Nat.blt d n = true) (ha : ∀ w, (isAgg t).run P w = .ok false w) (j : Nat) (hj : h[j]? = some (some b, .cells cs e fr)) (hv : cs[off]? = some v) : Vop P w0 S n h ops i l d (v) :=
 Vop.ld ho hw hx hd ha (fun w Ds hS => by simp [World.cell?, hS.get hj, hv])
theorem store_run {t : TypeId} (hz : ∀ w, (sizeOf t).run P w = .ok 1 w) {b off : Nat} {cs : Array Value} {e : TypeId} {v : Value} {w : World} (hb : w.heap[b]? = some (.cells cs e (0, 0))) (ho : off < cs.size) (hv : v.oneCell' = true) :
  (Instr.storeAt t (.pointer (some ⟨b, off, none⟩)) v).run P w = .ok () (w.setCell ⟨b, off, none⟩ v) := by
 have hcell : w.cell? ⟨b, off, none⟩ = some cs[off] := by simp [World.cell?, hb, ho]
 have hfr : w.frozen? ⟨b, off, none⟩ = false := by simp [World.frozen?, hb]
 have hcs : v.cells = #[v] := by cases v <;> first | rfl | cases hv
 simp only [Instr.storeAt, Instr.sureAddr, storeVar, Sem.run_bind, Sem.run_pure, Result.andThen_ok, hz, hcs]
 simp only [List.size_toArray, List.length_cons, List.length_nil, Nat.zero_add, ne_eq, not_true_eq_false, if_false]
 simp [storeCells, run_store _ _ _ _ _ hv, hcell, hfr, Addr.add]
theorem GoH.st {t : TypeId} {x y : Operand} {b off : Nat} {cs : Array Value} {e : TypeId} {v : Value} (ho : ops[i]? = some ⟨none, .store t x y, ty, pos, aft, g⟩) (hw : wantL ops l g = true)
  (hx : opd l x = some (.pointer (some ⟨b, off, none⟩))) (hy : opd l y = some v) (hz : ∀ w, (sizeOf t).run P w = .ok 1 w) (hv : v.oneCell' = true) (j : Nat) (hj : h[j]? = some (some b, .cells cs e (0, 0))) (hoff : Nat.blt off cs.size = true)
  (hk : GoH P r f R w0 S Y n (.inRegion ops rest :: k) l (h.set j (some b, .cells (cs.setIfInBounds off v) e (0, 0)))) : GoH P r f R w0 S Y n (.inRegion ops (i :: rest) :: k) l h :=
 .eff ho hw rfl rfl (fun t' w Ds _ hF hS => by
  refine ⟨w.setCell ⟨b, off, none⟩ v, _, ?_, hS.turn hj (o' := .cells (cs.setIfInBounds off v) e (0, 0)) rfl rfl rfl rfl ?_ ?_ ?_, hk⟩
  ·simp only [execOp, hF.opd hx, hF.opd hy, Sem.run_bind, store_run hz (hS.get hj) (by simpa [Nat.blt_eq] using hoff) hv]; rfl
  ·simp [World.setCell]
  ·obtain ⟨hlt, hg⟩ := Array.getElem?_eq_some_iff.1 (hS.get hj)
   simp only [World.setCell]
   rw [Array.getElem?_modify, if_pos rfl, hS.get hj]; rfl
  ·intro q _ hq
   exact Below.heap_setCell _ _ _ _ hq)
theorem GoH.alc {e : TypeId} {z : Value} (ho : ops[i]? = some ⟨some d, .alloc e, ty, pos, aft, g⟩) (hw : wantL ops l g = true) (hd : Nat.blt d n = true) (hz : ∀ w, (zeroValue e).run P w = .ok z w)
  (hk : ∀ b, GoH P r f R w0 S Y n (.inRegion ops rest :: k) ((d, .pointer (some ⟨b, 0, none⟩)) :: l) ((some b, .cells z.cells e) :: h)) : GoH P r f R w0 S Y n (.inRegion ops (i :: rest) :: k) l h :=
 .mem ho hw rfl rfl hd (fun t' w Ds _ hF hS => ⟨.pointer (some ⟨w.heap.size, 0, none⟩), w.alloc (.cells z.cells e), _, by
  simp [execOp, Instr.alloc, hz, newVar, newRow], hS.alloc rfl, hk _⟩)
theorem GoH.bx {e : TypeId} {x : Operand} {v : Value} (ho : ops[i]? = some ⟨some d, .box e x, ty, pos, aft, g⟩) (hw : wantL ops l g = true) (hx : opd l x = some v) (hd : Nat.blt d n = true)
  (hk : ∀ b, GoH P r f R w0 S Y n (.inRegion ops rest :: k) ((d, .pointer (some ⟨b, 0, none⟩)) :: l) ((some b, .cells v.cells e) :: h)) : GoH P r f R w0 S Y n (.inRegion ops (i :: rest) :: k) l h :=
 .mem ho hw rfl rfl hd (fun t' w Ds _ hF hS => ⟨.pointer (some ⟨w.heap.size, 0, none⟩), w.alloc (.cells v.cells e), _, by
  simp [execOp, Instr.box, hF.opd hx, newVar, newRow], hS.alloc rfl, hk _⟩)
theorem ex_grown {w w' : World} (hg : w.grownBy w' none) : Ex [] w w' := ⟨hg.os, hg.tape, hg.output, hg.size, fun b hb _ => hg.block b hb (by simp)⟩
def osv (q : Option Nat) (n cap : Nat) : Value := .slice (q.map (fun b => ⟨b, 0, none⟩)) n cap
theorem made_one (z : Value) (hz1 : z.cells = #[z]) (m : Nat) : (madeCells z.cells (m * 1)).toList = List.replicate m z := by
 rw [hz1]
 apply List.ext_getElem?
 intro q
 simp only [madeCells, Array.toList_map, Array.toList_range, List.getElem?_map, Nat.mul_one, List.getElem?_replicate]
 by_cases hq : q < m
 ·simp [hq, Nat.mod_one]
 ·simp [hq]
theorem GoH.mks {t e : TypeId} {x y : Operand} {kx ky : IntKind} {m : Nat} {inf : TypeInfo} {z : Value} (ho : ops[i]? = some ⟨some d, .makeSlice t x y, ty, pos, aft, g⟩) (hw : wantL ops l g = true) (hx : opd l x = some (.int kx m)) (hy : opd l y = some (.int ky m)) (hd : Nat.blt d n = true)
  (hu : P.underlying t = some (.slice e)) (hi : P.info? e = some inf) (hz : inf.zero = some z) (hz1 : z.cells = #[z]) (hs : inf.size = 1) (hb : inf.bytes * m ≤ 281474976710656) (hm : m ≤ maxLen)
  (hk : ∀ b, GoH P r f R w0 S Y n (.inRegion ops rest :: k) ((d, osv (some b) m m) :: l) ((some b, .cells (List.replicate m z ++ []).toArray e) :: h)) : GoH P r f R w0 S Y n (.inRegion ops (i :: rest) :: k) l h :=
 .mem ho hw rfl rfl hd (fun t' w Ds _ hF hS => by
  obtain ⟨w', hrun, ⟨_, hown⟩, hg⟩ := run_make_full (P := P) w w.heap.size t e inf z 1 hu hi hz hs kx ky m hb hm (Nat.le_refl _)
  rw [made_one z hz1] at hown
  rcases hown with ⟨h1, _⟩ | ⟨b, cap, cur, hv, hbg, hheap, hnc, _, hcs, htk⟩
  ·simp at h1
  ·simp only [Value.slice.injEq, Option.some.injEq, Addr.mk.injEq, and_true, true_and] at hv
   obtain ⟨rfl, rfl⟩ := hv
   have hcur : cur = (List.replicate m z ++ []).toArray := by
    rw [← Array.toList_inj, List.append_nil]
    rw [← htk, List.take_of_length_le (by simp [hcs])]
   rw [hcur] at hheap
   refine ⟨_, w', _, ?_, hS.gain (ex_grown hg) hheap rfl hbg, hk _⟩
   simp [execOp, hF.opd hx, hF.opd hy, hrun, osv])

theorem app_run {t e : TypeId} {inf : TypeInfo} {z : Value} (hu : P.underlying t = some (.slice e)) (hi : P.info? e = some inf) (hz : inf.zero = some z) {size : Nat} (hsz : inf.size = size) (hz1 : z.cells.size = size)
    {w : World} {Ds : List (Nat × Obj)} (hS : St w0 S w h Ds) {q : Option Nat} {xs sp : List Value} {nx : Nat} (hnx : xs.length = nx * size) {cap : Nat} (hcap : (xs ++ sp).length = cap * size) (hq : q = none → nx = 0 ∧ cap = 0) {j : Nat} (hj : h[j]? = some (q, .cells (xs ++ sp).toArray e (0, 0)))
    {a : Addr} {m c : Nat} {news : List Value} (hl : news.length = m * size) (hm0 : 0 < m) (hnews : ∀ j u, news[j]? = some u → w.cell? (a.add j) = some u) (h1 : ∀ u ∈ news, u.oneCell' = true) (hmx : nx + m ≤ maxLen) (hbytes : (nx + m) * inf.bytes ≤ 140737488355328) (ty : TypeId) :
    ∃ b' sp' cap' w', (Builtin.append_ #[t, t] ty #[osv q nx cap, .slice (some a) m c]).run P w = .ok (osv (some b') (nx + m) cap') w' ∧ (xs ++ news ++ sp').length = cap' * size ∧
      St w0 S w' (h.set j (some b', .cells (xs ++ news ++ sp').toArray e (0, 0))) Ds := by
  subst hsz
  have hsmall : nx + m ≤ 9223372036854775807 := by simp only [maxLen] at hmx; omega
  have hzc : ∀ q, (Builtin.zeroCells z.cells q).toList.length = q * inf.size := fun q => by simp [size_zeroCells, hz1]
  cases q with
  | none =>
    obtain ⟨rfl, rfl⟩ := hq rfl
    obtain rfl : xs = [] := List.eq_nil_of_length_eq_zero (by simpa using hnx)
    have hr := run_append_nil (P := P) w t ty e inf z hu hi hz a m c news hl hnews hm0 (by omega) (by simp only [Nat.zero_add] at hbytes; omega)
    have hge := grownCap_ge w m 0 e
    refine ⟨w.heap.size, (Builtin.zeroCells z.cells (grownCap w m 0 e - m)).toList, grownCap w m 0 e, w.drew.alloc (.cells (news.toArray ++ Builtin.zeroCells z.cells (grownCap w m 0 e - m)) e), ?_, ?_, ?_⟩
    · simp only [osv, Nat.zero_add, Option.map_some, Option.map_none]; exact hr
    · rw [List.nil_append, List.length_append, hl, hzc, ← Nat.add_mul]; congr 1; omega
    · refine hS.swap ((ex_drew w).trans (ex_alloc w.drew _) (by simp)) j ?_ rfl (Nat.le_refl _)
      have := heap_alloc_new w.drew (.cells (news.toArray ++ Builtin.zeroCells z.cells (grownCap w m 0 e - m)) e)
      rw [show w.drew.heap.size = w.heap.size from rfl] at this
      rw [this]; congr 2; rw [← Array.toList_inj]; simp
  | some b =>
    have hb := hS.get hj
    have hlo : xs.length ≤ (xs ++ sp).length := by simp
    by_cases hroom : nx + m ≤ cap
    · have hfit : nx * inf.size + news.length ≤ (xs ++ sp).toArray.size := by
        rw [List.size_toArray, hcap, hl, ← Nat.add_mul]; exact Nat.mul_le_mul_right _ hroom
      have hr := run_append_room (P := P) w t ty e inf hu hi b nx cap _ hb a m c news hl hnews h1 hroom hfit
      have hsz0 : (xs ++ sp).toArray.size = (xs ++ sp).length := by simp
      have hrow : ((xs ++ sp).toArray.toList.take (nx * inf.size) ++ news ++ (xs ++ sp).toArray.toList.drop (nx * inf.size + news.length)) = xs ++ news ++ sp.drop news.length := by
        simp only [← hnx]
        rw [List.take_left, List.drop_append, List.drop_eq_nil_of_le (by omega), List.nil_append]
        congr 2; omega
      rw [hrow] at hr
      refine ⟨b, sp.drop news.length, cap, w.setRow b (xs ++ news ++ sp.drop news.length).toArray, hr, ?_, hS.turn hj rfl rfl rfl rfl (by simp [World.setRow]) (setRow_heap w b _ _ e _ hb) (fun i _ hi => setRow_other w b i _ hi)⟩
      rw [hsz0] at hfit
      rw [← hcap]
      simp only [List.length_append, List.length_drop] at hfit ⊢
      omega
    · have holds : ∀ j v, xs[j]? = some v → w.cell? ((⟨b, 0, none⟩ : Addr).add j) = some v := by
        intro j v hv
        have hjl := (List.getElem?_eq_some_iff.1 hv).1
        have e1 : (⟨b, 0, none⟩ : Addr).add j = ⟨b, j, none⟩ := by unfold Addr.add; split; (rename_i h0; rw [h0]); simp
        rw [e1]
        rw [List.getElem?_eq_getElem hjl] at hv; cases hv
        simp [World.cell?, hb, List.getElem?_append, hjl]
      have hfit : Builtin.nextslicecap (nx + m) cap * inf.bytes ≤ 281474976710656 := by
        have := nextslicecap_le (need := nx + m) (old := cap) (by omega)
        calc _ ≤ (2 * (nx + m)) * inf.bytes := Nat.mul_le_mul_right _ this
          _ ≤ _ := by rw [Nat.mul_assoc]; omega
      have hr := run_append_grow (P := P) w t ty e inf z hu hi hz ⟨b, 0, none⟩ nx cap xs hnx holds a m c news hl hnews (by omega) (by omega) hfit
      have hge := grownCap_ge w (nx + m) cap e
      refine ⟨w.heap.size, (Builtin.zeroCells z.cells (grownCap w (nx + m) cap e - (nx + m))).toList, grownCap w (nx + m) cap e, _, hr, ?_, ?_⟩
      · rw [List.length_append, List.length_append, hl, hnx, hzc, ← Nat.add_mul, ← Nat.add_mul]; congr 1; omega
      · refine hS.swap ((ex_drew w).trans (ex_alloc w.drew _) (by simp)) j ?_ rfl (Nat.le_refl _)
        have := heap_alloc_new w.drew (.cells (xs.toArray ++ news.toArray ++ Builtin.zeroCells z.cells (grownCap w (nx + m) cap e - (nx + m))) e)
        rw [show w.drew.heap.size = w.heap.size from rfl] at this
        rw [this]; congr 2; rw [← Array.toList_inj]; simp

theorem GoH.app {t e : TypeId} {x y : Operand} {inf : TypeInfo} {z : Value} {q : Option Nat} {xs sp : List Value} {nx cap : Nat} {bn m c : Nat} {news spn : List Value} {en : TypeId} {frn : Nat × Nat} (size : Nat)
  (ho : ops[i]? = some ⟨some d, .call ⟨.builtin .append, #[x, y], #[t, t]⟩, ty, pos, aft, g⟩) (hw : wantL ops l g = true) (hx : opd l x = some (osv q nx cap)) (hy : opd l y = some (.slice (some ⟨bn, 0, none⟩) m c)) (hd : Nat.blt d n = true)
  (hu : P.underlying t = some (.slice e)) (hi : P.info? e = some inf) (hz : inf.zero = some z) (hsz : inf.size = size) (hz1 : z.cells.size = size)
  (hq : q = none → nx = 0 ∧ cap = 0) (j : Nat) (hj : h[j]? = some (q, .cells (xs ++ sp).toArray e (0, 0))) (jn : Nat) (hjn : h[jn]? = some (some bn, .cells (news ++ spn).toArray en frn))
  (hnx : xs.length = nx * size) (hcap : (xs ++ sp).length = cap * size) (hl : news.length = m * size) (hm0 : 0 < m) (h1 : ∀ u ∈ news, u.oneCell' = true) (hmx : nx + m ≤ maxLen) (hbytes : (nx + m) * inf.bytes ≤ 140737488355328)
  (hk : ∀ b' sp' cap', (xs ++ news ++ sp').length = cap' * size → GoH P r f R w0 S Y n (.inRegion ops rest :: k) ((d, osv (some b') (nx + m) cap') :: l) (h.set j (some b', .cells (xs ++ news ++ sp').toArray e (0, 0)))) : GoH P r f R w0 S Y n (.inRegion ops (i :: rest) :: k) l h :=
 .mem ho hw rfl rfl hd (fun t' w Ds _ hF hS => by
  have hbn := hS.get hjn
  have hnews : ∀ j u, news[j]? = some u → w.cell? ((⟨bn, 0, none⟩ : Addr).add j) = some u := by
   intro j u hv
   have hjl := (List.getElem?_eq_some_iff.1 hv).1
   have e1 : (⟨bn, 0, none⟩ : Addr).add j = ⟨bn, j, none⟩ := by unfold Addr.add; split; (rename_i h0; rw [h0]); simp
   rw [e1]
   rw [List.getElem?_eq_getElem hjl] at hv; cases hv
   simp [World.cell?, hbn, List.getElem?_append, hjl]
  obtain ⟨b', sp', cap', w', hrun, hlen, hS'⟩ := app_run hu hi hz hsz hz1 hS hnx hcap hq hj (c := c) hl hm0 hnews h1 hmx hbytes ty
  refine ⟨_, w', _, ?_, hS', hk b' sp' cap' hlen⟩
  have e1 : (#[x, y] : Array Operand).map (Act.eval ⟨t', Ds.map mark⟩) = #[osv q nx cap, .slice (some ⟨bn, 0, none⟩) m c] := by simp [hF.opd hx, hF.opd hy]
  simp only [execOp, resolve, e1, Sem.run_bind, Sem.run_pure, Result.andThen_ok, invoke, builtin, hrun])
def Cn (P : Program) (gf : FuncId) (args : List Value) (w : World) (Rc : Value → World → Prop) : Prop :=
 Calls P gf args.toArray w fun e w' => ∃ v, e = .returned v ∧ (Ex [] w w' ∧ Rc v w')
theorem resolve_run {az : Array Operand} {ts : Array TypeId} {cal : Operand} {fn : Fn} {first captured : Array Value} {vs : List Value} {t : Array Value} {Ds : List Nat} {w : World} (hF : Frm n t l) (hc : opd l cal = some (.func fn first captured)) (hx : opds l az.toList = some vs) :
  (resolve (Act.eval ⟨t, Ds.map mark⟩) ⟨.value cal, az, ts⟩ ty).run P w = .ok { target := .fn fn captured, args := first ++ vs.toArray } w := by
 have e1 : az.map (Act.eval ⟨t, Ds.map mark⟩) = vs.toArray := by rw [← Array.toList_inj]; simp [hF.opds (Ds.map mark) hx]
 simp only [resolve, e1, hF.opd hc, Deferred.ofValue, Sem.run_pure]
theorem GoH.callG {az : Array Operand} {ts : Array TypeId} {cal : Operand} {gf : FuncId} {first captured : Array Value} {vs : List Value} (ho : ops[i]? = some ⟨some d, .call ⟨.value cal, az, ts⟩, ty, pos, aft, g⟩) (hw : wantL ops l g = true)
  (hc : opd l cal = some (.func (.func gf) first captured)) (hx : opds l az.toList = some vs) (hd : Nat.blt d n = true) (hcf : ∀ args w, (callFunc gf args).run P w = .ok (.enter gf args) w)
  (hk : ∀ w Y', St w0 S w h Y' → ∃ Rc : Value → World → Prop, (Calls P gf (first ++ vs.toArray ++ captured) w fun e w' => ∃ v, e = .returned v ∧ Rc v w') ∧ ∀ v w', Rc v w' → ∃ h', St w0 S w' h' Y' ∧ GoH P r f R w0 S Y n (.inRegion ops rest :: k) ((d, v) :: l) h') :
  GoH P r f R w0 S Y n (.inRegion ops (i :: rest) :: k) l h := by
 intro t w Ds hF hS
 obtain ⟨Rc, hcall, hres⟩ := hk w _ hS
 refine Gos.call (Rc := Rc) (g := gf) (args := first ++ vs.toArray ++ captured) (w' := w) ho (want_of hF hw) (not_defer rfl) ?_ hcall (fun v w2 hR => ?_)
 ·simp only [execOp, Sem.run_bind, resolve_run hF hc hx, Result.andThen_ok, invoke, hcf]
 ·obtain ⟨h', hS', hgo⟩ := hres v w2 hR
  exact hgo _ w2 Ds (hF.put v hd) hS'
theorem GoH.callP {az : Array Operand} {ts : Array TypeId} {cal : Operand} {gf : FuncId} {vs : List Value} {v : Value} (ho : ops[i]? = some ⟨some d, .call ⟨.value cal, az, ts⟩, ty, pos, aft, g⟩) (hw : wantL ops l g = true)
  (hc : opd l cal = some (.func (.func gf) #[] #[])) (hx : opds l az.toList = some vs) (hd : Nat.blt d n = true) (hcf : ∀ args w, (callFunc gf args).run P w = .ok (.enter gf args) w)
  (hcall : ∀ w Y', St w0 S w h Y' → Cn P gf vs w (fun u _ => u = v))
  (hk : GoH P r f R w0 S Y n (.inRegion ops rest :: k) ((d, v) :: l) h) : GoH P r f R w0 S Y n (.inRegion ops (i :: rest) :: k) l h :=
 .callG ho hw hc hx hd hcf (fun w Ds hS => ⟨fun u w' => Ex [] w w' ∧ u = v, by
  have := hcall w Ds hS
  unfold Cn at this
  simpa using this, fun u w' ⟨he, hu⟩ => ⟨h, hS.later he, hu ▸ hk⟩⟩)
theorem GoH.callM {az : Array Operand} {ts : Array TypeId} {cal : Operand} {gf : FuncId} {vs : List Value} (Rc : World → Value → World → Prop) (ho : ops[i]? = some ⟨some d, .call ⟨.value cal, az, ts⟩, ty, pos, aft, g⟩) (hw : wantL ops l g = true)
  (hc : opd l cal = some (.func (.func gf) #[] #[])) (hx : opds l az.toList = some vs) (hd : Nat.blt d n = true) (hcf : ∀ args w, (callFunc gf args).run P w = .ok (.enter gf args) w)
  (hcall : ∀ w Y', St w0 S w h Y' → Cn P gf vs w (Rc w))
  (hk : ∀ v w w' Y', St w0 S w h Y' → Ex [] w w' → Rc w v w' → ∃ h', St w0 S w' h' Y' ∧ GoH P r f R w0 S Y n (.inRegion ops rest :: k) ((d, v) :: l) h') : GoH P r f R w0 S Y n (.inRegion ops (i :: rest) :: k) l h :=
 .callG ho hw hc hx hd hcf (fun w Ds hS => ⟨fun u w' => Ex [] w w' ∧ Rc w u w', by
  have := hcall w Ds hS
  unfold Cn at this
  simpa using this, fun u w' ⟨he, hu⟩ => hk u w w' Ds hS he hu⟩)
end
/-! ### the ends -/
def shut (w : World) : List Nat → World
 | [] => w
 | D :: Ds => shut { w with heap := w.heap.setIfInBounds D (.deferred none) } Ds
theorem shut_ex {w0 : World} : ∀ {Ds : List Nat} {w : World}, (∀ D ∈ Ds, w0.heap.size ≤ D) → (shut w Ds).os = w.os ∧ (shut w Ds).tape = w.tape ∧ (shut w Ds).output = w.output ∧ (shut w Ds).heap.size = w.heap.size ∧ ∀ b, b ∉ Ds → (shut w Ds).heap[b]? = w.heap[b]?
 | [], w, _ => ⟨rfl, rfl, rfl, rfl, fun _ _ => rfl⟩
 | D :: Ds, w, h => by
  obtain ⟨h1, h2, h3, h4, h5⟩ := shut_ex (Ds := Ds) (w := { w with heap := w.heap.setIfInBounds D (.deferred none) }) (fun D hD => h D (List.mem_cons_of_mem _ hD))
  refine ⟨h1, h2, h3, by rw [shut, h4]; simp, fun b hb => ?_⟩
  rw [shut, h5 b (fun hm => hb (List.mem_cons_of_mem _ hm))]
  have : D ≠ b := fun e => hb (by rw [e]; exact List.mem_cons_self ..)
  simp [this]
theorem shut_steps {P : Program} : ∀ {Ds : List Nat} {w : World} {fr : Frame} {cs : List Frame}, fr.mode = .returning → fr.defers = Ds.map mark → (∀ D ∈ Ds, w.heap[D]? = some (.deferred (some []))) → Ds.Nodup →
  Steps P (lone fr cs w) (lone { fr with defers := [] } cs (shut w Ds))
 | [], w, fr, cs, hm, hd, _, _ => by
  have : fr = { fr with defers := [] } := by cases fr; simp at hd; simp [hd]
  rw [← this]; exact .refl _ _
 | D :: Ds, w, fr, cs, hm, hd, hall, hn => by
  have hD := hall D (List.mem_cons_self ..)
  have htake : (Instr.takeDeferred D).run P w = .ok [] { w with heap := w.heap.setIfInBounds D (.deferred none) } := by
   simp [Instr.takeDeferred, getObj, setObj, Sem.run, hD, bind, Sem.bind, pure]
  have h1 := step_collected (P := P) (fr := fr) (cs := cs) (w := w) (d := mark D) (ds := Ds.map mark) (by rw [hm]; simp) hd rfl htake
  rw [List.nodup_cons] at hn
  refine .head h1 (shut_steps (fr := { fr with defers := [] ++ Ds.map mark }) hm rfl (fun D' hD' => ?_) hn.2)
  have : D ≠ D' := fun e => hn.1 (e ▸ hD')
  simp [this]
  exact hall D' (List.mem_cons_of_mem _ hD')
def resL (l : Fl) : List ResultVar → Option (List Value)
 | [] => some []
 | .tmp t :: rs => match look l t, resL l rs with
  | some v, some vs => some (v :: vs)
  | _, _ => none
 | _ => none
def retV : List Value → Value
 | [v] => v
 | vs => .tuple vs.toArray
theorem mem_mkY {Ds : List Nat} {D : Nat} (h : D ∈ Ds) : (D, (.deferred (some []) : Obj)) ∈ mkY Ds := List.mem_map.2 ⟨D, h, rfl⟩
theorem mkY_fst (Ds : List Nat) : (mkY Ds).map (·.1) = Ds := by simp [mkY, Function.comp_def]
theorem St.marks {w0 : World} {S : List Nat} {w : World} {h : Hl} {Y : List (Nat × Obj)} {Ds : List Nat} (s : St w0 S w h (mkY Ds ++ Y)) : (∀ D ∈ Ds, w0.heap.size ≤ D ∧ w.heap[D]? = some (.deferred (some []))) ∧ Ds.Nodup := by
 refine ⟨fun D hD => ?_, ?_⟩
 ·obtain ⟨h1, h2, _⟩ := s.sys _ (List.mem_append_left _ (mem_mkY hD))
  exact ⟨h1, h2⟩
 ·have := s.ynd
  rw [List.map_append, mkY_fst] at this
  exact (List.nodup_append.1 this).1
theorem St.shut {w0 : World} {S : List Nat} {w : World} {h : Hl} {Y : List (Nat × Obj)} {Ds : List Nat} (s : St w0 S w h (mkY Ds ++ Y)) : St w0 S (shut w Ds) h Y := by
 have hm := s.marks
 obtain ⟨h1, h2, h3, h4, h5⟩ := shut_ex (w0 := w0) (Ds := Ds) (w := w) (fun D hD => (hm.1 D hD).1)
 have hnd := s.ynd
 rw [List.map_append, mkY_fst, List.nodup_append] at hnd
 refine ⟨⟨h1.trans s.ext.os, h2.trans s.ext.tape, h3.trans s.ext.output, by rw [h4]; exact s.ext.size, fun b hb hn => ?_⟩, fun p hp b hb => ?_, s.apart, fun p hp => ?_, hnd.2.1⟩
 ·rw [h5 b (fun hmm => by have := (hm.1 b hmm).1; omega)]; exact s.ext.block b hb hn
 ·obtain ⟨q1, q2, q3⟩ := s.own p hp b hb
  refine ⟨?_, q2, q3⟩
  rw [h5 b ?_]; exact q1
  intro hmm
  have e1 := q1.symm.trans (hm.1 b hmm).2
  rw [Option.some.inj e1] at q2; cases q2
 ·obtain ⟨q1, q2, q3⟩ := s.sys p (List.mem_append_right _ hp)
  refine ⟨q1, ?_, q3⟩
  rw [h5 p.1 (fun hmm => hnd.2.2 _ hmm _ (List.mem_map.2 ⟨p, hp, rfl⟩) rfl)]; exact q2

theorem mapM_tmp {P : Program} {w : World} {n : Nat} {t : Array Value} {l : Fl} (hF : Frm n t l) : ∀ {rs : List ResultVar} {vs : List Value}, resL l rs = some vs →
  (rs.mapM (m := Sem) fun | .tmp t' => pure (t.getD t' undef) | .cell a ty => do loadVar ty (← asAddr (t.getD a undef))).run P w = .ok vs w
 | [], vs, h => by cases h; rfl
 | .tmp q :: rs, vs, h => by
  simp only [resL] at h
  split at h
  ·rename_i v us hv hus
   cases h
   rw [List.mapM_cons]
   simp only [Sem.run_bind, Sem.run_pure, Result.andThen_ok, mapM_tmp hF hus, hF.2 _ _ hv]
  ·cases h
 | .cell a ty :: rs, vs, h => by cases h
theorem results_run {P : Program} {fn : Func} {w : World} {n : Nat} {t : Array Value} {l : Fl} (hF : Frm n t l) {vs : List Value} (h : resL l fn.results.toList = some vs) : (results fn t).run P w = .ok (retV vs) w := by
 unfold results
 rw [Array.mapM_eq_mapM_toList]
 have hm := mapM_tmp (P := P) (w := w) hF h
 simp only [Sem.run_bind, Sem.run_map, Sem.run_pure]
 refine (congrArg (fun x => (x.andThen fun a w' => Result.ok a.toArray w').andThen fun a w' => Result.ok (if h : a.size = 1 then a[0] else Value.tuple a) w') hm).trans ?_
 simp only [Result.andThen_ok]
 cases vs with
 | nil => rfl
 | cons v us => cases us with
  | nil => rfl
  | cons u us => simp [retV]
section
variable {P : Program} {r : Option Nat} {f : FuncId} {R : Value → World → Prop} {w0 : World} {S : List Nat} {Y : List (Nat × Obj)} {n : Nat} {k k' : List Item} {l l' : Fl} {h h' : Hl} {fn : Func}
theorem gos_leave {t : Array Value} {Ds : List Nat} {w : World} {v : Value} (hf : P.funcs[f]? = some fn) (hS : St w0 S w h (mkY Ds ++ Y)) (hst : ∀ cs, step P (lone (mkF f none t (Ds.map mark) k) cs w) = .next (lone { mkF f none t (Ds.map mark) k with mode := .returning } cs w))
  (hr : (results fn t).run P (shut w Ds) = .ok v (shut w Ds)) (hR : R v (shut w Ds)) : Gos P none f R k t (Ds.map mark) w := by
 intro cs _
 have h2 := shut_steps (P := P) (Ds := Ds) (w := w) (fr := { mkF f none t (Ds.map mark) k with mode := .returning }) (cs := cs) rfl rfl (fun D hD => (hS.marks.1 D hD).2) hS.marks.2
 exact ⟨v, shut w Ds, _, hR, .head (hst cs) h2, _, rfl, rfl, rfl, rfl, rfl, fn, hf, hr⟩
theorem GoH.ret (fn : Func) (hf : P.funcs[f]? = some fn) {vs : List Value} (hres : resL l fn.results.toList = some vs) (hR : ∀ w, St w0 S w h Y → R (retV vs) w) : GoH P none f R w0 S Y n (.code .ret :: k) l h := fun t w Ds hF hS =>
 gos_leave hf hS (fun cs => by rw [mkF_at]; exact stepR_ret rfl) (results_run hF hres) (hR _ hS.shut)
theorem GoH.fin (fn : Func) (hf : P.funcs[f]? = some fn) {vs : List Value} (hres : resL l fn.results.toList = some vs) (hR : ∀ w, St w0 S w h Y → R (retV vs) w) : GoH P none f R w0 S Y n [] l h := fun t w Ds hF hS =>
 gos_leave hf hS (fun cs => by rw [mkF_at]; exact stepR_end rfl) (results_run hF hres) (hR _ hS.shut)
def parL : Nat → List Value → Fl
 | _, [] => []
 | i, v :: vs => (i, v) :: parL (i + 1) vs
theorem look_parL : ∀ {vs : List Value} {i j : Nat} {v : Value}, look (parL i vs) j = some v → i ≤ j ∧ vs[j - i]? = some v
 | [], _, _, _, h => by cases h
 | u :: us, i, j, v, h => by
  unfold parL look at h
  cases hb : Nat.beq i j with
  | true => rw [hb] at h; obtain rfl := Nat.eq_of_beq_eq_true hb; cases h; simp
  | false =>
   rw [hb] at h
   obtain ⟨h1, h2⟩ := look_parL h
   refine ⟨by omega, ?_⟩
   rw [show j - i = (j - (i + 1)) + 1 from by omega, List.getElem?_cons_succ]; exact h2
theorem frm_enter {args : List Value} {nt : Nat} (hn : args.length ≤ nt) : Frm nt (args.toArray ++ Array.replicate (nt - args.toArray.size) undef) (parL 0 args) := by
 refine ⟨by simp; omega, fun i v hv => ?_⟩
 have := (look_parL hv).2
 rw [Nat.sub_zero] at this
 obtain ⟨h1, h2⟩ := List.getElem?_eq_some_iff.1 this
 simp [Array.getD_eq_getD_getElem?, Array.getElem?_append, h1, h2]
theorem calls_of {c : Code} {args : List Value} (hf : P.funcs[f]? = some fn) (hb : fn.body = some c) (hn : Nat.ble args.length fn.ntmps = true) (h : Hl) (hS : St w0 S w0 h [])
  (hgo : GoH P none f R w0 S [] fn.ntmps [.code c] (parL 0 args) h) : Calls P f args.toArray w0 fun e w' => ∃ v, e = .returned v ∧ R v w' := by
 intro cs
 obtain ⟨v, w', m, hR, hst, fr, rfl, hfn, hl⟩ := hgo _ w0 [] (frm_enter (Nat.le_of_ble_eq_true hn)) hS cs (by simp)
 refine ⟨.returned v, w', fr, ⟨v, rfl, hR⟩, ?_, hfn, hl⟩
 have henter : Frame.enter P f args.toArray .normal = mkF f none (args.toArray ++ Array.replicate (fn.ntmps - args.toArray.size) undef) [] [.code c] := by
  simp [Frame.enter, hf, hb, mkF]
 show Steps P _ _
 rw [henter]; exact hst
theorem st_init (w : World) : St w [] w [] [] := ⟨Ex.refl _ _, by simp, .nil, by simp, by simp⟩
theorem Cn.of {c : Code} {args : List Value} {Rc : Value → World → Prop} (hf : P.funcs[f]? = some fn) (hb : fn.body = some c) (hn : Nat.ble args.length fn.ntmps = true)
  (hgo : GoH P none f (fun v w' => Ex [] w0 w' ∧ Rc v w') w0 [] [] fn.ntmps [.code c] (parL 0 args) []) : Cn P f args w0 Rc := by
 unfold Cn; exact calls_of hf hb hn [] (st_init w0) hgo
end
end Go.Proofs.Wit
namespace Go.Proofs.Wit
open Go Go.RowKit
section
variable {P : Program} {t : TypeId} {x y : W64} {a b : Int}
theorem eqg_int (op : BinOp) (t : TypeId) (p q : Operand) (k k' : IntKind) (a b : Int) : eqGuard op t p q (.int k a) (.int k' b) = pure () := by unfold eqGuard; cases op <;> rfl
theorem eqg_bool (op : BinOp) (t : TypeId) (p q : Operand) (a b : Bool) : eqGuard op t p q (.bool a) (.bool b) = pure () := by unfold eqGuard; cases op <;> rfl
theorem bin_pure {op : BinOp} {u v z : Value} (h1 : ∀ p q, eqGuard op t p q u v = pure ()) (h2 : binOp op t u v = pure z) : Bin P op t u v z := by
 intro p q w; rw [h1, h2]; rfl
theorem bU (op : BinOp) {z : Value} (h2 : binOp op t (U x) (U y) = pure z) : Bin P op t (U x) (U y) z := bin_pure (fun p q => eqGuard_U t x y op p q) h2
theorem bAnd : Bin P .and t (U x) (U y) (U (x &&& y)) := bU _ (bin_and t x y)
theorem bOr : Bin P .or t (U x) (U y) (U (x ||| y)) := bU _ (bin_or t x y)
theorem bEqU : Bin P .eql t (U x) (U y) (.bool (x == y)) := bU _ (bin_eql t x y)
theorem eqg_UI (op : BinOp) (p q : Operand) (k : IntKind) (b : Int) : eqGuard op t p q (U x) (.int k b) = pure () := by unfold eqGuard U; cases op <;> rfl
theorem bShl (j : Nat) (h : b = j) {k : IntKind} : Bin P .shl t (U x) (.int k b) (U (x <<< j)) := by subst h; exact bin_pure (fun p q => eqg_UI _ p q k _) (bin_shl_nat t x k j)
theorem bShr (j : Nat) (h : b = j) {k : IntKind} : Bin P .shr t (U x) (.int k b) (U (x >>> j)) := by subst h; exact bin_pure (fun p q => eqg_UI _ p q k _) (bin_shr_nat t x k j)
theorem bI (op : BinOp) {k : IntKind} {z : Value} (h2 : binOp op t (.int k a) (.int k b) = pure z) : Bin P op t (.int k a) (.int k b) z := bin_pure (fun p q => eqg_int op t p q k k a b) h2
theorem bAdd (h : -9223372036854775808 ≤ a + b ∧ a + b ≤ 9223372036854775807) : Bin P .add t (.int .i64 a) (.int .i64 b) (.int .i64 (a + b)) := bI _ (by rw [binOp_add]; show pure (Value.int .i64 (IntKind.i64.wrap (a + b))) = _; rw [IntWalk.i64_in _ h])
theorem bSub (h : -9223372036854775808 ≤ a - b ∧ a - b ≤ 9223372036854775807) : Bin P .sub t (.int .i64 a) (.int .i64 b) (.int .i64 (a - b)) := bI _ (by rw [binOp_sub]; show pure (Value.int .i64 (IntKind.i64.wrap (a - b))) = _; rw [IntWalk.i64_in _ h])
theorem wrapN64 {a : Int} (h : 0 ≤ a ∧ a < 18446744073709551616) : IntKind.u64.wrap a = a := by
 rw [IntKind.wrap_u64]; omega
theorem bSubE {c : Int} (e : a - b = c) (h : -9223372036854775808 ≤ c ∧ c ≤ 9223372036854775807) : Bin P .sub t (.int .i64 a) (.int .i64 b) (.int .i64 c) := e ▸ bSub (by omega)
theorem bEq {k : IntKind} : Bin P .eql t (.int k a) (.int k b) (.bool (a == b)) := bI _ (binOp_eql ..)
theorem bNe {k : IntKind} : Bin P .neq t (.int k a) (.int k b) (.bool (a != b)) := bI _ (binOp_neq ..)
theorem bLt {k : IntKind} : Bin P .lss t (.int k a) (.int k b) (.bool (decide (a < b))) := bI _ (binOp_lss ..)
theorem bLe {k : IntKind} : Bin P .leq t (.int k a) (.int k b) (.bool (decide (a ≤ b))) := bI _ (binOp_leq ..)
theorem bGt {k : IntKind} : Bin P .gtr t (.int k a) (.int k b) (.bool (decide (a > b))) := bI _ (binOp_gtr ..)
theorem bGe {k : IntKind} : Bin P .geq t (.int k a) (.int k b) (.bool (decide (a ≥ b))) := bI _ (binOp_geq ..)
theorem eqIn_bool (dd : Nat) {p q : Bool} (hu : P.underlying t = some .bool) (w : World) : (Op.equalIn (dd + 1) t (.bool p) (.bool q)).run P w = .ok (p == q) w := by
 simp only [Op.equalIn, Sem.run_bind, run_underlying hu, Result.andThen_ok]; rfl
theorem eq_bool {p q : Bool} (hu : P.underlying t = some .bool) (w : World) : (Op.equal t (.bool p) (.bool q)).run P w = .ok (p == q) w := eqIn_bool 9999 hu w
theorem bEqB {p q : Bool} (hu : P.underlying t = some .bool) : Bin P .eql t (.bool p) (.bool q) (.bool (p == q)) := by
 intro c d w
 rw [eqg_bool]
 show (do pure (Value.bool (← Op.equal t (.bool p) (.bool q))) : Sem Value).run P w = _
 rw [Sem.run_bind, eq_bool hu]; rfl
theorem uNot {p : Bool} : Una P .not (.bool p) (.bool (!p)) := fun _ => rfl
theorem cInt {s t : TypeId} {k k' : IntKind} {c : TypeDesc} (hs : P.underlying s = some c) (ht : P.underlying t = some (.int k)) (hk : k.wrap a = a) : Cnv P s t (.int k' a) (.int k a) := by
 intro w
 simp only [convert, Sem.run_bind, run_underlying hs, run_underlying ht, Result.andThen_ok]
 cases c <;> simp [Conv.intToInt, hk]
end
end Go.Proofs.Wit
namespace Go.Proofs.Wit
open Go Go.RowKit
theorem apartH_symm {p q : Option Nat × Obj} (h : apartH p q) : apartH q p := fun b hb hp => h b hp hb
theorem St.perm {w0 : World} {S : List Nat} {w : World} {h h' : Hl} {Y : List (Nat × Obj)} (s : St w0 S w h Y) (hp : h.Perm h') : St w0 S w h' Y :=
 ⟨s.ext, fun p hm => s.own p (hp.mem_iff.2 hm), (hp.pairwise_iff (fun {_ _} => apartH_symm)).1 s.apart, s.sys, s.ynd⟩
theorem St.permY {w0 : World} {S : List Nat} {w : World} {h : Hl} {Y Y' : List (Nat × Obj)} (s : St w0 S w h Y) (hp : Y.Perm Y') : St w0 S w h Y' :=
 ⟨s.ext, s.own, s.apart, fun p hm => s.sys p (hp.mem_iff.2 hm), (hp.map _).nodup_iff.1 s.ynd⟩
theorem St.subY {w0 : World} {S : List Nat} {w : World} {h : Hl} {Y Y' : List (Nat × Obj)} (s : St w0 S w h Y) (hp : Y'.Sublist Y) : St w0 S w h Y' :=
 ⟨s.ext, s.own, s.apart, fun p hm => s.sys p (hp.subset hm), (hp.map _).nodup s.ynd⟩
theorem St.turnY {w0 : World} {S : List Nat} {w : World} {h : Hl} {Y : List (Nat × Obj)} {L : Nat} {o o' : Obj} (s : St w0 S w h ((L, o) :: Y)) (ho : isSys o' = true) :
  St w0 S { w with heap := w.heap.setIfInBounds L o' } h ((L, o') :: Y) := by
 obtain ⟨h1, h2, h3⟩ := s.sys (L, o) (List.mem_cons_self ..)
 simp only at h1 h2 h3
 have hlt := (Array.getElem?_eq_some_iff.1 h2).1
 have hne : ∀ b, b ≠ L → (w.heap.setIfInBounds L o')[b]? = w.heap[b]? := fun b hb => by simp [Ne.symm hb]
 have hnd := s.ynd
 rw [List.map_cons, List.nodup_cons] at hnd
 refine ⟨⟨s.ext.os, s.ext.tape, s.ext.output, by simpa using s.ext.size, fun b hb hn => ?_⟩, fun p hp b hb => ?_, s.apart, fun p hp => ?_, by rw [List.map_cons, List.nodup_cons]; exact hnd⟩
 ·rw [hne b (by omega)]; exact s.ext.block b hb hn
 ·obtain ⟨q1, q2, q3⟩ := s.own p hp b hb
  refine ⟨?_, q2, q3⟩
  rw [hne b ?_]; exact q1
  rintro rfl
  rw [Option.some.inj (q1.symm.trans h2)] at q2
  rw [h3] at q2; cases q2
 ·rcases List.mem_cons.1 hp with rfl | hp
  ·exact ⟨h1, by simp [hlt], ho⟩
  ·obtain ⟨q1, q2, q3⟩ := s.sys p (List.mem_cons_of_mem _ hp)
   refine ⟨q1, ?_, q3⟩
   rw [hne p.1 ?_]; exact q2
   intro e
   exact hnd.1 (e ▸ List.mem_map.2 ⟨p, hp, rfl⟩)
theorem St.newY {w0 : World} {S : List Nat} {w : World} {h : Hl} {Y : List (Nat × Obj)} (s : St w0 S w h Y) {o : Obj} (ho : isSys o = true) : St w0 S (w.alloc o) h ((w.heap.size, o) :: Y) := by
 have s' := s.later (ex_alloc w o)
 refine ⟨s'.ext, s'.own, s'.apart, fun p hp => ?_, ?_⟩
 ·rcases List.mem_cons.1 hp with rfl | hp
  ·exact ⟨s.ext.size, heap_alloc_new w o, ho⟩
  ·exact s'.sys p hp
 ·rw [List.map_cons, List.nodup_cons]
  refine ⟨fun hm => ?_, s.ynd⟩
  obtain ⟨p, hp, e⟩ := List.mem_map.1 hm
  have := (Array.getElem?_eq_some_iff.1 (s.sys p hp).2.1).1
  simp at e; omega

section
variable {P : Program} {f : FuncId} {R : Value → World → Prop} {w0 : World} {S : List Nat} {Y : List (Nat × Obj)} {n : Nat} {k k' : List Item} {l l' : Fl} {h h' : Hl}
/-! ### a round -/
theorem permMk {Ds : List Nat} {L : Nat} {o : Obj} {Y : List (Nat × Obj)} : (mkY Ds ++ (L, o) :: Y).Perm ((L, o) :: (mkY Ds ++ Y)) := List.perm_middle
theorem GoH.beginRound {L : Nat} {rec : Loop} (hr : rec.state = .ready) (hg : GoH P (some L) f R w0 S ((L, .loop { rec with state := .busy }) :: Y) n k l h) : GoH P (some L) f R w0 S ((L, .loop rec) :: Y) n (.beginRound :: k) l h := by
 intro t w Ds hF hS
 have hS1 := hS.permY permMk
 have hL := (hS1.sys (L, .loop rec) (List.mem_cons_self ..)).2.1
 simp only at hL
 have hrun : (Instr.beginRound L).run P w = .ok () { w with heap := w.heap.setIfInBounds L (.loop { rec with state := .busy }) } := by
  simp [Instr.beginRound, Instr.getLoop, getObj, setObj, Sem.run, hL, bind, Sem.bind, pure, hr]
 have hS2 := (hS1.turnY (o' := .loop { rec with state := .busy }) rfl).permY permMk.symm
 exact .step (fun cs => by rw [mkF_at, mkF_at]; exact stepR_beginRound rfl hrun) (hg t _ Ds hF hS2)
def endW (w : World) (L : Nat) (rec : Loop) (jump : Option Code) : World := { w with heap := w.heap.setIfInBounds L (.loop { rec with state := if jump.isNone then .ready else .done, pending := jump }) }
theorem endRound_run {L : Nat} {rec : Loop} {w : World} (hL : w.heap[L]? = some (.loop rec)) (jump : Option Code) : (Instr.endRound L jump).run P w = .ok (.bool jump.isNone) (endW w L rec jump) := by
 simp [Instr.endRound, Instr.getLoop, getObj, setObj, Sem.run, hL, bind, Sem.bind, pure, endW]
theorem gos_round {t : Array Value} {Ds : List Nat} {w : World} {L : Nat} {rec : Loop} (jump : Option Code) (hS : St w0 S w h (mkY Ds ++ (L, .loop rec) :: Y))
  (hst : ∀ (c : Frame) (cs : List Frame) v w', (Instr.endRound L jump).run P w = .ok v w' → step P (lone (mkF f (some L) t (Ds.map mark) k) (c :: cs) w) = .next (lone (c.finish v) cs w'))
  (hR : ∀ w', St w0 S w' h ((L, .loop { rec with state := if jump.isNone then .ready else .done, pending := jump }) :: Y) → R (.bool jump.isNone) w') : Gos P (some L) f R k t (Ds.map mark) w := by
 intro cs hcs
 cases cs with
 | nil => exact absurd rfl (hcs rfl)
 | cons c cs =>
  have hS1 := hS.permY permMk
  have hL := (hS1.sys (L, .loop rec) (List.mem_cons_self ..)).2.1
  have hr := endRound_run (P := P) hL jump
  have hS2 := hS1.turnY (o' := .loop { rec with state := if jump.isNone then .ready else .done, pending := jump }) rfl
  refine ⟨_, _, _, hR _ (hS2.subY (.cons_cons _ (List.sublist_append_right _ _))), .one (hst c cs _ _ hr), c, cs, rfl, rfl⟩
theorem GoH.roundEnd {L : Nat} {rec : Loop} (hR : ∀ w', St w0 S w' h ((L, .loop { rec with state := .ready, pending := none }) :: Y) → R (.bool true) w') : GoH P (some L) f R w0 S ((L, .loop rec) :: Y) n [] l h := fun t w Ds _ hS =>
 gos_round none hS (fun c cs v w' hr => by rw [mkF_at]; exact stepR_round_end rfl rfl hr) hR
/-! ### an iterator's contract: it calls yield with args 0, args 1, .. in this order, till all have come or a round has said no -/
def IterC (P : Program) (w0 : World) (S : List Nat) (gf : FuncId) (lb : List Value) (args : List (List Value)) (cap : Hl) : Prop :=
 ∀ (Y : List (Nat × Obj)) (σ : Type) (Hc : σ → Hl) (I : Nat → σ → Prop) (X : σ → Prop) (Yx : σ → List (Nat × Obj)) (L : Nat),
  (∀ (i : Nat) (a : List Value), args[i]? = some a → ∀ s, I i s → ∀ (hi : Hl) (w : World) (Y1 : List (Nat × Obj)), St w0 S w (hi ++ Hc s) (Y1 ++ Y) →
   Rnd P L a.toArray w (fun v w' => (v = .bool true ∧ ∃ s', I (i + 1) s' ∧ St w0 S w' (hi ++ Hc s') (Y1 ++ Y)) ∨ (v = .bool false ∧ ∃ s', X s' ∧ St w0 S w' (hi ++ Hc s') (Y1 ++ Yx s')))) →
  ∀ s0 w, I 0 s0 → St w0 S w (cap ++ Hc s0) Y →
   Calls P gf ((Value.func (.yield L) #[] #[] :: lb).toArray) w fun e w' => ∃ v, e = .returned v ∧ ((∃ s, I args.length s ∧ St w0 S w' (Hc s) Y) ∨ (∃ s, X s ∧ St w0 S w' (Hc s) (Yx s)))

def bindL : List Tmp → List Value → Fl → Fl
 | p :: ps, a :: az, l => bindL ps az ((p, a) :: l)
 | _, _, l => l
theorem frm_bind : ∀ {ps : List Tmp} {az : List Value} {t : Array Value} {l : Fl}, Frm n t l → (∀ p ∈ ps, Nat.blt p n = true) → Frm n ((ps.zip az).foldl (fun t (p : Tmp × Value) => t.setIfInBounds p.1 p.2) t) (bindL ps az l)
 | [], _, _, _, hF, _ => by simpa [bindL] using hF
 | p :: ps, [], _, _, hF, _ => by simpa [bindL] using hF
 | p :: ps, a :: az, t, l, hF, hp => by
  simp only [List.zip_cons_cons, List.foldl_cons, bindL]
  exact frm_bind (hF.put a (hp p (List.mem_cons_self ..))) (fun q hq => hp q (List.mem_cons_of_mem _ hq))

def RoundR {σ : Type} (w0 : World) (S : List Nat) (Hc : σ → Hl) (I : Nat → σ → Prop) (X : Code → σ → Prop) (L : Nat) (rec : Loop) (Y' : List (Nat × Obj)) (hi : Hl) (i : Nat) : Value → World → Prop := fun v w' =>
 (v = .bool true ∧ ∃ s', I (i + 1) s' ∧ St w0 S w' (Hc s' ++ hi) ((L, .loop { rec with state := .ready, pending := none }) :: Y')) ∨
 (v = .bool false ∧ ∃ c s', X c s' ∧ St w0 S w' (Hc s' ++ hi) ((L, .loop { rec with state := .done, pending := some c }) :: Y'))
theorem GoH.rEnd {σ : Type} {Hc : σ → Hl} {I : Nat → σ → Prop} {X : Code → σ → Prop} {L : Nat} {rec : Loop} {hi : Hl} {i : Nat} (s' : σ) (hI : I (i + 1) s') (hs : (Hc s' ++ hi).Sublist h) :
  GoH P (some L) f (RoundR w0 S Hc I X L rec Y hi i) w0 S ((L, .loop { rec with state := .busy }) :: Y) n [] l h :=
 .roundEnd (fun _ hS => .inl ⟨rfl, s', hI, hS.subH hs⟩)
theorem GoH.rangeF {g : Operand} {ps : Array Tmp} {assign body : Code} {gf : FuncId} {lb : List Value} {args : List (List Value)} {cap : Hl} {σ : Type} (Hc : σ → Hl) (I : Nat → σ → Prop) (X : Code → σ → Prop) (s0 : σ)
  (hg : opd l g = some (.func (.func gf) #[] lb.toArray)) (hcf : ∀ args w, (callFunc gf args).run P w = .ok (.enter gf args) w) (it : IterC P w0 S gf lb args cap)
  (hps : ∀ a ∈ args, a.length = ps.size) (hpn : ps.toList.all (fun p => Nat.blt p n) = true) (h0 : I 0 s0) (hh : (cap ++ Hc s0).Sublist h)
  (hround : ∀ (L : Nat) (Y' : List (Nat × Obj)) (rec : Loop) (hi : Hl) (i : Nat) (a : List Value) (s : σ), args[i]? = some a → I i s → rec.state = .ready →
   GoH P (some L) f (RoundR w0 S Hc I X L rec Y' hi i) w0 S ((L, .loop rec) :: Y') n [.code assign, .beginRound, .code body] (bindL ps.toList a l) (Hc s ++ hi))
  (hdone : ∀ s, I args.length s → GoH P none f R w0 S Y n k l (Hc s)) (hstop : ∀ c s, X c s → GoH P none f R w0 S Y n (.code c :: k) l (Hc s)) :
  GoH P none f R w0 S Y n (.code (.rangeFunc g ps assign body) :: k) l h := by
 intro t w Ds hF hS cs hcs
 obtain ⟨rec, hrec⟩ : ∃ rec : Loop, rec = { state := .ready, pending := none, fn := f, tmps := t, params := ps, assign, body, defers := w.heap.size } := ⟨_, rfl⟩
 have hS1 := (hS.newY (o := .deferred (some [])) rfl).newY (o := .loop rec) rfl
 rw [World.size_alloc] at hS1
 obtain ⟨w2, hw2⟩ : ∃ w2, (w.alloc (.deferred (some []))).alloc (.loop rec) = w2 := ⟨_, rfl⟩
 rw [hw2] at hS1
 have henter : (Instr.enterLoop f t ps assign body none).run P w = .ok (w.heap.size + 1, [mark w.heap.size]) w2 := by
  rw [← hw2, hrec]
  exact run_enterLoop_outer _ _ _ _ _
 have hinv : (invoke (.fn (.func gf) lb.toArray) #[Value.func (.yield (w.heap.size + 1)) #[] #[]]).run P w2 = .ok (.enter gf ((Value.func (.yield (w.heap.size + 1)) #[] #[] :: lb).toArray)) w2 := by
  simp only [invoke, hcf]
  congr 2
  simp
 have hres : (resolve (Act.eval ⟨t, Ds.map mark⟩) (rangeCall g (w.heap.size + 1)) 0).run P w2 = .ok { target := .fn (.func gf) lb.toArray, args := #[Value.func (.yield (w.heap.size + 1)) #[] #[]] } w2 := by
  have e1 := hF.opd hg (Ds.map mark)
  simp only [resolve, e1, Deferred.ofValue]
  simp [Act.eval]
 have hstep := stepR_rangeFunc (P := P) (b := mkF f none #[] [] []) (a := ⟨t, Ds.map mark⟩) (k := k) (cs := cs) (w := w) (ps := ps) (assign := assign) (body := body) (g := g) henter hres hinv
 obtain ⟨Yr, hYr⟩ : ∃ Yr, (w.heap.size, (.deferred (some []) : Obj)) :: (mkY Ds ++ Y) = Yr := ⟨_, rfl⟩
 have hcall := it ((w.heap.size + 1, .loop rec) :: Yr) (σ × Option Code) (fun s => Hc s.1) (fun i s => I i s.1 ∧ s.2 = none) (fun s => ∃ c, s.2 = some c ∧ X c s.1)
  (fun s => (w.heap.size + 1, .loop { rec with state := .done, pending := s.2 }) :: Yr) (w.heap.size + 1) (by
   rintro i a ha ⟨s, c⟩ ⟨hI, hc⟩ hi W Y1 hSt
   simp only at hc hSt
   subst hc
   have hSt1 := (hSt.perm (List.perm_append_comm)).permY (List.perm_middle (l₁ := Y1) (a := (w.heap.size + 1, Obj.loop rec)) (l₂ := Yr))
   have hL := (hSt1.sys _ (List.mem_cons_self ..)).2.1
   simp only at hL
   have hlen := hps a (List.mem_of_getElem? ha)
   refine ⟨f, (ps.zip a.toArray).foldl (fun t (p : Tmp × Value) => t.setIfInBounds p.1 p.2) t, assign, body, ?_, fun c cs => ?_⟩
   ·simp only [Instr.yield, Instr.getLoop, getObj, Sem.run, hL, bind, Sem.bind, pure]
    rw [hrec]
    simp [hlen]
   ·have hg1 := hround (w.heap.size + 1) (Y1 ++ Yr) rec hi i a s ha hI (by rw [hrec])
    have hfr : Frm n ((ps.zip a.toArray).foldl (fun t (p : Tmp × Value) => t.setIfInBounds p.1 p.2) t) (bindL ps.toList a l) := by
     have := frm_bind (ps := ps.toList) (az := a) hF (List.all_eq_true.1 hpn)
     rw [← Array.foldl_toList, Array.toList_zip]; exact this
    obtain ⟨v, w', m, hR, hst, htg⟩ := hg1 _ W [] hfr (by simpa [mkY] using hSt1) (c :: cs) (by simp)
    obtain ⟨c', cs', hcc, rfl⟩ := htg
    cases hcc
    refine ⟨v, w', ?_, hst⟩
    rcases hR with ⟨hv, s', hI', hS'⟩ | ⟨hv, c2, s', hX, hS'⟩
    ·refine .inl ⟨hv, (s', none), ⟨hI', rfl⟩, ?_⟩
     have e1 : ({ rec with state := .ready, pending := none } : Loop) = rec := by rw [hrec]
     rw [e1] at hS'
     exact (hS'.perm (List.perm_append_comm)).permY (List.perm_middle (l₁ := Y1) (a := (w.heap.size + 1, Obj.loop rec)) (l₂ := Yr)).symm
    ·refine .inr ⟨hv, (s', some c2), ⟨c2, rfl, hX⟩, ?_⟩
     exact (hS'.perm (List.perm_append_comm)).permY (List.perm_middle (l₁ := Y1) (l₂ := Yr)).symm)
  (s0, none) w2 ⟨h0, rfl⟩ ((hYr ▸ hS1).subH hh)
 obtain ⟨e, w3, fr, ⟨v, rfl, hpost⟩, hcomes, hfn, hleave⟩ := hcall ((mkF f none #[] [] []).atR ⟨t, [mark w.heap.size] ++ Ds.map mark⟩ (.inRangeFunc (w.heap.size + 1) :: k) :: cs)
 have hback := step_leave_returned (c := (mkF f none #[] [] []).atR ⟨t, [mark w.heap.size] ++ Ds.map mark⟩ (.inRangeFunc (w.heap.size + 1) :: k)) (cs := cs) hleave
 rw [finish_atR_inRangeFunc] at hback
 have fin : ∀ (s : σ) (rc : Loop) (jump : Option Code), rc.state ≠ .busy → rc.pending = jump → St w0 S w3 (Hc s) ((w.heap.size + 1, .loop rc) :: Yr) →
   (∀ w4, St w0 S w4 (Hc s) (mkY (w.heap.size :: Ds) ++ Y) → Gos P none f R ((jump.map Item.code).toList ++ k) t ((w.heap.size :: Ds).map mark) w4) →
   ∃ v w' m, R v w' ∧ Steps P (lone (mkF f none t (Ds.map mark) (.code (.rangeFunc g ps assign body) :: k)) cs w) m ∧ Tgt P none f cs v w' m := by
  intro s rc jump hnb hj hS3 hgo
  have hL := (hS3.sys _ (List.mem_cons_self ..)).2.1
  simp only at hL
  have hend : (Instr.endLoop (w.heap.size + 1)).run P w3 = .ok jump { w3 with heap := w3.heap.setIfInBounds (w.heap.size + 1) (.loop { rc with state := .exhausted }) } := by
   simp [Instr.endLoop, Instr.getLoop, getObj, setObj, Sem.run, hL, bind, Sem.bind, pure, hj]
   exact fun hx => absurd hx hnb
  have hS4 := (hS3.turnY (o' := .loop { rc with state := .exhausted }) rfl).subY (List.sublist_cons_self ..)
  obtain ⟨v', w', m, hR, hst, htg⟩ := hgo _ (by rw [← hYr] at hS4; exact hS4) cs hcs
  refine ⟨v', w', m, hR, .head hstep (Steps.trans hcomes (.head hback (.head (stepR_endRangeFunc hend) ?_))), htg⟩
  exact hst
 rcases hpost with ⟨⟨s, c⟩, ⟨hI, hc⟩, hS3⟩ | ⟨⟨s, c⟩, ⟨c', hc, hX⟩, hS3⟩
 ·exact fin s rec none (by rw [hrec]; simp) (by rw [hrec]) hS3 (fun w4 hS4 => hdone s hI t w4 (w.heap.size :: Ds) hF hS4)
 ·simp only at hc; subst hc
  exact fin s _ (some c') (by simp) rfl hS3 (fun w4 hS4 => hstop c' s hX t w4 (w.heap.size :: Ds) hF hS4)

section
variable {ops : Array Oper} {i d : Nat} {rest : List Nat} {ty : TypeId} {pos : String} {aft : Array Edge} {gd : Option (Nat × Bool)}
theorem GoH.yieldI {az : Array Operand} {ts : Array TypeId} {cal : Operand} {L : Nat} {a : List Value} (Hyes : Hl → Prop) (Hno : Hl → List (Nat × Obj) → Prop) (ho : ops[i]? = some ⟨some d, .call ⟨.value cal, az, ts⟩, ty, pos, aft, gd⟩) (hw : wantL ops l gd = true)
  (hc : opd l cal = some (.func (.yield L) #[] #[])) (hx : opds l az.toList = some a) (hd : Nat.blt d n = true)
  (hr : ∀ w Y1, St w0 S w h (Y1 ++ Y) → Rnd P L a.toArray w (fun v w' => (v = .bool true ∧ ∃ h', Hyes h' ∧ St w0 S w' h' (Y1 ++ Y)) ∨ (v = .bool false ∧ ∃ h' Y', Hno h' Y' ∧ St w0 S w' h' (Y1 ++ Y'))))
  (hyes : ∀ h', Hyes h' → GoH P none f R w0 S Y n (.inRegion ops rest :: k) ((d, .bool true) :: l) h')
  (hno : ∀ h' Y', Hno h' Y' → GoH P none f R w0 S Y' n (.inRegion ops rest :: k) ((d, .bool false) :: l) h') :
  GoH P none f R w0 S Y n (.inRegion ops (i :: rest) :: k) l h := by
 intro t w Ds hF hS
 refine Gos.yield ho (want_of hF hw) (not_defer rfl) ?_ (hr w (mkY Ds) hS) (fun v w2 hR => ?_)
 ·have e1 := resolve_run (P := P) (ty := ty) (ts := ts) (Ds := Ds) (w := w) hF hc hx
  simp only [execOp, Sem.run_bind, e1, Result.andThen_ok, invoke, Array.empty_append]
 ·rcases hR with ⟨rfl, h', hh, hS'⟩ | ⟨rfl, h', Y', hh, hS'⟩
  ·exact hyes h' hh _ w2 Ds (hF.put _ hd) hS'
  ·exact hno h' Y' hh _ w2 Ds (hF.put _ hd) hS'
end
theorem IterC.of {gf : FuncId} {lb : List Value} {args : List (List Value)} {cap : Hl} {c : Code} {fn : Func} (hf : P.funcs[gf]? = some fn) (hb : fn.body = some c) (hn : Nat.ble (lb.length + 1) fn.ntmps = true)
  (hgo : ∀ (Y : List (Nat × Obj)) (σ : Type) (Hc : σ → Hl) (I : Nat → σ → Prop) (X : σ → Prop) (Yx : σ → List (Nat × Obj)) (L : Nat),
   (∀ (i : Nat) (a : List Value), args[i]? = some a → ∀ s, I i s → ∀ (hi : Hl) (w : World) (Y1 : List (Nat × Obj)), St w0 S w (hi ++ Hc s) (Y1 ++ Y) →
    Rnd P L a.toArray w (fun v w' => (v = .bool true ∧ ∃ s', I (i + 1) s' ∧ St w0 S w' (hi ++ Hc s') (Y1 ++ Y)) ∨ (v = .bool false ∧ ∃ s', X s' ∧ St w0 S w' (hi ++ Hc s') (Y1 ++ Yx s')))) →
   ∀ s0, I 0 s0 → GoH P none gf (fun _ w' => (∃ s, I args.length s ∧ St w0 S w' (Hc s) Y) ∨ (∃ s, X s ∧ St w0 S w' (Hc s) (Yx s))) w0 S Y fn.ntmps [.code c] (parL 0 (Value.func (.yield L) #[] #[] :: lb)) (cap ++ Hc s0)) :
  IterC P w0 S gf lb args cap := by
 intro Y σ Hc I X Yx L hy s0 w hI hS cs
 obtain ⟨v, w', m, hR, hst, fr, rfl, hfn, hl⟩ := hgo Y σ Hc I X Yx L hy s0 hI _ w [] (frm_enter (by simpa using Nat.le_of_ble_eq_true hn)) hS cs (by simp)
 refine ⟨.returned v, w', fr, ⟨v, rfl, hR⟩, ?_, hfn, hl⟩
 have henter : Frame.enter P gf (Value.func (.yield L) #[] #[] :: lb).toArray .normal = mkF gf none ((Value.func (.yield L) #[] #[] :: lb).toArray ++ Array.replicate (fn.ntmps - (Value.func (.yield L) #[] #[] :: lb).toArray.size) undef) [] [.code c] := by
  simp [Frame.enter, hf, hb, mkF]
 show Steps P _ _
 rw [henter]; exact hst
end
end Go.Proofs.Wit
