/- Laws of a calculus of walks, proved for any program: no condition beyond those that each theorem states. -/
import Derived.Test.YtcljmlnnfdaljaaDoorS08
import Derived.Test.YtcljmlnnfdaljaaDoorS06
namespace Go.Proofs.Wit
open Go Go.RowKit
/-! regions that draw their order: operations that only read, and behind them a tail that may make new blocks -/
def reach (ops : Array Oper) : Nat → List Nat → List Nat
  | 0, acc => acc
  | j + 1, acc => reach ops j (cond (acc.any fun z => (dirs ops z).contains j) (j :: acc) acc)
/-- x, and what comes before it -/
def below (ops : Array Oper) (x : Nat) : List Nat := reach ops x [x]
def forced (ops : Array Oper) : List Nat → List Nat → Bool
  | listed, [] => (readyL ops listed).isEmpty
  | listed, x :: rest => (readyL ops listed == [x]) && forced ops (x :: listed) rest
def tailOk (ops : Array Oper) (_l : Fl) (m : Nat) : Bool :=
  Nat.ble m ops.size &&
  (List.range ops.size).all (fun i => (dirs ops i).all (fun j => Nat.blt j i)) &&
  (List.range m).all (fun i => match ops[i]? with
    | none => false
    | some o => notSel o.op && match o.dst with
      | none => false
      | some d => (List.range ops.size).all (fun j => Nat.beq j i || !(dstOf ops j == some d)) &&
        (eyes ops o).all (fun s => (List.range ops.size).all (fun j => !(dstOf ops j == some s) || (dirs ops i).contains j || (Nat.ble m j && (below ops j).contains i)))) &&
  (List.range' m (ops.size - m)).all (fun i => match ops[i]? with
    | none => false
    | some o => (eyes ops o).all (fun s => (List.range m).all (fun j => !(dstOf ops j == some s) || (dirs ops i).contains j)))
section
variable {P : Program} {r : Option Nat} {f : FuncId} {R : Value → World → Prop} {w0 : World} {S : List Nat} {Y : List (Nat × Obj)} {n : Nat} {k : List Item} {l : Fl} {h : Hl} {ops : Array Oper}
/-- an operation, what it yields and what is known of memory behind it -/
def Mop (P : Program) (w0 : World) (S : List Nat) (n : Nat) (h : Hl) (ops : Array Oper) (i : Nat) (l : Fl) (d : Nat) (K : Value → Hl → Prop) : Prop :=
  ∃ o, ops[i]? = some o ∧ o.dst = some d ∧ isDefer o.op = false ∧ notSel o.op = true ∧ Nat.blt d n = true ∧
    ((wantL ops l o.guard = true ∧ ∀ (t : Array Value) (w : World) (Ds : List Nat) (Y' : List (Nat × Obj)), Frm n t l → St w0 S w h Y' →
      (∃ v w' h', (execOp (Act.eval ⟨t, Ds.map mark⟩) o).run P w = .ok (.value v) w' ∧ St w0 S w' h' Y' ∧ K v h') ∨
      (∃ gf args, ∃ Rc : Value → World → Prop, (execOp (Act.eval ⟨t, Ds.map mark⟩) o).run P w = .ok (.enter gf args) w ∧ (Calls P gf args w fun e w' => ∃ v, e = .returned v ∧ Rc v w') ∧ ∀ v w', Rc v w' → ∃ h', St w0 S w' h' Y' ∧ K v h')) ∨
    (skipL ops l o.guard = true ∧ K undef h))
theorem Mop.v {i d : Nat} {v : Value} {K : Value → Hl → Prop} (hv : Vop P w0 S n h ops i l d v) (hsel : ∀ o, ops[i]? = some o → notSel o.op = true) (hk : K v h) : Mop P w0 S n h ops i l d K := by
  obtain ⟨o, ho, hw, hdst, hnd, hd, hr⟩ := hv
  exact ⟨o, ho, hdst, hnd, hsel o ho, hd, .inl ⟨hw, fun t w Ds Y' hF hS => .inl (by
    obtain ⟨nx, h1, rfl⟩ := hr t w Ds Y' hF hS; exact ⟨v, w, h, h1, hS, hk⟩)⟩⟩
theorem Mop.no {i d : Nat} {o : Oper} {K : Value → Hl → Prop} (ho : ops[i]? = some o) (hw : skipL ops l o.guard = true) (hdst : o.dst = some d) (hnd : isDefer o.op = false) (hsel : notSel o.op = true) (hd : Nat.blt d n = true) (hk : K undef h) : Mop P w0 S n h ops i l d K :=
  ⟨o, ho, hdst, hnd, hsel, hd, .inr ⟨hw, hk⟩⟩
section
variable {i d : Nat} {ty : TypeId} {pos : String} {aft : Array Edge} {g : Option (Nat × Bool)} {K : Value → Hl → Prop}
theorem Mop.alc {e : TypeId} {z : Value} (ho : ops[i]? = some ⟨some d, .alloc e, ty, pos, aft, g⟩) (hw : wantL ops l g = true) (hd : Nat.blt d n = true) (hz : ∀ w, (zeroValue e).run P w = .ok z w)
    (hk : ∀ b, K (.pointer (some ⟨b, 0, none⟩)) ((some b, .cells z.cells e) :: h)) : Mop P w0 S n h ops i l d K :=
  ⟨_, ho, rfl, rfl, rfl, hd, .inl ⟨hw, fun t w Ds Y' hF hS => .inl ⟨.pointer (some ⟨w.heap.size, 0, none⟩), w.alloc (.cells z.cells e), _, by
    simp [execOp, Instr.alloc, hz, newVar, newRow], hS.alloc rfl, hk _⟩⟩⟩
theorem Mop.bx {e : TypeId} {x : Operand} {v : Value} (ho : ops[i]? = some ⟨some d, .box e x, ty, pos, aft, g⟩) (hw : wantL ops l g = true) (hx : opd l x = some v) (hd : Nat.blt d n = true)
    (hk : ∀ b, K (.pointer (some ⟨b, 0, none⟩)) ((some b, .cells v.cells e) :: h)) : Mop P w0 S n h ops i l d K :=
  ⟨_, ho, rfl, rfl, rfl, hd, .inl ⟨hw, fun t w Ds Y' hF hS => .inl ⟨.pointer (some ⟨w.heap.size, 0, none⟩), w.alloc (.cells v.cells e), _, by
    simp [execOp, Instr.box, hF.opd hx, newVar, newRow], hS.alloc rfl, hk _⟩⟩⟩
theorem Mop.bsN {t e : TypeId} {len : Nat} {az : Array (Nat × Operand)} {ps : List (Nat × Value)} {z : Value} {size : Nat} {c : List Value} (ho : ops[i]? = some ⟨some d, .buildSlice t len az, ty, pos, aft, g⟩) (hw : wantL ops l g = true) (hx : partsL l az.toList = some ps) (hd : Nat.blt d n = true)
    (hu : P.underlying t = some (.slice e)) (hs : ∀ w, (sizeOf e).run P w = .ok size w) (hz : ∀ w, (zeroValue e).run P w = .ok z w) (hm : Nat.ble (len * size) 16777216 = true)
    (hf : fillL (fun i => some (i * size, size)) ((List.range (len * size)).map fun i => z.cells.toList.getD (i % z.cells.toList.length) default) ps = some c)
    (hk : ∀ b, K (.slice (some ⟨b, 0, none⟩) len len) ((some b, .cells (c ++ []).toArray e) :: h)) : Mop P w0 S n h ops i l d K :=
  ⟨_, ho, rfl, rfl, rfl, hd, .inl ⟨hw, fun _ w Ds _ hF hS => .inl ⟨.slice (some ⟨w.heap.size, 0, none⟩) len len, w.alloc (.cells (c ++ []).toArray e), _,
    bsN_run hF hx hu hs hz hm hf Ds w, hS.alloc rfl, hk _⟩⟩⟩
theorem Mop.callM {az : Array Operand} {ts : Array TypeId} {cal : Operand} {gf : FuncId} {fs cs vs : List Value} (Rc : World → Value → World → Prop) (ho : ops[i]? = some ⟨some d, .call ⟨.value cal, az, ts⟩, ty, pos, aft, g⟩) (hw : wantL ops l g = true)
    (hc : opd l cal = some (.func (.func gf) fs.toArray cs.toArray)) (hx : opds l az.toList = some vs) (hd : Nat.blt d n = true) (hcf : ∀ args w, (callFunc gf args).run P w = .ok (.enter gf args) w)
    (hcall : ∀ w Y', St w0 S w h Y' → Cn P gf (fs ++ vs ++ cs) w (Rc w))
    (hk : ∀ v w w' Y', St w0 S w h Y' → Ex [] w w' → Rc w v w' → ∃ h', St w0 S w' h' Y' ∧ K v h') : Mop P w0 S n h ops i l d K :=
  ⟨_, ho, rfl, rfl, rfl, hd, .inl ⟨hw, fun t w Ds Y' hF hS => .inr ⟨gf, (fs ++ vs ++ cs).toArray, fun u w' => Ex [] w w' ∧ Rc w u w', by
    have e1 := resolve_run (P := P) (ty := ty) (ts := ts) (Ds := Ds) (w := w) hF hc hx
    simp only [execOp, Sem.run_bind, e1, Result.andThen_ok, invoke, hcf]
    simp, hcall w Y' hS, fun u w' ⟨he, hu⟩ => hk u w w' Y' hS he hu⟩⟩⟩
end
theorem Mop.call {i d : Nat} {ty : TypeId} {pos : String} {aft : Array Edge} {g : Option (Nat × Bool)} {K : Value → Hl → Prop} {az : Array Operand} {ts : Array TypeId} {cal : Operand} {gf : FuncId} {vs : List Value} (Rc : World → Value → World → Prop) (ho : ops[i]? = some ⟨some d, .call ⟨.value cal, az, ts⟩, ty, pos, aft, g⟩) (hw : wantL ops l g = true)
    (hc : opd l cal = some (.func (.func gf) #[] #[])) (hx : opds l az.toList = some vs) (hd : Nat.blt d n = true) (hcf : ∀ args w, (callFunc gf args).run P w = .ok (.enter gf args) w)
    (hcall : ∀ w Y', St w0 S w h Y' → Cn P gf vs w (Rc w))
    (hk : ∀ v w w' Y', St w0 S w h Y' → Ex [] w w' → Rc w v w' → ∃ h', St w0 S w' h' Y' ∧ K v h') : Mop P w0 S n h ops i l d K :=
  .callM (fs := []) (cs := []) Rc ho hw hc hx hd hcf (fun w Y' hS => by rw [List.nil_append, List.append_nil]; exact hcall w Y' hS) hk
/-- what comes first of rest comes behind all reads -/
def afterAll (ops : Array Oper) (m : Nat) : List Nat → Bool
  | [] => true
  | x :: _ => (List.range m).all (fun i => (below ops x).contains i && !(Nat.beq i x))
/-- the tail of a region: TL of it is done, and all that only read -/
def Tl (P : Program) (r : Option Nat) (f : FuncId) (R : Value → World → Prop) (w0 : World) (S : List Nat) (Y : List (Nat × Obj)) (n : Nat) (k : List Item) (ops : Array Oper) (m : Nat) (hb : Hl) : Nat → List Nat → Fl → Hl → Prop
  | 0, _, _, _ => False
  | q + 1, TL, l, h =>
    (∃ rest, forced ops (TL ++ List.range m) rest = true ∧ afterAll ops m rest = true ∧ GoH P r f R w0 S Y n (.inRegion ops rest :: k) l h) ∨
    (readyL ops (TL ++ List.range m) ≠ [] ∧ ∀ i ∈ readyL ops (TL ++ List.range m), ∃ d, Mop P w0 S n h ops i l d (fun v h' => hb.Sublist h' ∧ Tl P r f R w0 S Y n k ops m hb q (i :: TL) ((d, v) :: l) h'))
/-- the reads, in the order of the text -/
def RdT (P : Program) (w0 : World) (S : List Nat) (n : Nat) (ops : Array Oper) (h : Hl) (F : Fl → Prop) (i m : Nat) (l : Fl) : Prop :=
  ∀ t, Frm n t l → RdS P w0 S n h ops (fun t' => ∃ l', Frm n t' l' ∧ F l') i m t
theorem RdT.nil {F : Fl → Prop} {i : Nat} (hg : F l) : RdT P w0 S n ops h F i 0 l := fun _ hF => ⟨l, hF, hg⟩
theorem RdT.v {F : Fl → Prop} {i m d : Nat} {v : Value} (hv : Vop P w0 S n h ops i l d v) (hg : RdT P w0 S n ops h F (i + 1) m ((d, v) :: l)) : RdT P w0 S n ops h F i (m + 1) l := by
  intro t hF
  obtain ⟨o, ho, hw, hdst, hnd, hd, hr⟩ := hv
  exact ⟨d, v, ⟨o, ho, hdst, by simpa [Nat.blt_eq] using hd, hnd, .inl ⟨want_of hF hw, fun w Ds Y' hS => by
    obtain ⟨nx, h1, rfl⟩ := hr t w Ds Y' hF hS; exact .inl h1⟩⟩, hg _ (hF.put v hd)⟩
theorem RdT.callP {F : Fl → Prop} {i m d : Nat} {v : Value} {ty : TypeId} {pos : String} {aft : Array Edge} {g : Option (Nat × Bool)} {az : Array Operand} {ts : Array TypeId} {cal : Operand} {gf : FuncId} {vs : List Value} (ho : ops[i]? = some ⟨some d, .call ⟨.value cal, az, ts⟩, ty, pos, aft, g⟩) (hw : wantL ops l g = true)
    (hc : opd l cal = some (.func (.func gf) #[] #[])) (hx : opds l az.toList = some vs) (hd : Nat.blt d n = true) (hcf : ∀ args w, (callFunc gf args).run P w = .ok (.enter gf args) w)
    (hcall : ∀ w Y', St w0 S w h Y' → Cn P gf vs w (fun u _ => u = v)) (hg : RdT P w0 S n ops h F (i + 1) m ((d, v) :: l)) : RdT P w0 S n ops h F i (m + 1) l := by
  intro t hF
  refine ⟨d, v, ⟨_, ho, rfl, by simpa [Nat.blt_eq] using hd, rfl, .inl ⟨want_of hF hw, fun w Ds Y' hS => .inr ⟨gf, vs.toArray, ?_, hcall w Y' hS⟩⟩⟩, hg _ (hF.put v hd)⟩
  have e1 := resolve_run (P := P) (ty := ty) (ts := ts) (Ds := Ds) (w := w) hF hc hx
  simp only [execOp, Sem.run_bind, e1, Result.andThen_ok, invoke, hcf]
  simp
theorem RdT.no {F : Fl → Prop} {i m d : Nat} {o : Oper} (ho : ops[i]? = some o) (hw : skipL ops l o.guard = true) (hdst : o.dst = some d) (hnd : isDefer o.op = false) (hd : Nat.blt d n = true) (hg : RdT P w0 S n ops h F (i + 1) m ((d, undef) :: l)) : RdT P w0 S n ops h F i (m + 1) l :=
  fun t hF => ⟨d, undef, ⟨o, ho, hdst, by simpa [Nat.blt_eq] using hd, hnd, .inr ⟨skip_of hF hw, rfl⟩⟩, hg _ (hF.put undef hd)⟩
theorem RdT.cases {F : Fl → Prop} {i m d : Nat} {b : Bool} (hv : look l d = some (.bool b)) (ht : b = true → RdT P w0 S n ops h F i m ((d, .bool true) :: l)) (hf : b = false → RdT P w0 S n ops h F i m ((d, .bool false) :: l)) : RdT P w0 S n ops h F i m l := by
  intro t hF
  cases hb : b with
  | true => exact ht hb t (frm_case hF hv hb)
  | false => exact hf hb t (frm_case hF hv hb)
theorem mem_reach {x : Nat} {listed : List Nat} (hc : ∀ j ∈ listed, ∀ e ∈ dirs ops j, e ∈ listed) (hx : ∀ e ∈ dirs ops x, e ∈ listed) : ∀ {j : Nat} {acc : List Nat}, (∀ z ∈ acc, z = x ∨ z ∈ listed) → ∀ y ∈ reach ops j acc, y = x ∨ y ∈ listed
  | 0, _, ha, y, hy => ha y hy
  | j + 1, acc, ha, y, hy => by
    rw [reach] at hy
    refine mem_reach hc hx (acc := cond (acc.any fun z => (dirs ops z).contains j) (j :: acc) acc) (fun z hz => ?_) y hy
    cases hb : acc.any fun z => (dirs ops z).contains j with
    | false => rw [hb] at hz; exact ha z hz
    | true =>
      rw [hb] at hz
      rcases List.mem_cons.1 hz with rfl | hz
      · obtain ⟨u, hu, hd⟩ := List.any_eq_true.1 hb
        have hd := List.contains_iff_mem.1 hd
        rcases ha u hu with rfl | h
        · exact .inr (hx _ hd)
        · exact .inr (hc u h _ hd)
      · exact ha z hz
theorem mem_below {x : Nat} {listed : List Nat} (hc : ∀ j ∈ listed, ∀ e ∈ dirs ops j, e ∈ listed) (hx : ∀ e ∈ dirs ops x, e ∈ listed) : ∀ y ∈ below ops x, y = x ∨ y ∈ listed :=
  mem_reach hc hx (fun _ hz => .inl (List.mem_singleton.1 hz))
theorem mem_readyL {listed : List Nat} {i : Nat} : i ∈ readyL ops listed ↔ i < ops.size ∧ i ∉ listed ∧ ∀ e ∈ dirs ops i, e ∈ listed := by
  simp [readyL, List.mem_filter]
structure TailFacts (ops : Array Oper) (m : Nat) : Prop where
  size : m ≤ ops.size
  lt : ∀ i, i < ops.size → ∀ j ∈ dirs ops i, j < i
  sel : ∀ i, i < m → ∀ o, ops[i]? = some o → notSel o.op = true
  inj : ∀ i j d, i < m → j < ops.size → dstOf ops i = some d → dstOf ops j = some d → i = j
  eye : ∀ i, i < m → ∀ o, ops[i]? = some o → ∀ s ∈ eyes ops o, ∀ j, j < ops.size → dstOf ops j = some s → j ∈ dirs ops i ∨ (m ≤ j ∧ i ∈ below ops j)
  eyeT : ∀ i, m ≤ i → ∀ o, ops[i]? = some o → ∀ s ∈ eyes ops o, ∀ j, j < m → dstOf ops j = some s → j ∈ dirs ops i
theorem tailFacts_of {m : Nat} (hc : tailOk ops l m = true) : TailFacts ops m := by
  simp only [tailOk, Bool.and_eq_true, List.all_eq_true, List.mem_range, List.mem_range'_1, Nat.blt_eq, Nat.ble_eq] at hc
  obtain ⟨⟨⟨hsz, hlt⟩, hr⟩, ht⟩ := hc
  have hat : ∀ i, i < m → ∃ o d, ops[i]? = some o ∧ o.dst = some d ∧ notSel o.op = true ∧ (∀ j, j < ops.size → j = i ∨ dstOf ops j ≠ some d) ∧ (∀ s ∈ eyes ops o, ∀ j, j < ops.size → (dstOf ops j ≠ some s ∨ j ∈ dirs ops i) ∨ (m ≤ j ∧ i ∈ below ops j)) := by
    intro i hi
    have := hr i hi
    cases ho : ops[i]? with
    | none => simp [ho] at this
    | some o =>
      cases hd : o.dst with
      | none => simp [ho, hd] at this
      | some d =>
        simp only [ho, hd, Bool.and_eq_true, List.all_eq_true, List.mem_range, Bool.or_eq_true, Nat.beq_eq, Bool.not_eq_true', beq_eq_false_iff_ne, List.contains_iff_mem, Nat.ble_eq] at this
        exact ⟨o, d, rfl, hd, this.1, this.2.1, this.2.2⟩
  refine ⟨hsz, hlt, fun i hi o ho => ?_, fun i j d hi hj h1 h2 => ?_, fun i hi o ho s hs j hj hd => ?_, fun i hi o ho s hs j hj hd => ?_⟩
  · obtain ⟨o', d, h1, _, h3, _⟩ := hat i hi
    rw [ho] at h1; cases h1; exact h3
  · obtain ⟨o, d', e1, e2, _, e5, _⟩ := hat i hi
    have : d' = d := by simp [dstOf, e1, e2] at h1; exact h1
    subst this
    rcases e5 j hj with e | e
    · exact e.symm
    · exact absurd h2 e
  · obtain ⟨o', d, e1, _, _, _, e6⟩ := hat i hi
    rw [ho] at e1; cases e1
    rcases e6 s hs j hj with (e | e) | e
    · exact absurd hd e
    · exact .inl e
    · exact .inr e
  · have hiN := (Array.getElem?_eq_some_iff.1 ho).1
    have := ht i ⟨hi, by omega⟩
    simp only [ho, List.all_eq_true, Bool.or_eq_true, Bool.not_eq_true', beq_eq_false_iff_ne, List.contains_iff_mem, List.mem_range] at this
    rcases this s hs j hj with e | e
    · exact absurd hd e
    · exact e
theorem forced_go : ∀ {rest listed : List Nat} {fuel τ : Nat} {arr : Array Bool}, forced ops listed rest = true → arr.size = ops.size → (∀ j, arr.getD j false = listed.contains j) → rest.length ≤ fuel →
    Region.linearise.go .any ops fuel τ arr [] = rest
  | [], listed, fuel, τ, arr, hf, hs, h, _ => by
    have h0 : readyL ops listed = [] := by simpa [forced] using hf
    cases fuel with
    | zero => rfl
    | succ fuel =>
      simp only [Region.linearise.go]
      change (match (Region.ready .any ops arr)[_ % (Region.ready .any ops arr).length]? with
        | some i => _
        | none => [].reverse) = []
      rw [ready_eq hs h, h0]; rfl
  | x :: rest, listed, 0, τ, arr, hf, hs, h, hl => by simp at hl
  | x :: rest, listed, fuel + 1, τ, arr, hf, hs, h, hl => by
    simp only [forced, Bool.and_eq_true, beq_iff_eq] at hf
    simp only [Region.linearise.go]
    change (match (Region.ready .any ops arr)[_ % (Region.ready .any ops arr).length]? with
      | some i => Region.linearise.go .any ops fuel (τ / (Region.ready .any ops arr).length) (arr.setIfInBounds i true) [i]
      | none => [].reverse) = _
    rw [ready_eq hs h, hf.1]
    simp only [List.length_singleton, Nat.mod_one, List.getElem?_cons_zero]
    rw [linearise_go_acc, List.reverse_singleton, List.singleton_append]
    have hx : x ∈ readyL ops listed := by rw [hf.1]; simp
    have hxl := (mem_readyL.1 hx).1
    rw [forced_go (listed := x :: listed) hf.2 (by simpa using hs) (fun j => ?_) (by simpa using hl)]
    rw [getD_listed (by omega), h j, List.contains_cons]
    split
    · rename_i e; subst e; simp
    · rename_i e; rw [beq_false_of_ne (Ne.symm e)]; rfl
theorem forced_len : ∀ {rest listed : List Nat}, forced ops listed rest = true → rest.length ≤ (List.range ops.size).countP (fun j => !listed.contains j)
  | [], _, _ => Nat.zero_le _
  | x :: rest, listed, hf => by
    simp only [forced, Bool.and_eq_true, beq_iff_eq] at hf
    have hx : x ∈ readyL ops listed := by rw [hf.1]; simp
    obtain ⟨h1, h2, _⟩ := mem_readyL.1 hx
    have ih := forced_len hf.2
    have := countP_lt (l := List.range ops.size) (p := fun j => !(x :: listed).contains j) (q := fun j => !listed.contains j) (fun y _ hy => by simp at hy ⊢; exact hy.2) ⟨x, by simpa using h1, by simpa using h2, by simp⟩
    simp only [List.length_cons]; omega
theorem Outc.goS {i d : Nat} {v : Value} {t : Array Value} {rest : List Nat} {w : World} {Ds : List Nat} {hb : Hl} (ho : Outc P w0 S n hb ops i t d v) (hs : hb.Sublist h) (hS : St w0 S w h (mkY Ds ++ Y))
    (hk : ∀ w', St w0 S w' h (mkY Ds ++ Y) → Gos P r f R (.inRegion ops rest :: k) (t.setIfInBounds d v) (Ds.map mark) w') : Gos P r f R (.inRegion ops (i :: rest) :: k) t (Ds.map mark) w := by
  obtain ⟨o, h1, h2, h3, h4, h5⟩ := ho
  rcases h5 with ⟨a, b⟩ | ⟨a, rfl⟩
  · rcases b w Ds _ (hS.subH hs) with hb | ⟨gf, args, hb, hcall⟩
    · refine Gos.op h1 a (not_defer h4) hb (.inl rfl) ?_
      rw [h2]; exact hk w hS
    · refine Gos.call h1 a (not_defer h4) hb hcall (fun u w2 hu => ?_)
      obtain ⟨he, rfl⟩ := hu
      rw [h2]; exact hk w2 (hS.later he)
  · refine Gos.opSkip h1 a ?_
    rw [h2]; exact hk w hS
theorem wanted_congr {o : Oper} {t t' : Array Value} (hs : t'.size = t.size) (he : ∀ s ∈ eyes ops o, t'.getD s undef = t.getD s undef) : Region.wanted o (yielded ops t') = Region.wanted o (yielded ops t) := by
  unfold Region.wanted
  cases hg : o.guard with
  | none => rfl
  | some p =>
    obtain ⟨j, want⟩ := p
    have : yielded ops t' j = yielded ops t j := by
      unfold yielded
      cases hd : (ops[j]?).bind (·.dst) with
      | none => rfl
      | some dj =>
        simp only [Option.bind_some]
        rw [opt_of_getD hs (he dj (by simp [eyes, hg, dstOf, hd]))]
    simp only [this]
theorem Mop.go {i d : Nat} {K : Value → Hl → Prop} {T t : Array Value} {rest : List Nat} {w : World} {Ds : List Nat} (hm : Mop P w0 S n h ops i l d K) (hF : Frm n T l) (hs : t.size = T.size)
    (he : ∀ o, ops[i]? = some o → ∀ s ∈ eyes ops o, t.getD s undef = T.getD s undef) (hS : St w0 S w h (mkY Ds ++ Y))
    (hk : ∀ v w' h', K v h' → St w0 S w' h' (mkY Ds ++ Y) → Gos P r f R (.inRegion ops rest :: k) (t.setIfInBounds d v) (Ds.map mark) w') : Gos P r f R (.inRegion ops (i :: rest) :: k) t (Ds.map mark) w := by
  obtain ⟨o, ho, hdst, hnd, hsel, hd, hr⟩ := hm
  have hw := wanted_congr (ops := ops) (o := o) hs (he o ho)
  rcases hr with ⟨hwant, hr⟩ | ⟨hskip, hK⟩
  · have hexec : execOp (Act.eval ⟨t, Ds.map mark⟩) o = execOp (Act.eval ⟨T, Ds.map mark⟩) o := execOp_congr (ρ' := Act.eval ⟨T, Ds.map mark⟩) o (fun cs bb e => by rw [e] at hsel; cases hsel) (fun x hx => by
      cases x with
      | tmp s => exact he o ho s (by
          simp only [eyes, List.mem_append]
          exact .inr (List.mem_filterMap.2 ⟨.tmp s, by simpa using hx, rfl⟩))
      | const v => rfl
      | global g => rfl
      | func g => rfl)
    rcases hr T w Ds _ hF hS with ⟨v, w', h', h1, h2, h3⟩ | ⟨gf, args, Rc, h1, h2, h3⟩
    · refine Gos.op ho (hw.trans (want_of hF hwant)) (not_defer hnd) (by rw [hexec]; exact h1) (.inl rfl) ?_
      rw [hdst]; exact hk v w' h' h3 h2
    · refine Gos.call ho (hw.trans (want_of hF hwant)) (not_defer hnd) (by rw [hexec]; exact h1) h2 (fun u w2 hu => ?_)
      obtain ⟨h', h4, h5⟩ := h3 u w2 hu
      rw [hdst]; exact hk u w2 h' h5 h4
  · refine Gos.opSkip ho (hw.trans (skip_of hF hskip)) ?_
    rw [hdst]; exact hk undef w h hK hS
theorem tail_core {m : Nat} (hf : TailFacts ops m) {D : Nat → Nat} {V : Nat → Value} {t0 : Array Value} {hB : Hl} (ht0 : t0.size = n)
    (hout : ∀ j, j < m → Outc P w0 S n hB ops j (tsq D V t0 j) (D j) (V j)) :
    ∀ (fuel τ : Nat) (arr : Array Bool) (TL : List Nat) (q : Nat) (l : Fl) (h : Hl) (t T : Array Value), arr.size = ops.size → (∀ j, arr.getD j false = true → ∀ e ∈ dirs ops j, arr.getD e false = true) →
      (∀ j, m ≤ j → (arr.getD j false = true ↔ j ∈ TL)) → (∀ j ∈ TL, m ≤ j) → Frm n T l → Tl P r f R w0 S Y n k ops m hB q TL l h → hB.Sublist h → t.size = n →
      (∀ j, j < m → T.getD (D j) undef = V j) → (∀ s, (∀ j, j < m → arr.getD j false = false → D j ≠ s) → t.getD s undef = T.getD s undef) → (∀ s, (∀ j, j < m → D j ≠ s) → (∀ j, m ≤ j → j < ops.size → dstOf ops j = some s → arr.getD j false = false) → T.getD s undef = t0.getD s undef) →
      (List.range ops.size).countP (fun j => !arr.getD j false) ≤ fuel → ∀ w Ds, St w0 S w h (mkY Ds ++ Y) → Gos P r f R (.inRegion ops (Region.linearise.go .any ops fuel τ arr []) :: k) t (Ds.map mark) w := by
  have hDst : ∀ j, j < m → dstOf ops j = some (D j) := fun j hj => by
    obtain ⟨o, h1, h2, _⟩ := hout j hj
    simp [dstOf, h1, h2]
  have hDlt : ∀ j, j < m → D j < t0.size := fun j hj => by
    obtain ⟨o, _, _, h3, _⟩ := hout j hj; omega
  have hmN := hf.size
  have hDinj : ∀ i j, i < m → j < m → D i = D j → i = j := fun i j hi hj e => hf.inj i j (D i) hi (by omega) (hDst i hi) (by rw [hDst j hj, e])
  -- all reads are done, and what is left has one order
  have hsw : ∀ {fuel τ : Nat} {arr : Array Bool} {TL rest : List Nat} {l : Fl} {h : Hl} {t T : Array Value}, arr.size = ops.size → (∀ j, m ≤ j → (arr.getD j false = true ↔ j ∈ TL)) → (∀ j ∈ TL, m ≤ j) → Frm n T l → t.size = n →
      (∀ s, (∀ j, j < m → arr.getD j false = false → D j ≠ s) → t.getD s undef = T.getD s undef) → (∀ j, j < m → arr.getD j false = true) → forced ops (TL ++ List.range m) rest = true →
      GoH P r f R w0 S Y n (.inRegion ops rest :: k) l h → (List.range ops.size).countP (fun j => !arr.getD j false) ≤ fuel → ∀ w Ds, St w0 S w h (mkY Ds ++ Y) → Gos P r f R (.inRegion ops (Region.linearise.go .any ops fuel τ arr []) :: k) t (Ds.map mark) w := by
    intro fuel τ arr TL rest l h t T hls hTL hTm hF hts hb hall hfo hg hc w Ds hS
    have hcont : ∀ j, arr.getD j false = (TL ++ List.range m).contains j := fun j => by
      rw [Bool.eq_iff_iff, List.contains_iff_mem, List.mem_append, List.mem_range]
      rcases Nat.lt_or_ge j m with hj | hj
      · exact ⟨fun _ => .inr hj, fun _ => hall j hj⟩
      · exact ⟨fun x => .inl ((hTL j hj).1 x), fun x => (hTL j hj).2 (by rcases x with x | x; exact x; omega)⟩
    have hlen := forced_len hfo
    have e1 : (fun j => !(TL ++ List.range m).contains j) = fun j => !arr.getD j false := by funext j; rw [hcont]
    rw [e1] at hlen
    rw [forced_go hfo hls hcont (by omega)]
    have ht : t = T := Array.ext_getElem? (fun s => opt_of_getD (by rw [hts, hF.1]) (hb s (fun j hj hu => by rw [hall j hj] at hu; cases hu)))
    rw [ht]; exact hg T w Ds hF hS
  intro fuel
  induction fuel with
  | zero =>
    intro τ arr TL q l h t T hls hcl hTL hTm hF htl hsub hts ha hb hcb hc w Ds hS
    have hl : ∀ j, j < ops.size → arr.getD j false = true := fun j hj => by
      have := List.countP_eq_zero.1 (Nat.le_zero.1 hc) j (by simpa using hj)
      simpa using this
    cases q with
    | zero => exact htl.elim
    | succ q =>
      rcases htl with ⟨rest, h1, _, h3⟩ | ⟨hne, _⟩
      · exact hsw hls hTL hTm hF hts hb (fun j hj => hl j (by omega)) h1 h3 hc w Ds hS
      · exfalso
        apply hne
        rw [List.eq_nil_iff_forall_not_mem]
        intro j hj
        obtain ⟨a1, a2, _⟩ := mem_readyL.1 hj
        apply a2
        rw [List.mem_append, List.mem_range]
        rcases Nat.lt_or_ge j m with hj | hj
        · exact .inr hj
        · exact .inl ((hTL j hj).1 (hl j a1))
  | succ fuel ih =>
    intro τ arr TL q l h t T hls hcl hTL hTm hF htl hsub hts ha hb hcb hc w Ds hS
    have hready : (∃ j, j < ops.size ∧ arr.getD j false = false) → Region.ready .any ops arr ≠ [] := by
      rintro ⟨j, hj, hu⟩
      have key : ∀ q, q < ops.size → arr.getD q false = false → Region.ready .any ops arr ≠ [] := by
        intro q
        induction q using Nat.strongRecOn with
        | _ q ihq =>
          intro hq hqu
          by_cases hb : ∃ e ∈ dirs ops q, arr.getD e false = false
          · obtain ⟨e, he, heu⟩ := hb
            have hlt := hf.lt q hq e he
            exact ihq e hlt (by omega) heu
          · obtain ⟨o, ho⟩ : ∃ o, ops[q]? = some o := ⟨ops[q], Array.getElem?_eq_getElem hq⟩
            have : q ∈ Region.ready .any ops arr := by
              rw [mem_ready]
              refine ⟨by rw [getD_tf (by omega)]; exact hqu, o, ho, fun e he hbd => ?_⟩
              cases hx : arr.getD e.on false with
              | true => rfl
              | false => exact absurd ⟨e.on, (mem_dirs ho).2 ⟨e, he, hbd, rfl⟩, hx⟩ hb
            exact List.ne_nil_of_mem this
      exact key j hj hu
    -- what is ready behind the reads is ready when all reads are done
    have hrT : ∀ i, m ≤ i → i < ops.size → arr.getD i false = false → (∀ e ∈ dirs ops i, arr.getD e false = true) → i ∈ readyL ops (TL ++ List.range m) := fun i him hiN hu hd => by
      rw [mem_readyL]
      refine ⟨hiN, fun hx => ?_, fun e he => ?_⟩
      · rw [List.mem_append, List.mem_range] at hx
        rcases hx with hx | hx
        · rw [(hTL i him).2 hx] at hu; cases hu
        · omega
      · rw [List.mem_append, List.mem_range]
        rcases Nat.lt_or_ge e m with hj | hj
        · exact .inr hj
        · exact .inl ((hTL e hj).1 (hd e he))
    by_cases hdone : ∃ rest, forced ops (TL ++ List.range m) rest = true ∧ GoH P r f R w0 S Y n (.inRegion ops rest :: k) l h ∧ ∀ j, j < m → arr.getD j false = true
    · obtain ⟨rest, h1, h2, h3⟩ := hdone
      exact hsw hls hTL hTm hF hts hb h3 h1 h2 hc w Ds hS
    simp only [Region.linearise.go]
    change Gos P r f R (.inRegion ops (match (Region.ready .any ops arr)[τ % (Region.ready .any ops arr).length]? with
      | some i => Region.linearise.go .any ops fuel (τ / (Region.ready .any ops arr).length) (arr.setIfInBounds i true) [i]
      | none => [].reverse) :: k) t (Ds.map mark) w
    cases hi : (Region.ready .any ops arr)[τ % (Region.ready .any ops arr).length]? with
    | none =>
      exfalso
      have hnil : Region.ready .any ops arr = [] := by
        cases hr : Region.ready .any ops arr with
        | nil => rfl
        | cons x xs =>
          rw [hr] at hi
          have hlt : τ % (x :: xs).length < (x :: xs).length := Nat.mod_lt _ (by simp)
          rw [List.getElem?_eq_getElem hlt] at hi; cases hi
      have hl : ∀ j, j < ops.size → arr.getD j false = true := fun j hj => by
        cases hx : arr.getD j false with
        | true => rfl
        | false => exact absurd hnil (hready ⟨j, hj, hx⟩)
      cases q with
      | zero => exact htl.elim
      | succ q =>
        rcases htl with ⟨rest, h1, _, h3⟩ | ⟨hne, _⟩
        · exact hdone ⟨rest, h1, h3, fun j hj => hl j (by omega)⟩
        · apply hne
          rw [List.eq_nil_iff_forall_not_mem]
          intro j hj
          obtain ⟨a1, a2, _⟩ := mem_readyL.1 hj
          apply a2
          rw [List.mem_append, List.mem_range]
          rcases Nat.lt_or_ge j m with hj | hj
          · exact .inr hj
          · exact .inl ((hTL j hj).1 (hl j a1))
    | some i =>
      have hmem := List.mem_of_getElem? hi
      rw [mem_ready] at hmem
      obtain ⟨hu, o, ho, hdep⟩ := hmem
      have hiN : i < ops.size := (Array.getElem?_eq_some_iff.1 ho).1
      rw [getD_tf (by omega)] at hu
      simp only []
      rw [linearise_go_acc, List.reverse_singleton, List.singleton_append]
      have hdl : ∀ e ∈ dirs ops i, arr.getD e false = true := fun e he => by
        obtain ⟨e', he', hb, rfl⟩ := (mem_dirs ho).1 he
        exact hdep e' he' hb
      have hcl' : ∀ j, (arr.setIfInBounds i true).getD j false = true → ∀ e ∈ dirs ops j, (arr.setIfInBounds i true).getD e false = true := by
        intro j hj e he
        rw [getD_listed (by omega)] at hj ⊢
        split
        · rfl
        · split at hj
          · rename_i hij; subst hij; exact hdl e he
          · exact hcl j hj e he
      have hcnt := count_set (listed := arr) hls hiN hu
      by_cases him : i < m
      · -- a read
        have hgo := hout i him
        have hDi : D i < t.size := by rw [hts, ← ht0]; exact hDlt i him
        have heq : Outc P w0 S n hB ops i t (D i) (V i) := by
          refine hgo.congr (hf.sel i him) (by rw [hts, tsq_size, ht0]) (fun o' ho' s hs => ?_)
          obtain ⟨g1, g2⟩ := tsq_get hDlt hDinj i (by omega)
          by_cases hx : ∃ j, j < m ∧ D j = s
          · obtain ⟨j, hj, rfl⟩ := hx
            have hjd := (hf.eye i him o' ho' (D j) hs j (by omega) (hDst j hj)).resolve_right (fun x => by omega)
            rw [g1 j (hf.lt i hiN j hjd), hb (D j) (fun j' hj' hu' e => by
              have := hDinj j' j hj' hj e
              subst this
              rw [hdl j' hjd] at hu'; cases hu'), ha j hj]
          · rw [hb s (fun j hj _ e => hx ⟨j, hj, e⟩), g2 s (fun j hj e => hx ⟨j, by omega, e⟩)]
            refine hcb s (fun j hj e => hx ⟨j, hj, e⟩) (fun j hmj hj hd => ?_)
            rcases hf.eye i him o' ho' s hs j hj hd with hjd | ⟨_, hjb⟩
            · have hjl := hf.lt i hiN j hjd
              omega
            · cases hja : arr.getD j false with
              | false => rfl
              | true =>
                exfalso
                have := mem_below (ops := ops) (listed := (List.range ops.size).filter (fun j => arr.getD j false)) (x := j) (fun j hj e he => by
                  rw [List.mem_filter, List.mem_range] at hj ⊢
                  have hlt := hf.lt j hj.1 e he
                  exact ⟨by omega, hcl j hj.2 e he⟩) (fun e he => by
                  rw [List.mem_filter, List.mem_range]
                  have hlt := hf.lt j hj e he
                  exact ⟨by omega, hcl j hja e he⟩) i hjb
                rcases this with h | h
                · omega
                · rw [(List.mem_filter.1 h).2] at hu; cases hu
        refine heq.goS hsub hS (fun w hS => ?_)
        refine ih _ _ TL q l h _ T (by simpa using hls) hcl' (fun j hj => ?_) hTm hF htl hsub (by simpa using hts) ha (fun s hs => ?_) (fun s hs1 hs2 => hcb s hs1 (fun j hj hjN hd => by
          have := hs2 j hj hjN hd
          rwa [getD_listed (by omega), if_neg (by omega)] at this)) (by omega) w Ds hS
        · rw [getD_listed (by omega), if_neg (by omega)]; exact hTL j hj
        · rw [getD_set hDi]
          split
          · rename_i e; subst e; exact (ha i him).symm
          · rename_i e
            refine hb s (fun j hj hu' => ?_)
            by_cases e2 : i = j
            · subst e2; exact e
            · exact hs j hj (by rw [getD_listed (by omega), if_neg e2]; exact hu')
      · -- of the tail
        have him' : m ≤ i := by omega
        have hir := hrT i him' hiN hu hdl
        cases q with
        | zero => exact htl.elim
        | succ q =>
          rcases htl with ⟨rest, h1, hbel, h3⟩ | ⟨_, hop⟩
          · exfalso
            cases rest with
            | nil =>
              have h0 : readyL ops (TL ++ List.range m) = [] := by simpa [forced] using h1
              rw [h0] at hir; cases hir
            | cons x rest =>
              have hx : readyL ops (TL ++ List.range m) = [x] := by
                simp only [forced, Bool.and_eq_true, beq_iff_eq] at h1; exact h1.1
              rw [hx] at hir
              obtain rfl := List.mem_singleton.1 hir
              refine hdone ⟨i :: rest, h1, h3, fun j hj => ?_⟩
              have hmem : j ∈ below ops i ∧ j ≠ i := by
                have := List.all_eq_true.1 hbel j (by simpa using hj)
                rw [Bool.and_eq_true, List.contains_iff_mem, Bool.not_eq_true'] at this
                exact ⟨this.1, fun e => by rw [e, Nat.beq_refl] at this; cases this.2⟩
              have := mem_below (ops := ops) (listed := (List.range ops.size).filter (fun j => arr.getD j false)) (x := i) (fun j hj e he => by
                rw [List.mem_filter, List.mem_range] at hj ⊢
                have hlt := hf.lt j hj.1 e he
                exact ⟨by omega, hcl j hj.2 e he⟩) (fun e he => by
                rw [List.mem_filter, List.mem_range]
                have hlt := hf.lt i hiN e he
                exact ⟨by omega, hdl e he⟩) j hmem.1
              exact (List.mem_filter.1 (this.resolve_left hmem.2)).2
          · obtain ⟨d, hmop⟩ := hop i hir
            have hdi : dstOf ops i = some d := by
              obtain ⟨o', e1, e2, _⟩ := hmop
              simp [dstOf, e1, e2]
            have hdn : d < n := by
              obtain ⟨o', _, _, _, _, hd, _⟩ := hmop
              simpa [Nat.blt_eq] using hd
            refine hmop.go hF (by rw [hts, hF.1]) (fun o' ho' s hs => ?_) hS (fun v w' h' hK hS' => ?_)
            · refine hb s (fun j hj hu' e => ?_)
              subst e
              have hjd := hf.eyeT i him' o' ho' (D j) hs j hj (hDst j hj)
              rw [hdl j hjd] at hu'; cases hu'
            · obtain ⟨hsub', htl'⟩ := hK
              refine ih _ _ (i :: TL) q ((d, v) :: l) h' _ (T.setIfInBounds d v) (by simpa using hls) hcl' (fun j hj => ?_) (fun j hj => ?_) (hF.put v (by simpa [Nat.blt_eq] using hdn)) htl' hsub' (by simpa using hts) (fun j hj => ?_) (fun s hs => ?_) (fun s hs1 hs2 => ?_) (by omega) w' Ds hS'
              · rw [getD_listed (by omega), List.mem_cons]
                split
                · rename_i e; subst e; simp
                · rename_i e
                  rw [hTL j hj]
                  exact ⟨.inr, fun x => x.resolve_left (Ne.symm e)⟩
              · rcases List.mem_cons.1 hj with rfl | hj
                · exact him'
                · exact hTm j hj
              · rw [getD_set (by rw [hF.1]; exact hdn)]
                split
                · rename_i e
                  have := hf.inj j i d hj hiN (by rw [hDst j hj, e]) hdi
                  omega
                · exact ha j hj
              · rw [getD_set (by rw [hts]; exact hdn), getD_set (by rw [hF.1]; exact hdn)]
                split
                · rfl
                · refine hb s (fun j hj hu' => hs j hj ?_)
                  rw [getD_listed (by omega), if_neg (by omega)]; exact hu'
              · rw [getD_set (by rw [hF.1]; exact hdn)]
                split
                · rename_i e
                  have := hs2 i him' hiN (by rw [hdi, e])
                  rw [getD_listed (by omega), if_pos rfl] at this; cases this
                · refine hcb s hs1 (fun j hj hjN hd => ?_)
                  have := hs2 j hj hjN hd
                  rw [getD_listed (by omega)] at this
                  split at this
                  · cases this
                  · exact this
/-- **a region that draws its order: its first m operations only read; those behind them may make new blocks; then what is left has one order** -/
theorem GoH.drawT {id : Nat} (m q : Nat) (hmix : P.follows .mixedOrders = true) (hc : tailOk ops l m = true) (hg : RdT P w0 S n ops h (fun l' => Tl P r f R w0 S Y n k ops m h q [] l' h) 0 m l) : GoH P r f R w0 S Y n (.code (.region id ops true) :: k) l h := by
  intro t w Ds hF hS
  have hf := tailFacts_of hc
  refine .regionDraw (fun τ => ?_)
  obtain ⟨D, V, hout, l', hF', htl⟩ := (hg t hF).seq
  simp only [Nat.zero_add] at hout
  simp only [Region.schedule, hmix, Bool.true_or, if_true, Region.linearise]
  have hDst : ∀ j, j < m → dstOf ops j = some (D j) := fun j hj => by
    obtain ⟨o, h1, h2, _⟩ := hout j hj
    simp [dstOf, h1, h2]
  have hDlt : ∀ j, j < m → D j < t.size := fun j hj => by
    obtain ⟨o, _, _, h3, _⟩ := hout j hj
    rw [hF.1]; exact h3
  have hmN := hf.size
  have hDinj : ∀ i j, i < m → j < m → D i = D j → i = j := fun i j hi hj e => hf.inj i j (D i) hi (by omega) (hDst i hi) (by rw [hDst j hj, e])
  obtain ⟨g1, g2⟩ := tsq_get hDlt hDinj m (Nat.le_refl _)
  have harr : ∀ j, (Array.replicate ops.size false).getD j false = false := fun j => by
    simp [Array.getD_eq_getD_getElem?, Array.getElem?_replicate]; split <;> simp
  refine tail_core hf hF.1 hout ops.size τ _ [] q l' h t _ (by simp) (fun j hj => ?_) (fun j _ => ?_) (by simp) hF' htl (List.Sublist.refl _) hF.1 g1 (fun s hs => ?_) (fun s hs _ => ?_) ?_ _ Ds hS.drew
  · rw [harr] at hj; cases hj
  · rw [harr]; simp
  · rw [g2 s (fun j hj => hs j hj (harr j))]
  · exact g2 s (fun j hj e => hs j hj e)
  · exact Nat.le_trans (List.countP_le_length) (by simp)
theorem Tl.sw {m q : Nat} {hb : Hl} {TL : List Nat} (rest : List Nat) (h1 : forced ops (TL ++ List.range m) rest = true) (h2 : afterAll ops m rest = true)
    (hg : GoH P r f R w0 S Y n (.inRegion ops rest :: k) l h) : Tl P r f R w0 S Y n k ops m hb (q + 1) TL l h := .inl ⟨rest, h1, h2, hg⟩
/-- one operation is next -/
theorem Tl.one {m q i d : Nat} {hb : Hl} {TL : List Nat} (h1 : readyL ops (TL ++ List.range m) = [i]) (hm : Mop P w0 S n h ops i l d (fun v h' => hb.Sublist h' ∧ Tl P r f R w0 S Y n k ops m hb q (i :: TL) ((d, v) :: l) h')) : Tl P r f R w0 S Y n k ops m hb (q + 1) TL l h :=
  .inr ⟨by rw [h1]; simp, fun j hj => by rw [h1] at hj; obtain rfl := List.mem_singleton.1 hj; exact ⟨d, hm⟩⟩
/-- one of two operations is next -/
theorem Tl.two {m q i d i2 d2 : Nat} {hb : Hl} {TL : List Nat} (h1 : readyL ops (TL ++ List.range m) = [i, i2]) (hm : Mop P w0 S n h ops i l d (fun v h' => hb.Sublist h' ∧ Tl P r f R w0 S Y n k ops m hb q (i :: TL) ((d, v) :: l) h'))
    (hm2 : Mop P w0 S n h ops i2 l d2 (fun v h' => hb.Sublist h' ∧ Tl P r f R w0 S Y n k ops m hb q (i2 :: TL) ((d2, v) :: l) h')) : Tl P r f R w0 S Y n k ops m hb (q + 1) TL l h :=
  .inr ⟨by rw [h1]; simp, fun j hj => by
    rw [h1] at hj
    rcases List.mem_cons.1 hj with rfl | hj
    · exact ⟨d, hm⟩
    · obtain rfl := List.mem_singleton.1 hj; exact ⟨d2, hm2⟩⟩
end
end Go.Proofs.Wit
namespace Go.Proofs.Wit
open Go Go.RowKit
theorem GoH.sub' {P : Program} {r : Option Nat} {f : FuncId} {R : Value → World → Prop} {w0 : World} {S : List Nat} {Y : List (Nat × Obj)} {n : Nat} {k : List Item} {l l' : Fl} {h h' : Hl} (hg : GoH P r f R w0 S Y n k l' h') (hl : SubF l' l) (hh : ∀ w Y', St w0 S w h Y' → St w0 S w h' Y') : GoH P r f R w0 S Y n k l h :=
  fun t w Ds hF hS => hg t w Ds (hF.sub hl) (hh w _ hS)
/-- what comes behind a region is walked once -/
theorem GoH.regionK {P : Program} {r : Option Nat} {f : FuncId} {R : Value → World → Prop} {w0 : World} {S : List Nat} {Y : List (Nat × Obj)} {n : Nat} {k : List Item} {l : Fl} {h : Hl} {ops : Array Oper} {id : Nat} {dr : Bool} {α : Type} (restc : List Nat) (lf : α → Fl) (hf : α → Hl)
    (hK : ∀ a, GoH P r f R w0 S Y n (.inRegion ops restc :: k) (lf a) (hf a))
    (hg : (∀ a l h, SubF (lf a) l → (∀ w Y', St w0 S w h Y' → St w0 S w (hf a) Y') → GoH P r f R w0 S Y n (.inRegion ops restc :: k) l h) → GoH P r f R w0 S Y n (.code (.region id ops dr) :: k) l h) : GoH P r f R w0 S Y n (.code (.region id ops dr) :: k) l h :=
  hg (fun a _ _ hl hh => (hK a).sub' hl hh)
end Go.Proofs.Wit
namespace Go.Proofs.Wit
open Go Go.RowKit
section
variable {P : Program} {r : Option Nat} {f : FuncId} {R : Value → World → Prop} {w0 : World} {S : List Nat} {Y : List (Nat × Obj)} {n : Nat} {k : List Item} {l : Fl} {h : Hl} {ops : Array Oper}
theorem RdGo.sub {i m : Nat} {l' : Fl} (hg : RdGo P r f R w0 S Y n k ops i m l' h) (hl : SubF l' l) : RdGo P r f R w0 S Y n k ops i m l h := fun t hF => hg t (hF.sub hl)
theorem RdGo.callCP {i m d : Nat} {v : Value} {ty : TypeId} {pos : String} {aft : Array Edge} {g : Option (Nat × Bool)} {az : Array Operand} {ts : Array TypeId} {cal : Operand} {gf : FuncId} {fs cs vs : List Value} (ho : ops[i]? = some ⟨some d, .call ⟨.value cal, az, ts⟩, ty, pos, aft, g⟩) (hw : wantL ops l g = true)
    (hc : opd l cal = some (.func (.func gf) fs.toArray cs.toArray)) (hx : opds l az.toList = some vs) (hd : Nat.blt d n = true) (hcf : ∀ args w, (callFunc gf args).run P w = .ok (.enter gf args) w)
    (hcall : ∀ w Y', St w0 S w h Y' → Cn P gf (fs ++ vs ++ cs) w (fun u _ => u = v)) (hg : RdGo P r f R w0 S Y n k ops (i + 1) m ((d, v) :: l) h) : RdGo P r f R w0 S Y n k ops i (m + 1) l h := by
  intro t hF
  refine ⟨d, v, ⟨_, ho, rfl, by simpa [Nat.blt_eq] using hd, rfl, .inl ⟨want_of hF hw, fun w Ds Y' hS => .inr ⟨gf, (fs ++ vs ++ cs).toArray, ?_, hcall w Y' hS⟩⟩⟩, ?_⟩
  · have e1 := resolve_run (P := P) (ty := ty) (ts := ts) (Ds := Ds) (w := w) hF hc hx
    simp only [execOp, Sem.run_bind, e1, Result.andThen_ok, invoke, hcf]
    simp
  · have := hg _ (hF.put v hd)
    rw [show i + (m + 1) = i + 1 + m from by omega]; exact this
end
theorem Ex.cells {w w' : World} (_e : Ex [] w w') {b : Nat} {cs : Array Value} {t : TypeId} {fr : Nat × Nat} (_h : w.heap[b]? = some (.cells cs t fr)) (hk : w'.heap[b]? = some (.cells cs t fr)) : ∀ q v, cs.toList[q]? = some v → w'.cell? ((⟨b, 0, none⟩ : Addr).add q) = some v := fun q v hv => by
  rw [addr_off, Nat.zero_add, cell_of_row w' b q cs t fr hk]; simpa using hv
end Go.Proofs.Wit
namespace Go.Proofs.Wit
open Go Go.RowKit
/-! blocks of a callee's, many at once; lists of lists; models -/
/-- blocks that are new since w, as they lie in w' -/
structure NewH (w w' : World) (H : Hl) : Prop where
  own : ∀ p ∈ H, ∀ b, p.1 = some b → w'.heap[b]? = some p.2 ∧ isSys p.2 = false ∧ w.heap.size ≤ b
  apart : H.Pairwise apartH
theorem NewH.of {w w' : World} {h : Hl} {Y : List (Nat × Obj)} (s : St w [] w' h Y) : NewH w w' h :=
  ⟨fun p hp b hb => by
    obtain ⟨h1, h2, h3⟩ := s.own p hp b hb
    exact ⟨h1, h2, h3.resolve_right (by simp)⟩, s.apart⟩
theorem NewH.sub {w w' : World} {H H' : Hl} (g : NewH w w' H) (hs : H'.Sublist H) : NewH w w' H' := ⟨fun p hp => g.own p (hs.subset hp), g.apart.sublist hs⟩
theorem St.gainL {w0 w w' : World} {S : List Nat} {h : Hl} {Y : List (Nat × Obj)} (s : St w0 S w h Y) (e : Ex [] w w') {H : Hl} (g : NewH w w' H) : St w0 S w' (H ++ h) Y := by
  have s' := s.later e
  refine ⟨s'.ext, fun p hp b hb => ?_, List.pairwise_append.2 ⟨g.apart, s.apart, fun p hp q hq b hb hqb => ?_⟩, s'.sys, s'.ynd⟩
  · rcases List.mem_append.1 hp with hp | hp
    · obtain ⟨h1, h2, h3⟩ := g.own p hp b hb
      exact ⟨h1, h2, .inl (Nat.le_trans s.ext.size h3)⟩
    · exact s'.own p hp b hb
  · have h1 := (g.own p hp b hb).2.2
    have h2 := (Array.getElem?_eq_some_iff.1 (s.own q hq b hqb).1).1
    omega
theorem St.pickT {w0 w : World} {S : List Nat} {pre pre' HR : Hl} {Y : List (Nat × Obj)} (s : St w0 S w (pre ++ HR) Y) (is : List Nat) (hn : is.Nodup) (e : is.map (fun i => pre[i]?) = pre'.map some) : St w0 S w (pre' ++ HR) Y := by
  have hlen : is.length = pre'.length := by have := congrArg List.length e; simpa using this
  have hat : ∀ j (hj : j < pre'.length), ∃ i, is[j]? = some i ∧ pre[i]? = some pre'[j] := fun j hj => by
    have h1 := congrArg (fun l => l[j]?) e
    have hj2 : j < is.length := by omega
    simp only [List.getElem?_map, List.getElem?_eq_getElem hj, List.getElem?_eq_getElem hj2, Option.map_some, Option.some.injEq] at h1
    exact ⟨is[j], List.getElem?_eq_getElem hj2, h1⟩
  have hmem : ∀ p ∈ pre', p ∈ pre := fun p hp => by
    obtain ⟨j, hj, rfl⟩ := List.mem_iff_getElem.1 hp
    obtain ⟨i, _, h2⟩ := hat j hj
    exact List.mem_of_getElem? h2
  have hap := List.pairwise_append.1 s.apart
  refine ⟨s.ext, fun p hp => ?_, List.pairwise_append.2 ⟨?_, hap.2.1, fun p hp q hq => hap.2.2 p (hmem p hp) q hq⟩, s.sys, s.ynd⟩
  · rcases List.mem_append.1 hp with hp | hp
    · exact s.own p (List.mem_append_left _ (hmem p hp))
    · exact s.own p (List.mem_append_right _ hp)
  · rw [List.pairwise_iff_getElem]
    intro j j' hj hj' hlt
    obtain ⟨i, h1, h2⟩ := hat j hj
    obtain ⟨i', h1', h2'⟩ := hat j' hj'
    have hne : i ≠ i' := by
      rintro rfl
      obtain ⟨a1, a2⟩ := List.getElem?_eq_some_iff.1 h1
      obtain ⟨b1, b2⟩ := List.getElem?_eq_some_iff.1 h1'
      have := (List.nodup_iff_pairwise_ne.1 hn)
      exact absurd (a2.trans b2.symm) (List.pairwise_iff_getElem.1 this j j' a1 b1 hlt)
    obtain ⟨a1, a2⟩ := List.getElem?_eq_some_iff.1 h2
    obtain ⟨b1, b2⟩ := List.getElem?_eq_some_iff.1 h2'
    rw [← a2, ← b2]
    rcases Nat.lt_or_gt_of_ne hne with hx | hx
    · exact List.pairwise_iff_getElem.1 hap.1 i i' a1 b1 hx
    · exact apartH_symm (List.pairwise_iff_getElem.1 hap.1 i' i b1 a1 hx)
/-- other blocks of what is known, in another order -/
theorem GoH.pickT {P : Program} {r : Option Nat} {f : FuncId} {R : Value → World → Prop} {w0 : World} {S : List Nat} {Y : List (Nat × Obj)} {n : Nat} {k : List Item} {l : Fl} {pre pre' : Hl} (HR : Hl) (is : List Nat) (hn : is.Nodup) (e : is.map (fun i => pre[i]?) = pre'.map some)
    (hg : GoH P r f R w0 S Y n k l (pre' ++ HR)) : GoH P r f R w0 S Y n k l (pre ++ HR) := fun t w Ds hF hS => hg t w Ds hF (hS.pickT is hn e)
theorem GoH.pick {P : Program} {r : Option Nat} {f : FuncId} {R : Value → World → Prop} {w0 : World} {S : List Nat} {Y : List (Nat × Obj)} {n : Nat} {k : List Item} {l : Fl} {pre pre' : Hl} (is : List Nat) (hn : is.Nodup) (e : is.map (fun i => pre[i]?) = pre'.map some)
    (hg : GoH P r f R w0 S Y n k l pre') : GoH P r f R w0 S Y n k l pre := by
  have := GoH.pickT (pre := pre) (pre' := pre') [] is hn e (by rw [List.append_nil]; exact hg)
  rwa [List.append_nil] at this
/-- a list that lies in one of the blocks of H -/
def InS {α : Type} (enc : α → Value) (H : Hl) (a : Option Addr) (xs : List α) : Prop :=
  xs = [] ∨ ∃ b e sp, a = some ⟨b, 0, none⟩ ∧ (some b, ob enc e xs sp) ∈ H
theorem InS.mono {α : Type} {enc : α → Value} {H H' : Hl} {a : Option Addr} {xs : List α} (h : InS enc H a xs) (hs : H ⊆ H') : InS enc H' a xs := by
  rcases h with h | ⟨b, e, sp, h1, h2⟩
  · exact .inl h
  · exact .inr ⟨b, e, sp, h1, hs h2⟩
theorem InS.sl {α : Type} {enc : α → Value} {w0 w : World} {S : List Nat} {h : Hl} {Y : List (Nat × Obj)} {a : Option Addr} {xs : List α} (g : InS enc h a xs) (s : St w0 S w h Y) : Sl w a (xs.map enc) := by
  rcases g with rfl | ⟨b, e, sp, rfl, hm⟩
  · exact Sl.nil _ _
  · exact Sl.blk (s.own _ hm b rfl).1
theorem InS.at {α : Type} {enc : α → Value} {H : Hl} {q : Option Nat} {xs : List α} {e : TypeId} {sp : List Value} (hq : q = none → xs.length = 0) (hm : (q, ob enc e xs sp) ∈ H) : InS enc H (q.map (fun b => ⟨b, 0, none⟩)) xs := by
  cases q with
  | none => exact .inl (List.eq_nil_of_length_eq_zero (hq rfl))
  | some b => exact .inr ⟨b, e, sp, rfl, hm⟩
/-- a list of words as an element of a list: where it lies, its capacity, its words -/
structure Row where
  a : Option Addr
  cap : Nat
  xs : List W64
def Row.v (r : Row) : Value := .slice r.a r.xs.length r.cap
/-- a list of words in memory -/
structure Row.At (r : Row) (w : World) : Prop where
  at_ : SlU w r.a r.xs
  len : r.xs.length ≤ maxLen
  cap : r.xs.length ≤ r.cap
/-- a model: its three fields, and where its lists lie -/
structure MV where
  n : Int
  ra : Option Addr
  rc : Nat
  rows : List Row
  va : Option Addr
  vc : Nat
  val : List W64
abbrev MV.cs (m : MV) : Array Value := #[.int .i64 m.n, .slice m.va m.val.length m.vc, .slice m.ra m.rows.length m.rc]
def MV.v (m : MV) : Value := .agg #[.int .i64 m.n, .slice m.va m.val.length m.vc, .slice m.ra m.rows.length m.rc]
def MV.rel (m : MV) : List (List W64) := m.rows.map Row.xs
def SlR (w : World) (a : Option Addr) (rs : List Row) : Prop := Sl w a (rs.map Row.v)
structure MV.At (m : MV) (w : World) : Prop where
  rel : SlR w m.ra m.rows
  row : ∀ r ∈ m.rows, r.At w
  val : SlU w m.va m.val
  lr : m.rows.length ≤ maxLen
  lv : m.val.length ≤ maxLen
  cr : m.rows.length ≤ m.rc
  cv : m.val.length ≤ m.vc
theorem SlR.ex0 {w0 w : World} {a : Option Addr} {xs : List Row} (h : SlR w0 a xs) {S : List Nat} (e : Ex S w0 w) (hS : ∀ b o, a = some ⟨b, o, none⟩ → b ∉ S := by simp) : SlR w a xs := Sl.ex h e hS
theorem Sl.at {α : Type} {enc : α → Value} {w : World} {a : Option Addr} {xs : List α} (h : Sl w a (xs.map enc)) (k : Nat) (hk : k < xs.length) : w.cell? (adr a k) = some (enc xs[k]) := by
  rw [Sl.cell h k (by simpa using hk)]
  simp [List.getD_eq_getElem?_getD, hk]
theorem Ex.keep {w w' : World} (e : Ex [] w w') {b : Nat} {o : Obj} (h : w.heap[b]? = some o) : w'.heap[b]? = some o := by
  rw [e.block b (Array.getElem?_eq_some_iff.1 h).1 (by simp)]; exact h
theorem Ex.cell {w w' : World} (e : Ex [] w w') {b j : Nat} {cs : Array Value} {t : TypeId} {fr : Nat × Nat} {v : Value} (h : w.heap[b]? = some (.cells cs t fr)) (hv : cs[j]? = some v) : w'.cell? ⟨b, j, none⟩ = some v := by
  rw [cell_of_row w' b j cs t fr (e.keep h), hv]
/-- ints -/
abbrev I64 : Int → Value := Value.int .i64
def SlI (w : World) (a : Option Addr) (xs : List Int) : Prop := Sl w a (xs.map I64)
theorem SlI.ex0 {w0 w : World} {a : Option Addr} {xs : List Int} (h : SlI w0 a xs) {S : List Nat} (e : Ex S w0 w) (hS : ∀ b o, a = some ⟨b, o, none⟩ → b ∉ S := by simp) : SlI w a xs := Sl.ex h e hS
theorem SlI.at {w : World} {a : Option Addr} {xs : List Int} (h : SlI w a xs) (k : Nat) (hk : k < xs.length) : w.cell? (adr a k) = some (.int .i64 xs[k]) := Sl.at h k hk
/-- a list in a block of one's own, or nil -/
def OwnS {α : Type} (enc : α → Value) (e : TypeId) (w w' : World) (v : Value) (xs : List α) : Prop :=
  ∃ q cap sp, v = osv q xs.length cap ∧ (q = none → xs.length = 0 ∧ cap = 0) ∧ (xs.map enc ++ sp).length = cap ∧ ∀ b, q = some b → w.heap.size ≤ b ∧ w'.heap[b]? = some (ob enc e xs sp)
theorem gainS {α : Type} {enc : α → Value} {t : TypeId} {w0 w w' : World} {S : List Nat} {h : Hl} {Y : List (Nat × Obj)} (s : St w0 S w h Y) (e : Ex [] w w') {v : Value} {xs : List α} (ho : OwnS enc t w w' v xs) :
    ∃ q cap sp, v = osv q xs.length cap ∧ (q = none → xs.length = 0 ∧ cap = 0) ∧ (xs.map enc ++ sp).length = cap ∧ St w0 S w' ((q, ob enc t xs sp) :: h) Y := by
  obtain ⟨q, cap, sp, h1, h2, h3, h4⟩ := ho
  refine ⟨q, cap, sp, h1, h2, h3, ?_⟩
  cases q with
  | none => exact (s.later e).none _
  | some b => exact s.gain e (h4 b rfl).2 rfl (h4 b rfl).1
theorem OwnS.mk {α : Type} {enc : α → Value} {t : TypeId} {w0 w : World} {h : Hl} {Y : List (Nat × Obj)} (s : St w0 [] w h Y) (j : Nat) {q : Option Nat} {xs : List α} {sp : List Value} {cap m : Nat} (hj : h[j]? = some (q, ob enc t xs sp)) (hm : m = xs.length)
    (hq : q = none → xs.length = 0 ∧ cap = 0) (hcap : (xs.map enc ++ sp).length = cap) : OwnS enc t w0 w (osv q m cap) xs := by
  subst hm
  refine ⟨q, cap, sp, rfl, hq, hcap, fun b hb => ?_⟩
  subst hb
  exact ⟨s.fresh hj, s.get hj⟩
theorem sliAt {w0 w : World} {S : List Nat} {h : Hl} {Y : List (Nat × Obj)} (s : St w0 S w h Y) (j : Nat) {q : Option Nat} {xs : List Int} {e : TypeId} {sp : List Value} (hj : h[j]? = some (q, ob I64 e xs sp)) (hq : q = none → xs.length = 0) : SlI w (q.map (fun b => ⟨b, 0, none⟩)) xs := by
  cases q with
  | none => rw [List.eq_nil_of_length_eq_zero (hq rfl)]; exact Sl.nil _ _
  | some b => exact Sl.blk (s.get hj)
theorem SlR.at {w : World} {a : Option Addr} {xs : List Row} (h : SlR w a xs) (k : Nat) (hk : k < xs.length) : w.cell? (adr a k) = some xs[k].v := by
  rw [Sl.cell h k (by simpa using hk)]
  simp [List.getD_eq_getElem?_getD, hk]
theorem Row.At.ex0 {w0 w : World} {r : Row} (h : r.At w0) (e : Ex [] w0 w) : r.At w := ⟨h.at_.ex0 e, h.len, h.cap⟩
theorem MV.At.ex0 {w0 w : World} {m : MV} (h : m.At w0) (e : Ex [] w0 w) : m.At w := ⟨h.rel.ex0 e, fun r hr => (h.row r hr).ex0 e, h.val.ex0 e, h.lr, h.lv, h.cr, h.cv⟩
/-- a model that lies in the blocks of H -/
structure MV.In (m : MV) (H : Hl) : Prop where
  rel : InS Row.v H m.ra m.rows
  row : ∀ r ∈ m.rows, InS U H r.a r.xs ∧ r.xs.length ≤ maxLen ∧ r.xs.length ≤ r.cap
  val : InS U H m.va m.val
  lr : m.rows.length ≤ maxLen
  lv : m.val.length ≤ maxLen
  cr : m.rows.length ≤ m.rc
  cv : m.val.length ≤ m.vc
theorem MV.In.mono {m : MV} {H H' : Hl} (h : m.In H) (hs : H ⊆ H') : m.In H' :=
  ⟨h.rel.mono hs, fun r hr => ⟨(h.row r hr).1.mono hs, (h.row r hr).2⟩, h.val.mono hs, h.lr, h.lv, h.cr, h.cv⟩
theorem MV.In.at {m : MV} {w0 w : World} {S : List Nat} {h : Hl} {Y : List (Nat × Obj)} (g : m.In h) (s : St w0 S w h Y) : m.At w :=
  ⟨g.rel.sl s, fun r hr => ⟨(g.row r hr).1.sl s, (g.row r hr).2.1, (g.row r hr).2.2⟩, g.val.sl s, g.lr, g.lv, g.cr, g.cv⟩
end Go.Proofs.Wit
