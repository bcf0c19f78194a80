/- Laws of a calculus of walks, proved for any program: no condition beyond those that each theorem states. -/
import Derived.Test.YtoiafcoaeomnlaaDoorWrng
import Derived.Orders
namespace Go.Proofs.Wit
open Go Go.RowKit

def dirs (ops : Array Oper) (i : Nat) : List Nat := match ops[i]? with
  | some o => (o.after.toList.filter (Region.binds .any)).map (·.on)
  | none => []
def dstOf (ops : Array Oper) (i : Nat) : Option Nat := (ops[i]?).bind (·.dst)
def notSel : Op → Bool
  | .select .. => false
  | _ => true
/-- slots that an operation looks at, its guard's among them -/
def eyes (ops : Array Oper) (o : Oper) : List Nat :=
  (match o.guard with | none => [] | some (j, _) => (dstOf ops j).toList) ++ o.op.operands.toList.filterMap (fun | .tmp s => some s | _ => none)
def drawOk (ops : Array Oper) (l : Fl) (m : Nat) : Bool :=
  (Nat.beq ops.size m || (Nat.beq ops.size (m + 1) && (List.range m).all (fun i => (dirs ops m).contains i))) &&
  (List.range ops.size).all (fun i => (dirs ops i).all (fun j => Nat.blt j i)) &&
  (List.range m).all (fun i => match ops[i]? with
    | none => false
    | some o => notSel o.op && match o.dst with
      | none => false
      | some d => (look l d).isNone && (List.range m).all (fun j => Nat.beq j i || !(dstOf ops j == some d)) &&
        (eyes ops o).all (fun s => (List.range ops.size).all (fun j => !(dstOf ops j == some s) || (dirs ops i).contains j)))

section
variable {P : Program} {r : Option Nat} {f : FuncId} {R : Value → World → Prop} {w0 : World} {S : List Nat} {Y : List (Nat × Obj)} {n : Nat} {k : List Item} {l : Fl} {h : Hl} {ops : Array Oper}

/-- what operation i makes of a frame -/
def Outc (P : Program) (w0 : World) (S : List Nat) (n : Nat) (h : Hl) (ops : Array Oper) (i : Nat) (t : Array Value) (d : Nat) (v : Value) : Prop :=
  ∃ o, ops[i]? = some o ∧ o.dst = some d ∧ d < n ∧ isDefer o.op = false ∧
    ((Region.wanted o (yielded ops t) = true ∧ ∀ (w : World) (Ds : List Nat) (Y' : List (Nat × Obj)), St w0 S w h Y' → (execOp (Act.eval ⟨t, Ds.map mark⟩) o).run P w = .ok (.value v) w ∨
      ∃ gf args, (execOp (Act.eval ⟨t, Ds.map mark⟩) o).run P w = .ok (.enter gf args) w ∧ Calls P gf args w fun e w' => ∃ u, e = .returned u ∧ (Ex [] w w' ∧ u = v)) ∨ (Region.wanted o (yielded ops t) = false ∧ v = undef))
def RdS (P : Program) (w0 : World) (S : List Nat) (n : Nat) (h : Hl) (ops : Array Oper) (F : Array Value → Prop) : Nat → Nat → Array Value → Prop
  | _, 0, t => F t
  | i, m + 1, t => ∃ d v, Outc P w0 S n h ops i t d v ∧ RdS P w0 S n h ops F (i + 1) m (t.setIfInBounds d v)
/-- the reads of a region that draws its order, taken in the order of the text -/
def RdGo (P : Program) (r : Option Nat) (f : FuncId) (R : Value → World → Prop) (w0 : World) (S : List Nat) (Y : List (Nat × Obj)) (n : Nat) (k : List Item) (ops : Array Oper) (i m : Nat) (l : Fl) (h : Hl) : Prop :=
  ∀ t, Frm n t l → RdS P w0 S n h ops (fun t' => ∀ w Ds, St w0 S w h (mkY Ds ++ Y) → Gos P r f R (.inRegion ops (List.range' (i + m) (ops.size - (i + m))) :: k) t' (Ds.map mark) w) i m t
theorem RdGo.nil {i : Nat} (hg : GoH P r f R w0 S Y n (.inRegion ops (List.range' i (ops.size - i)) :: k) l h) : RdGo P r f R w0 S Y n k ops i 0 l h := fun t hF w Ds hS => hg t w Ds hF hS
theorem RdGo.v {i m d : Nat} {v : Value} (hv : Vop P w0 S n h ops i l d v) (hg : RdGo P r f R w0 S Y n k ops (i + 1) m ((d, v) :: l) h) : RdGo P r f R w0 S Y n k ops i (m + 1) l h := by
  intro t hF
  obtain ⟨o, ho, hw, hdst, hnd, hd, hr⟩ := hv
  refine ⟨d, v, ⟨o, ho, hdst, by simpa [Nat.blt_eq] using hd, hnd, .inl ⟨want_of hF hw, fun w Ds Y' hS => ?_⟩⟩, ?_⟩
  · obtain ⟨nx, h1, rfl⟩ := hr t w Ds Y' hF hS; exact .inl h1
  · have := hg _ (hF.put v hd)
    rw [show i + (m + 1) = i + 1 + m from by omega]; exact this
theorem RdGo.callP {i m d : Nat} {v : Value} {ty : TypeId} {pos : String} {aft : Array Edge} {g : Option (Nat × Bool)} {az : Array Operand} {ts : Array TypeId} {cal : Operand} {gf : FuncId} {vs : List Value} (ho : ops[i]? = some ⟨some d, .call ⟨.value cal, az, ts⟩, ty, pos, aft, g⟩) (hw : wantL ops l g = true)
    (hc : opd l cal = some (.func (.func gf) #[] #[])) (hx : opds l az.toList = some vs) (hd : Nat.blt d n = true) (hcf : ∀ args w, (callFunc gf args).run P w = .ok (.enter gf args) w)
    (hcall : ∀ w Y', St w0 S w h Y' → Cn P gf vs w (fun u _ => u = v)) (hg : RdGo P r f R w0 S Y n k ops (i + 1) m ((d, v) :: l) h) : RdGo P r f R w0 S Y n k ops i (m + 1) l h := by
  intro t hF
  refine ⟨d, v, ⟨_, ho, rfl, by simpa [Nat.blt_eq] using hd, rfl, .inl ⟨want_of hF hw, fun w Ds Y' hS => .inr ⟨gf, vs.toArray, ?_, hcall w Y' hS⟩⟩⟩, ?_⟩
  · have e1 := resolve_run (P := P) (ty := ty) (ts := ts) (Ds := Ds) (w := w) hF hc hx
    simp only [execOp, Sem.run_bind, e1, Result.andThen_ok, invoke, hcf]
    simp
  · have := hg _ (hF.put v hd)
    rw [show i + (m + 1) = i + 1 + m from by omega]; exact this
theorem RdGo.no {i m d : Nat} {o : Oper} (ho : ops[i]? = some o) (hw : skipL ops l o.guard = true) (hdst : o.dst = some d) (hnd : isDefer o.op = false) (hd : Nat.blt d n = true) (hg : RdGo P r f R w0 S Y n k ops (i + 1) m ((d, undef) :: l) h) : RdGo P r f R w0 S Y n k ops i (m + 1) l h := by
  intro t hF
  refine ⟨d, undef, ⟨o, ho, hdst, by simpa [Nat.blt_eq] using hd, hnd, .inr ⟨skip_of hF hw, rfl⟩⟩, ?_⟩
  have := hg _ (hF.put undef hd)
  rw [show i + (m + 1) = i + 1 + m from by omega]; exact this
theorem frm_case {t : Array Value} {d : Nat} {b c : Bool} (hF : Frm n t l) (hv : look l d = some (.bool b)) (e : b = c) : Frm n t ((d, .bool c) :: l) := by
  subst e
  refine ⟨hF.1, fun i u hu => ?_⟩
  unfold look at hu
  cases hb : Nat.beq d i with
  | true => rw [hb] at hu; obtain rfl := Nat.eq_of_beq_eq_true hb; cases hu; exact hF.2 _ _ hv
  | false => rw [hb] at hu; exact hF.2 _ _ hu
theorem RdGo.cases {i m d : Nat} {b : Bool} (hv : look l d = some (.bool b)) (ht : b = true → RdGo P r f R w0 S Y n k ops i m ((d, .bool true) :: l) h) (hf : b = false → RdGo P r f R w0 S Y n k ops i m ((d, .bool false) :: l) h) : RdGo P r f R w0 S Y n k ops i m l h := by
  intro t hF
  cases hb : b with
  | true => exact ht hb t (frm_case hF hv hb)
  | false => exact hf hb t (frm_case hF hv hb)

/-- the frames, in the order of the text -/
def tsq (D : Nat → Nat) (V : Nat → Value) (t : Array Value) : Nat → Array Value
  | 0 => t
  | j + 1 => (tsq D V t j).setIfInBounds (D j) (V j)
theorem tsq_shift (D : Nat → Nat) (V : Nat → Value) (t : Array Value) : ∀ j, tsq D V t (j + 1) = tsq (fun j => D (j + 1)) (fun j => V (j + 1)) (t.setIfInBounds (D 0) (V 0)) j
  | 0 => rfl
  | j + 1 => by rw [tsq, tsq_shift D V t j]; rfl
theorem RdS.seq {F : Array Value → Prop} : ∀ {m i : Nat} {t : Array Value}, RdS P w0 S n h ops F i m t → ∃ (D : Nat → Nat) (V : Nat → Value), (∀ j, j < m → Outc P w0 S n h ops (i + j) (tsq D V t j) (D j) (V j)) ∧ F (tsq D V t m)
  | 0, _, t, hF => ⟨fun _ => 0, fun _ => undef, fun j hj => by omega, hF⟩
  | m + 1, i, t, ⟨d, v, ho, hr⟩ => by
    obtain ⟨D, V, h1, h2⟩ := RdS.seq hr
    refine ⟨fun j => match j with | 0 => d | j + 1 => D j, fun j => match j with | 0 => v | j + 1 => V j, fun j hj => ?_, ?_⟩
    · cases j with
      | zero => exact ho
      | succ j =>
        have := h1 j (by omega)
        rw [show i + (j + 1) = i + 1 + j from by omega, tsq_shift]
        exact this
    · rw [tsq_shift]; exact h2
theorem tsq_size {D : Nat → Nat} {V : Nat → Value} {t : Array Value} : ∀ j, (tsq D V t j).size = t.size
  | 0 => rfl
  | j + 1 => by simp [tsq, tsq_size j]
theorem getD_set {t : Array Value} {d s : Nat} {v : Value} (hd : d < t.size) : (t.setIfInBounds d v).getD s undef = if d = s then v else t.getD s undef := by
  rw [Array.getD_eq_getD_getElem?, Array.getD_eq_getD_getElem?, Array.getElem?_setIfInBounds]
  split
  · simp
  · rfl
theorem tsq_get {D : Nat → Nat} {V : Nat → Value} {t : Array Value} {m : Nat} (hd : ∀ j, j < m → D j < t.size) (hinj : ∀ i j, i < m → j < m → D i = D j → i = j) : ∀ q, q ≤ m →
    (∀ j, j < q → (tsq D V t q).getD (D j) undef = V j) ∧ (∀ s, (∀ j, j < q → D j ≠ s) → (tsq D V t q).getD s undef = t.getD s undef)
  | 0, _ => ⟨fun j hj => by omega, fun _ _ => rfl⟩
  | q + 1, hq => by
    obtain ⟨h1, h2⟩ := tsq_get hd hinj q (by omega)
    have hs : D q < (tsq D V t q).size := by rw [tsq_size]; exact hd q (by omega)
    refine ⟨fun j hj => ?_, fun s hs' => ?_⟩
    · rw [tsq, getD_set hs]
      split
      · rename_i e; rw [hinj q j (by omega) (by omega) e]
      · rename_i e
        refine h1 j ?_
        rcases Nat.lt_or_ge j q with hl | hl
        · exact hl
        · exact absurd (by rw [show j = q from by omega]) e
    · rw [tsq, getD_set hs, if_neg (hs' q (by omega))]
      exact h2 s (fun j hj => hs' j (by omega))

theorem opt_of_getD {t t' : Array Value} (hs : t.size = t'.size) {s : Nat} (h : t.getD s undef = t'.getD s undef) : t[s]? = t'[s]? := by
  rw [Array.getD_eq_getD_getElem?, Array.getD_eq_getD_getElem?] at h
  rcases Nat.lt_or_ge s t.size with hl | hl
  · rw [Array.getElem?_eq_getElem hl, Array.getElem?_eq_getElem (hs ▸ hl)] at h ⊢
    simpa using h
  · rw [Array.getElem?_eq_none hl, Array.getElem?_eq_none (hs ▸ hl)]
theorem Outc.congr {i d : Nat} {v : Value} {t t' : Array Value} (ho : Outc P w0 S n h ops i t d v) (hsel : ∀ o, ops[i]? = some o → notSel o.op = true) (hs : t'.size = t.size)
    (he : ∀ o, ops[i]? = some o → ∀ s ∈ eyes ops o, t'.getD s undef = t.getD s undef) : Outc P w0 S n h ops i t' d v := by
  obtain ⟨o, h1, h2, h3, h4, h5⟩ := ho
  have hw : Region.wanted o (yielded ops t') = Region.wanted o (yielded ops t) := by
    unfold Region.wanted
    cases hg : o.guard with
    | none => rfl
    | some p =>
      obtain ⟨j, want⟩ := p
      have : yielded ops t' j = yielded ops t j := by
        unfold yielded
        cases hd : (ops[j]?).bind (·.dst) with
        | none => rfl
        | some dj =>
          simp only [Option.bind_some]
          rw [opt_of_getD hs (he o h1 dj (by simp [eyes, hg, dstOf, hd]))]
      simp only [this]
  refine ⟨o, h1, h2, h3, h4, ?_⟩
  rcases h5 with ⟨a, b⟩ | ⟨a, b⟩
  · refine .inl ⟨hw.trans a, fun w Ds Y' hS => ?_⟩
    rw [execOp_congr (ρ' := Act.eval ⟨t, Ds.map mark⟩) o (fun cs bb e => by have := hsel o h1; rw [e] at this; cases this) (fun x hx => ?_)]
    · exact b w Ds Y' hS
    · cases x with
      | tmp s => exact he o h1 s (by
          simp only [eyes, List.mem_append]
          exact .inr (List.mem_filterMap.2 ⟨.tmp s, by simpa using hx, rfl⟩))
      | const v => rfl
      | global g => rfl
      | func g => rfl
  · exact .inr ⟨hw.trans a, b⟩
theorem Outc.go {i d : Nat} {v : Value} {t : Array Value} {rest : List Nat} {w : World} {Ds : List Nat} (ho : Outc P w0 S n h ops i t d v) (hS : St w0 S w h (mkY Ds ++ Y))
    (hk : ∀ w', St w0 S w' h (mkY Ds ++ Y) → Gos P r f R (.inRegion ops rest :: k) (t.setIfInBounds d v) (Ds.map mark) w') : Gos P r f R (.inRegion ops (i :: rest) :: k) t (Ds.map mark) w := by
  obtain ⟨o, h1, h2, h3, h4, h5⟩ := ho
  rcases h5 with ⟨a, b⟩ | ⟨a, rfl⟩
  · rcases b w Ds _ hS with hb | ⟨gf, args, hb, hcall⟩
    · refine Gos.op h1 a (not_defer h4) hb (.inl rfl) ?_
      rw [h2]; exact hk w hS
    · refine Gos.call h1 a (not_defer h4) hb hcall (fun u w2 hu => ?_)
      obtain ⟨he, rfl⟩ := hu
      rw [h2]; exact hk w2 (hS.later he)
  · refine Gos.opSkip h1 a ?_
    rw [h2]; exact hk w hS
/-- the checks, as facts -/
structure DrawFacts (ops : Array Oper) (m : Nat) : Prop where
  size : ops.size = m ∨ (ops.size = m + 1 ∧ ∀ i, i < m → i ∈ dirs ops m)
  lt : ∀ i, i < ops.size → ∀ j ∈ dirs ops i, j < i
  sel : ∀ i, i < m → ∀ o, ops[i]? = some o → notSel o.op = true
  inj : ∀ i j d, i < m → j < m → dstOf ops i = some d → dstOf ops j = some d → i = j
  eye : ∀ i, i < m → ∀ o, ops[i]? = some o → ∀ s ∈ eyes ops o, ∀ j, j < ops.size → dstOf ops j = some s → j ∈ dirs ops i
theorem mem_dirs {i : Nat} {o : Oper} (ho : ops[i]? = some o) {j : Nat} : j ∈ dirs ops i ↔ ∃ e ∈ o.after, Region.binds .any e = true ∧ e.on = j := by
  simp only [dirs, ho, List.mem_map, List.mem_filter, Array.mem_toList_iff]
  constructor
  · rintro ⟨e, ⟨h1, h2⟩, h3⟩; exact ⟨e, h1, h2, h3⟩
  · rintro ⟨e, h1, h2, h3⟩; exact ⟨e, ⟨h1, h2⟩, h3⟩
theorem getD_listed {listed : Array Bool} {i j : Nat} (hi : i < listed.size) : (listed.setIfInBounds i true).getD j false = if i = j then true else listed.getD j false := by
  rw [Array.getD_eq_getD_getElem?, Array.getD_eq_getD_getElem?, Array.getElem?_setIfInBounds]
  split
  · simp
  · rfl
theorem getD_tf {listed : Array Bool} {j : Nat} (hj : j < listed.size) : listed.getD j true = listed.getD j false := by
  simp [Array.getD_eq_getD_getElem?, hj]
theorem count_set {listed : Array Bool} {N i : Nat} (hs : listed.size = N) (hi : i < N) (hu : listed.getD i false = false) :
    (List.range N).countP (fun j => !(listed.setIfInBounds i true).getD j false) + 1 ≤ (List.range N).countP (fun j => !listed.getD j false) := by
  have h1 : ∀ M, M ≤ N → (List.range M).countP (fun j => !(listed.setIfInBounds i true).getD j false) + (if i < M then 1 else 0) = (List.range M).countP (fun j => !listed.getD j false) := by
    intro M
    induction M with
    | zero => simp
    | succ M ih =>
      intro hM
      have := ih (by omega)
      rw [List.range_succ, List.countP_append, List.countP_append, ← this]
      simp only [List.countP_cons, List.countP_nil, getD_listed (hs ▸ hi)]
      by_cases e : i = M
      · subst e; simp [hu]
      · have e1 : (if i = M then true else listed.getD M false) = listed.getD M false := if_neg e
        have e2 : (if i < M + 1 then 1 else 0) = (if i < M then 1 else 0) := by
          by_cases hlt : i < M
          · rw [if_pos hlt, if_pos (by omega)]
          · rw [if_neg hlt, if_neg (by omega)]
        rw [e1, e2]; omega
  have := h1 N (Nat.le_refl _)
  rw [if_pos hi] at this
  omega
theorem draw_core {m : Nat} (hf : DrawFacts ops m) {D : Nat → Nat} {V : Nat → Value} {t0 : Array Value} (ht0 : t0.size = n)
    (hout : ∀ j, j < m → Outc P w0 S n h ops j (tsq D V t0 j) (D j) (V j)) (hF : ∀ w Ds, St w0 S w h (mkY Ds ++ Y) → Gos P r f R (.inRegion ops (List.range' m (ops.size - m)) :: k) (tsq D V t0 m) (Ds.map mark) w) :
    ∀ (fuel τ : Nat) (listed : Array Bool) (t : Array Value), listed.size = ops.size → (∀ j, listed.getD j false = true → ∀ e ∈ dirs ops j, listed.getD e false = true) → (m < ops.size → listed.getD m false = false) → t.size = n →
      (∀ j, j < m → listed.getD j false = true → t.getD (D j) undef = V j) → (∀ s, (∀ j, j < m → listed.getD j false = true → D j ≠ s) → t.getD s undef = t0.getD s undef) →
      (List.range ops.size).countP (fun j => !listed.getD j false) ≤ fuel → ∀ w Ds, St w0 S w h (mkY Ds ++ Y) → Gos P r f R (.inRegion ops (Region.linearise.go .any ops fuel τ listed []) :: k) t (Ds.map mark) w := by
  have hDst : ∀ j, j < m → dstOf ops j = some (D j) := fun j hj => by
    obtain ⟨o, h1, h2, _⟩ := hout j hj
    simp [dstOf, h1, h2]
  have hDlt : ∀ j, j < m → D j < t0.size := fun j hj => by
    obtain ⟨o, _, _, h3, _⟩ := hout j hj; omega
  have hDinj : ∀ i j, i < m → j < m → D i = D j → i = j := fun i j hi hj e => hf.inj i j (D i) hi hj (hDst i hi) (by rw [hDst j hj, e])
  have hmN : m ≤ ops.size := by rcases hf.size with e | e <;> omega
  -- all reads done: the frame is the one of the text's order
  have hall : ∀ (listed : Array Bool) (t : Array Value), t.size = n → (∀ j, j < m → listed.getD j false = true) → (∀ j, j < m → listed.getD j false = true → t.getD (D j) undef = V j) → (∀ s, (∀ j, j < m → listed.getD j false = true → D j ≠ s) → t.getD s undef = t0.getD s undef) → t = tsq D V t0 m := by
    intro listed t hts hl h1 h2
    obtain ⟨g1, g2⟩ := tsq_get hDlt hDinj m (Nat.le_refl _)
    refine Array.ext_getElem? (fun s => opt_of_getD (by rw [hts, tsq_size, ht0]) ?_)
    by_cases hs : ∃ j, j < m ∧ D j = s
    · obtain ⟨j, hj, rfl⟩ := hs
      rw [h1 j hj (hl j hj), g1 j hj]
    · rw [h2 s (fun j hj _ e => hs ⟨j, hj, e⟩), g2 s (fun j hj e => hs ⟨j, hj, e⟩)]
  intro fuel
  induction fuel with
  | zero =>
    intro τ listed t hls hcl hm hts h1 h2 hc w Ds hS
    have hl : ∀ j, j < ops.size → listed.getD j false = true := fun j hj => by
      have := List.countP_eq_zero.1 (Nat.le_zero.1 hc) j (by simpa using hj)
      simpa using this
    have hmm : m = ops.size := by
      rcases Nat.lt_or_ge m ops.size with hlt | hge
      · have := hl m hlt; rw [hm hlt] at this; cases this
      · omega
    rw [hall listed t hts (fun j hj => hl j (by omega)) h1 h2]
    have := hF w Ds hS
    rw [hmm, Nat.sub_self] at this
    rw [hmm]; exact this
  | succ fuel ih =>
    intro τ listed t hls hcl hm hts h1 h2 hc w Ds hS
    -- the least operation that is not listed is ready
    have hready : (∃ j, j < ops.size ∧ listed.getD j false = false) → Region.ready .any ops listed ≠ [] := by
      rintro ⟨j, hj, hu⟩
      have key : ∀ q, q < ops.size → listed.getD q false = false → Region.ready .any ops listed ≠ [] := by
        intro q
        induction q using Nat.strongRecOn with
        | _ q ihq =>
          intro hq hqu
          by_cases hb : ∃ e ∈ dirs ops q, listed.getD e false = false
          · obtain ⟨e, he, heu⟩ := hb
            have hlt := hf.lt q hq e he
            exact ihq e hlt (by omega) heu
          · obtain ⟨o, ho⟩ : ∃ o, ops[q]? = some o := ⟨ops[q], Array.getElem?_eq_getElem hq⟩
            have : q ∈ Region.ready .any ops listed := by
              rw [mem_ready]
              refine ⟨by rw [getD_tf (by omega)]; exact hqu, o, ho, fun e he hbd => ?_⟩
              cases hx : listed.getD e.on false with
              | true => rfl
              | false => exact absurd ⟨e.on, (mem_dirs ho).2 ⟨e, he, hbd, rfl⟩, hx⟩ hb
            exact List.ne_nil_of_mem this
      exact key j hj hu
    simp only [Region.linearise.go]
    change Gos P r f R (.inRegion ops (match (Region.ready .any ops listed)[τ % (Region.ready .any ops listed).length]? with
      | some i => Region.linearise.go .any ops fuel (τ / (Region.ready .any ops listed).length) (listed.setIfInBounds i true) [i]
      | none => [].reverse) :: k) t (Ds.map mark) w
    cases hi : (Region.ready .any ops listed)[τ % (Region.ready .any ops listed).length]? with
    | none =>
      have hnil : Region.ready .any ops listed = [] := by
        cases hr : Region.ready .any ops listed with
        | nil => rfl
        | cons x xs =>
          rw [hr] at hi
          have hlt : τ % (x :: xs).length < (x :: xs).length := Nat.mod_lt _ (by simp)
          rw [List.getElem?_eq_getElem hlt] at hi; cases hi
      have hl : ∀ j, j < ops.size → listed.getD j false = true := fun j hj => by
        cases hx : listed.getD j false with
        | true => rfl
        | false => exact absurd hnil (hready ⟨j, hj, hx⟩)
      have hmm : m = ops.size := by
        rcases Nat.lt_or_ge m ops.size with hlt | hge
        · have := hl m hlt; rw [hm hlt] at this; cases this
        · omega
      rw [hall listed t hts (fun j hj => hl j (by omega)) h1 h2]
      have := hF w Ds hS
      rw [hmm, Nat.sub_self] at this
      rw [hmm]; exact this
    | some i =>
      have hmem := List.mem_of_getElem? hi
      rw [mem_ready] at hmem
      obtain ⟨hu, o, ho, hdep⟩ := hmem
      have hiN : i < ops.size := (Array.getElem?_eq_some_iff.1 ho).1
      rw [getD_tf (by omega)] at hu
      simp only []
      rw [linearise_go_acc, List.reverse_singleton, List.singleton_append]
      have hdl : ∀ e ∈ dirs ops i, listed.getD e false = true := fun e he => by
        obtain ⟨e', he', hb, rfl⟩ := (mem_dirs ho).1 he
        exact hdep e' he' hb
      have hcl' : ∀ j, (listed.setIfInBounds i true).getD j false = true → ∀ e ∈ dirs ops j, (listed.setIfInBounds i true).getD e false = true := by
        intro j hj e he
        rw [getD_listed (by omega)] at hj ⊢
        split
        · rfl
        · split at hj
          · rename_i hij; subst hij; exact hdl e he
          · exact hcl j hj e he
      have hcnt := count_set (listed := listed) hls hiN hu
      by_cases him : i < m
      · -- a read
        have hgo := hout i him
        have heq : Outc P w0 S n h ops i t (D i) (V i) := by
          refine hgo.congr (hf.sel i him) (by rw [hts, tsq_size, ht0]) (fun o' ho' s hs => ?_)
          obtain ⟨g1, g2⟩ := tsq_get hDlt hDinj i (by omega)
          by_cases hx : ∃ j, j < m ∧ D j = s
          · obtain ⟨j, hj, rfl⟩ := hx
            have hjd := hf.eye i him o' ho' (D j) hs j (by omega) (hDst j hj)
            rw [h1 j hj (hdl j hjd), g1 j (hf.lt i hiN j hjd)]
          · rw [h2 s (fun j hj _ e => hx ⟨j, hj, e⟩), g2 s (fun j hj e => hx ⟨j, by omega, e⟩)]
        refine heq.go hS (fun w hS => ?_)
        have hDi : D i < t.size := by rw [hts, ← ht0]; exact hDlt i him
        refine ih _ _ _ (by simpa using hls) hcl' (fun hlt => ?_) (by simpa using hts) (fun j hj hlj => ?_) (fun s hs => ?_) (by omega) w Ds hS
        · rw [getD_listed (by omega), if_neg (by omega)]; exact hm hlt
        · rw [getD_set hDi]
          split
          · rename_i e; rw [hDinj i j him hj e]
          · rename_i e
            rw [getD_listed (by omega)] at hlj
            split at hlj
            · rename_i e2; subst e2; exact absurd rfl e
            · exact h1 j hj hlj
        · rw [getD_set hDi, if_neg (hs i him (by rw [getD_listed (by omega), if_pos rfl]))]
          refine h2 s (fun j hj hlj => hs j hj ?_)
          rw [getD_listed (by omega)]; split
          · rfl
          · exact hlj
      · -- the last operation
        have hsz : ops.size = m + 1 ∧ ∀ i, i < m → i ∈ dirs ops m := by
          rcases hf.size with e | e
          · omega
          · exact e
        have him' : i = m := by omega
        subst him'
        have hl : ∀ j, j < i → listed.getD j false = true := fun j hj => hdl j (hsz.2 j hj)
        have hnil : Region.linearise.go .any ops fuel (τ / (Region.ready .any ops listed).length) (listed.setIfInBounds i true) [] = [] := by
          have hr0 : Region.ready .any ops (listed.setIfInBounds i true) = [] := by
            rw [List.eq_nil_iff_forall_not_mem]
            intro j hj
            rw [mem_ready] at hj
            obtain ⟨a, o', ho', _⟩ := hj
            have hjN : j < ops.size := (Array.getElem?_eq_some_iff.1 ho').1
            rw [getD_tf (by simp; omega), getD_listed (by omega)] at a
            split at a
            · cases a
            · rw [hl j (by omega)] at a; cases a
          cases fuel with
          | zero => rfl
          | succ fuel =>
            simp only [Region.linearise.go]
            change (match (Region.ready .any ops (listed.setIfInBounds i true))[_ % (Region.ready .any ops (listed.setIfInBounds i true)).length]? with
              | some i => _
              | none => [].reverse) = []
            rw [hr0]; rfl
        rw [hnil, hall listed t hts hl h1 h2]
        have := hF w Ds hS
        rw [hsz.1, show i + 1 - i = 1 from by omega] at this
        exact this
theorem facts_of {m : Nat} (hc : drawOk ops l m = true) : DrawFacts ops m ∧ ∀ i, i < m → ∀ d, dstOf ops i = some d → look l d = none := by
  simp only [drawOk, Bool.and_eq_true, Bool.or_eq_true, Nat.beq_eq, List.all_eq_true, List.mem_range, Nat.blt_eq, List.contains_iff_mem] at hc
  obtain ⟨⟨hsz, hlt⟩, hr⟩ := hc
  have hat : ∀ i, i < m → ∃ o d, ops[i]? = some o ∧ o.dst = some d ∧ notSel o.op = true ∧ look l d = none ∧ (∀ j, j < m → j = i ∨ dstOf ops j ≠ some d) ∧ (∀ s ∈ eyes ops o, ∀ j, j < ops.size → dstOf ops j ≠ some s ∨ j ∈ dirs ops i) := by
    intro i hi
    have := hr i hi
    cases ho : ops[i]? with
    | none => simp [ho] at this
    | some o =>
      cases hd : o.dst with
      | none => simp [ho, hd] at this
      | some d =>
        simp only [ho, hd, Bool.and_eq_true, Option.isNone_iff_eq_none, List.all_eq_true, List.mem_range, Bool.or_eq_true, Nat.beq_eq, Bool.not_eq_true', beq_eq_false_iff_ne, List.contains_iff_mem] at this
        exact ⟨o, d, rfl, hd, this.1, this.2.1.1, this.2.1.2, this.2.2⟩
  refine ⟨⟨hsz, hlt, fun i hi o ho => ?_, fun i j d hi hj h1 h2 => ?_, fun i hi o ho s hs j hj hd => ?_⟩, fun i hi d hd => ?_⟩
  · obtain ⟨o', d, h1, _, h3, _⟩ := hat i hi
    rw [ho] at h1; cases h1; exact h3
  · obtain ⟨o, d', e1, e2, _, _, e5, _⟩ := hat i hi
    have : d' = d := by simp [dstOf, e1, e2] at h1; exact h1
    subst this
    rcases e5 j hj with e | e
    · exact e.symm
    · exact absurd h2 e
  · obtain ⟨o', d, e1, _, _, _, _, e6⟩ := hat i hi
    rw [ho] at e1; cases e1
    rcases e6 s hs j hj with e | e
    · exact absurd hd e
    · exact e
  · obtain ⟨o', d', e1, e2, _, e4, _⟩ := hat i hi
    have : d' = d := by simp [dstOf, e1, e2] at hd; exact hd
    subst this; exact e4
/-- **a region that draws its order: its first m operations only read; at most one operation stands behind them** -/
theorem GoH.draw {id : Nat} (m : Nat) (hmix : P.follows .mixedOrders = true) (hc : drawOk ops l m = true) (hg : RdGo P r f R w0 S Y n k ops 0 m l h) : GoH P r f R w0 S Y n (.code (.region id ops true) :: k) l h := by
  intro t w Ds hF hS
  obtain ⟨hf, _⟩ := facts_of hc
  refine .regionDraw (fun τ => ?_)
  obtain ⟨D, V, hout, hfin⟩ := (hg t hF).seq
  simp only [Nat.zero_add] at hout hfin
  simp only [Region.schedule, hmix, Bool.true_or, if_true, Region.linearise]
  refine draw_core hf hF.1 hout hfin ops.size τ _ t (by simp) (fun j hj => ?_) (fun _ => ?_) hF.1 (fun j _ hj => ?_) (fun s _ => rfl) ?_ _ Ds hS.drew
  · exfalso; simp [Array.getD_eq_getD_getElem?, Array.getElem?_replicate] at hj; split at hj <;> simp at hj
  · simp [Array.getD_eq_getD_getElem?, Array.getElem?_replicate]; split <;> simp
  · exfalso; simp [Array.getD_eq_getD_getElem?, Array.getElem?_replicate] at hj; split at hj <;> simp at hj
  · exact Nat.le_trans (List.countP_le_length) (by simp)

/-- all orders in which a region may be carried out -/
def readyL (ops : Array Oper) (listed : List Nat) : List Nat := (List.range ops.size).filter (fun i => !listed.contains i && (dirs ops i).all (fun e => listed.contains e))
def ordersL (ops : Array Oper) : Nat → List Nat → List (List Nat)
  | 0, _ => [[]]
  | fuel + 1, listed => match readyL ops listed with
    | [] => [[]]
    | rs => rs.flatMap (fun i => (ordersL ops fuel (i :: listed)).map (i :: ·))
theorem ready_eq {arr : Array Bool} {listed : List Nat} (hs : arr.size = ops.size) (h : ∀ j, arr.getD j false = listed.contains j) : Region.ready .any ops arr = readyL ops listed := by
  unfold Region.ready readyL
  refine List.filter_congr (fun i hi => ?_)
  have hi' : i < ops.size := by simpa using hi
  have e1 : arr.getD i true = listed.contains i := by rw [← h i]; simp [Array.getD_eq_getD_getElem?, hs, hi']
  rw [e1]
  congr 1
  have hg : ops[i]? = some ops[i] := Array.getElem?_eq_getElem hi'
  unfold dirs
  rw [hg]
  simp only [Option.map_some, Option.getD_some, ← Array.all_toList]
  rw [List.all_map, List.all_filter]
  congr 1
  funext e
  simp only [Function.comp, h]
theorem mem_orders : ∀ (fuel τ : Nat) (arr : Array Bool) (listed : List Nat), arr.size = ops.size → (∀ j, arr.getD j false = listed.contains j) → Region.linearise.go .any ops fuel τ arr [] ∈ ordersL ops fuel listed
  | 0, τ, arr, listed, _, _ => by simp [Region.linearise.go, ordersL]
  | fuel + 1, τ, arr, listed, hs, h => by
    simp only [Region.linearise.go, ordersL]
    change (match (Region.ready .any ops arr)[τ % (Region.ready .any ops arr).length]? with
      | some i => Region.linearise.go .any ops fuel (τ / (Region.ready .any ops arr).length) (arr.setIfInBounds i true) [i]
      | none => [].reverse) ∈ _
    rw [ready_eq hs h]
    cases hr : readyL ops listed with
    | nil => simp
    | cons x xs =>
      have hlt : τ % (x :: xs).length < (x :: xs).length := Nat.mod_lt _ (by simp)
      rw [List.getElem?_eq_getElem hlt]
      simp only []
      rw [linearise_go_acc, List.reverse_singleton, List.singleton_append]
      refine List.mem_flatMap.2 ⟨_, List.getElem_mem hlt, List.mem_map.2 ⟨_, mem_orders fuel _ _ _ (by simpa using hs) (fun j => ?_), rfl⟩⟩
      have hm : (x :: xs)[τ % (x :: xs).length] ∈ readyL ops listed := by rw [hr]; exact List.getElem_mem hlt
      have hlt2 : (x :: xs)[τ % (x :: xs).length] < arr.size := by
        unfold readyL at hm
        have := (List.mem_filter.1 hm).1
        rw [hs]; simpa using this
      rw [getD_listed hlt2, h j, List.contains_cons]
      split
      · rename_i e; subst e; simp
      · rename_i e; rw [beq_false_of_ne (Ne.symm e)]; rfl
/-- **a region that draws its order, in each of its orders** -/
theorem GoH.drawO {id : Nat} {os : List (List Nat)} (hmix : P.follows .mixedOrders = true) (ho : ordersL ops ops.size [] = os)
    (hg : ∀ π ∈ os, GoH P r f R w0 S Y n (.inRegion ops π :: k) l h) : GoH P r f R w0 S Y n (.code (.region id ops true) :: k) l h := by
  intro t w Ds hF hS
  refine .regionDraw (fun τ => ?_)
  simp only [Region.schedule, hmix, Bool.true_or, if_true, Region.linearise]
  refine hg _ ?_ t _ Ds hF hS.drew
  rw [← ho]
  exact mem_orders _ _ _ _ (by simp) (fun j => by simp [Array.getD_eq_getD_getElem?, Array.getElem?_replicate]; split <;> simp)
end
end Go.Proofs.Wit
