/- Laws of walks, for any program, under the conditions that each theorem states. -/
import Derived.Test.YtlihcmknfdckdaaDoorR01
import Derived.Orders
namespace Go.Proofs.Wit
open Go Go.RowKit
def dirs (ops : Array Oper) (i : Nat) : List Nat := match ops[i]? with
  | some o => (o.after.toList.filter (Region.binds .any)).map (·.on)
  | none => []
def dstOf (ops : Array Oper) (i : Nat) : Option Nat := (ops[i]?).bind (·.dst)
def notSel : Op → Bool
  | .select .. => false
  | _ => true
def eyes (ops : Array Oper) (o : Oper) : List Nat :=
  (match o.guard with | none => [] | some (j, _) => (dstOf ops j).toList) ++ o.op.operands.toList.filterMap (fun | .tmp s => some s | _ => none)
def drawOk (ops : Array Oper) (_l : Fl) (m : Nat) : Bool :=
  (Nat.beq ops.size m || (Nat.beq ops.size (m + 1) && (List.range m).all (fun i => (dirs ops m).contains i))) &&
  (List.range ops.size).all (fun i => (dirs ops i).all (fun j => Nat.blt j i)) &&
  (List.range m).all (fun i => match ops[i]? with
    | none => false
    | some o => notSel o.op && match o.dst with
      | none => false
      | some d => (List.range m).all (fun j => Nat.beq j i || !(dstOf ops j == some d)) &&
        (eyes ops o).all (fun s => (List.range m).all (fun j => !(dstOf ops j == some s) || (dirs ops i).contains j)))

section
variable {P : Program} {r : Option Nat} {f : FuncId} {R : Value → World → Prop} {w0 : World} {S : List Nat} {Y : List (Nat × Obj)} {n : Nat} {k : List Item} {l : Fl} {h : Hl} {ops : Array Oper}
def Outc (P : Program) (w0 : World) (S : List Nat) (n : Nat) (h : Hl) (ops : Array Oper) (i : Nat) (t : Array Value) (d : Nat) (v : Value) : Prop :=
  ∃ o, ops[i]? = some o ∧ o.dst = some d ∧ d < n ∧ isDefer o.op = false ∧
    ((Region.wanted o (yielded ops t) = true ∧ ∀ (w : World) (Ds : List Nat) (Y' : List (Nat × Obj)), St w0 S w h Y' → (execOp (Act.eval ⟨t, Ds.map mark⟩) o).run P w = .ok (.value v) w ∨
      ∃ gf args, (execOp (Act.eval ⟨t, Ds.map mark⟩) o).run P w = .ok (.enter gf args) w ∧ Calls P gf args w fun e w' => ∃ u, e = .returned u ∧ (Ex [] w w' ∧ u = v)) ∨ (Region.wanted o (yielded ops t) = false ∧ v = undef))
def RdS (P : Program) (w0 : World) (S : List Nat) (n : Nat) (h : Hl) (ops : Array Oper) (F : Array Value → Prop) : Nat → Nat → Array Value → Prop
  | _, 0, t => F t
  | i, m + 1, t => ∃ d v, Outc P w0 S n h ops i t d v ∧ RdS P w0 S n h ops F (i + 1) m (t.setIfInBounds d v)
def RdGo (P : Program) (r : Option Nat) (f : FuncId) (R : Value → World → Prop) (w0 : World) (S : List Nat) (Y : List (Nat × Obj)) (n : Nat) (k : List Item) (ops : Array Oper) (i m : Nat) (l : Fl) (h : Hl) : Prop :=
  ∀ t, Frm n t l → RdS P w0 S n h ops (fun t' => ∀ w Ds, St w0 S w h (mkY Ds ++ Y) → Gos P r f R (.inRegion ops (List.range' (i + m) (ops.size - (i + m))) :: k) t' (Ds.map mark) w) i m t
theorem RdGo.nil {i : Nat} (hg : GoH P r f R w0 S Y n (.inRegion ops (List.range' i (ops.size - i)) :: k) l h) : RdGo P r f R w0 S Y n k ops i 0 l h := fun t hF w Ds hS => hg t w Ds hF hS
theorem RdGo.v {i m d : Nat} {v : Value} (hv : Vop P w0 S n h ops i l d v) (hg : RdGo P r f R w0 S Y n k ops (i + 1) m ((d, v) :: l) h) : RdGo P r f R w0 S Y n k ops i (m + 1) l h := by
  intro t hF
  obtain ⟨o, ho, hw, hdst, hnd, hd, hr⟩ := hv
  refine ⟨d, v, ⟨o, ho, hdst, by simpa [Nat.blt_eq] using hd, hnd, .inl ⟨want_of hF hw, fun w Ds Y' hS => ?_⟩⟩, ?_⟩
  · obtain ⟨nx, h1, rfl⟩ := hr t w Ds Y' hF hS; exact .inl h1
  · have := hg _ (hF.put v hd)
    rw [show i + (m + 1) = i + 1 + m from by omega]; exact this
theorem RdGo.callP {i m d : Nat} {v : Value} {ty : TypeId} {pos : String} {aft : Array Edge} {g : Option (Nat × Bool)} {az : Array Operand} {ts : Array TypeId} {cal : Operand} {gf : FuncId} {vs : List Value} (ho : ops[i]? = some ⟨some d, .call ⟨.value cal, az, ts⟩, ty, pos, aft, g⟩) (hw : wantL ops l g = true)
    (hc : opd l cal = some (.func (.func gf) #[] #[])) (hx : opds l az.toList = some vs) (hd : Nat.blt d n = true) (hcf : ∀ args w, (callFunc gf args).run P w = .ok (.enter gf args) w)
    (hcall : ∀ w Y', St w0 S w h Y' → Cn P gf vs w (fun u _ => u = v)) (hg : RdGo P r f R w0 S Y n k ops (i + 1) m ((d, v) :: l) h) : RdGo P r f R w0 S Y n k ops i (m + 1) l h := by
  intro t hF
  refine ⟨d, v, ⟨_, ho, rfl, by simpa [Nat.blt_eq] using hd, rfl, .inl ⟨want_of hF hw, fun w Ds Y' hS => .inr ⟨gf, vs.toArray, ?_, hcall w Y' hS⟩⟩⟩, ?_⟩
  · have e1 := resolve_run (P := P) (ty := ty) (ts := ts) (Ds := Ds) (w := w) hF hc hx
    simp only [execOp, Sem.run_bind, e1, Result.andThen_ok, invoke, hcf]
    simp
  · have := hg _ (hF.put v hd)
    rw [show i + (m + 1) = i + 1 + m from by omega]; exact this
theorem frm_case {t : Array Value} {d : Nat} {b c : Bool} (hF : Frm n t l) (hv : look l d = some (.bool b)) (e : b = c) : Frm n t ((d, .bool c) :: l) := by
  subst e
  refine ⟨hF.1, fun i u hu => ?_⟩
  unfold look at hu
  cases hb : Nat.beq d i with
  | true => rw [hb] at hu; obtain rfl := Nat.eq_of_beq_eq_true hb; cases hu; exact hF.2 _ _ hv
  | false => rw [hb] at hu; exact hF.2 _ _ hu
def tsq (D : Nat → Nat) (V : Nat → Value) (t : Array Value) : Nat → Array Value
  | 0 => t
  | j + 1 => (tsq D V t j).setIfInBounds (D j) (V j)
theorem tsq_shift (D : Nat → Nat) (V : Nat → Value) (t : Array Value) : ∀ j, tsq D V t (j + 1) = tsq (fun j => D (j + 1)) (fun j => V (j + 1)) (t.setIfInBounds (D 0) (V 0)) j
  | 0 => rfl
  | j + 1 => by rw [tsq, tsq_shift D V t j]; rfl
theorem RdS.seq {F : Array Value → Prop} : ∀ {m i : Nat} {t : Array Value}, RdS P w0 S n h ops F i m t → ∃ (D : Nat → Nat) (V : Nat → Value), (∀ j, j < m → Outc P w0 S n h ops (i + j) (tsq D V t j) (D j) (V j)) ∧ F (tsq D V t m)
  | 0, _, t, hF => ⟨fun _ => 0, fun _ => undef, fun j hj => by omega, hF⟩
  | m + 1, i, t, ⟨d, v, ho, hr⟩ => by
    obtain ⟨D, V, h1, h2⟩ := RdS.seq hr
    refine ⟨fun j => match j with | 0 => d | j + 1 => D j, fun j => match j with | 0 => v | j + 1 => V j, fun j hj => ?_, ?_⟩
    · cases j with
      | zero => exact ho
      | succ j =>
        have := h1 j (by omega)
        rw [show i + (j + 1) = i + 1 + j from by omega, tsq_shift]
        exact this
    · rw [tsq_shift]; exact h2
theorem tsq_size {D : Nat → Nat} {V : Nat → Value} {t : Array Value} : ∀ j, (tsq D V t j).size = t.size
  | 0 => rfl
  | j + 1 => by simp [tsq, tsq_size j]
theorem getD_set {t : Array Value} {d s : Nat} {v : Value} (hd : d < t.size) : (t.setIfInBounds d v).getD s undef = if d = s then v else t.getD s undef := by
  rw [Array.getD_eq_getD_getElem?, Array.getD_eq_getD_getElem?, Array.getElem?_setIfInBounds]
  split
  · simp
  · rfl
theorem tsq_get {D : Nat → Nat} {V : Nat → Value} {t : Array Value} {m : Nat} (hd : ∀ j, j < m → D j < t.size) (hinj : ∀ i j, i < m → j < m → D i = D j → i = j) : ∀ q, q ≤ m →
    (∀ j, j < q → (tsq D V t q).getD (D j) undef = V j) ∧ (∀ s, (∀ j, j < q → D j ≠ s) → (tsq D V t q).getD s undef = t.getD s undef)
  | 0, _ => ⟨fun j hj => by omega, fun _ _ => rfl⟩
  | q + 1, hq => by
    obtain ⟨h1, h2⟩ := tsq_get hd hinj q (by omega)
    have hs : D q < (tsq D V t q).size := by rw [tsq_size]; exact hd q (by omega)
    refine ⟨fun j hj => ?_, fun s hs' => ?_⟩
    · rw [tsq, getD_set hs]
      split
      · rename_i e; rw [hinj q j (by omega) (by omega) e]
      · rename_i e
        refine h1 j ?_
        rcases Nat.lt_or_ge j q with hl | hl
        · exact hl
        · exact absurd (by rw [show j = q from by omega]) e
    · rw [tsq, getD_set hs, if_neg (hs' q (by omega))]
      exact h2 s (fun j hj => hs' j (by omega))

theorem opt_of_getD {t t' : Array Value} (hs : t.size = t'.size) {s : Nat} (h : t.getD s undef = t'.getD s undef) : t[s]? = t'[s]? := by
  rw [Array.getD_eq_getD_getElem?, Array.getD_eq_getD_getElem?] at h
  rcases Nat.lt_or_ge s t.size with hl | hl
  · rw [Array.getElem?_eq_getElem hl, Array.getElem?_eq_getElem (hs ▸ hl)] at h ⊢
    simpa using h
  · rw [Array.getElem?_eq_none hl, Array.getElem?_eq_none (hs ▸ hl)]
theorem Outc.congr {i d : Nat} {v : Value} {t t' : Array Value} (ho : Outc P w0 S n h ops i t d v) (hsel : ∀ o, ops[i]? = some o → notSel o.op = true) (hs : t'.size = t.size)
    (he : ∀ o, ops[i]? = some o → ∀ s ∈ eyes ops o, t'.getD s undef = t.getD s undef) : Outc P w0 S n h ops i t' d v := by
  obtain ⟨o, h1, h2, h3, h4, h5⟩ := ho
  have hw : Region.wanted o (yielded ops t') = Region.wanted o (yielded ops t) := by
    unfold Region.wanted
    cases hg : o.guard with
    | none => rfl
    | some p =>
      obtain ⟨j, want⟩ := p
      have : yielded ops t' j = yielded ops t j := by
        unfold yielded
        cases hd : (ops[j]?).bind (·.dst) with
        | none => rfl
        | some dj =>
          simp only [Option.bind_some]
          rw [opt_of_getD hs (he o h1 dj (by simp [eyes, hg, dstOf, hd]))]
      simp only [this]
  refine ⟨o, h1, h2, h3, h4, ?_⟩
  rcases h5 with ⟨a, b⟩ | ⟨a, b⟩
  · refine .inl ⟨hw.trans a, fun w Ds Y' hS => ?_⟩
    rw [execOp_congr (ρ' := Act.eval ⟨t, Ds.map mark⟩) o (fun cs bb e => by have := hsel o h1; rw [e] at this; cases this) (fun x hx => ?_)]
    · exact b w Ds Y' hS
    · cases x with
      | tmp s => exact he o h1 s (by
          simp only [eyes, List.mem_append]
          exact .inr (List.mem_filterMap.2 ⟨.tmp s, by simpa using hx, rfl⟩))
      | const v => rfl
      | global g => rfl
      | func g => rfl
  · exact .inr ⟨hw.trans a, b⟩
theorem Outc.go {i d : Nat} {v : Value} {t : Array Value} {rest : List Nat} {w : World} {Ds : List Nat} (ho : Outc P w0 S n h ops i t d v) (hS : St w0 S w h (mkY Ds ++ Y))
    (hk : ∀ w', St w0 S w' h (mkY Ds ++ Y) → Gos P r f R (.inRegion ops rest :: k) (t.setIfInBounds d v) (Ds.map mark) w') : Gos P r f R (.inRegion ops (i :: rest) :: k) t (Ds.map mark) w := by
  obtain ⟨o, h1, h2, h3, h4, h5⟩ := ho
  rcases h5 with ⟨a, b⟩ | ⟨a, rfl⟩
  · rcases b w Ds _ hS with hb | ⟨gf, args, hb, hcall⟩
    · refine Gos.op h1 a (not_defer h4) hb (.inl rfl) ?_
      rw [h2]; exact hk w hS
    · refine Gos.call h1 a (not_defer h4) hb hcall (fun u w2 hu => ?_)
      obtain ⟨he, rfl⟩ := hu
      rw [h2]; exact hk w2 (hS.later he)
  · refine Gos.opSkip h1 a ?_
    rw [h2]; exact hk w hS
structure DrawFacts (ops : Array Oper) (m : Nat) : Prop where
  size : ops.size = m ∨ (ops.size = m + 1 ∧ ∀ i, i < m → i ∈ dirs ops m)
  lt : ∀ i, i < ops.size → ∀ j ∈ dirs ops i, j < i
  sel : ∀ i, i < m → ∀ o, ops[i]? = some o → notSel o.op = true
  inj : ∀ i j d, i < m → j < m → dstOf ops i = some d → dstOf ops j = some d → i = j
  eye : ∀ i, i < m → ∀ o, ops[i]? = some o → ∀ s ∈ eyes ops o, ∀ j, j < m → dstOf ops j = some s → j ∈ dirs ops i
theorem mem_dirs {i : Nat} {o : Oper} (ho : ops[i]? = some o) {j : Nat} : j ∈ dirs ops i ↔ ∃ e ∈ o.after, Region.binds .any e = true ∧ e.on = j := by
  simp only [dirs, ho, List.mem_map, List.mem_filter, Array.mem_toList_iff]
  constructor
  · rintro ⟨e, ⟨h1, h2⟩, h3⟩; exact ⟨e, h1, h2, h3⟩
  · rintro ⟨e, h1, h2, h3⟩; exact ⟨e, ⟨h1, h2⟩, h3⟩
theorem getD_listed {listed : Array Bool} {i j : Nat} (hi : i < listed.size) : (listed.setIfInBounds i true).getD j false = if i = j then true else listed.getD j false := by
  rw [Array.getD_eq_getD_getElem?, Array.getD_eq_getD_getElem?, Array.getElem?_setIfInBounds]
  split
  · simp
  · rfl
theorem getD_tf {listed : Array Bool} {j : Nat} (hj : j < listed.size) : listed.getD j true = listed.getD j false := by
  simp [Array.getD_eq_getD_getElem?, hj]
theorem count_set {listed : Array Bool} {N i : Nat} (hs : listed.size = N) (hi : i < N) (hu : listed.getD i false = false) :
    (List.range N).countP (fun j => !(listed.setIfInBounds i true).getD j false) + 1 ≤ (List.range N).countP (fun j => !listed.getD j false) := by
  have h1 : ∀ M, M ≤ N → (List.range M).countP (fun j => !(listed.setIfInBounds i true).getD j false) + (if i < M then 1 else 0) = (List.range M).countP (fun j => !listed.getD j false) := by
    intro M
    induction M with
    | zero => simp
    | succ M ih =>
      intro hM
      have := ih (by omega)
      rw [List.range_succ, List.countP_append, List.countP_append, ← this]
      simp only [List.countP_cons, List.countP_nil, getD_listed (hs ▸ hi)]
      by_cases e : i = M
      · subst e; simp [hu]
      · have e1 : (if i = M then true else listed.getD M false) = listed.getD M false := if_neg e
        have e2 : (if i < M + 1 then 1 else 0) = (if i < M then 1 else 0) := by
          by_cases hlt : i < M
          · rw [if_pos hlt, if_pos (by omega)]
          · rw [if_neg hlt, if_neg (by omega)]
        rw [e1, e2]; omega
  have := h1 N (Nat.le_refl _)
  rw [if_pos hi] at this
  omega
theorem draw_core {m : Nat} (hf : DrawFacts ops m) {D : Nat → Nat} {V : Nat → Value} {t0 : Array Value} (ht0 : t0.size = n)
    (hout : ∀ j, j < m → Outc P w0 S n h ops j (tsq D V t0 j) (D j) (V j)) (hF : ∀ w Ds, St w0 S w h (mkY Ds ++ Y) → Gos P r f R (.inRegion ops (List.range' m (ops.size - m)) :: k) (tsq D V t0 m) (Ds.map mark) w) :
    ∀ (fuel τ : Nat) (listed : Array Bool) (t : Array Value), listed.size = ops.size → (∀ j, listed.getD j false = true → ∀ e ∈ dirs ops j, listed.getD e false = true) → (m < ops.size → listed.getD m false = false) → t.size = n →
      (∀ j, j < m → listed.getD j false = true → t.getD (D j) undef = V j) → (∀ s, (∀ j, j < m → listed.getD j false = true → D j ≠ s) → t.getD s undef = t0.getD s undef) →
      (List.range ops.size).countP (fun j => !listed.getD j false) ≤ fuel → ∀ w Ds, St w0 S w h (mkY Ds ++ Y) → Gos P r f R (.inRegion ops (Region.linearise.go .any ops fuel τ listed []) :: k) t (Ds.map mark) w := by
  have hDst : ∀ j, j < m → dstOf ops j = some (D j) := fun j hj => by
    obtain ⟨o, h1, h2, _⟩ := hout j hj
    simp [dstOf, h1, h2]
  have hDlt : ∀ j, j < m → D j < t0.size := fun j hj => by
    obtain ⟨o, _, _, h3, _⟩ := hout j hj; omega
  have hDinj : ∀ i j, i < m → j < m → D i = D j → i = j := fun i j hi hj e => hf.inj i j (D i) hi hj (hDst i hi) (by rw [hDst j hj, e])
  have hmN : m ≤ ops.size := by rcases hf.size with e | e <;> omega
  have hall : ∀ (listed : Array Bool) (t : Array Value), t.size = n → (∀ j, j < m → listed.getD j false = true) → (∀ j, j < m → listed.getD j false = true → t.getD (D j) undef = V j) → (∀ s, (∀ j, j < m → listed.getD j false = true → D j ≠ s) → t.getD s undef = t0.getD s undef) → t = tsq D V t0 m := by
    intro listed t hts hl h1 h2
    obtain ⟨g1, g2⟩ := tsq_get hDlt hDinj m (Nat.le_refl _)
    refine Array.ext_getElem? (fun s => opt_of_getD (by rw [hts, tsq_size, ht0]) ?_)
    by_cases hs : ∃ j, j < m ∧ D j = s
    · obtain ⟨j, hj, rfl⟩ := hs
      rw [h1 j hj (hl j hj), g1 j hj]
    · rw [h2 s (fun j hj _ e => hs ⟨j, hj, e⟩), g2 s (fun j hj e => hs ⟨j, hj, e⟩)]
  intro fuel
  induction fuel with
  | zero =>
    intro τ listed t hls hcl hm hts h1 h2 hc w Ds hS
    have hl : ∀ j, j < ops.size → listed.getD j false = true := fun j hj => by
      have := List.countP_eq_zero.1 (Nat.le_zero.1 hc) j (by simpa using hj)
      simpa using this
    have hmm : m = ops.size := by
      rcases Nat.lt_or_ge m ops.size with hlt | hge
      · have := hl m hlt; rw [hm hlt] at this; cases this
      · omega
    rw [hall listed t hts (fun j hj => hl j (by omega)) h1 h2]
    have := hF w Ds hS
    rw [hmm, Nat.sub_self] at this
    rw [hmm]; exact this
  | succ fuel ih =>
    intro τ listed t hls hcl hm hts h1 h2 hc w Ds hS
    have hready : (∃ j, j < ops.size ∧ listed.getD j false = false) → Region.ready .any ops listed ≠ [] := by
      rintro ⟨j, hj, hu⟩
      have key : ∀ q, q < ops.size → listed.getD q false = false → Region.ready .any ops listed ≠ [] := by
        intro q
        induction q using Nat.strongRecOn with
        | _ q ihq =>
          intro hq hqu
          by_cases hb : ∃ e ∈ dirs ops q, listed.getD e false = false
          · obtain ⟨e, he, heu⟩ := hb
            have hlt := hf.lt q hq e he
            exact ihq e hlt (by omega) heu
          · obtain ⟨o, ho⟩ : ∃ o, ops[q]? = some o := ⟨ops[q], Array.getElem?_eq_getElem hq⟩
            have : q ∈ Region.ready .any ops listed := by
              rw [mem_ready]
              refine ⟨by rw [getD_tf (by omega)]; exact hqu, o, ho, fun e he hbd => ?_⟩
              cases hx : listed.getD e.on false with
              | true => rfl
              | false => exact absurd ⟨e.on, (mem_dirs ho).2 ⟨e, he, hbd, rfl⟩, hx⟩ hb
            exact List.ne_nil_of_mem this
      exact key j hj hu
    simp only [Region.linearise.go]
    change Gos P r f R (.inRegion ops (match (Region.ready .any ops listed)[τ % (Region.ready .any ops listed).length]? with
      | some i => Region.linearise.go .any ops fuel (τ / (Region.ready .any ops listed).length) (listed.setIfInBounds i true) [i]
      | none => [].reverse) :: k) t (Ds.map mark) w
    cases hi : (Region.ready .any ops listed)[τ % (Region.ready .any ops listed).length]? with
    | none =>
      have hnil : Region.ready .any ops listed = [] := by
        cases hr : Region.ready .any ops listed with
        | nil => rfl
        | cons x xs =>
          rw [hr] at hi
          have hlt : τ % (x :: xs).length < (x :: xs).length := Nat.mod_lt _ (by simp)
          rw [List.getElem?_eq_getElem hlt] at hi; cases hi
      have hl : ∀ j, j < ops.size → listed.getD j false = true := fun j hj => by
        cases hx : listed.getD j false with
        | true => rfl
        | false => exact absurd hnil (hready ⟨j, hj, hx⟩)
      have hmm : m = ops.size := by
        rcases Nat.lt_or_ge m ops.size with hlt | hge
        · have := hl m hlt; rw [hm hlt] at this; cases this
        · omega
      rw [hall listed t hts (fun j hj => hl j (by omega)) h1 h2]
      have := hF w Ds hS
      rw [hmm, Nat.sub_self] at this
      rw [hmm]; exact this
    | some i =>
      have hmem := List.mem_of_getElem? hi
      rw [mem_ready] at hmem
      obtain ⟨hu, o, ho, hdep⟩ := hmem
      have hiN : i < ops.size := (Array.getElem?_eq_some_iff.1 ho).1
      rw [getD_tf (by omega)] at hu
      simp only []
      rw [linearise_go_acc, List.reverse_singleton, List.singleton_append]
      have hdl : ∀ e ∈ dirs ops i, listed.getD e false = true := fun e he => by
        obtain ⟨e', he', hb, rfl⟩ := (mem_dirs ho).1 he
        exact hdep e' he' hb
      have hcl' : ∀ j, (listed.setIfInBounds i true).getD j false = true → ∀ e ∈ dirs ops j, (listed.setIfInBounds i true).getD e false = true := by
        intro j hj e he
        rw [getD_listed (by omega)] at hj ⊢
        split
        · rfl
        · split at hj
          · rename_i hij; subst hij; exact hdl e he
          · exact hcl j hj e he
      have hcnt := count_set (listed := listed) hls hiN hu
      by_cases him : i < m
      · -- a read
        have hgo := hout i him
        have heq : Outc P w0 S n h ops i t (D i) (V i) := by
          refine hgo.congr (hf.sel i him) (by rw [hts, tsq_size, ht0]) (fun o' ho' s hs => ?_)
          obtain ⟨g1, g2⟩ := tsq_get hDlt hDinj i (by omega)
          by_cases hx : ∃ j, j < m ∧ D j = s
          · obtain ⟨j, hj, rfl⟩ := hx
            have hjd := hf.eye i him o' ho' (D j) hs j hj (hDst j hj)
            rw [h1 j hj (hdl j hjd), g1 j (hf.lt i hiN j hjd)]
          · rw [h2 s (fun j hj _ e => hx ⟨j, hj, e⟩), g2 s (fun j hj e => hx ⟨j, by omega, e⟩)]
        refine heq.go hS (fun w hS => ?_)
        have hDi : D i < t.size := by rw [hts, ← ht0]; exact hDlt i him
        refine ih _ _ _ (by simpa using hls) hcl' (fun hlt => ?_) (by simpa using hts) (fun j hj hlj => ?_) (fun s hs => ?_) (by omega) w Ds hS
        · rw [getD_listed (by omega), if_neg (by omega)]; exact hm hlt
        · rw [getD_set hDi]
          split
          · rename_i e; rw [hDinj i j him hj e]
          · rename_i e
            rw [getD_listed (by omega)] at hlj
            split at hlj
            · rename_i e2; subst e2; exact absurd rfl e
            · exact h1 j hj hlj
        · rw [getD_set hDi, if_neg (hs i him (by rw [getD_listed (by omega), if_pos rfl]))]
          refine h2 s (fun j hj hlj => hs j hj ?_)
          rw [getD_listed (by omega)]; split
          · rfl
          · exact hlj
      · -- the last operation
        have hsz : ops.size = m + 1 ∧ ∀ i, i < m → i ∈ dirs ops m := by
          rcases hf.size with e | e
          · omega
          · exact e
        have him' : i = m := by omega
        subst him'
        have hl : ∀ j, j < i → listed.getD j false = true := fun j hj => hdl j (hsz.2 j hj)
        have hnil : Region.linearise.go .any ops fuel (τ / (Region.ready .any ops listed).length) (listed.setIfInBounds i true) [] = [] := by
          have hr0 : Region.ready .any ops (listed.setIfInBounds i true) = [] := by
            rw [List.eq_nil_iff_forall_not_mem]
            intro j hj
            rw [mem_ready] at hj
            obtain ⟨a, o', ho', _⟩ := hj
            have hjN : j < ops.size := (Array.getElem?_eq_some_iff.1 ho').1
            rw [getD_tf (by simp; omega), getD_listed (by omega)] at a
            split at a
            · cases a
            · rw [hl j (by omega)] at a; cases a
          cases fuel with
          | zero => rfl
          | succ fuel =>
            simp only [Region.linearise.go]
            change (match (Region.ready .any ops (listed.setIfInBounds i true))[_ % (Region.ready .any ops (listed.setIfInBounds i true)).length]? with
              | some i => _
              | none => [].reverse) = []
            rw [hr0]; rfl
        rw [hnil, hall listed t hts hl h1 h2]
        have := hF w Ds hS
        rw [hsz.1, show i + 1 - i = 1 from by omega] at this
        exact this
theorem facts_of {m : Nat} (hc : drawOk ops l m = true) : DrawFacts ops m := by
  simp only [drawOk, Bool.and_eq_true, Bool.or_eq_true, Nat.beq_eq, List.all_eq_true, List.mem_range, Nat.blt_eq, List.contains_iff_mem] at hc
  obtain ⟨⟨hsz, hlt⟩, hr⟩ := hc
  have hat : ∀ i, i < m → ∃ o d, ops[i]? = some o ∧ o.dst = some d ∧ notSel o.op = true ∧ (∀ j, j < m → j = i ∨ dstOf ops j ≠ some d) ∧ (∀ s ∈ eyes ops o, ∀ j, j < m → dstOf ops j ≠ some s ∨ j ∈ dirs ops i) := by
    intro i hi
    have := hr i hi
    cases ho : ops[i]? with
    | none => simp [ho] at this
    | some o =>
      cases hd : o.dst with
      | none => simp [ho, hd] at this
      | some d =>
        simp only [ho, hd, Bool.and_eq_true, List.all_eq_true, List.mem_range, Bool.or_eq_true, Nat.beq_eq, Bool.not_eq_true', beq_eq_false_iff_ne, List.contains_iff_mem] at this
        exact ⟨o, d, rfl, hd, this.1, this.2.1, this.2.2⟩
  refine ⟨hsz, hlt, fun i hi o ho => ?_, fun i j d hi hj h1 h2 => ?_, fun i hi o ho s hs j hj hd => ?_⟩
  · obtain ⟨o', d, h1, _, h3, _⟩ := hat i hi
    rw [ho] at h1; cases h1; exact h3
  · obtain ⟨o, d', e1, e2, _, e5, _⟩ := hat i hi
    have : d' = d := by simp [dstOf, e1, e2] at h1; exact h1
    subst this
    rcases e5 j hj with e | e
    · exact e.symm
    · exact absurd h2 e
  · obtain ⟨o', d, e1, _, _, _, e6⟩ := hat i hi
    rw [ho] at e1; cases e1
    rcases e6 s hs j hj with e | e
    · exact absurd hd e
    · exact e
theorem GoH.draw {id : Nat} (m : Nat) (hmix : P.follows .mixedOrders = true) (hc : drawOk ops l m = true) (hg : RdGo P r f R w0 S Y n k ops 0 m l h) : GoH P r f R w0 S Y n (.code (.region id ops true) :: k) l h := by
  intro t w Ds hF hS
  have hf := facts_of hc
  refine .regionDraw (fun τ => ?_)
  obtain ⟨D, V, hout, hfin⟩ := (hg t hF).seq
  simp only [Nat.zero_add] at hout hfin
  simp only [Region.schedule, hmix, Bool.true_or, if_true, Region.linearise]
  refine draw_core hf hF.1 hout hfin ops.size τ _ t (by simp) (fun j hj => ?_) (fun _ => ?_) hF.1 (fun j _ hj => ?_) (fun s _ => rfl) ?_ _ Ds hS.drew
  · exfalso; simp [Array.getD_eq_getD_getElem?, Array.getElem?_replicate] at hj; split at hj <;> simp at hj
  · simp [Array.getD_eq_getD_getElem?, Array.getElem?_replicate]; split <;> simp
  · exfalso; simp [Array.getD_eq_getD_getElem?, Array.getElem?_replicate] at hj; split at hj <;> simp at hj
  · exact Nat.le_trans (List.countP_le_length) (by simp)

def readyL (ops : Array Oper) (listed : List Nat) : List Nat := (List.range ops.size).filter (fun i => !listed.contains i && (dirs ops i).all (fun e => listed.contains e))
def ordersL (ops : Array Oper) : Nat → List Nat → List (List Nat)
  | 0, _ => [[]]
  | fuel + 1, listed => match readyL ops listed with
    | [] => [[]]
    | rs => rs.flatMap (fun i => (ordersL ops fuel (i :: listed)).map (i :: ·))
theorem ready_eq {arr : Array Bool} {listed : List Nat} (hs : arr.size = ops.size) (h : ∀ j, arr.getD j false = listed.contains j) : Region.ready .any ops arr = readyL ops listed := by
  unfold Region.ready readyL
  refine List.filter_congr (fun i hi => ?_)
  have hi' : i < ops.size := by simpa using hi
  have e1 : arr.getD i true = listed.contains i := by rw [← h i]; simp [Array.getD_eq_getD_getElem?, hs, hi']
  rw [e1]
  congr 1
  have hg : ops[i]? = some ops[i] := Array.getElem?_eq_getElem hi'
  unfold dirs
  rw [hg]
  simp only [Option.map_some, Option.getD_some, ← Array.all_toList]
  rw [List.all_map, List.all_filter]
  congr 1
  funext e
  simp only [Function.comp, h]
theorem mem_orders : ∀ (fuel τ : Nat) (arr : Array Bool) (listed : List Nat), arr.size = ops.size → (∀ j, arr.getD j false = listed.contains j) → Region.linearise.go .any ops fuel τ arr [] ∈ ordersL ops fuel listed
  | 0, τ, arr, listed, _, _ => by simp [Region.linearise.go, ordersL]
  | fuel + 1, τ, arr, listed, hs, h => by
    simp only [Region.linearise.go, ordersL]
    change (match (Region.ready .any ops arr)[τ % (Region.ready .any ops arr).length]? with
      | some i => Region.linearise.go .any ops fuel (τ / (Region.ready .any ops arr).length) (arr.setIfInBounds i true) [i]
      | none => [].reverse) ∈ _
    rw [ready_eq hs h]
    cases hr : readyL ops listed with
    | nil => simp
    | cons x xs =>
      have hlt : τ % (x :: xs).length < (x :: xs).length := Nat.mod_lt _ (by simp)
      rw [List.getElem?_eq_getElem hlt]
      simp only []
      rw [linearise_go_acc, List.reverse_singleton, List.singleton_append]
      refine List.mem_flatMap.2 ⟨_, List.getElem_mem hlt, List.mem_map.2 ⟨_, mem_orders fuel _ _ _ (by simpa using hs) (fun j => ?_), rfl⟩⟩
      have hm : (x :: xs)[τ % (x :: xs).length] ∈ readyL ops listed := by rw [hr]; exact List.getElem_mem hlt
      have hlt2 : (x :: xs)[τ % (x :: xs).length] < arr.size := by
        unfold readyL at hm
        have := (List.mem_filter.1 hm).1
        rw [hs]; simpa using this
      rw [getD_listed hlt2, h j, List.contains_cons]
      split
      · rename_i e; subst e; simp
      · rename_i e; rw [beq_false_of_ne (Ne.symm e)]; rfl
theorem GoH.drawO {id : Nat} {os : List (List Nat)} (hmix : P.follows .mixedOrders = true) (ho : ordersL ops ops.size [] = os)
    (hg : ∀ π ∈ os, GoH P r f R w0 S Y n (.inRegion ops π :: k) l h) : GoH P r f R w0 S Y n (.code (.region id ops true) :: k) l h := by
  intro t w Ds hF hS
  refine .regionDraw (fun τ => ?_)
  simp only [Region.schedule, hmix, Bool.true_or, if_true, Region.linearise]
  refine hg _ ?_ t _ Ds hF hS.drew
  rw [← ho]
  exact mem_orders _ _ _ _ (by simp) (fun j => by simp [Array.getD_eq_getD_getElem?, Array.getElem?_replicate]; split <;> simp)
end
end Go.Proofs.Wit
namespace Go.Proofs.Wit
/-! the points of a word -/
def pts (s : W64) : List Nat := (List.range 64).filter (fun i => s.getLsbD i)
theorem filter_range_succ (p : Nat → Bool) (n : Nat) : (List.range (n + 1)).filter p = (List.range n).filter p ++ (if p n then [n] else []) := by
  rw [List.range_succ, List.filter_append]; simp [List.filter_cons]
def dbtab : List Int := [0, 1, 56, 2, 57, 49, 28, 3, 61, 58, 42, 50, 38, 29, 17, 4, 62, 47, 59, 36, 45, 43, 51, 22, 53, 39, 33, 30, 24, 18, 12, 5, 63, 55, 48, 27, 60, 41, 37, 16, 46, 35, 44, 21, 52, 32, 23, 11, 54, 26, 40, 15, 34, 20, 31, 10, 25, 14, 19, 9, 13, 8, 7, 6]
end Go.Proofs.Wit
namespace Go.Proofs.Wit
open Go Go.RowKit
def SlU (w : World) (a : Option Addr) (xs : List W64) : Prop := Sl w a (xs.map U)
theorem SlU.ex0 {w0 w : World} {a : Option Addr} {xs : List W64} (h : SlU w0 a xs) {S : List Nat} (e : Ex S w0 w) (hS : ∀ b o, a = some ⟨b, o, none⟩ → b ∉ S := by simp) : SlU w a xs := Sl.ex h e hS
theorem SlU.at {w : World} {a : Option Addr} {xs : List W64} (h : SlU w a xs) (k : Nat) (hk : k < xs.length) : w.cell? (adr a k) = some (U (xs.getD k 0#64)) := by
  rw [Sl.cell h k (by simpa using hk)]
  simp [List.getD_eq_getElem?_getD, hk]
theorem SlU.nil (w : World) (a : Option Addr) : SlU w a [] := Sl.nil w a
theorem SlU.blk {w : World} {q : Option Nat} {xs : List W64} {sp : List Value} {e : TypeId} {fr : Nat × Nat} (hq : q = none → xs = []) (h : ∀ b, q = some b → w.heap[b]? = some (.cells (xs.map U ++ sp).toArray e fr)) : SlU w (q.map (fun b => ⟨b, 0, none⟩)) xs := by
  cases q with
  | none => rw [hq rfl]; exact .nil _ _
  | some b => exact Sl.blk (h b rfl)

/-! loops as folds over 0 .. n-1 -/
def upTo {σ : Type} (f : Nat → σ → σ) (s : σ) : Nat → σ
  | 0 => s
  | k + 1 => f k (upTo f s k)
theorem upTo_inv {σ : Type} {f : Nat → σ → σ} {s : σ} (I : Nat → σ → Prop) (h0 : I 0 s) : ∀ {n : Nat}, (∀ k a, k < n → I k a → I (k + 1) (f k a)) → I n (upTo f s n)
  | 0, _ => h0
  | n + 1, h => h n _ (by omega) (upTo_inv I h0 (fun k a hk => h k a (by omega)))
def anyTo (p : Nat → Bool) : Nat → Bool
  | 0 => false
  | k + 1 => anyTo p k || p k
theorem anyTo_iff {p : Nat → Bool} : ∀ {n : Nat}, anyTo p n = true ↔ ∃ k, k < n ∧ p k = true
  | 0 => by simp [anyTo]
  | n + 1 => by
    rw [anyTo, Bool.or_eq_true, anyTo_iff]
    constructor
    · rintro (⟨k, hk, hp⟩ | hp)
      · exact ⟨k, by omega, hp⟩
      · exact ⟨n, by omega, hp⟩
    · rintro ⟨k, hk, hp⟩
      by_cases e : k = n
      · subst e; exact .inr hp
      · exact .inl ⟨k, by omega, hp⟩
theorem anyTo_false {p : Nat → Bool} {n : Nat} : anyTo p n = false ↔ ∀ k, k < n → p k = false := by
  rw [← Bool.not_eq_true, anyTo_iff]
  constructor
  · intro h k hk; cases hp : p k with
    | false => rfl
    | true => exact absurd ⟨k, hk, hp⟩ h
  · rintro h ⟨k, hk, hp⟩; rw [h k hk] at hp; cases hp
theorem anyTo_at {p : Nat → Bool} {n k : Nat} (hk : k < n) (hp : p k = true) : anyTo p n = true := anyTo_iff.2 ⟨k, hk, hp⟩
theorem anyTo_succ {p : Nat → Bool} {k : Nat} (h : anyTo p k = false) (hp : p k = false) : anyTo p (k + 1) = false := by rw [anyTo, h, hp]; rfl

section
variable {P : Program} {r : Option Nat} {f : FuncId} {R : Value → World → Prop} {w0 : World} {S : List Nat} {Y : List (Nat × Obj)} {n : Nat} {k : List Item} {l : Fl} {h : Hl}
variable {ops : Array Oper} {i d : Nat} {rest : List Nat} {ty : TypeId} {pos : String} {aft : Array Edge} {g : Option (Nat × Bool)}
theorem idxA_run {t e : TypeId} {len : Nat} (hu : P.underlying t = some (.array len e)) (he : ∀ w, (sizeOf e).run P w = .ok 1 w) (b o : Nat) (kd : IntKind) (j : Nat) (hj : j < len) (w' : World) :
    (Instr.indexAt t (.pointer (some ⟨b, o, none⟩)) (.int kd j)).run P w' = .ok (.pointer (some ⟨b, o + j, none⟩)) w' := by
  simp only [Instr.indexAt, asIntOf, Sem.run_bind, Sem.run_pure, Result.andThen_ok, run_underlying hu, Instr.sureAddr]
  rw [if_pos ⟨by omega, by omega⟩]
  simp only [Sem.run_bind, he, Result.andThen_ok, Sem.run_pure, Addr.add, Nat.mul_one, Int.toNat_natCast]
  split
  · rename_i h0; rw [h0]; rfl
  · rfl
theorem Vop.idxA {t e : TypeId} {x y : Operand} {b o len : Nat} {kd : IntKind} {j : Int} (ho : ops[i]? = some ⟨some d, .indexAddr t x y, ty, pos, aft, g⟩) (hw : wantL ops l g = true)
    (hx : opd l x = some (.pointer (some ⟨b, o, none⟩))) (hy : opd l y = some (.int kd j)) (hd : Nat.blt d n = true) (hu : P.underlying t = some (.array len e)) (he : ∀ w, (sizeOf e).run P w = .ok 1 w)
    (j' : Nat) (hj : j = j') (hlt : j' < len) : Vop P w0 S n h ops i l d (.pointer (some ⟨b, o + j', none⟩)) := by
  subst hj
  exact .of ho hw rfl rfl hd (fun t w Ds _ hF _ => ⟨.value (.pointer (some ⟨b, o + j', none⟩)), by
    simp only [execOp, hF.opd hx, hF.opd hy, Sem.run_bind, idxA_run hu he b o kd j' hlt w]; rfl, rfl⟩)
end
abbrev ob {α : Type} (enc : α → Value) (e : TypeId) (xs : List α) (sp : List Value) : Obj := .cells (xs.map enc ++ sp).toArray e (0, 0)
section
variable {P : Program} {r : Option Nat} {f : FuncId} {R : Value → World → Prop} {w0 : World} {S : List Nat} {Y : List (Nat × Obj)} {n : Nat} {k : List Item} {l : Fl} {h : Hl}
variable {ops : Array Oper} {i d : Nat} {rest : List Nat} {ty : TypeId} {pos : String} {aft : Array Edge} {g : Option (Nat × Bool)}
theorem idxS_run {t e : TypeId} (hu : P.underlying t = some (.slice e)) {sz : Nat} (he : ∀ w, (sizeOf e).run P w = .ok sz w) (b o m cap : Nat) (kd : IntKind) (j : Nat) (hj : j < m) (w' : World) :
    (Instr.indexAt t (.slice (some ⟨b, o, none⟩) m cap) (.int kd j)).run P w' = .ok (.pointer (some ⟨b, o + j * sz, none⟩)) w' := by
  simp only [Instr.indexAt, asIntOf, Sem.run_bind, Sem.run_pure, Result.andThen_ok, run_underlying hu]
  rw [if_pos ⟨by omega, by omega⟩]
  simp only [Sem.run_bind, he, Result.andThen_ok, Sem.run_pure, Addr.add, Int.toNat_natCast]
  split
  · rename_i h0; rw [h0]; rfl
  · rfl
theorem Vop.idxS {t e : TypeId} {x y : Operand} {b o m cap : Nat} {kd : IntKind} {j : Int} (ho : ops[i]? = some ⟨some d, .indexAddr t x y, ty, pos, aft, g⟩) (hw : wantL ops l g = true)
    (hx : opd l x = some (.slice (some ⟨b, o, none⟩) m cap)) (hy : opd l y = some (.int kd j)) (hd : Nat.blt d n = true) (hu : P.underlying t = some (.slice e)) {sz : Nat} (he : ∀ w, (sizeOf e).run P w = .ok sz w)
    (j' : Nat) (hj : j = j' ∧ j' < m) : Vop P w0 S n h ops i l d (.pointer (some ⟨b, o + j' * sz, none⟩)) := by
  obtain ⟨rfl, hlt⟩ := hj
  exact .of ho hw rfl rfl hd (fun t w Ds _ hF _ => ⟨.value (.pointer (some ⟨b, o + j' * sz, none⟩)), by
    simp only [execOp, hF.opd hx, hF.opd hy, Sem.run_bind, idxS_run hu he b o m cap kd j' hlt w]; rfl, rfl⟩)
theorem ob_get {α : Type} {enc : α → Value} {xs : List α} {sp : List Value} {q : Nat} (hq : q < xs.length) : (xs.map enc ++ sp).toArray[0 + q * 1]? = some (enc xs[q]) := by
  rw [Nat.zero_add, Nat.mul_one]
  simp [List.getElem?_append, hq]
theorem Vop.ldE {α : Type} (enc : α → Value) (dflt : α) {t : TypeId} {x : Operand} {b q : Nat} {xs : List α} {sp : List Value} {e : TypeId} (ho : ops[i]? = some ⟨some d, .load t x, ty, pos, aft, g⟩) (hw : wantL ops l g = true)
    (hx : opd l x = some (.pointer (some ⟨b, 0 + q * 1, none⟩))) (hd : Nat.blt d n = true) (ha : ∀ w, (isAgg t).run P w = .ok false w) (j : Nat) (hj : h[j]? = some (some b, ob enc e xs sp)) (hq : q < xs.length) :
    Vop P w0 S n h ops i l d (enc (xs.getD q dflt)) :=
  Vop.ldo ho hw hx hd ha j hj (by rw [ob_get hq]; simp [List.getD_eq_getElem?_getD, hq])
theorem GoH.stE {α : Type} (enc : α → Value) (v : α) {t : TypeId} {x y : Operand} {b q : Nat} {xs : List α} {sp : List Value} {e : TypeId} (ho : ops[i]? = some ⟨none, .store t x y, ty, pos, aft, g⟩) (hw : wantL ops l g = true)
    (hx : opd l x = some (.pointer (some ⟨b, 0 + q * 1, none⟩))) (hy : opd l y = some (enc v)) (hz : ∀ w, (sizeOf t).run P w = .ok 1 w) (hv : (enc v).oneCell' = true) (j : Nat) (hj : h[j]? = some (some b, ob enc e xs sp)) (hq : q < xs.length)
    (hk : GoH P r f R w0 S Y n (.inRegion ops rest :: k) l (h.set j (some b, ob enc e (xs.set q v) sp))) : GoH P r f R w0 S Y n (.inRegion ops (i :: rest) :: k) l h := by
  refine GoH.st ho hw hx hy hz hv j hj (by rw [Nat.blt_eq]; simp; omega) ?_
  have : ((xs.map enc ++ sp).toArray.setIfInBounds (0 + q * 1) (enc v)) = ((xs.set q v).map enc ++ sp).toArray := by
    rw [Nat.zero_add, Nat.mul_one, List.map_set]
    have hq2 : q < (xs.map enc).length := by simpa using hq
    simp [List.set_append_left _ _ hq2]
  rw [this]; exact hk
end
theorem St.fresh {w0 w : World} {h : Hl} {Y : List (Nat × Obj)} (s : St w0 [] w h Y) {j b : Nat} {o : Obj} (hj : h[j]? = some (some b, o)) : w0.heap.size ≤ b := by
  rcases (s.own _ (List.mem_of_getElem? hj) b rfl).2.2 with h1 | h1
  · exact h1
  · cases h1
section
variable {P : Program} {r : Option Nat} {f : FuncId} {R : Value → World → Prop} {w0 : World} {S : List Nat} {Y : List (Nat × Obj)} {n : Nat} {k : List Item} {l : Fl} {h : Hl}
variable {ops : Array Oper} {i d : Nat} {rest : List Nat} {ty : TypeId} {pos : String} {aft : Array Edge} {g : Option (Nat × Bool)}
theorem GoH.mkE {α : Type} (enc : α → Value) (z : α) {t e : TypeId} {x y : Operand} {kx ky : IntKind} {m : Nat} {inf : TypeInfo} (ho : ops[i]? = some ⟨some d, .makeSlice t x y, ty, pos, aft, g⟩) (hw : wantL ops l g = true) (hx : opd l x = some (.int kx m)) (hy : opd l y = some (.int ky m)) (hd : Nat.blt d n = true)
    (hu : P.underlying t = some (.slice e)) (hi : P.info? e = some inf) (hz : inf.zero = some (enc z)) (hz1 : (enc z).cells = #[enc z]) (hs : inf.size = 1) (hb : inf.bytes * m ≤ 281474976710656) (hm : m ≤ maxLen)
    (hk : ∀ b, GoH P r f R w0 S Y n (.inRegion ops rest :: k) ((d, .slice (some ⟨b, 0, none⟩) m m) :: l) ((some b, ob enc e (List.replicate m z) []) :: h)) : GoH P r f R w0 S Y n (.inRegion ops (i :: rest) :: k) l h :=
  .mks ho hw hx hy hd hu hi hz hz1 hs hb hm (fun b => by
    have := hk b
    simp only [ob, List.map_replicate] at this
    exact this)
theorem GoH.appE {α : Type} (enc : α → Value) {t e : TypeId} {x y : Operand} {inf : TypeInfo} {z : Value} {q : Option Nat} {xs : List α} {sp : List Value} {cap : Nat} {bn m c : Nat} {news : List α} {spn : List Value} {en : TypeId}
    (ho : ops[i]? = some ⟨some d, .call ⟨.builtin .append, #[x, y], #[t, t]⟩, ty, pos, aft, g⟩) (hw : wantL ops l g = true) (hx : opd l x = some (osv q xs.length cap)) (hy : opd l y = some (.slice (some ⟨bn, 0, none⟩) m c)) (hd : Nat.blt d n = true)
    (hu : P.underlying t = some (.slice e)) (hi : P.info? e = some inf) (hz : inf.zero = some z) (hsz : inf.size = 1) (hz1 : z.cells.size = 1)
    (hq : q = none → xs.length = 0 ∧ cap = 0) (j : Nat) (hj : h[j]? = some (q, ob enc e xs sp)) (jn : Nat) (hjn : h[jn]? = some (some bn, ob enc en news spn))
    (hcap : (xs.map enc ++ sp).length = cap) (hl : news.length = m) (hm0 : 0 < m) (h1 : ∀ u, (enc u).oneCell' = true) (hmx : xs.length + m ≤ maxLen) (hbytes : (xs.length + m) * inf.bytes ≤ 140737488355328)
    (hk : ∀ b' sp' cap', ((xs ++ news).map enc ++ sp').length = cap' → GoH P r f R w0 S Y n (.inRegion ops rest :: k) ((d, osv (some b') (xs ++ news).length cap') :: l) (h.set j (some b', ob enc e (xs ++ news) sp'))) : GoH P r f R w0 S Y n (.inRegion ops (i :: rest) :: k) l h := by
  refine .app 1 ho hw hx hy hd hu hi hz hsz hz1 hq j hj jn hjn (by simp) (by rw [hcap, Nat.mul_one]) (by simp [hl]) hm0 (fun u hu => ?_) hmx hbytes (fun b' sp' cap' hlen => ?_)
  · obtain ⟨a, _, rfl⟩ := List.mem_map.1 hu; exact h1 a
  · have e1 : xs.map enc ++ news.map enc = (xs ++ news).map enc := by simp
    have e2 : xs.length + m = (xs ++ news).length := by simp [hl]
    rw [e1, e2]
    exact hk b' sp' cap' (by rw [← e1, hlen, Nat.mul_one])
end
section
variable {P : Program} {r : Option Nat} {f : FuncId} {R : Value → World → Prop} {w0 : World} {S : List Nat} {Y : List (Nat × Obj)} {n : Nat} {k : List Item} {l : Fl} {h : Hl}
variable {ops : Array Oper} {i d : Nat} {rest : List Nat} {ty : TypeId} {pos : String} {aft : Array Edge} {g : Option (Nat × Bool)}
theorem GoH.appS {α : Type} (enc : α → Value) {t e : TypeId} {x y : Operand} {inf : TypeInfo} {z : Value} {q : Option Nat} {xs : List α} {sp : List Value} {cap : Nat} {an : Option Addr} {m c : Nat} (news : List α)
    (ho : ops[i]? = some ⟨some d, .call ⟨.builtin .append, #[x, y], #[t, t]⟩, ty, pos, aft, g⟩) (hw : wantL ops l g = true) (hx : opd l x = some (osv q xs.length cap)) (hy : opd l y = some (.slice an m c)) (hd : Nat.blt d n = true)
    (hu : P.underlying t = some (.slice e)) (hi : P.info? e = some inf) (hz : inf.zero = some z) (hsz : inf.size = 1) (hz1 : z.cells.size = 1)
    (hq : q = none → xs.length = 0 ∧ cap = 0) (j : Nat) (hj : h[j]? = some (q, ob enc e xs sp)) (hsl : ∀ w Y', St w0 S w h Y' → Sl w an (news.map enc))
    (hcap : (xs.map enc ++ sp).length = cap) (hl : m = news.length) (hm0 : 0 < m) (h1 : ∀ u, (enc u).oneCell' = true) (hmx : xs.length + m ≤ maxLen) (hbytes : (xs.length + m) * inf.bytes ≤ 140737488355328)
    (hk : ∀ b' sp' cap', ((xs ++ news).map enc ++ sp').length = cap' → GoH P r f R w0 S Y n (.inRegion ops rest :: k) ((d, osv (some b') (xs ++ news).length cap') :: l) (h.set j (some b', ob enc e (xs ++ news) sp'))) : GoH P r f R w0 S Y n (.inRegion ops (i :: rest) :: k) l h :=
  .mem ho hw rfl rfl hd (fun t' w Ds Y' hF hS => by
    have hs := hsl w Y' hS
    obtain ⟨bn, o, rfl, _⟩ := hs.isSome (by simp; omega)
    have hnews : ∀ j u, (news.map enc)[j]? = some u → w.cell? ((⟨bn, o, none⟩ : Addr).add j) = some u := by
      intro j u hv
      have hjl := (List.getElem?_eq_some_iff.1 hv).1
      have e1 : (⟨bn, o, none⟩ : Addr).add j = adr (some ⟨bn, o, none⟩) j := by
        unfold Addr.add adr; split
        · rename_i h0; rw [h0]; rfl
        · rfl
      rw [e1, hs.cell j hjl]
      rw [List.getD_eq_getElem?_getD, hv]; rfl
    subst hl
    obtain ⟨b', sp', cap', w', hrun, hlen, hS'⟩ := app_run hu hi hz hsz hz1 hS (xs := xs.map enc) (nx := xs.length) (by simp) (by rw [hcap, Nat.mul_one]) hq hj (c := c) (m := news.length) (news := news.map enc) (by simp) hm0 hnews (fun u hu => by obtain ⟨a, _, rfl⟩ := List.mem_map.1 hu; exact h1 a) hmx hbytes ty
    have e2 : xs.map enc ++ news.map enc = (xs ++ news).map enc := by simp
    have e3 : xs.length + news.length = (xs ++ news).length := by simp
    rw [e2] at hlen hS'
    rw [e3] at hrun
    refine ⟨_, w', _, ?_, hS', hk b' sp' cap' (by rw [hlen, Nat.mul_one])⟩
    have e1 : (#[x, y] : Array Operand).map (Act.eval ⟨t', Ds.map mark⟩) = #[osv q xs.length cap, .slice (some ⟨bn, o, none⟩) news.length c] := by simp [hF.opd hx, hF.opd hy]
    simp only [execOp, resolve, e1, Sem.run_bind, Sem.run_pure, Result.andThen_ok, invoke, builtin, hrun])
theorem blt_app0 {t e : TypeId} {inf : TypeInfo} (hu : P.underlying t = some (.slice e)) (hi : P.info? e = some inf) {a b : Option Addr} {m cap c : Nat} (hm : m ≤ cap) : Blt P .append #[t, t] ty [.slice a m cap, .slice b 0 c] (.slice a m cap) := by
  intro cs w
  have hf : (Builtin.firstCells inf.size 0 (.slice b 0 c)).run P w = .ok #[] w := by
    cases b <;> simp [Builtin.firstCells, loadCells, loadCellsFrom]
  have hin : P.underlying t ≠ some (.int .i64) := by rw [hu]; simp
  simp only [builtin, Builtin.append_]
  cases a <;> simp [run_underlying hu, sizeOf, typeInfo, hi, Builtin.lenOf, hm, hf, storeCells]
theorem GoH.bs0 {α : Type} (enc : α → Value) {t e : TypeId} {inf : TypeInfo} (ho : ops[i]? = some ⟨some d, .buildSlice t 0 #[], ty, pos, aft, g⟩) (hw : wantL ops l g = true) (hd : Nat.blt d n = true)
    (hu : P.underlying t = some (.slice e)) (hi : P.info? e = some inf)
    (hk : ∀ b, GoH P r f R w0 S Y n (.inRegion ops rest :: k) ((d, osv (some b) ([] : List α).length 0) :: l) ((some b, ob enc e [] []) :: h)) : GoH P r f R w0 S Y n (.inRegion ops (i :: rest) :: k) l h :=
  .mem ho hw rfl rfl hd (fun t' w Ds _ hF hS => ⟨.slice (some ⟨w.heap.size, 0, none⟩) 0 0, w.alloc (.cells #[] e), _, by
    simp [execOp, Instr.buildSlice, run_underlying hu, sizeOf, typeInfo, hi, Instr.fill, newRow]
    rw [show Array.range 0 = #[] from by decide]; simp, hS.alloc rfl, hk _⟩)
end
def TabAt (g : Nat) (w : World) : Prop := g < w.heap.size ∧ ∀ i : Nat, i < 64 → w.cell? ⟨g, i, none⟩ = some (.int .u8 (dbtab.getD i 0))
end Go.Proofs.Wit
namespace Go.Proofs.Wit
open Go Go.RowKit
/-! plain facts on relations as lists of words -/
def allW (n : Nat) : W64 := if 64 ≤ n then 18446744073709551615#64 else (1#64 <<< n) - 1#64
def badW (n : Nat) (xs : List W64) (k : Nat) : Bool := xs.getD k 0#64 &&& ~~~ (allW n) != 0#64
def checkR (n : Int) (xs : List W64) : Int :=
  if n < 0 ∨ 64 < n then 2 else if (xs.length : Int) ≠ n then 3 else if anyTo (badW n.toNat xs) xs.length then 1 else 0
def twoR (r s : List W64) : Int := if checkR r.length r ≠ 0 then checkR r.length r else if checkR s.length s ≠ 0 then checkR s.length s else if r.length ≠ s.length then 1 else 0

theorem mem_pts {s : W64} {i : Nat} : i ∈ pts s ↔ i < 64 ∧ s.getLsbD i = true := by simp [pts]
theorem allOnes_eq : (18446744073709551615#64 : W64) = BitVec.allOnes 64 := by decide
theorem allW_bit {n i : Nat} (hn : n ≤ 64) (hi : i < 64) : (allW n).getLsbD i = decide (i < n) := by
  unfold allW
  split
  · rw [allOnes_eq, BitVec.getLsbD_allOnes]; simp; omega
  · rename_i h
    have e1 : ((1#64 <<< n) - 1#64).toNat = 2 ^ n - 1 := by
      have hp : 2 ^ n < 2 ^ 64 := Nat.pow_lt_pow_right (by decide) (by omega)
      have h1 : 0 < 2 ^ n := Nat.pow_pos (by decide)
      rw [BitVec.toNat_sub, BitVec.toNat_shiftLeft, Nat.shiftLeft_eq]
      simp only [BitVec.toNat_ofNat]
      rw [show 1 % 2 ^ 64 = 1 from by decide, Nat.one_mul, Nat.mod_eq_of_lt hp]
      omega
    rw [BitVec.getLsbD, e1, Nat.testBit_two_pow_sub_one]
theorem bit_lt {s : W64} {i : Nat} (h : s.getLsbD i = true) : i < 64 := by
  rcases Nat.lt_or_ge i 64 with h1 | h1
  · exact h1
  · rw [BitVec.getLsbD_of_ge _ _ h1] at h; cases h
theorem eq_of_bits {s t : W64} (h : ∀ i, i < 64 → s.getLsbD i = t.getLsbD i) : s = t := BitVec.eq_of_getLsbD_eq (fun i hi => h i hi)
theorem andNot_zero {s t : W64} : s &&& ~~~t = 0#64 ↔ ∀ i, s.getLsbD i = true → t.getLsbD i = true := by
  constructor
  · intro h i hi
    have h1 := congrArg (fun x => BitVec.getLsbD x i) h
    have hl := bit_lt hi
    simp only [BitVec.getLsbD_and, BitVec.getLsbD_not, hi, hl] at h1
    simpa using h1
  · intro h
    refine eq_of_bits (fun i hi => ?_)
    rw [BitVec.getLsbD_and, BitVec.getLsbD_not]
    cases hs : s.getLsbD i with
    | false => simp
    | true => simp [hi, h i hs]
def Rl (r : List W64) (w v : Nat) : Prop := (r.getD w 0#64).getLsbD v = true
structure Val (r : List W64) : Prop where
  len : r.length ≤ 64
  lt : ∀ w v, Rl r w v → v < r.length
theorem Rl.dom {r : List W64} {w v : Nat} (h : Rl r w v) : w < r.length := by
  rcases Nat.lt_or_ge w r.length with h1 | h1
  · exact h1
  · unfold Rl at h; simp [List.getD_eq_getElem?_getD, List.getElem?_eq_none h1] at h
theorem badW_iff {n : Nat} {xs : List W64} {k : Nat} (hn : n ≤ 64) : badW n xs k = false ↔ ∀ i, (xs.getD k 0#64).getLsbD i = true → i < n := by
  unfold badW
  rw [bne_eq_false_iff_eq, andNot_zero]
  constructor
  · intro h i hi; have := h i hi; rw [allW_bit hn (bit_lt hi)] at this; simpa using this
  · intro h i hi; rw [allW_bit hn (bit_lt hi)]; simpa using h i hi
theorem check_zero {r : List W64} : checkR r.length r = 0 ↔ Val r := by
  unfold checkR
  constructor
  · intro h
    split at h
    · cases h
    · rename_i h1
      have hn : r.length ≤ 64 := by omega
      simp only [ne_eq, not_true_eq_false, if_false, Int.toNat_natCast] at h
      split at h
      · cases h
      · rename_i h2
        have h2 : anyTo (badW r.length r) r.length = false := by simpa using h2
        refine ⟨hn, fun w v hwv => ?_⟩
        exact (badW_iff hn).1 (anyTo_false.1 h2 w hwv.dom) v hwv
  · intro hv
    rw [if_neg (by have := hv.len; omega), if_neg (by simp), Int.toNat_natCast, if_neg]
    rw [anyTo_false.2 (fun k hk => (badW_iff hv.len).2 (fun i hi => hv.lt k i hi))]; simp
theorem Val.pts {r : List W64} (h : Val r) (w : Nat) : ∀ i ∈ pts (r.getD w 0#64), i < r.length := fun i hi => h.lt w i (mem_pts.1 hi).2
theorem two_zero {r s : List W64} : twoR r s = 0 ↔ Val r ∧ Val s ∧ r.length = s.length := by
  unfold twoR
  rw [← check_zero (r := r), ← check_zero (r := s)]
  constructor
  · intro h
    split at h
    · rename_i h1; exact absurd h h1
    · rename_i h1
      split at h
      · rename_i h2; exact absurd h h2
      · rename_i h2
        split at h
        · cases h
        · rename_i h3
          exact ⟨by simpa using h1, by simpa using h2, by simpa using h3⟩
  · rintro ⟨h1, h2, h3⟩
    rw [if_neg (by simp [h1]), if_neg (by simp [h2]), if_neg (by simp [h3])]
def mapR (r : List W64) (s : W64) : W64 := (pts s).foldl (fun o w => o ||| r.getD w 0#64) 0#64
def flm (g : Nat → W64 → W64) (xs : List W64) (k : Nat) : List W64 := xs.mapIdx (fun i x => if i < k then g i x else x)
theorem flm_length {g : Nat → W64 → W64} {xs : List W64} {k : Nat} : (flm g xs k).length = xs.length := by simp [flm]
theorem flm_zero {g : Nat → W64 → W64} {xs : List W64} : flm g xs 0 = xs := by
  apply List.ext_getElem? ; intro i; simp [flm]
theorem flm_get {g : Nat → W64 → W64} {xs : List W64} {k i : Nat} (hi : i < xs.length) : (flm g xs k).getD i 0#64 = if i < k then g i (xs.getD i 0#64) else xs.getD i 0#64 := by
  simp [flm, List.getD_eq_getElem?_getD, hi]
theorem flm_succ {g : Nat → W64 → W64} {xs : List W64} {k : Nat} (hk : k < xs.length) : (flm g xs k).set k (g k (xs.getD k 0#64)) = flm g xs (k + 1) := by
  apply List.ext_getElem?
  intro i
  rw [List.getElem?_set]
  simp only [flm, List.getElem?_mapIdx]
  split
  · rename_i e; subst e; simp [hk, List.getD_eq_getElem?_getD]
  · rename_i e
    cases hx : xs[i]? with
    | none => rfl
    | some x =>
      simp only [Option.map_some]
      by_cases h1 : i < k
      · rw [if_pos h1, if_pos (by omega)]
      · rw [if_neg h1, if_neg (by omega)]
def revS (w : Nat) (s : W64) (out : List W64) : List W64 := (pts s).foldl (fun out v => out.set v (out.getD v 0#64 ||| 1#64 <<< w)) out
def revR (r : List W64) : List W64 := upTo (fun w out => revS w (r.getD w 0#64) out) (List.replicate r.length 0#64) r.length
theorem foldl_set_length (w : Nat) : ∀ (l : List Nat) (out : List W64), (l.foldl (fun out v => out.set v (out.getD v 0#64 ||| 1#64 <<< w)) out).length = out.length
  | [], _ => rfl
  | v :: l, out => by rw [List.foldl_cons, foldl_set_length w l]; simp
theorem upTo_rev_length (r : List W64) (n : Nat) : (upTo (fun w out => revS w (r.getD w 0#64) out) (List.replicate r.length 0#64) n).length = r.length := by
  refine upTo_inv (fun _ (out : List W64) => out.length = r.length) (by simp) (fun k a _ h => ?_)
  rw [revS, foldl_set_length]; exact h
theorem revR_length (r : List W64) : (revR r).length = r.length := upTo_rev_length r _
theorem foldl_set_bit (w : Nat) (hw : w < 64) (v i : Nat) : ∀ (l : List Nat) (out : List W64), (∀ x ∈ l, x < out.length) → v < out.length →
    ((l.foldl (fun out v => out.set v (out.getD v 0#64 ||| 1#64 <<< w)) out).getD v 0#64).getLsbD i = ((out.getD v 0#64).getLsbD i || (decide (v ∈ l) && decide (i = w)))
  | [], out, _, _ => by simp
  | x :: l, out, hl, hv => by
    rw [List.foldl_cons, foldl_set_bit w hw v i l _ (fun y hy => by simpa using hl y (List.mem_cons_of_mem _ hy)) (by simpa using hv)]
    have hx : x < out.length := hl x (List.mem_cons_self ..)
    by_cases e : x = v
    · subst e
      have : (out.set x (out.getD x 0#64 ||| 1#64 <<< w)).getD x 0#64 = out.getD x 0#64 ||| 1#64 <<< w := by simp [List.getD_eq_getElem?_getD, hx]
      rw [this, BitVec.getLsbD_or, BitVec.getLsbD_shiftLeft]
      have : (decide (i < 64) && !decide (i < w) && (1#64).getLsbD (i - w)) = decide (i = w) := by
        rw [BitVec.getLsbD_one]
        by_cases e2 : i = w
        · subst e2; simp [hw]
        · simp [e2]; omega
      rw [this]
      simp
      cases (out[x]?.getD 0#64).getLsbD i <;> cases decide (i = w) <;> simp
    · have : (out.set x (out.getD x 0#64 ||| 1#64 <<< w)).getD v 0#64 = out.getD v 0#64 := by simp [List.getD_eq_getElem?_getD, e]
      rw [this]
      have : decide (v ∈ x :: l) = decide (v ∈ l) := by simp [Ne.symm e]
      rw [this]
theorem revR_bit {r : List W64} (hv : Val r) {v w : Nat} (hlt : v < r.length) : Rl (revR r) v w ↔ Rl r w v := by
  have key : ∀ n, n ≤ r.length → (∀ i, ((upTo (fun w out => revS w (r.getD w 0#64) out) (List.replicate r.length 0#64) n).getD v 0#64).getLsbD i = true ↔ i < n ∧ Rl r i v) := by
    intro n
    induction n with
    | zero => intro _ i; simp [upTo, List.getD_eq_getElem?_getD, hlt]
    | succ n ih =>
      intro hn i
      have hlen := upTo_rev_length r n
      have hn64 : n < 64 := by have := hv.len; omega
      rw [upTo, revS, foldl_set_bit n hn64 v i _ _ (fun x hx => by rw [hlen]; exact hv.pts n x hx) (by rw [hlen]; exact hlt), Bool.or_eq_true, ih (by omega)]
      simp only [Bool.and_eq_true, decide_eq_true_eq]
      constructor
      · rintro (⟨h1, h2⟩ | ⟨h1, rfl⟩)
        · exact ⟨by omega, h2⟩
        · exact ⟨by omega, (mem_pts.1 h1).2⟩
      · rintro ⟨h1, h2⟩
        by_cases e : i = n
        · subst e; exact .inr ⟨mem_pts.2 ⟨bit_lt h2, h2⟩, rfl⟩
        · exact .inl ⟨by omega, h2⟩
  unfold Rl revR
  rw [key _ (Nat.le_refl _) w]
  exact ⟨fun h => h.2, fun h => ⟨Rl.dom h, h⟩⟩
end Go.Proofs.Wit
namespace Go.Proofs.Wit
end Go.Proofs.Wit
namespace Go.Proofs.Wit
open Go Go.RowKit
/-! plain facts on closures -/
theorem Rl.toBit {r : List W64} {w v : Nat} : Rl r w v ↔ (r.getD w 0#64).getLsbD v = true := Iff.rfl
structure Le (r s : List W64) : Prop where
  len : r.length = s.length
  sub : ∀ u v, Rl r u v → Rl s u v
theorem Le.refl (r : List W64) : Le r r := ⟨rfl, fun _ _ h => h⟩
theorem Le.trans {r s t : List W64} (h : Le r s) (k : Le s t) : Le r t := ⟨h.len.trans k.len, fun u v x => k.sub u v (h.sub u v x)⟩
theorem list_ext {r s : List W64} (hl : r.length = s.length) (h : ∀ u v, Rl r u v ↔ Rl s u v) : r = s := by
  apply List.ext_getElem hl
  intro i h1 h2
  refine eq_of_bits (fun j _ => ?_)
  have := h i j
  unfold Rl at this
  simp only [List.getD_eq_getElem?_getD, List.getElem?_eq_getElem h1, List.getElem?_eq_getElem h2, Option.getD_some] at this
  exact Bool.eq_iff_iff.2 this
theorem Le.antisymm {r s : List W64} (h : Le r s) (k : Le s r) : r = s := list_ext h.len (fun u v => ⟨h.sub u v, k.sub u v⟩)
theorem Le.bits {r s : List W64} (h : Le r s) (i : Nat) : r.getD i 0#64 &&& ~~~(s.getD i 0#64) = 0#64 := andNot_zero.2 (fun j hj => h.sub i j hj)
theorem Rl.set {l : List W64} {w u v : Nat} {x : W64} (hw : w < l.length) : Rl (l.set w x) u v ↔ if u = w then x.getLsbD v = true else Rl l u v := by
  unfold Rl
  by_cases e : u = w
  · subst e; simp [List.getD_eq_getElem?_getD, hw]
  · rw [if_neg e]; simp [List.getD_eq_getElem?_getD, Ne.symm e]
def room (l : List W64) : Nat := (l.map (fun x => 18446744073709551616 - x.toNat)).sum
theorem bit_ge {a b : W64} (h : a &&& ~~~b = 0#64) : a.toNat ≤ b.toNat := by
  have : a ||| b = b := by
    rw [andNot_zero] at h
    refine eq_of_bits (fun i _ => ?_)
    rw [BitVec.getLsbD_or]
    cases ha : a.getLsbD i with
    | false => simp
    | true => simp [h i ha]
  rw [← this, BitVec.toNat_or]; exact Nat.left_le_or
theorem room_aux : ∀ {r s : List W64}, r.length = s.length → (∀ i, (r.getD i 0#64).toNat ≤ (s.getD i 0#64).toNat) → room s ≤ room r ∧ (room s = room r → r = s)
  | [], [], _, _ => ⟨Nat.le_refl _, fun _ => rfl⟩
  | [], _ :: _, h, _ => by simp at h
  | _ :: _, [], h, _ => by simp at h
  | a :: r, b :: s, h, hb => by
    obtain ⟨h1, h2⟩ := room_aux (r := r) (s := s) (by simpa using h) (fun i => by simpa using hb (i + 1))
    have h0 : a.toNat ≤ b.toNat := by simpa using hb 0
    have ha := a.isLt
    have hb' := b.isLt
    unfold room at h1 h2 ⊢
    simp only [List.map_cons, List.sum_cons]
    refine ⟨by omega, fun e => ?_⟩
    have e1 : a.toNat = b.toNat := by omega
    rw [h2 (by omega), BitVec.eq_of_toNat_eq e1]
theorem Le.room {r s : List W64} (h : Le r s) : room s ≤ room r := (room_aux h.len (fun i => bit_ge (h.bits i))).1
theorem Le.room_lt {r s : List W64} (h : Le r s) (hne : r ≠ s) : Wit.room s < Wit.room r := by
  obtain ⟨h1, h2⟩ := room_aux h.len (fun i => bit_ge (h.bits i))
  have : Wit.room s ≠ Wit.room r := fun e => hne (h2 e)
  omega
structure GoodS (g : List W64 → List W64) (F : List W64 → Prop) : Prop where
  val : ∀ {l}, Val l → Val (g l)
  infl : ∀ {l}, Val l → Le l (g l)
  mono : ∀ {l m}, Val l → Val m → Le l m → Le (g l) (g m)
  fix : ∀ {l}, Val l → (g l = l ↔ F l)
theorem GoodS.ofBits {g : List W64 → List W64} (A : List W64 → Nat → Nat → Prop) (hlen : ∀ l, (g l).length = l.length) (hbit : ∀ l, Val l → ∀ u v, Rl (g l) u v ↔ Rl l u v ∨ A l u v)
    (hdom : ∀ l, Val l → ∀ u v, A l u v → v < l.length) (hmono : ∀ l m, Val l → Val m → Le l m → ∀ u v, A l u v → A m u v) : GoodS g (fun l => ∀ u v, A l u v → Rl l u v) where
  val {l} h := ⟨by rw [hlen]; exact h.len, fun u v x => by
    rw [hlen]
    rcases (hbit l h u v).1 x with x | x
    · exact h.lt u v x
    · exact hdom l h u v x⟩
  infl {l} h := ⟨(hlen l).symm, fun u v x => (hbit l h u v).2 (.inl x)⟩
  mono {l m} h k hle := ⟨by rw [hlen, hlen]; exact hle.len, fun u v x => (hbit m k u v).2 (by
    rcases (hbit l h u v).1 x with x | x
    · exact .inl (hle.sub u v x)
    · exact .inr (hmono l m h k hle u v x))⟩
  fix {l} h := ⟨fun e u v x => by
      have := (hbit l h u v).2 (.inr x)
      rwa [e] at this, fun hF => list_ext (hlen l) (fun u v => ⟨fun x => by
        rcases (hbit l h u v).1 x with x | x
        · exact x
        · exact hF u v x, fun x => (hbit l h u v).2 (.inl x)⟩)⟩
theorem GoodS.comp {g g' : List W64 → List W64} {F F' : List W64 → Prop} (h : GoodS g F) (h' : GoodS g' F') : GoodS (fun l => g' (g l)) (fun l => F l ∧ F' l) where
  val v := h'.val (h.val v)
  infl v := (h.infl v).trans (h'.infl (h.val v))
  mono v k le := h'.mono (h.val v) (h.val k) (h.mono v k le)
  fix {l} v := by
    constructor
    · intro e
      have e1 : g l = l := by
        have := h'.infl (h.val v)
        rw [e] at this
        exact this.antisymm (h.infl v)
      rw [e1] at e
      exact ⟨(h.fix v).1 e1, (h'.fix v).1 e⟩
    · rintro ⟨a, b⟩
      rw [(h.fix v).2 a, (h'.fix v).2 b]
theorem GoodS.upTo {st : Nat → List W64 → List W64} {F : Nat → List W64 → Prop} (h : ∀ k, GoodS (st k) (F k)) : ∀ n, GoodS (fun l => upTo st l n) (fun l => ∀ k, k < n → F k l)
  | 0 => ⟨fun h => h, fun _ => .refl _, fun _ _ h => h, fun _ => ⟨fun _ k hk => by omega, fun _ => rfl⟩⟩
  | n + 1 => by
    have := (GoodS.upTo h n).comp (h n)
    refine ⟨this.val, this.infl, this.mono, fun v => (this.fix v).trans ⟨fun ⟨a, b⟩ k hk => ?_, fun a => ⟨fun k hk => a k (by omega), a n (by omega)⟩⟩⟩
    rcases Nat.lt_succ_iff_lt_or_eq.1 hk with h1 | rfl
    · exact a k h1
    · exact b
theorem GoodS.upToLen {st : Nat → List W64 → List W64} {F : Nat → List W64 → Prop} (h : ∀ k, GoodS (st k) (F k)) : GoodS (fun l => Wit.upTo st l l.length) (fun l => ∀ k, k < l.length → F k l) :=
  ⟨fun v => (GoodS.upTo h _).val v, fun v => (GoodS.upTo h _).infl v, fun {l m} v k le => by
    have := (GoodS.upTo h l.length).mono v k le
    simp only [le.len] at this ⊢
    exact this, fun v => (GoodS.upTo h _).fix v⟩
theorem GoodS.iff {g : List W64 → List W64} {F G : List W64 → Prop} (h : GoodS g F) (hi : ∀ {l}, Val l → (F l ↔ G l)) : GoodS g G := ⟨h.val, h.infl, h.mono, fun v => (h.fix v).trans (hi v)⟩
structure Least (F : List W64 → Prop) (r out : List W64) : Prop where
  val : Val out
  le : Le r out
  has : F out
  least : ∀ c, Val c → Le r c → F c → Le out c
def reflR (l : List W64) : Prop := ∀ w, w < l.length → Rl l w w
def symmR (l : List W64) : Prop := ∀ u v, Rl l u v → Rl l v u
def tranR (l : List W64) : Prop := ∀ u v x, Rl l u v → Rl l v x → Rl l u x
def euclR (l : List W64) : Prop := ∀ u v x, Rl l u v → Rl l u x → Rl l v x
def reflS (w : Nat) (l : List W64) : List W64 := l.set w (l.getD w 0#64 ||| 1#64 <<< w)
def symmG (l : List W64) : List W64 := flm (fun w x => x ||| (revR l).getD w 0#64) l l.length
theorem set_bit {l : List W64} {w : Nat} {x : W64} {u v : Nat} : Rl (l.set w (l.getD w 0#64 ||| x)) u v ↔ Rl l u v ∨ (u = w ∧ w < l.length ∧ x.getLsbD v = true) := by
  rcases Nat.lt_or_ge w l.length with h | h
  · rw [Rl.set h]
    split
    · rename_i e; subst e
      rw [BitVec.getLsbD_or, Bool.or_eq_true, Rl.toBit]
      simp [h]
    · rename_i e; simp [e]
  · rw [List.set_eq_of_length_le h]
    exact ⟨.inl, fun x => x.elim (fun x => x) (fun x => absurd x.2.1 (by omega))⟩
theorem shift_one_bit {w v : Nat} (hw : w < 64) : (1#64 <<< w).getLsbD v = true ↔ v = w := by
  rw [BitVec.getLsbD_shiftLeft, BitVec.getLsbD_one]
  simp only [Bool.and_eq_true, Bool.not_eq_true', decide_eq_true_eq, decide_eq_false_iff_not]
  omega
theorem refl_good : GoodS (fun l => upTo reflS l l.length) reflR := by
  refine (GoodS.upToLen (F := fun w l => ∀ u v, (u = w ∧ w < l.length ∧ v = w) → Rl l u v) (fun w => ?_)).iff (fun {l} _ => ?_)
  · refine GoodS.ofBits (fun l u v => u = w ∧ w < l.length ∧ v = w) (fun l => by simp [reflS]) (fun l hv u v => ?_) (fun l _ u v h => h.2.2 ▸ h.2.1) (fun l m _ _ le u v h => ⟨h.1, le.len ▸ h.2.1, h.2.2⟩)
    rw [reflS, set_bit]
    refine or_congr Iff.rfl (and_congr_right (fun _ => and_congr_right (fun h => ?_)))
    exact shift_one_bit (by have := hv.len; omega)
  · exact ⟨fun h w hw => h w hw w w ⟨rfl, hw, rfl⟩, fun h w _ u v ⟨a, b, c⟩ => by subst a; subst c; exact h _ b⟩
theorem symm_good : GoodS symmG symmR := by
  refine (GoodS.ofBits (fun l u v => Rl l v u) (fun l => flm_length) (fun l hv u v => ?_) (fun l hv u v h => h.dom) (fun l m _ _ le u v h => le.sub _ _ h)).iff (fun {l} _ => ⟨fun h u v x => h v u x, fun h u v x => h v u x⟩)
  rcases Nat.lt_or_ge u l.length with h | h
  · have e1 : Rl (symmG l) u v ↔ Rl l u v ∨ Rl (revR l) u v := by
      show ((flm _ l l.length).getD u 0#64).getLsbD v = true ↔ _
      rw [flm_get h, if_pos h, BitVec.getLsbD_or, Bool.or_eq_true]; rfl
    exact e1.trans (or_congr Iff.rfl (revR_bit hv h))
  · constructor
    · intro x
      have := x.dom
      rw [flm_length] at this
      omega
    · rintro (x | x)
      · have := x.dom; omega
      · have := hv.lt _ _ x; omega
end Go.Proofs.Wit
namespace Go.Proofs.Wit
def serR (l : List W64) : Prop := 0#64 ∉ l
def PropR (p : Int) (l : List W64) : Prop :=
  if p = 1 then serR l else if p = 2 then reflR l else if p = 3 then symmR l else if p = 4 then tranR l else if p = 5 then euclR l else False
def HasR (l : List W64) (p : Int) : Prop := checkR l.length l = 0 ∧ PropR p l
noncomputable def hasB (l : List W64) (p : Int) : Bool := @decide (HasR l p) (Classical.propDecidable _)
theorem hasB_iff {l : List W64} {p : Int} {b : Bool} (h : b = true ↔ HasR l p) : hasB l p = b := by
  unfold hasB
  cases b with
  | true => exact @decide_eq_true _ (Classical.propDecidable _) (h.1 rfl)
  | false => exact @decide_eq_false _ (Classical.propDecidable _) (fun x => by cases h.2 x)
theorem hasB_true {l : List W64} {p : Int} : hasB l p = true ↔ HasR l p := by unfold hasB; exact @decide_eq_true_iff _ (Classical.propDecidable _)
end Go.Proofs.Wit
namespace Go.Proofs.Wit
open Go Go.RowKit
/-! calls that turn one block of the caller's -/
/-- a callee that turns the block q at most -/
def CnT (P : Program) (gf : FuncId) (args : List Value) (w : World) (q : Option Nat) (Rc : Value → World → Prop) : Prop :=
  Calls P gf args.toArray w fun e w' => ∃ v, e = .returned v ∧ Ex q.toList w w' ∧ Rc v w'
section
variable {w0 w w' : World} {S : List Nat} {h : Hl} {Y : List (Nat × Obj)}
variable {P : Program} {f : FuncId} {R : Value → World → Prop} {r : Option Nat} {n : Nat} {k : List Item} {l : Fl} {fn : Func}
variable {ops : Array Oper} {i d : Nat} {rest : List Nat} {ty : TypeId} {pos : String} {aft : Array Edge} {g : Option (Nat × Bool)}
end
end Go.Proofs.Wit
namespace Go.Proofs.Wit
open Go Go.RowKit
section
variable {P : Program} {r : Option Nat} {f : FuncId} {R : Value → World → Prop} {w0 : World} {S : List Nat} {Y : List (Nat × Obj)} {n : Nat} {k : List Item} {l : Fl} {h : Hl}
variable {ops : Array Oper} {i d : Nat} {rest : List Nat} {ty : TypeId} {pos : String} {aft : Array Edge} {g : Option (Nat × Bool)}
theorem GoH.appZ {α : Type} (enc : α → Value) {t e : TypeId} {x y : Operand} {inf : TypeInfo} {z : Value} {b0 : Nat} {xs : List α} {sp : List Value} {cap : Nat} {an : Option Addr} {m c : Nat} (news : List α)
    (ho : ops[i]? = some ⟨some d, .call ⟨.builtin .append, #[x, y], #[t, t]⟩, ty, pos, aft, g⟩) (hw : wantL ops l g = true) (hx : opd l x = some (osv (some b0) xs.length cap)) (hy : opd l y = some (.slice an m c)) (hd : Nat.blt d n = true)
    (hu : P.underlying t = some (.slice e)) (hi : P.info? e = some inf) (hz : inf.zero = some z) (hsz : inf.size = 1) (hz1 : z.cells.size = 1)
    (j : Nat) (hj : h[j]? = some (some b0, ob enc e xs sp)) (hsl : ∀ w Y', St w0 S w h Y' → Sl w an (news.map enc))
    (hcap : (xs.map enc ++ sp).length = cap) (hl : m = news.length) (h1 : ∀ u, (enc u).oneCell' = true) (hmx : xs.length + m ≤ maxLen) (hbytes : (xs.length + m) * inf.bytes ≤ 140737488355328)
    (hk : ∀ b' sp' cap', ((xs ++ news).map enc ++ sp').length = cap' → GoH P r f R w0 S Y n (.inRegion ops rest :: k) ((d, osv (some b') (xs ++ news).length cap') :: l) (h.set j (some b', ob enc e (xs ++ news) sp'))) : GoH P r f R w0 S Y n (.inRegion ops (i :: rest) :: k) l h := by
  by_cases hm : m = 0
  · subst hm
    obtain rfl : news = [] := List.eq_nil_of_length_eq_zero hl.symm
    have hle : xs.length ≤ cap := by rw [← hcap]; simp
    have := hk b0 sp cap (by rw [List.append_nil]; exact hcap)
    rw [List.append_nil] at this
    have hset : h.set j (some b0, ob enc e xs sp) = h := by
      obtain ⟨h2, h3⟩ := List.getElem?_eq_some_iff.1 hj
      rw [← h3]; exact List.set_getElem_self ..
    rw [hset] at this
    exact GoH.v (Vop.blt (vs := [osv (some b0) xs.length cap, .slice an 0 c]) ho hw (by simp [opds, hx, hy]) (blt_app0 hu hi hle) hd) this
  · exact GoH.appS enc news ho hw hx hy hd hu hi hz hsz hz1 (fun e => by cases e) j hj hsl hcap hl (by omega) h1 hmx hbytes hk
end
end Go.Proofs.Wit
namespace Go.Proofs.Wit
open Go Go.RowKit
theorem GoH.addNone {P : Program} {r : Option Nat} {f : FuncId} {R : Value → World → Prop} {w0 : World} {S : List Nat} {Y : List (Nat × Obj)} {n : Nat} {k : List Item} {l : Fl} {h : Hl} (o : Obj)
    (hg : GoH P r f R w0 S Y n k l ((none, o) :: h)) : GoH P r f R w0 S Y n k l h := fun t w Ds hF hS => hg t w Ds hF (hS.none o)
end Go.Proofs.Wit
namespace Go.Proofs.Wit
open Go Go.RowKit
section
variable {P : Program} {r : Option Nat} {f : FuncId} {R : Value → World → Prop} {w0 : World} {S : List Nat} {Y : List (Nat × Obj)} {n : Nat} {k : List Item} {l : Fl} {h : Hl}
variable {ops : Array Oper} {i d : Nat} {rest : List Nat} {ty : TypeId} {pos : String} {aft : Array Edge} {g : Option (Nat × Bool)}
end
section
variable {P : Program} {t : TypeId} {a b : Int} {x y : W64} {v : Bool}
theorem bEqV {k : IntKind} (e : (a == b) = v) : Bin P .eql t (.int k a) (.int k b) (.bool v) := e ▸ bEq
theorem bNeV {k : IntKind} (e : (a != b) = v) : Bin P .neq t (.int k a) (.int k b) (.bool v) := e ▸ bNe
theorem bLtV {k : IntKind} (e : decide (a < b) = v) : Bin P .lss t (.int k a) (.int k b) (.bool v) := e ▸ bLt
theorem bGtV {k : IntKind} (e : decide (a > b) = v) : Bin P .gtr t (.int k a) (.int k b) (.bool v) := e ▸ bGt
end
end Go.Proofs.Wit
namespace Go.Proofs.Wit
open Go Go.RowKit
/-! plain facts on shortest paths -/
/-- the points from which k steps lead to a point of t -/
def near (r : List W64) (t : W64) : Nat → W64
  | 0 => t
  | k + 1 => mapR (revR r) (near r t k)
structure Short (r : List W64) (f t : W64) (k : Nat) : Prop where
  one : 1 ≤ k
  ne : f &&& near r t k ≠ 0#64
  least : ∀ j, 1 ≤ j → j < k → f &&& near r t j = 0#64
section
variable {r : List W64} {t : W64}
end
theorem countP_lt {α : Type} {p q : α → Bool} : ∀ {l : List α}, (∀ x ∈ l, p x = true → q x = true) → (∃ x ∈ l, q x = true ∧ p x = false) → l.countP p < l.countP q
  | [], _, ⟨_, h, _⟩ => by cases h
  | a :: l, h, ⟨x, hx, h1, h2⟩ => by
    have hle : l.countP p ≤ l.countP q := List.countP_mono_left (fun y hy => h y (List.mem_cons_of_mem _ hy))
    rw [List.countP_cons, List.countP_cons]
    rcases List.mem_cons.1 hx with rfl | hx
    · rw [h1, h2]; simp; omega
    · have := countP_lt (fun y hy => h y (List.mem_cons_of_mem _ hy)) ⟨x, hx, h1, h2⟩
      have h3 := h a (List.mem_cons_self ..)
      cases hp : p a with
      | false => simp; split <;> omega
      | true => rw [h3 hp]; omega
end Go.Proofs.Wit
namespace Go.Proofs.Wit
open Go Go.RowKit
/-! blocks of a callee's, many at once; lists of lists; models -/
/-- blocks that are new since w, as they lie in w' -/
structure NewH (w w' : World) (H : Hl) : Prop where
  own : ∀ p ∈ H, ∀ b, p.1 = some b → w'.heap[b]? = some p.2 ∧ isSys p.2 = false ∧ w.heap.size ≤ b
  apart : H.Pairwise apartH
theorem NewH.of {w w' : World} {h : Hl} {Y : List (Nat × Obj)} (s : St w [] w' h Y) : NewH w w' h :=
  ⟨fun p hp b hb => by
    obtain ⟨h1, h2, h3⟩ := s.own p hp b hb
    exact ⟨h1, h2, h3.resolve_right (by simp)⟩, s.apart⟩
theorem NewH.sub {w w' : World} {H H' : Hl} (g : NewH w w' H) (hs : H'.Sublist H) : NewH w w' H' := ⟨fun p hp => g.own p (hs.subset hp), g.apart.sublist hs⟩
theorem St.gainL {w0 w w' : World} {S : List Nat} {h : Hl} {Y : List (Nat × Obj)} (s : St w0 S w h Y) (e : Ex [] w w') {H : Hl} (g : NewH w w' H) : St w0 S w' (H ++ h) Y := by
  have s' := s.later e
  refine ⟨s'.ext, fun p hp b hb => ?_, List.pairwise_append.2 ⟨g.apart, s.apart, fun p hp q hq b hb hqb => ?_⟩, s'.sys, s'.ynd⟩
  · rcases List.mem_append.1 hp with hp | hp
    · obtain ⟨h1, h2, h3⟩ := g.own p hp b hb
      exact ⟨h1, h2, .inl (Nat.le_trans s.ext.size h3)⟩
    · exact s'.own p hp b hb
  · have h1 := (g.own p hp b hb).2.2
    have h2 := (Array.getElem?_eq_some_iff.1 (s.own q hq b hqb).1).1
    omega
theorem St.pickT {w0 w : World} {S : List Nat} {pre pre' HR : Hl} {Y : List (Nat × Obj)} (s : St w0 S w (pre ++ HR) Y) (is : List Nat) (hn : is.Nodup) (e : is.map (fun i => pre[i]?) = pre'.map some) : St w0 S w (pre' ++ HR) Y := by
  have hlen : is.length = pre'.length := by have := congrArg List.length e; simpa using this
  have hat : ∀ j (hj : j < pre'.length), ∃ i, is[j]? = some i ∧ pre[i]? = some pre'[j] := fun j hj => by
    have h1 := congrArg (fun l => l[j]?) e
    have hj2 : j < is.length := by omega
    simp only [List.getElem?_map, List.getElem?_eq_getElem hj, List.getElem?_eq_getElem hj2, Option.map_some, Option.some.injEq] at h1
    exact ⟨is[j], List.getElem?_eq_getElem hj2, h1⟩
  have hmem : ∀ p ∈ pre', p ∈ pre := fun p hp => by
    obtain ⟨j, hj, rfl⟩ := List.mem_iff_getElem.1 hp
    obtain ⟨i, _, h2⟩ := hat j hj
    exact List.mem_of_getElem? h2
  have hap := List.pairwise_append.1 s.apart
  refine ⟨s.ext, fun p hp => ?_, List.pairwise_append.2 ⟨?_, hap.2.1, fun p hp q hq => hap.2.2 p (hmem p hp) q hq⟩, s.sys, s.ynd⟩
  · rcases List.mem_append.1 hp with hp | hp
    · exact s.own p (List.mem_append_left _ (hmem p hp))
    · exact s.own p (List.mem_append_right _ hp)
  · rw [List.pairwise_iff_getElem]
    intro j j' hj hj' hlt
    obtain ⟨i, h1, h2⟩ := hat j hj
    obtain ⟨i', h1', h2'⟩ := hat j' hj'
    have hne : i ≠ i' := by
      rintro rfl
      obtain ⟨a1, a2⟩ := List.getElem?_eq_some_iff.1 h1
      obtain ⟨b1, b2⟩ := List.getElem?_eq_some_iff.1 h1'
      have := (List.nodup_iff_pairwise_ne.1 hn)
      exact absurd (a2.trans b2.symm) (List.pairwise_iff_getElem.1 this j j' a1 b1 hlt)
    obtain ⟨a1, a2⟩ := List.getElem?_eq_some_iff.1 h2
    obtain ⟨b1, b2⟩ := List.getElem?_eq_some_iff.1 h2'
    rw [← a2, ← b2]
    rcases Nat.lt_or_gt_of_ne hne with hx | hx
    · exact List.pairwise_iff_getElem.1 hap.1 i i' a1 b1 hx
    · exact apartH_symm (List.pairwise_iff_getElem.1 hap.1 i' i b1 a1 hx)
theorem GoH.pickT {P : Program} {r : Option Nat} {f : FuncId} {R : Value → World → Prop} {w0 : World} {S : List Nat} {Y : List (Nat × Obj)} {n : Nat} {k : List Item} {l : Fl} {pre pre' : Hl} (HR : Hl) (is : List Nat) (hn : is.Nodup) (e : is.map (fun i => pre[i]?) = pre'.map some)
    (hg : GoH P r f R w0 S Y n k l (pre' ++ HR)) : GoH P r f R w0 S Y n k l (pre ++ HR) := fun t w Ds hF hS => hg t w Ds hF (hS.pickT is hn e)
theorem GoH.pick {P : Program} {r : Option Nat} {f : FuncId} {R : Value → World → Prop} {w0 : World} {S : List Nat} {Y : List (Nat × Obj)} {n : Nat} {k : List Item} {l : Fl} {pre pre' : Hl} (is : List Nat) (hn : is.Nodup) (e : is.map (fun i => pre[i]?) = pre'.map some)
    (hg : GoH P r f R w0 S Y n k l pre') : GoH P r f R w0 S Y n k l pre := by
  have := GoH.pickT (pre := pre) (pre' := pre') [] is hn e (by rw [List.append_nil]; exact hg)
  rwa [List.append_nil] at this
def InS {α : Type} (enc : α → Value) (H : Hl) (a : Option Addr) (xs : List α) : Prop :=
  xs = [] ∨ ∃ b e sp, a = some ⟨b, 0, none⟩ ∧ (some b, ob enc e xs sp) ∈ H
structure Row where
  a : Option Addr
  cap : Nat
  xs : List W64
def Row.v (r : Row) : Value := .slice r.a r.xs.length r.cap
structure Row.At (r : Row) (w : World) : Prop where
  at_ : SlU w r.a r.xs
  len : r.xs.length ≤ maxLen
  cap : r.xs.length ≤ r.cap
structure MV where
  n : Int
  ra : Option Addr
  rc : Nat
  rows : List Row
  va : Option Addr
  vc : Nat
  val : List W64
abbrev MV.cs (m : MV) : Array Value := #[.int .i64 m.n, .slice m.va m.val.length m.vc, .slice m.ra m.rows.length m.rc]
def MV.v (m : MV) : Value := .agg #[.int .i64 m.n, .slice m.va m.val.length m.vc, .slice m.ra m.rows.length m.rc]
def MV.rel (m : MV) : List (List W64) := m.rows.map Row.xs
def SlR (w : World) (a : Option Addr) (rs : List Row) : Prop := Sl w a (rs.map Row.v)
structure MV.At (m : MV) (w : World) : Prop where
  rel : SlR w m.ra m.rows
  row : ∀ r ∈ m.rows, r.At w
  val : SlU w m.va m.val
  lr : m.rows.length ≤ maxLen
  lv : m.val.length ≤ maxLen
  cr : m.rows.length ≤ m.rc
  cv : m.val.length ≤ m.vc
theorem SlR.ex0 {w0 w : World} {a : Option Addr} {xs : List Row} (h : SlR w0 a xs) {S : List Nat} (e : Ex S w0 w) (hS : ∀ b o, a = some ⟨b, o, none⟩ → b ∉ S := by simp) : SlR w a xs := Sl.ex h e hS
theorem Sl.at {α : Type} {enc : α → Value} {w : World} {a : Option Addr} {xs : List α} (h : Sl w a (xs.map enc)) (k : Nat) (hk : k < xs.length) : w.cell? (adr a k) = some (enc xs[k]) := by
  rw [Sl.cell h k (by simpa using hk)]
  simp [List.getD_eq_getElem?_getD, hk]
theorem Ex.keep {w w' : World} (e : Ex [] w w') {b : Nat} {o : Obj} (h : w.heap[b]? = some o) : w'.heap[b]? = some o := by
  rw [e.block b (Array.getElem?_eq_some_iff.1 h).1 (by simp)]; exact h
theorem Ex.cell {w w' : World} (e : Ex [] w w') {b j : Nat} {cs : Array Value} {t : TypeId} {fr : Nat × Nat} {v : Value} (h : w.heap[b]? = some (.cells cs t fr)) (hv : cs[j]? = some v) : w'.cell? ⟨b, j, none⟩ = some v := by
  rw [cell_of_row w' b j cs t fr (e.keep h), hv]
abbrev I64 : Int → Value := Value.int .i64
def SlI (w : World) (a : Option Addr) (xs : List Int) : Prop := Sl w a (xs.map I64)
theorem SlI.ex0 {w0 w : World} {a : Option Addr} {xs : List Int} (h : SlI w0 a xs) {S : List Nat} (e : Ex S w0 w) (hS : ∀ b o, a = some ⟨b, o, none⟩ → b ∉ S := by simp) : SlI w a xs := Sl.ex h e hS
theorem SlI.at {w : World} {a : Option Addr} {xs : List Int} (h : SlI w a xs) (k : Nat) (hk : k < xs.length) : w.cell? (adr a k) = some (.int .i64 xs[k]) := Sl.at h k hk
def OwnS {α : Type} (enc : α → Value) (e : TypeId) (w w' : World) (v : Value) (xs : List α) : Prop :=
  ∃ q cap sp, v = osv q xs.length cap ∧ (q = none → xs.length = 0 ∧ cap = 0) ∧ (xs.map enc ++ sp).length = cap ∧ ∀ b, q = some b → w.heap.size ≤ b ∧ w'.heap[b]? = some (ob enc e xs sp)
theorem gainS {α : Type} {enc : α → Value} {t : TypeId} {w0 w w' : World} {S : List Nat} {h : Hl} {Y : List (Nat × Obj)} (s : St w0 S w h Y) (e : Ex [] w w') {v : Value} {xs : List α} (ho : OwnS enc t w w' v xs) :
    ∃ q cap sp, v = osv q xs.length cap ∧ (q = none → xs.length = 0 ∧ cap = 0) ∧ (xs.map enc ++ sp).length = cap ∧ St w0 S w' ((q, ob enc t xs sp) :: h) Y := by
  obtain ⟨q, cap, sp, h1, h2, h3, h4⟩ := ho
  refine ⟨q, cap, sp, h1, h2, h3, ?_⟩
  cases q with
  | none => exact (s.later e).none _
  | some b => exact s.gain e (h4 b rfl).2 rfl (h4 b rfl).1
theorem OwnS.mk {α : Type} {enc : α → Value} {t : TypeId} {w0 w : World} {h : Hl} {Y : List (Nat × Obj)} (s : St w0 [] w h Y) (j : Nat) {q : Option Nat} {xs : List α} {sp : List Value} {cap m : Nat} (hj : h[j]? = some (q, ob enc t xs sp)) (hm : m = xs.length)
    (hq : q = none → xs.length = 0 ∧ cap = 0) (hcap : (xs.map enc ++ sp).length = cap) : OwnS enc t w0 w (osv q m cap) xs := by
  subst hm
  refine ⟨q, cap, sp, rfl, hq, hcap, fun b hb => ?_⟩
  subst hb
  exact ⟨s.fresh hj, s.get hj⟩
theorem SlR.at {w : World} {a : Option Addr} {xs : List Row} (h : SlR w a xs) (k : Nat) (hk : k < xs.length) : w.cell? (adr a k) = some xs[k].v := by
  rw [Sl.cell h k (by simpa using hk)]
  simp [List.getD_eq_getElem?_getD, hk]
theorem Row.At.ex0 {w0 w : World} {r : Row} (h : r.At w0) (e : Ex [] w0 w) : r.At w := ⟨h.at_.ex0 e, h.len, h.cap⟩
theorem MV.At.ex0 {w0 w : World} {m : MV} (h : m.At w0) (e : Ex [] w0 w) : m.At w := ⟨h.rel.ex0 e, fun r hr => (h.row r hr).ex0 e, h.val.ex0 e, h.lr, h.lv, h.cr, h.cv⟩
structure MV.In (m : MV) (H : Hl) : Prop where
  rel : InS Row.v H m.ra m.rows
  row : ∀ r ∈ m.rows, InS U H r.a r.xs ∧ r.xs.length ≤ maxLen ∧ r.xs.length ≤ r.cap
  val : InS U H m.va m.val
  lr : m.rows.length ≤ maxLen
  lv : m.val.length ≤ maxLen
  cr : m.rows.length ≤ m.rc
  cv : m.val.length ≤ m.vc
end Go.Proofs.Wit
namespace Go.Proofs.Wit
open Go Go.RowKit
theorem upTo_if {σ : Type} {p : Nat → Bool} {f : Nat → σ → σ} {a : σ} : ∀ {n : Nat}, upTo (fun v a => if p v = true then f v a else a) a n = ((List.range n).filter p).foldl (fun a v => f v a) a
  | 0 => rfl
  | n + 1 => by
    rw [upTo, upTo_if, filter_range_succ, List.foldl_append]
    by_cases h : p n = true
    · rw [if_pos h, if_pos h]; rfl
    · rw [if_neg h, if_neg h]; rfl
theorem pts_range {s : W64} {n : Nat} (hn : n ≤ 64) (h : ∀ i, s.getLsbD i = true → i < n) : pts s = (List.range n).filter (fun i => s.getLsbD i) := by
  unfold pts
  have e : List.range 64 = List.range (n + (64 - n)) := by rw [show n + (64 - n) = 64 from by omega]
  rw [e, List.range_add, List.filter_append]
  have h2 : ((List.range (64 - n)).map (n + ·)).filter (fun i => s.getLsbD i) = [] := by
    rw [List.filter_eq_nil_iff]
    intro x hx
    obtain ⟨y, _, rfl⟩ := List.mem_map.1 hx
    intro hb
    have := h _ hb
    omega
  rw [h2, List.append_nil]
theorem in_bit {s : W64} {i : Nat} : ((s >>> i) &&& 1#64 == 1#64) = s.getLsbD i := by
  cases hb : s.getLsbD i with
  | true =>
    rw [beq_iff_eq]
    refine eq_of_bits (fun j _ => ?_)
    rw [BitVec.getLsbD_and, BitVec.getLsbD_ushiftRight, BitVec.getLsbD_one]
    by_cases e : j = 0
    · subst e; simp [hb]
    · simp [e]
  | false =>
    rw [beq_eq_false_iff_ne]
    intro e
    have := congrArg (fun x => BitVec.getLsbD x 0) e
    simp [hb] at this
theorem set_same {l : List W64} {k : Nat} (h : k < l.length) : l.set k (l.getD k 0#64) = l := by
  rw [List.getD_eq_getElem?_getD, List.getElem?_eq_getElem h]; exact List.set_getElem_self ..
def revU (w : Nat) (s : W64) (out : List W64) (n : Nat) : List W64 := upTo (fun v out => if s.getLsbD v = true then out.set v (out.getD v 0#64 ||| 1#64 <<< w) else out) out n
theorem revU_length {w : Nat} {s : W64} {out : List W64} {n : Nat} : (revU w s out n).length = out.length :=
  upTo_inv (n := n) (fun _ (l : List W64) => l.length = out.length) rfl (fun k a _ h => by
    by_cases e : s.getLsbD k = true
    · rw [if_pos e, List.length_set]; exact h
    · rw [if_neg e]; exact h)
theorem revU_eq {w : Nat} {s : W64} {out : List W64} {n : Nat} (hn : n ≤ 64) (h : ∀ i, s.getLsbD i = true → i < n) : revU w s out n = revS w s out := by
  rw [revU, upTo_if, revS, pts_range hn h]
theorem union_eq {r s : List W64} (f : W64 → W64 → W64) : flm (fun w _ => f (r.getD w 0#64) (s.getD w 0#64)) (List.replicate r.length 0#64) r.length = flm (fun w x => f x (s.getD w 0#64)) r r.length := by
  refine list_ext (by simp [flm_length]) (fun u v => ?_)
  rcases Nat.lt_or_ge u r.length with h | h
  · rw [Rl.toBit, Rl.toBit, flm_get (by simpa using h), flm_get h, if_pos h, if_pos h]
  · constructor
    · intro x; have := x.dom; rw [flm_length, List.length_replicate] at this; omega
    · intro x; have := x.dom; rw [flm_length] at this; omega
theorem GoodS.least {g : List W64 → List W64} {F : List W64 → Prop} (h : GoodS g F) {r : List W64} (hv : Val r) (hF : F (g r)) : Least F r (g r) :=
  ⟨h.val hv, h.infl hv, hF, fun c hc hl hFc => by
    have := h.mono hv hc hl
    rwa [(h.fix hc).2 hFc] at this⟩
theorem Least.self {F : List W64 → Prop} {r c : List W64} (hv : Val r) (h : Least F r c) : c = r ↔ F r :=
  ⟨fun e => e ▸ h.has, fun hF => (h.least r hv (.refl r) hF).antisymm h.le⟩
theorem upTo_refl_length {r : List W64} {n : Nat} : (upTo reflS r n).length = r.length :=
  upTo_inv (n := n) (fun _ (l : List W64) => l.length = r.length) rfl (fun k a _ h => by rw [reflS, List.length_set]; exact h)
theorem refl_least {r : List W64} (hv : Val r) : Least reflR r (upTo reflS r r.length) := by
  refine refl_good.least hv ?_
  intro w hw
  simp only [upTo_refl_length] at hw
  have key : ∀ n, n ≤ r.length → ∀ w, w < n → Rl (upTo reflS r n) w w := by
    intro n
    induction n with
    | zero => intro _ w h; omega
    | succ n ih =>
      intro hn w hwn
      rw [upTo, reflS, set_bit]
      by_cases e : w = n
      · subst e
        exact .inr ⟨rfl, by rw [upTo_refl_length]; omega, (shift_one_bit (by have := hv.len; omega)).2 rfl⟩
      · exact .inl (ih (by omega) w (by omega))
  exact key _ (Nat.le_refl _) w hw
theorem symm_bit {r : List W64} (hv : Val r) (u v : Nat) : Rl (symmG r) u v ↔ Rl r u v ∨ Rl r v u := by
  rcases Nat.lt_or_ge u r.length with h | h
  · have e1 : Rl (symmG r) u v ↔ Rl r u v ∨ Rl (revR r) u v := by
      show ((flm _ r r.length).getD u 0#64).getLsbD v = true ↔ _
      rw [flm_get h, if_pos h, BitVec.getLsbD_or, Bool.or_eq_true]; rfl
    exact e1.trans (or_congr Iff.rfl (revR_bit hv h))
  · constructor
    · intro x
      have := x.dom
      rw [symmG, flm_length] at this
      omega
    · rintro (x | x)
      · have := x.dom; omega
      · have := hv.lt _ _ x; omega
theorem symm_least {r : List W64} (hv : Val r) : Least symmR r (symmG r) := by
  refine symm_good.least hv (fun u v h => ?_)
  exact (symm_bit hv v u).2 ((symm_bit hv u v).1 h).symm
end Go.Proofs.Wit
namespace Go.Proofs.Wit
def pairAt (e : Bool) (w u : Nat) : Nat := if e = true then u else w
def pairSrc (e : Bool) (w u : Nat) : Nat := if e = true then w else u
def pairS (e : Bool) (w u : Nat) (l : List W64) : List W64 := l.set (pairAt e w u) (l.getD (pairAt e w u) 0#64 ||| l.getD (pairSrc e w u) 0#64)
def stG (e : Bool) (w u : Nat) (l : List W64) : List W64 := if (l.getD w 0#64).getLsbD u = true then pairS e w u l else l
def clG (e : Bool) (w u : Nat) (l : List W64) : Prop := Rl l w u → ∀ x, Rl l (pairSrc e w u) x → Rl l (pairAt e w u) x
def allG (e : Bool) (l : List W64) : Prop := if e = true then euclR l else tranR l
theorem allG_iff {e : Bool} {l : List W64} : allG e l ↔ ∀ w u, clG e w u l := by
  unfold allG clG pairAt pairSrc
  cases e
  · simp only [Bool.false_eq_true, if_false]
    exact ⟨fun h w u h1 x h2 => h w u x h1 h2, fun h w u x h1 h2 => h w u h1 x h2⟩
  · simp only [if_true]
    exact ⟨fun h w u h1 x h2 => h w u x h1 h2, fun h w u x h1 h2 => h w u h1 x h2⟩
theorem pair_good (e : Bool) (w u : Nat) : GoodS (stG e w u) (clG e w u) := by
  refine (GoodS.ofBits (fun l a b => Rl l w u ∧ a = pairAt e w u ∧ Rl l (pairSrc e w u) b) (fun l => ?_) (fun l hv a b => ?_) (fun l hv a b h => hv.lt _ _ h.2.2) (fun l m _ _ le a b h => ⟨le.sub _ _ h.1, h.2.1, le.sub _ _ h.2.2⟩)).iff (fun {l} _ => ?_)
  · unfold stG; split
    · rw [pairS, List.length_set]
    · rfl
  · unfold stG
    by_cases h : (l.getD w 0#64).getLsbD u = true
    · rw [if_pos h, pairS, set_bit]
      refine or_congr Iff.rfl ⟨fun ⟨h1, _, h2⟩ => ⟨h, h1, h2⟩, fun ⟨_, h1, h2⟩ => ⟨h1, ?_, h2⟩⟩
      unfold pairAt; split
      · exact hv.lt w u h
      · exact Rl.dom (v := u) h
    · rw [if_neg h]
      exact ⟨.inl, fun x => x.elim (fun x => x) (fun x => absurd x.1 h)⟩
  · exact ⟨fun h h1 x h2 => h _ x ⟨h1, rfl, h2⟩, fun h a b ⟨h1, h2, h3⟩ => h2 ▸ h h1 b h3⟩
structure Pass (e : Bool) (r o0 out : List W64) (again : Bool) (k j : Nat) : Prop where
  val : Val out
  le : Le r out
  min : ∀ c, Val c → Le r c → allG e c → Le out c
  up : Le o0 out
  yes : again = true → o0 ≠ out
  no : again = false → out = o0 ∧ ∀ w u, (w < k ∨ (w = k ∧ u < j)) → clG e w u out
theorem Pass.go {e : Bool} {r o0 out : List W64} {again : Bool} {k j : Nat} (h : Pass e r o0 out again k j) (again' : Bool) (hy : again' = true → again = true ∨ stG e k j out ≠ out) (hn : again' = false → again = false ∧ stG e k j out = out) :
    Pass e r o0 (stG e k j out) again' k (j + 1) where
  val := (pair_good e k j).val h.val
  le := h.le.trans ((pair_good e k j).infl h.val)
  min c h1 h2 h3 := by
    have := (pair_good e k j).mono h.val h1 (h.min c h1 h2 h3)
    rwa [((pair_good e k j).fix h1).2 (allG_iff.1 h3 k j)] at this
  up := h.up.trans ((pair_good e k j).infl h.val)
  yes ha := by
    intro e1
    have hle := (pair_good e k j).infl h.val
    have : Le out o0 := by rw [e1]; exact hle
    have e2 : o0 = out := h.up.antisymm this
    rcases hy ha with h3 | h3
    · exact h.yes h3 e2
    · exact h3 (e1.symm.trans e2)
  no ha := by
    obtain ⟨h1, h2⟩ := hn ha
    obtain ⟨h3, h4⟩ := h.no h1
    refine ⟨h2.trans h3, fun w u hwu => ?_⟩
    rw [h2]
    rcases hwu with h5 | ⟨rfl, h5⟩
    · exact h4 w u (.inl h5)
    · rcases Nat.lt_succ_iff_lt_or_eq.1 h5 with h6 | rfl
      · exact h4 w u (.inr ⟨rfl, h6⟩)
      · exact ((pair_good e w u).fix h.val).1 h2
theorem Pass.row {e : Bool} {r o0 out : List W64} {again : Bool} {k j : Nat} (h : Pass e r o0 out again k j) (hj : out.length ≤ j) : Pass e r o0 out again (k + 1) 0 :=
  { h with no := fun ha => ⟨(h.no ha).1, fun w u hwu => by
      rcases hwu with h5 | ⟨_, h5⟩
      · rcases Nat.lt_succ_iff_lt_or_eq.1 h5 with h6 | rfl
        · exact (h.no ha).2 w u (.inl h6)
        · by_cases hu : u < j
          · exact (h.no ha).2 w u (.inr ⟨rfl, hu⟩)
          · intro h7
            have := h.val.lt _ _ h7
            omega
      · omega⟩ }
theorem Pass.done {e : Bool} {r o0 out : List W64} {k : Nat} (h : Pass e r o0 out false k 0) (hk : out.length ≤ k) : allG e out :=
  allG_iff.2 (fun w u => by
    by_cases hw : w < k
    · exact (h.no rfl).2 w u (.inl hw)
    · intro h7
      have := h7.dom
      omega)
end Go.Proofs.Wit
namespace Go.Proofs.Wit
end Go.Proofs.Wit
namespace Go.Proofs.Wit
open Go Go.RowKit
/-! models and logics, plainly -/
def outB (n : Nat) (l : List W64) : Bool := l.any (fun s => s &&& ~~~ allW n != 0#64)
def checkM (n : Int) (val : List W64) (rel : List (List W64)) : Int :=
  if n < 1 ∨ 64 < n then 2 else if 4 < rel.length ∨ 8 < val.length then 8 else if rel.any (fun r => (r.length : Int) != n) then 3 else if outB n.toNat val || rel.any (outB n.toNat) then 2 else 0
theorem outB_false {n : Nat} {l : List W64} : outB n l = false ↔ ∀ s ∈ l, s &&& ~~~ allW n = 0#64 := by
  simp [outB]
structure ValM (n : Int) (val : List W64) (rel : List (List W64)) : Prop where
  n1 : 1 ≤ n
  n64 : n ≤ 64
  agents : rel.length ≤ 4
  facts : val.length ≤ 8
  len : ∀ r ∈ rel, (r.length : Int) = n
  rels : ∀ r ∈ rel, Val r
  out : outB n.toNat val = false
theorem checkM_zero {n : Int} {val : List W64} {rel : List (List W64)} : checkM n val rel = 0 ↔ ValM n val rel := by
  unfold checkM
  constructor
  · intro h
    split at h
    · cases h
    split at h
    · cases h
    split at h
    · cases h
    split at h
    · cases h
    rename_i h1 h2 h3 h4
    simp only [Bool.not_eq_true, List.any_eq_false, bne_iff_ne, ne_eq, Decidable.not_not, Bool.or_eq_false_iff] at h3 h4
    have hlen : ∀ r ∈ rel, (r.length : Int) = n := fun r hr => h3 r hr
    refine ⟨by omega, by omega, by omega, by omega, hlen, fun r hr => ?_, h4.1⟩
    have e := hlen r hr
    have h5 := h4.2 r hr
    have h5 : outB n.toNat r = false := by simpa using h5
    rw [outB_false] at h5
    refine ⟨by omega, fun u v hv => ?_⟩
    have hd := hv.dom
    have h6 := andNot_zero.1 (h5 (r.getD u 0#64) (by simp [List.getD_eq_getElem?_getD, hd])) v hv
    rw [allW_bit (by omega) (bit_lt h6)] at h6
    have := of_decide_eq_true h6
    omega
  · intro h
    rw [if_neg (by have := h.n1; have := h.n64; omega), if_neg (by have := h.agents; have := h.facts; omega), if_neg ?_, if_neg ?_]
    · rw [Bool.or_eq_true, not_or]
      refine ⟨by rw [h.out]; simp, ?_⟩
      rw [Bool.not_eq_true, List.any_eq_false]
      intro r hr
      rw [Bool.not_eq_true, outB_false]
      intro s hs
      obtain ⟨i, hi, rfl⟩ := List.mem_iff_getElem.1 hs
      have e := h.len r hr
      have hv := h.rels r hr
      refine andNot_zero.2 (fun j hj => ?_)
      have h1 : Rl r i j := by unfold Rl; simpa [List.getD_eq_getElem?_getD, hi] using hj
      rw [allW_bit (by have := h.n64; omega) (bit_lt hj)]
      have := hv.lt _ _ h1
      exact decide_eq_true (by omega)
    · rw [Bool.not_eq_true, List.any_eq_false]
      intro r hr
      have := h.len r hr
      simpa using this
def propsL (l : Int) : List Int := if l = 1 then [1] else if l = 2 then [2] else if l = 3 then [4] else if l = 4 then [2, 4] else if l = 5 then [1, 4, 5] else if l = 6 then [2, 4, 5] else []
def propsE (l : Int) : Int := if 0 ≤ l ∧ l ≤ 6 then 0 else 1
theorem propsL_len (l : Int) : (propsL l).length ≤ 3 := by
  unfold propsL
  repeat' split
  all_goals simp
end Go.Proofs.Wit
namespace Go.Proofs.Wit
open Go Go.RowKit
noncomputable def hasL (r : List W64) (l : Int) : Bool := (propsE l == 0) && (checkR r.length r == 0) && (propsL l).all (hasB r)
noncomputable def inM (n : Int) (val : List W64) (rel : List (List W64)) (l : Int) : Bool := (propsE l == 0) && (checkM n val rel == 0) && rel.all (fun r => hasL r l)
end Go.Proofs.Wit
namespace Go.Proofs.Wit
open Go Go.RowKit
end Go.Proofs.Wit
namespace Go.Proofs.Wit
open Go Go.RowKit
end Go.Proofs.Wit
