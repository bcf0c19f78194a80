/- Laws of walks, for any program, under the conditions that each theorem states. -/
import Derived.Test.YtlihcmknfdckdaaDoorS01
import Derived.Orders
namespace Go.Proofs.Wit
open Go Go.RowKit
def dirs (ops : Array Oper) (i : Nat) : List Nat := match ops[i]? with
 | some o => (o.after.toList.filter (Region.binds .any)).map (·.on)
 | none => []
def dstOf (ops : Array Oper) (i : Nat) : Option Nat := (ops[i]?).bind (·.dst)
def notSel : Op → Bool
 | .select .. => false
 | _ => true
def eyes (ops : Array Oper) (o : Oper) : List Nat :=
 (match o.guard with | none => [] | some (j, _) => (dstOf ops j).toList) ++ o.op.operands.toList.filterMap (fun | .tmp s => some s | _ => none)
def drawOk (ops : Array Oper) (_l : Fl) (m : Nat) : Bool :=
 (Nat.beq ops.size m || (Nat.beq ops.size (m + 1) && (List.range m).all (fun i => (dirs ops m).contains i))) &&
 (List.range ops.size).all (fun i => (dirs ops i).all (fun j => Nat.blt j i)) &&
 (List.range m).all (fun i => match ops[i]? with
  | none => false
  | some o => notSel o.op && match o.dst with
   | none => false
   | some d => (List.range m).all (fun j => Nat.beq j i || !(dstOf ops j == some d)) &&
    (eyes ops o).all (fun s => (List.range m).all (fun j => !(dstOf ops j == some s) || (dirs ops i).contains j)))

section
variable {P : Program} {r : Option Nat} {f : FuncId} {R : Value → World → Prop} {w0 : World} {S : List Nat} {Y : List (Nat × Obj)} {n : Nat} {k : List Item} {l : Fl} {h : Hl} {ops : Array Oper}
def Outc (P : Program) (w0 : World) (S : List Nat) (n : Nat) (h : Hl) (ops : Array Oper) (i : Nat) (t : Array Value) (d : Nat) (v : Value) : Prop :=
 ∃ o, ops[i]? = some o ∧ o.dst = some d ∧ d < n ∧ isDefer o.op = false ∧
  ((Region.wanted o (yielded ops t) = true ∧ ∀ (w : World) (Ds : List Nat) (Y' : List (Nat × Obj)), St w0 S w h Y' → (execOp (Act.eval ⟨t, Ds.map mark⟩) o).run P w = .ok (.value v) w ∨
   ∃ gf args, (execOp (Act.eval ⟨t, Ds.map mark⟩) o).run P w = .ok (.enter gf args) w ∧ Calls P gf args w fun e w' => ∃ u, e = .returned u ∧ (Ex [] w w' ∧ u = v)) ∨ (Region.wanted o (yielded ops t) = false ∧ v = undef))
def RdS (P : Program) (w0 : World) (S : List Nat) (n : Nat) (h : Hl) (ops : Array Oper) (F : Array Value → Prop) : Nat → Nat → Array Value → Prop
 | _, 0, t => F t
 | i, m + 1, t => ∃ d v, Outc P w0 S n h ops i t d v ∧ RdS P w0 S n h ops F (i + 1) m (t.setIfInBounds d v)
def RdGo (P : Program) (r : Option Nat) (f : FuncId) (R : Value → World → Prop) (w0 : World) (S : List Nat) (Y : List (Nat × Obj)) (n : Nat) (k : List Item) (ops : Array Oper) (i m : Nat) (l : Fl) (h : Hl) : Prop :=
 ∀ t, Frm n t l → RdS P w0 S n h ops (fun t' => ∀ w Ds, St w0 S w h (mkY Ds ++ Y) → Gos P r f R (.inRegion ops (List.range' (i + m) (ops.size - (i + m))) :: k) t' (Ds.map mark) w) i m t
theorem RdGo.nil {i : Nat} (hg : GoH P r f R w0 S Y n (.inRegion ops (List.range' i (ops.size - i)) :: k) l h) : RdGo P r f R w0 S Y n k ops i 0 l h := fun t hF w Ds hS => hg t w Ds hF hS
theorem RdGo.v {i m d : Nat} {v : Value} (hv : Vop P w0 S n h ops i l d v) (hg : RdGo P r f R w0 S Y n k ops (i + 1) m ((d, v) :: l) h) : RdGo P r f R w0 S Y n k ops i (m + 1) l h := by
 intro t hF
 obtain ⟨o, ho, hw, hdst, hnd, hd, hr⟩ := hv
 refine ⟨d, v, ⟨o, ho, hdst, by simpa [Nat.blt_eq] using hd, hnd, .inl ⟨want_of hF hw, fun w Ds Y' hS => ?_⟩⟩, ?_⟩
 ·obtain ⟨nx, h1, rfl⟩ := hr t w Ds Y' hF hS; exact .inl h1
 ·have := hg _ (hF.put v hd)
  rw [show i + (m + 1) = i + 1 + m from by omega]; exact this
theorem RdGo.callP {i m d : Nat} {v : Value} {ty : TypeId} {pos : String} {aft : Array Edge} {g : Option (Nat × Bool)} {az : Array Operand} {ts : Array TypeId} {cal : Operand} {gf : FuncId} {vs : List Value} (ho : ops[i]? = some ⟨some d, .call ⟨.value cal, az, ts⟩, ty, pos, aft, g⟩) (hw : wantL ops l g = true)
  (hc : opd l cal = some (.func (.func gf) #[] #[])) (hx : opds l az.toList = some vs) (hd : Nat.blt d n = true) (hcf : ∀ args w, (callFunc gf args).run P w = .ok (.enter gf args) w)
  (hcall : ∀ w Y', St w0 S w h Y' → Cn P gf vs w (fun u _ => u = v)) (hg : RdGo P r f R w0 S Y n k ops (i + 1) m ((d, v) :: l) h) : RdGo P r f R w0 S Y n k ops i (m + 1) l h := by
 intro t hF
 refine ⟨d, v, ⟨_, ho, rfl, by simpa [Nat.blt_eq] using hd, rfl, .inl ⟨want_of hF hw, fun w Ds Y' hS => .inr ⟨gf, vs.toArray, ?_, hcall w Y' hS⟩⟩⟩, ?_⟩
 ·have e1 := resolve_run (P := P) (ty := ty) (ts := ts) (Ds := Ds) (w := w) hF hc hx
  simp only [execOp, Sem.run_bind, e1, Result.andThen_ok, invoke, hcf]
  simp
 ·have := hg _ (hF.put v hd)
  rw [show i + (m + 1) = i + 1 + m from by omega]; exact this
theorem frm_case {t : Array Value} {d : Nat} {b c : Bool} (hF : Frm n t l) (hv : look l d = some (.bool b)) (e : b = c) : Frm n t ((d, .bool c) :: l) := by
 subst e
 refine ⟨hF.1, fun i u hu => ?_⟩
 unfold look at hu
 cases hb : Nat.beq d i with
 | true => rw [hb] at hu; obtain rfl := Nat.eq_of_beq_eq_true hb; cases hu; exact hF.2 _ _ hv
 | false => rw [hb] at hu; exact hF.2 _ _ hu
def tsq (D : Nat → Nat) (V : Nat → Value) (t : Array Value) : Nat → Array Value
 | 0 => t
 | j + 1 => (tsq D V t j).setIfInBounds (D j) (V j)
theorem tsq_shift (D : Nat → Nat) (V : Nat → Value) (t : Array Value) : ∀ j, tsq D V t (j + 1) = tsq (fun j => D (j + 1)) (fun j => V (j + 1)) (t.setIfInBounds (D 0) (V 0)) j
 | 0 => rfl
 | j + 1 => by rw [tsq, tsq_shift D V t j]; rfl
theorem RdS.seq {F : Array Value → Prop} : ∀ {m i : Nat} {t : Array Value}, RdS P w0 S n h ops F i m t → ∃ (D : Nat → Nat) (V : Nat → Value), (∀ j, j < m → Outc P w0 S n h ops (i + j) (tsq D V t j) (D j) (V j)) ∧ F (tsq D V t m)
 | 0, _, t, hF => ⟨fun _ => 0, fun _ => undef, fun j hj => by omega, hF⟩
 | m + 1, i, t, ⟨d, v, ho, hr⟩ => by
  obtain ⟨D, V, h1, h2⟩ := RdS.seq hr
  refine ⟨fun j => match j with | 0 => d | j + 1 => D j, fun j => match j with | 0 => v | j + 1 => V j, fun j hj => ?_, ?_⟩
  ·cases j with
   | zero => exact ho
   | succ j =>
    have := h1 j (by omega)
    rw [show i + (j + 1) = i + 1 + j from by omega, tsq_shift]
    exact this
  ·rw [tsq_shift]; exact h2
theorem tsq_size {D : Nat → Nat} {V : Nat → Value} {t : Array Value} : ∀ j, (tsq D V t j).size = t.size
 | 0 => rfl
 | j + 1 => by simp [tsq, tsq_size j]
theorem getD_set {t : Array Value} {d s : Nat} {v : Value} (hd : d < t.size) : (t.setIfInBounds d v).getD s undef = if d = s then v else t.getD s undef := by
 rw [Array.getD_eq_getD_getElem?, Array.getD_eq_getD_getElem?, Array.getElem?_setIfInBounds]
 split
 ·simp
 ·rfl
theorem tsq_get {D : Nat → Nat} {V : Nat → Value} {t : Array Value} {m : Nat} (hd : ∀ j, j < m → D j < t.size) (hinj : ∀ i j, i < m → j < m → D i = D j → i = j) : ∀ q, q ≤ m →
  (∀ j, j < q → (tsq D V t q).getD (D j) undef = V j) ∧ (∀ s, (∀ j, j < q → D j ≠ s) → (tsq D V t q).getD s undef = t.getD s undef)
 | 0, _ => ⟨fun j hj => by omega, fun _ _ => rfl⟩
 | q + 1, hq => by
  obtain ⟨h1, h2⟩ := tsq_get hd hinj q (by omega)
  have hs : D q < (tsq D V t q).size := by rw [tsq_size]; exact hd q (by omega)
  refine ⟨fun j hj => ?_, fun s hs' => ?_⟩
  ·rw [tsq, getD_set hs]
   split
   ·rename_i e; rw [hinj q j (by omega) (by omega) e]
   ·rename_i e
    refine h1 j ?_
    rcases Nat.lt_or_ge j q with hl | hl
    ·exact hl
    ·exact absurd (by rw [show j = q from by omega]) e
  ·rw [tsq, getD_set hs, if_neg (hs' q (by omega))]
   exact h2 s (fun j hj => hs' j (by omega))

theorem opt_of_getD {t t' : Array Value} (hs : t.size = t'.size) {s : Nat} (h : t.getD s undef = t'.getD s undef) : t[s]? = t'[s]? := by
 rw [Array.getD_eq_getD_getElem?, Array.getD_eq_getD_getElem?] at h
 rcases Nat.lt_or_ge s t.size with hl | hl
 ·rw [Array.getElem?_eq_getElem hl, Array.getElem?_eq_getElem (hs ▸ hl)] at h ⊢
  simpa using h
 ·rw [Array.getElem?_eq_none hl, Array.getElem?_eq_none (hs ▸ hl)]
theorem Outc.congr {i d : Nat} {v : Value} {t t' : Array Value} (ho : Outc P w0 S n h ops i t d v) (hsel : ∀ o, ops[i]? = some o → notSel o.op = true) (hs : t'.size = t.size)
  (he : ∀ o, ops[i]? = some o → ∀ s ∈ eyes ops o, t'.getD s undef = t.getD s undef) : Outc P w0 S n h ops i t' d v := by
 obtain ⟨o, h1, h2, h3, h4, h5⟩ := ho
 have hw : Region.wanted o (yielded ops t') = Region.wanted o (yielded ops t) := by
  unfold Region.wanted
  cases hg : o.guard with
  | none => rfl
  | some p =>
   obtain ⟨j, want⟩ := p
   have : yielded ops t' j = yielded ops t j := by
    unfold yielded
    cases hd : (ops[j]?).bind (·.dst) with
    | none => rfl
    | some dj =>
     simp only [Option.bind_some]
     rw [opt_of_getD hs (he o h1 dj (by simp [eyes, hg, dstOf, hd]))]
   simp only [this]
 refine ⟨o, h1, h2, h3, h4, ?_⟩
 rcases h5 with ⟨a, b⟩ | ⟨a, b⟩
 ·refine .inl ⟨hw.trans a, fun w Ds Y' hS => ?_⟩
  rw [execOp_congr (ρ' := Act.eval ⟨t, Ds.map mark⟩) o (fun cs bb e => by have := hsel o h1; rw [e] at this; cases this) (fun x hx => ?_)]
  ·exact b w Ds Y' hS
  ·cases x with
   | tmp s => exact he o h1 s (by
     simp only [eyes, List.mem_append]
     exact .inr (List.mem_filterMap.2 ⟨.tmp s, by simpa using hx, rfl⟩))
   | const v => rfl
   | global g => rfl
   | func g => rfl
 ·exact .inr ⟨hw.trans a, b⟩
theorem Outc.go {i d : Nat} {v : Value} {t : Array Value} {rest : List Nat} {w : World} {Ds : List Nat} (ho : Outc P w0 S n h ops i t d v) (hS : St w0 S w h (mkY Ds ++ Y))
  (hk : ∀ w', St w0 S w' h (mkY Ds ++ Y) → Gos P r f R (.inRegion ops rest :: k) (t.setIfInBounds d v) (Ds.map mark) w') : Gos P r f R (.inRegion ops (i :: rest) :: k) t (Ds.map mark) w := by
 obtain ⟨o, h1, h2, h3, h4, h5⟩ := ho
 rcases h5 with ⟨a, b⟩ | ⟨a, rfl⟩
 ·rcases b w Ds _ hS with hb | ⟨gf, args, hb, hcall⟩
  ·refine Gos.op h1 a (not_defer h4) hb (.inl rfl) ?_
   rw [h2]; exact hk w hS
  ·refine Gos.call h1 a (not_defer h4) hb hcall (fun u w2 hu => ?_)
   obtain ⟨he, rfl⟩ := hu
   rw [h2]; exact hk w2 (hS.later he)
 ·refine Gos.opSkip h1 a ?_
  rw [h2]; exact hk w hS
structure DrawFacts (ops : Array Oper) (m : Nat) : Prop where
  size : ops.size = m ∨ (ops.size = m + 1 ∧ ∀ i, i < m → i ∈ dirs ops m)
  lt : ∀ i, i < ops.size → ∀ j ∈ dirs ops i, j < i
  sel : ∀ i, i < m → ∀ o, ops[i]? = some o → notSel o.op = true
  inj : ∀ i j d, i < m → j < m → dstOf ops i = some d → dstOf ops j = some d → i = j
  eye : ∀ i, i < m → ∀ o, ops[i]? = some o → ∀ s ∈ eyes ops o, ∀ j, j < m → dstOf ops j = some s → j ∈ dirs ops i
theorem mem_dirs {i : Nat} {o : Oper} (ho : ops[i]? = some o) {j : Nat} : j ∈ dirs ops i ↔ ∃ e ∈ o.after, Region.binds .any e = true ∧ e.on = j := by
 simp only [dirs, ho, List.mem_map, List.mem_filter, Array.mem_toList_iff]
 constructor
 ·rintro ⟨e, ⟨h1, h2⟩, h3⟩; exact ⟨e, h1, h2, h3⟩
 ·rintro ⟨e, h1, h2, h3⟩; exact ⟨e, ⟨h1, h2⟩, h3⟩
theorem getD_listed {listed : Array Bool} {i j : Nat} (hi : i < listed.size) : (listed.setIfInBounds i true).getD j false = if i = j then true else listed.getD j false := by
 rw [Array.getD_eq_getD_getElem?, Array.getD_eq_getD_getElem?, Array.getElem?_setIfInBounds]
 split
 ·simp
 ·rfl
theorem getD_tf {listed : Array Bool} {j : Nat} (hj : j < listed.size) : listed.getD j true = listed.getD j false := by
 simp [Array.getD_eq_getD_getElem?, hj]
theorem count_set {listed : Array Bool} {N i : Nat} (hs : listed.size = N) (hi : i < N) (hu : listed.getD i false = false) :
  (List.range N).countP (fun j => !(listed.setIfInBounds i true).getD j false) + 1 ≤ (List.range N).countP (fun j => !listed.getD j false) := by
 have h1 : ∀ M, M ≤ N → (List.range M).countP (fun j => !(listed.setIfInBounds i true).getD j false) + (if i < M then 1 else 0) = (List.range M).countP (fun j => !listed.getD j false) := by
  intro M
  induction M with
  | zero => simp
  | succ M ih =>
   intro hM
   have := ih (by omega)
   rw [List.range_succ, List.countP_append, List.countP_append, ← this]
   simp only [List.countP_cons, List.countP_nil, getD_listed (hs ▸ hi)]
   by_cases e : i = M
   ·subst e; simp [hu]
   ·have e1 : (if i = M then true else listed.getD M false) = listed.getD M false := if_neg e
    have e2 : (if i < M + 1 then 1 else 0) = (if i < M then 1 else 0) := by
     by_cases hlt : i < M
     ·rw [if_pos hlt, if_pos (by omega)]
     ·rw [if_neg hlt, if_neg (by omega)]
    rw [e1, e2]; omega
 have := h1 N (Nat.le_refl _)
 rw [if_pos hi] at this
 omega
theorem draw_core {m : Nat} (hf : DrawFacts ops m) {D : Nat → Nat} {V : Nat → Value} {t0 : Array Value} (ht0 : t0.size = n)
  (hout : ∀ j, j < m → Outc P w0 S n h ops j (tsq D V t0 j) (D j) (V j)) (hF : ∀ w Ds, St w0 S w h (mkY Ds ++ Y) → Gos P r f R (.inRegion ops (List.range' m (ops.size - m)) :: k) (tsq D V t0 m) (Ds.map mark) w) :
  ∀ (fuel τ : Nat) (listed : Array Bool) (t : Array Value), listed.size = ops.size → (∀ j, listed.getD j false = true → ∀ e ∈ dirs ops j, listed.getD e false = true) → (m < ops.size → listed.getD m false = false) → t.size = n →
   (∀ j, j < m → listed.getD j false = true → t.getD (D j) undef = V j) → (∀ s, (∀ j, j < m → listed.getD j false = true → D j ≠ s) → t.getD s undef = t0.getD s undef) →
   (List.range ops.size).countP (fun j => !listed.getD j false) ≤ fuel → ∀ w Ds, St w0 S w h (mkY Ds ++ Y) → Gos P r f R (.inRegion ops (Region.linearise.go .any ops fuel τ listed []) :: k) t (Ds.map mark) w := by
 have hDst : ∀ j, j < m → dstOf ops j = some (D j) := fun j hj => by
  obtain ⟨o, h1, h2, _⟩ := hout j hj
  simp [dstOf, h1, h2]
 have hDlt : ∀ j, j < m → D j < t0.size := fun j hj => by
  obtain ⟨o, _, _, h3, _⟩ := hout j hj; omega
 have hDinj : ∀ i j, i < m → j < m → D i = D j → i = j := fun i j hi hj e => hf.inj i j (D i) hi hj (hDst i hi) (by rw [hDst j hj, e])
 have hmN : m ≤ ops.size := by rcases hf.size with e | e <;> omega
 have hall : ∀ (listed : Array Bool) (t : Array Value), t.size = n → (∀ j, j < m → listed.getD j false = true) → (∀ j, j < m → listed.getD j false = true → t.getD (D j) undef = V j) → (∀ s, (∀ j, j < m → listed.getD j false = true → D j ≠ s) → t.getD s undef = t0.getD s undef) → t = tsq D V t0 m := by
  intro listed t hts hl h1 h2
  obtain ⟨g1, g2⟩ := tsq_get hDlt hDinj m (Nat.le_refl _)
  refine Array.ext_getElem? (fun s => opt_of_getD (by rw [hts, tsq_size, ht0]) ?_)
  by_cases hs : ∃ j, j < m ∧ D j = s
  ·obtain ⟨j, hj, rfl⟩ := hs
   rw [h1 j hj (hl j hj), g1 j hj]
  ·rw [h2 s (fun j hj _ e => hs ⟨j, hj, e⟩), g2 s (fun j hj e => hs ⟨j, hj, e⟩)]
 intro fuel
 induction fuel with
 | zero =>
  intro τ listed t hls hcl hm hts h1 h2 hc w Ds hS
  have hl : ∀ j, j < ops.size → listed.getD j false = true := fun j hj => by
   have := List.countP_eq_zero.1 (Nat.le_zero.1 hc) j (by simpa using hj)
   simpa using this
  have hmm : m = ops.size := by
   rcases Nat.lt_or_ge m ops.size with hlt | hge
   ·have := hl m hlt; rw [hm hlt] at this; cases this
   ·omega
  rw [hall listed t hts (fun j hj => hl j (by omega)) h1 h2]
  have := hF w Ds hS
  rw [hmm, Nat.sub_self] at this
  rw [hmm]; exact this
 | succ fuel ih =>
  intro τ listed t hls hcl hm hts h1 h2 hc w Ds hS
  have hready : (∃ j, j < ops.size ∧ listed.getD j false = false) → Region.ready .any ops listed ≠ [] := by
   rintro ⟨j, hj, hu⟩
   have key : ∀ q, q < ops.size → listed.getD q false = false → Region.ready .any ops listed ≠ [] := by
    intro q
    induction q using Nat.strongRecOn with
    | _ q ihq =>
     intro hq hqu
     by_cases hb : ∃ e ∈ dirs ops q, listed.getD e false = false
     ·obtain ⟨e, he, heu⟩ := hb
      have hlt := hf.lt q hq e he
      exact ihq e hlt (by omega) heu
     ·obtain ⟨o, ho⟩ : ∃ o, ops[q]? = some o := ⟨ops[q], Array.getElem?_eq_getElem hq⟩
      have : q ∈ Region.ready .any ops listed := by
       rw [mem_ready]
       refine ⟨by rw [getD_tf (by omega)]; exact hqu, o, ho, fun e he hbd => ?_⟩
       cases hx : listed.getD e.on false with
       | true => rfl
       | false => exact absurd ⟨e.on, (mem_dirs ho).2 ⟨e, he, hbd, rfl⟩, hx⟩ hb
      exact List.ne_nil_of_mem this
   exact key j hj hu
  simp only [Region.linearise.go]
  change Gos P r f R (.inRegion ops (match (Region.ready .any ops listed)[τ % (Region.ready .any ops listed).length]? with
   | some i => Region.linearise.go .any ops fuel (τ / (Region.ready .any ops listed).length) (listed.setIfInBounds i true) [i]
   | none => [].reverse) :: k) t (Ds.map mark) w
  cases hi : (Region.ready .any ops listed)[τ % (Region.ready .any ops listed).length]? with
  | none =>
   have hnil : Region.ready .any ops listed = [] := by
    cases hr : Region.ready .any ops listed with
    | nil => rfl
    | cons x xs =>
     rw [hr] at hi
     have hlt : τ % (x :: xs).length < (x :: xs).length := Nat.mod_lt _ (by simp)
     rw [List.getElem?_eq_getElem hlt] at hi; cases hi
   have hl : ∀ j, j < ops.size → listed.getD j false = true := fun j hj => by
    cases hx : listed.getD j false with
    | true => rfl
    | false => exact absurd hnil (hready ⟨j, hj, hx⟩)
   have hmm : m = ops.size := by
    rcases Nat.lt_or_ge m ops.size with hlt | hge
    ·have := hl m hlt; rw [hm hlt] at this; cases this
    ·omega
   rw [hall listed t hts (fun j hj => hl j (by omega)) h1 h2]
   have := hF w Ds hS
   rw [hmm, Nat.sub_self] at this
   rw [hmm]; exact this
  | some i =>
   have hmem := List.mem_of_getElem? hi
   rw [mem_ready] at hmem
   obtain ⟨hu, o, ho, hdep⟩ := hmem
   have hiN : i < ops.size := (Array.getElem?_eq_some_iff.1 ho).1
   rw [getD_tf (by omega)] at hu
   simp only []
   rw [linearise_go_acc, List.reverse_singleton, List.singleton_append]
   have hdl : ∀ e ∈ dirs ops i, listed.getD e false = true := fun e he => by
    obtain ⟨e', he', hb, rfl⟩ := (mem_dirs ho).1 he
    exact hdep e' he' hb
   have hcl' : ∀ j, (listed.setIfInBounds i true).getD j false = true → ∀ e ∈ dirs ops j, (listed.setIfInBounds i true).getD e false = true := by
    intro j hj e he
    rw [getD_listed (by omega)] at hj ⊢
    split
    ·rfl
    ·split at hj
     ·rename_i hij; subst hij; exact hdl e he
     ·exact hcl j hj e he
   have hcnt := count_set (listed := listed) hls hiN hu
   by_cases him : i < m
   ·-- a read
    have hgo := hout i him
    have heq : Outc P w0 S n h ops i t (D i) (V i) := by
     refine hgo.congr (hf.sel i him) (by rw [hts, tsq_size, ht0]) (fun o' ho' s hs => ?_)
     obtain ⟨g1, g2⟩ := tsq_get hDlt hDinj i (by omega)
     by_cases hx : ∃ j, j < m ∧ D j = s
     ·obtain ⟨j, hj, rfl⟩ := hx
      have hjd := hf.eye i him o' ho' (D j) hs j hj (hDst j hj)
      rw [h1 j hj (hdl j hjd), g1 j (hf.lt i hiN j hjd)]
     ·rw [h2 s (fun j hj _ e => hx ⟨j, hj, e⟩), g2 s (fun j hj e => hx ⟨j, by omega, e⟩)]
    refine heq.go hS (fun w hS => ?_)
    have hDi : D i < t.size := by rw [hts, ← ht0]; exact hDlt i him
    refine ih _ _ _ (by simpa using hls) hcl' (fun hlt => ?_) (by simpa using hts) (fun j hj hlj => ?_) (fun s hs => ?_) (by omega) w Ds hS
    ·rw [getD_listed (by omega), if_neg (by omega)]; exact hm hlt
    ·rw [getD_set hDi]
     split
     ·rename_i e; rw [hDinj i j him hj e]
     ·rename_i e
      rw [getD_listed (by omega)] at hlj
      split at hlj
      ·rename_i e2; subst e2; exact absurd rfl e
      ·exact h1 j hj hlj
    ·rw [getD_set hDi, if_neg (hs i him (by rw [getD_listed (by omega), if_pos rfl]))]
     refine h2 s (fun j hj hlj => hs j hj ?_)
     rw [getD_listed (by omega)]; split
     ·rfl
     ·exact hlj
   ·-- the last operation
    have hsz : ops.size = m + 1 ∧ ∀ i, i < m → i ∈ dirs ops m := by
     rcases hf.size with e | e
     ·omega
     ·exact e
    have him' : i = m := by omega
    subst him'
    have hl : ∀ j, j < i → listed.getD j false = true := fun j hj => hdl j (hsz.2 j hj)
    have hnil : Region.linearise.go .any ops fuel (τ / (Region.ready .any ops listed).length) (listed.setIfInBounds i true) [] = [] := by
     have hr0 : Region.ready .any ops (listed.setIfInBounds i true) = [] := by
      rw [List.eq_nil_iff_forall_not_mem]
      intro j hj
      rw [mem_ready] at hj
      obtain ⟨a, o', ho', _⟩ := hj
      have hjN : j < ops.size := (Array.getElem?_eq_some_iff.1 ho').1
      rw [getD_tf (by simp; omega), getD_listed (by omega)] at a
      split at a
      ·cases a
      ·rw [hl j (by omega)] at a; cases a
     cases fuel with
     | zero => rfl
     | succ fuel =>
      simp only [Region.linearise.go]
      change (match (Region.ready .any ops (listed.setIfInBounds i true))[_ % (Region.ready .any ops (listed.setIfInBounds i true)).length]? with
       | some i => _
       | none => [].reverse) = []
      rw [hr0]; rfl
    rw [hnil, hall listed t hts hl h1 h2]
    have := hF w Ds hS
    rw [hsz.1, show i + 1 - i = 1 from by omega] at this
    exact this
theorem facts_of {m : Nat} (hc : drawOk ops l m = true) : DrawFacts ops m := by
 simp only [drawOk, Bool.and_eq_true, Bool.or_eq_true, Nat.beq_eq, List.all_eq_true, List.mem_range, Nat.blt_eq, List.contains_iff_mem] at hc
 obtain ⟨⟨hsz, hlt⟩, hr⟩ := hc
 have hat : ∀ i, i < m → ∃ o d, ops[i]? = some o ∧ o.dst = some d ∧ notSel o.op = true ∧ (∀ j, j < m → j = i ∨ dstOf ops j ≠ some d) ∧ (∀ s ∈ eyes ops o, ∀ j, j < m → dstOf ops j ≠ some s ∨ j ∈ dirs ops i) := by
  intro i hi
  have := hr i hi
  cases ho : ops[i]? with
  | none => simp [ho] at this
  | some o =>
   cases hd : o.dst with
   | none => simp [ho, hd] at this
   | some d =>
    simp only [ho, hd, Bool.and_eq_true, List.all_eq_true, List.mem_range, Bool.or_eq_true, Nat.beq_eq, Bool.not_eq_true', beq_eq_false_iff_ne, List.contains_iff_mem] at this
    exact ⟨o, d, rfl, hd, this.1, this.2.1, this.2.2⟩
 refine ⟨hsz, hlt, fun i hi o ho => ?_, fun i j d hi hj h1 h2 => ?_, fun i hi o ho s hs j hj hd => ?_⟩
 ·obtain ⟨o', d, h1, _, h3, _⟩ := hat i hi
  rw [ho] at h1; cases h1; exact h3
 ·obtain ⟨o, d', e1, e2, _, e5, _⟩ := hat i hi
  have : d' = d := by simp [dstOf, e1, e2] at h1; exact h1
  subst this
  rcases e5 j hj with e | e
  ·exact e.symm
  ·exact absurd h2 e
 ·obtain ⟨o', d, e1, _, _, _, e6⟩ := hat i hi
  rw [ho] at e1; cases e1
  rcases e6 s hs j hj with e | e
  ·exact absurd hd e
  ·exact e
theorem GoH.draw {id : Nat} (m : Nat) (hmix : P.follows .mixedOrders = true) (hc : drawOk ops l m = true) (hg : RdGo P r f R w0 S Y n k ops 0 m l h) : GoH P r f R w0 S Y n (.code (.region id ops true) :: k) l h := by
 intro t w Ds hF hS
 have hf := facts_of hc
 refine .regionDraw (fun τ => ?_)
 obtain ⟨D, V, hout, hfin⟩ := (hg t hF).seq
 simp only [Nat.zero_add] at hout hfin
 simp only [Region.schedule, hmix, Bool.true_or, if_true, Region.linearise]
 refine draw_core hf hF.1 hout hfin ops.size τ _ t (by simp) (fun j hj => ?_) (fun _ => ?_) hF.1 (fun j _ hj => ?_) (fun s _ => rfl) ?_ _ Ds hS.drew
 ·exfalso; simp [Array.getD_eq_getD_getElem?, Array.getElem?_replicate] at hj; split at hj <;> simp at hj
 ·simp [Array.getD_eq_getD_getElem?, Array.getElem?_replicate]; split <;> simp
 ·exfalso; simp [Array.getD_eq_getD_getElem?, Array.getElem?_replicate] at hj; split at hj <;> simp at hj
 ·exact Nat.le_trans (List.countP_le_length) (by simp)

def readyL (ops : Array Oper) (listed : List Nat) : List Nat := (List.range ops.size).filter (fun i => !listed.contains i && (dirs ops i).all (fun e => listed.contains e))
theorem ready_eq {arr : Array Bool} {listed : List Nat} (hs : arr.size = ops.size) (h : ∀ j, arr.getD j false = listed.contains j) : Region.ready .any ops arr = readyL ops listed := by
 unfold Region.ready readyL
 refine List.filter_congr (fun i hi => ?_)
 have hi' : i < ops.size := by simpa using hi
 have e1 : arr.getD i true = listed.contains i := by rw [← h i]; simp [Array.getD_eq_getD_getElem?, hs, hi']
 rw [e1]
 congr 1
 have hg : ops[i]? = some ops[i] := Array.getElem?_eq_getElem hi'
 unfold dirs
 rw [hg]
 simp only [Option.map_some, Option.getD_some, ← Array.all_toList]
 rw [List.all_map, List.all_filter]
 congr 1
 funext e
 simp only [Function.comp, h]
end
end Go.Proofs.Wit
namespace Go.Proofs.Wit
/-! the points of a word -/
def pts (s : W64) : List Nat := (List.range 64).filter (fun i => s.getLsbD i)
def dbtab : List Int := [0, 1, 56, 2, 57, 49, 28, 3, 61, 58, 42, 50, 38, 29, 17, 4, 62, 47, 59, 36, 45, 43, 51, 22, 53, 39, 33, 30, 24, 18, 12, 5, 63, 55, 48, 27, 60, 41, 37, 16, 46, 35, 44, 21, 52, 32, 23, 11, 54, 26, 40, 15, 34, 20, 31, 10, 25, 14, 19, 9, 13, 8, 7, 6]
end Go.Proofs.Wit
namespace Go.Proofs.Wit
open Go Go.RowKit
def SlU (w : World) (a : Option Addr) (xs : List W64) : Prop := Sl w a (xs.map U)
/-! loops as folds over 0 .. n-1 -/
def upTo {σ : Type} (f : Nat → σ → σ) (s : σ) : Nat → σ
 | 0 => s
 | k + 1 => f k (upTo f s k)
section
variable {P : Program} {r : Option Nat} {f : FuncId} {R : Value → World → Prop} {w0 : World} {S : List Nat} {Y : List (Nat × Obj)} {n : Nat} {k : List Item} {l : Fl} {h : Hl}
variable {ops : Array Oper} {i d : Nat} {rest : List Nat} {ty : TypeId} {pos : String} {aft : Array Edge} {g : Option (Nat × Bool)}
theorem idxA_run {t e : TypeId} {len : Nat} (hu : P.underlying t = some (.array len e)) (he : ∀ w, (sizeOf e).run P w = .ok 1 w) (b o : Nat) (kd : IntKind) (j : Nat) (hj : j < len) (w' : World) :
  (Instr.indexAt t (.pointer (some ⟨b, o, none⟩)) (.int kd j)).run P w' = .ok (.pointer (some ⟨b, o + j, none⟩)) w' := by
 simp only [Instr.indexAt, asIntOf, Sem.run_bind, Sem.run_pure, Result.andThen_ok, run_underlying hu, Instr.sureAddr]
 rw [if_pos ⟨by omega, by omega⟩]
 simp only [Sem.run_bind, he, Result.andThen_ok, Sem.run_pure, Addr.add, Nat.mul_one, Int.toNat_natCast]
 split
 ·rename_i h0; rw [h0]; rfl
 ·rfl
theorem Vop.idxA {t e : TypeId} {x y : Operand} {b o len : Nat} {kd : IntKind} {j : Int} (ho : ops[i]? = some ⟨some d, .indexAddr t x y, ty, pos, aft, g⟩) (hw : wantL ops l g = true)
  (hx : opd l x = some (.pointer (some ⟨b, o, none⟩))) (hy : opd l y = some (.int kd j)) (hd : Nat.blt d n = true) (hu : P.underlying t = some (.array len e)) (he : ∀ w, (sizeOf e).run P w = .ok 1 w)
  (j' : Nat) (hj : j = j') (hlt : j' < len) : Vop P w0 S n h ops i l d (.pointer (some ⟨b, o + j', none⟩)) := by
 subst hj
 exact .of ho hw rfl rfl hd (fun t w Ds _ hF _ => ⟨.value (.pointer (some ⟨b, o + j', none⟩)), by
  simp only [execOp, hF.opd hx, hF.opd hy, Sem.run_bind, idxA_run hu he b o kd j' hlt w]; rfl, rfl⟩)
end
abbrev ob {α : Type} (enc : α → Value) (e : TypeId) (xs : List α) (sp : List Value) : Obj := .cells (xs.map enc ++ sp).toArray e (0, 0)
section
variable {P : Program} {r : Option Nat} {f : FuncId} {R : Value → World → Prop} {w0 : World} {S : List Nat} {Y : List (Nat × Obj)} {n : Nat} {k : List Item} {l : Fl} {h : Hl}
variable {ops : Array Oper} {i d : Nat} {rest : List Nat} {ty : TypeId} {pos : String} {aft : Array Edge} {g : Option (Nat × Bool)}
theorem idxS_run {t e : TypeId} (hu : P.underlying t = some (.slice e)) {sz : Nat} (he : ∀ w, (sizeOf e).run P w = .ok sz w) (b o m cap : Nat) (kd : IntKind) (j : Nat) (hj : j < m) (w' : World) :
  (Instr.indexAt t (.slice (some ⟨b, o, none⟩) m cap) (.int kd j)).run P w' = .ok (.pointer (some ⟨b, o + j * sz, none⟩)) w' := by
 simp only [Instr.indexAt, asIntOf, Sem.run_bind, Sem.run_pure, Result.andThen_ok, run_underlying hu]
 rw [if_pos ⟨by omega, by omega⟩]
 simp only [Sem.run_bind, he, Result.andThen_ok, Sem.run_pure, Addr.add, Int.toNat_natCast]
 split
 ·rename_i h0; rw [h0]; rfl
 ·rfl
theorem Vop.idxS {t e : TypeId} {x y : Operand} {b o m cap : Nat} {kd : IntKind} {j : Int} (ho : ops[i]? = some ⟨some d, .indexAddr t x y, ty, pos, aft, g⟩) (hw : wantL ops l g = true)
  (hx : opd l x = some (.slice (some ⟨b, o, none⟩) m cap)) (hy : opd l y = some (.int kd j)) (hd : Nat.blt d n = true) (hu : P.underlying t = some (.slice e)) {sz : Nat} (he : ∀ w, (sizeOf e).run P w = .ok sz w)
  (j' : Nat) (hj : j = j' ∧ j' < m) : Vop P w0 S n h ops i l d (.pointer (some ⟨b, o + j' * sz, none⟩)) := by
 obtain ⟨rfl, hlt⟩ := hj
 exact .of ho hw rfl rfl hd (fun t w Ds _ hF _ => ⟨.value (.pointer (some ⟨b, o + j' * sz, none⟩)), by
  simp only [execOp, hF.opd hx, hF.opd hy, Sem.run_bind, idxS_run hu he b o m cap kd j' hlt w]; rfl, rfl⟩)
theorem ob_get {α : Type} {enc : α → Value} {xs : List α} {sp : List Value} {q : Nat} (hq : q < xs.length) : (xs.map enc ++ sp).toArray[0 + q * 1]? = some (enc xs[q]) := by
 rw [Nat.zero_add, Nat.mul_one]
 simp [List.getElem?_append, hq]
theorem Vop.ldE {α : Type} (enc : α → Value) (dflt : α) {t : TypeId} {x : Operand} {b q : Nat} {xs : List α} {sp : List Value} {e : TypeId} (ho : ops[i]? = some ⟨some d, .load t x, ty, pos, aft, g⟩) (hw : wantL ops l g = true)
  (hx : opd l x = some (.pointer (some ⟨b, 0 + q * 1, none⟩))) (hd : Nat.blt d n = true) (ha : ∀ w, (isAgg t).run P w = .ok false w) (j : Nat) (hj : h[j]? = some (some b, ob enc e xs sp)) (hq : q < xs.length) :
  Vop P w0 S n h ops i l d (enc (xs.getD q dflt)) :=
 Vop.ldo ho hw hx hd ha j hj (by rw [ob_get hq]; simp [List.getD_eq_getElem?_getD, hq])
theorem GoH.stE {α : Type} (enc : α → Value) (v : α) {t : TypeId} {x y : Operand} {b q : Nat} {xs : List α} {sp : List Value} {e : TypeId} (ho : ops[i]? = some ⟨none, .store t x y, ty, pos, aft, g⟩) (hw : wantL ops l g = true)
  (hx : opd l x = some (.pointer (some ⟨b, 0 + q * 1, none⟩))) (hy : opd l y = some (enc v)) (hz : ∀ w, (sizeOf t).run P w = .ok 1 w) (hv : (enc v).oneCell' = true) (j : Nat) (hj : h[j]? = some (some b, ob enc e xs sp)) (hq : q < xs.length)
  (hk : GoH P r f R w0 S Y n (.inRegion ops rest :: k) l (h.set j (some b, ob enc e (xs.set q v) sp))) : GoH P r f R w0 S Y n (.inRegion ops (i :: rest) :: k) l h := by
 refine GoH.st ho hw hx hy hz hv j hj (by rw [Nat.blt_eq]; simp; omega) ?_
 have : ((xs.map enc ++ sp).toArray.setIfInBounds (0 + q * 1) (enc v)) = ((xs.set q v).map enc ++ sp).toArray := by
  rw [Nat.zero_add, Nat.mul_one, List.map_set]
  have hq2 : q < (xs.map enc).length := by simpa using hq
  simp [List.set_append_left _ _ hq2]
 rw [this]; exact hk
end
theorem St.fresh {w0 w : World} {h : Hl} {Y : List (Nat × Obj)} (s : St w0 [] w h Y) {j b : Nat} {o : Obj} (hj : h[j]? = some (some b, o)) : w0.heap.size ≤ b := by
 rcases (s.own _ (List.mem_of_getElem? hj) b rfl).2.2 with h1 | h1
 ·exact h1
 ·cases h1
section
variable {P : Program} {r : Option Nat} {f : FuncId} {R : Value → World → Prop} {w0 : World} {S : List Nat} {Y : List (Nat × Obj)} {n : Nat} {k : List Item} {l : Fl} {h : Hl}
variable {ops : Array Oper} {i d : Nat} {rest : List Nat} {ty : TypeId} {pos : String} {aft : Array Edge} {g : Option (Nat × Bool)}
theorem GoH.mkE {α : Type} (enc : α → Value) (z : α) {t e : TypeId} {x y : Operand} {kx ky : IntKind} {m : Nat} {inf : TypeInfo} (ho : ops[i]? = some ⟨some d, .makeSlice t x y, ty, pos, aft, g⟩) (hw : wantL ops l g = true) (hx : opd l x = some (.int kx m)) (hy : opd l y = some (.int ky m)) (hd : Nat.blt d n = true)
  (hu : P.underlying t = some (.slice e)) (hi : P.info? e = some inf) (hz : inf.zero = some (enc z)) (hz1 : (enc z).cells = #[enc z]) (hs : inf.size = 1) (hb : inf.bytes * m ≤ 281474976710656) (hm : m ≤ maxLen)
  (hk : ∀ b, GoH P r f R w0 S Y n (.inRegion ops rest :: k) ((d, .slice (some ⟨b, 0, none⟩) m m) :: l) ((some b, ob enc e (List.replicate m z) []) :: h)) : GoH P r f R w0 S Y n (.inRegion ops (i :: rest) :: k) l h :=
 .mks ho hw hx hy hd hu hi hz hz1 hs hb hm (fun b => by
  have := hk b
  simp only [ob, List.map_replicate] at this
  exact this)
theorem GoH.appE {α : Type} (enc : α → Value) {t e : TypeId} {x y : Operand} {inf : TypeInfo} {z : Value} {q : Option Nat} {xs : List α} {sp : List Value} {cap : Nat} {bn m c : Nat} {news : List α} {spn : List Value} {en : TypeId}
  (ho : ops[i]? = some ⟨some d, .call ⟨.builtin .append, #[x, y], #[t, t]⟩, ty, pos, aft, g⟩) (hw : wantL ops l g = true) (hx : opd l x = some (osv q xs.length cap)) (hy : opd l y = some (.slice (some ⟨bn, 0, none⟩) m c)) (hd : Nat.blt d n = true)
  (hu : P.underlying t = some (.slice e)) (hi : P.info? e = some inf) (hz : inf.zero = some z) (hsz : inf.size = 1) (hz1 : z.cells.size = 1)
  (hq : q = none → xs.length = 0 ∧ cap = 0) (j : Nat) (hj : h[j]? = some (q, ob enc e xs sp)) (jn : Nat) (hjn : h[jn]? = some (some bn, ob enc en news spn))
  (hcap : (xs.map enc ++ sp).length = cap) (hl : news.length = m) (hm0 : 0 < m) (h1 : ∀ u, (enc u).oneCell' = true) (hmx : xs.length + m ≤ maxLen) (hbytes : (xs.length + m) * inf.bytes ≤ 140737488355328)
  (hk : ∀ b' sp' cap', ((xs ++ news).map enc ++ sp').length = cap' → GoH P r f R w0 S Y n (.inRegion ops rest :: k) ((d, osv (some b') (xs ++ news).length cap') :: l) (h.set j (some b', ob enc e (xs ++ news) sp'))) : GoH P r f R w0 S Y n (.inRegion ops (i :: rest) :: k) l h := by
 refine .app 1 ho hw hx hy hd hu hi hz hsz hz1 hq j hj jn hjn (by simp) (by rw [hcap, Nat.mul_one]) (by simp [hl]) hm0 (fun u hu => ?_) hmx hbytes (fun b' sp' cap' hlen => ?_)
 ·obtain ⟨a, _, rfl⟩ := List.mem_map.1 hu; exact h1 a
 ·have e1 : xs.map enc ++ news.map enc = (xs ++ news).map enc := by simp
  have e2 : xs.length + m = (xs ++ news).length := by simp [hl]
  rw [e1, e2]
  exact hk b' sp' cap' (by rw [← e1, hlen, Nat.mul_one])
end
section
variable {P : Program} {r : Option Nat} {f : FuncId} {R : Value → World → Prop} {w0 : World} {S : List Nat} {Y : List (Nat × Obj)} {n : Nat} {k : List Item} {l : Fl} {h : Hl}
variable {ops : Array Oper} {i d : Nat} {rest : List Nat} {ty : TypeId} {pos : String} {aft : Array Edge} {g : Option (Nat × Bool)}
end
def TabAt (g : Nat) (w : World) : Prop := g < w.heap.size ∧ ∀ i : Nat, i < 64 → w.cell? ⟨g, i, none⟩ = some (.int .u8 (dbtab.getD i 0))
end Go.Proofs.Wit
namespace Go.Proofs.Wit
open Go Go.RowKit
/-! plain facts on relations as lists of words -/
def allW (n : Nat) : W64 := if 64 ≤ n then 18446744073709551615#64 else (1#64 <<< n) - 1#64
def Rl (r : List W64) (w v : Nat) : Prop := (r.getD w 0#64).getLsbD v = true
structure Val (r : List W64) : Prop where
  len : r.length ≤ 64
  lt : ∀ w v, Rl r w v → v < r.length
def mapR (r : List W64) (s : W64) : W64 := (pts s).foldl (fun o w => o ||| r.getD w 0#64) 0#64
def revS (w : Nat) (s : W64) (out : List W64) : List W64 := (pts s).foldl (fun out v => out.set v (out.getD v 0#64 ||| 1#64 <<< w)) out
def revR (r : List W64) : List W64 := upTo (fun w out => revS w (r.getD w 0#64) out) (List.replicate r.length 0#64) r.length
end Go.Proofs.Wit
namespace Go.Proofs.Wit
end Go.Proofs.Wit
namespace Go.Proofs.Wit
open Go Go.RowKit
structure Le (r s : List W64) : Prop where
  len : r.length = s.length
  sub : ∀ u v, Rl r u v → Rl s u v
structure GoodS (g : List W64 → List W64) (F : List W64 → Prop) : Prop where
  val : ∀ {l}, Val l → Val (g l)
  infl : ∀ {l}, Val l → Le l (g l)
  mono : ∀ {l m}, Val l → Val m → Le l m → Le (g l) (g m)
  fix : ∀ {l}, Val l → (g l = l ↔ F l)
structure Least (F : List W64 → Prop) (r out : List W64) : Prop where
  val : Val out
  le : Le r out
  has : F out
  least : ∀ c, Val c → Le r c → F c → Le out c
def tranR (l : List W64) : Prop := ∀ u v x, Rl l u v → Rl l v x → Rl l u x
def euclR (l : List W64) : Prop := ∀ u v x, Rl l u v → Rl l u x → Rl l v x
end Go.Proofs.Wit
namespace Go.Proofs.Wit
end Go.Proofs.Wit
namespace Go.Proofs.Wit
open Go Go.RowKit
/-! calls that turn one block of the caller's -/
/-- a callee that turns the block q at most -/
def CnT (P : Program) (gf : FuncId) (args : List Value) (w : World) (q : Option Nat) (Rc : Value → World → Prop) : Prop :=
 Calls P gf args.toArray w fun e w' => ∃ v, e = .returned v ∧ Ex q.toList w w' ∧ Rc v w'
section
variable {w0 w w' : World} {S : List Nat} {h : Hl} {Y : List (Nat × Obj)}
variable {P : Program} {f : FuncId} {R : Value → World → Prop} {r : Option Nat} {n : Nat} {k : List Item} {l : Fl} {fn : Func}
variable {ops : Array Oper} {i d : Nat} {rest : List Nat} {ty : TypeId} {pos : String} {aft : Array Edge} {g : Option (Nat × Bool)}
end
end Go.Proofs.Wit
namespace Go.Proofs.Wit
open Go Go.RowKit
section
variable {P : Program} {r : Option Nat} {f : FuncId} {R : Value → World → Prop} {w0 : World} {S : List Nat} {Y : List (Nat × Obj)} {n : Nat} {k : List Item} {l : Fl} {h : Hl}
variable {ops : Array Oper} {i d : Nat} {rest : List Nat} {ty : TypeId} {pos : String} {aft : Array Edge} {g : Option (Nat × Bool)}
end
end Go.Proofs.Wit
namespace Go.Proofs.Wit
open Go Go.RowKit
theorem GoH.addNone {P : Program} {r : Option Nat} {f : FuncId} {R : Value → World → Prop} {w0 : World} {S : List Nat} {Y : List (Nat × Obj)} {n : Nat} {k : List Item} {l : Fl} {h : Hl} (o : Obj)
  (hg : GoH P r f R w0 S Y n k l ((none, o) :: h)) : GoH P r f R w0 S Y n k l h := fun t w Ds hF hS => hg t w Ds hF (hS.none o)
end Go.Proofs.Wit
namespace Go.Proofs.Wit
open Go Go.RowKit
section
variable {P : Program} {r : Option Nat} {f : FuncId} {R : Value → World → Prop} {w0 : World} {S : List Nat} {Y : List (Nat × Obj)} {n : Nat} {k : List Item} {l : Fl} {h : Hl}
variable {ops : Array Oper} {i d : Nat} {rest : List Nat} {ty : TypeId} {pos : String} {aft : Array Edge} {g : Option (Nat × Bool)}
end
section
variable {P : Program} {t : TypeId} {a b : Int} {x y : W64} {v : Bool}
theorem bEqV {k : IntKind} (e : (a == b) = v) : Bin P .eql t (.int k a) (.int k b) (.bool v) := e ▸ bEq
theorem bNeV {k : IntKind} (e : (a != b) = v) : Bin P .neq t (.int k a) (.int k b) (.bool v) := e ▸ bNe
theorem bLtV {k : IntKind} (e : decide (a < b) = v) : Bin P .lss t (.int k a) (.int k b) (.bool v) := e ▸ bLt
theorem bGtV {k : IntKind} (e : decide (a > b) = v) : Bin P .gtr t (.int k a) (.int k b) (.bool v) := e ▸ bGt
end
end Go.Proofs.Wit
namespace Go.Proofs.Wit
open Go Go.RowKit
/-! plain facts on shortest paths -/
/-- the points from which k steps lead to a point of t -/
def near (r : List W64) (t : W64) : Nat → W64
 | 0 => t
 | k + 1 => mapR (revR r) (near r t k)
structure Short (r : List W64) (f t : W64) (k : Nat) : Prop where
  one : 1 ≤ k
  ne : f &&& near r t k ≠ 0#64
  least : ∀ j, 1 ≤ j → j < k → f &&& near r t j = 0#64
section
variable {r : List W64} {t : W64}
end
theorem countP_lt {α : Type} {p q : α → Bool} : ∀ {l : List α}, (∀ x ∈ l, p x = true → q x = true) → (∃ x ∈ l, q x = true ∧ p x = false) → l.countP p < l.countP q
 | [], _, ⟨_, h, _⟩ => by cases h
 | a :: l, h, ⟨x, hx, h1, h2⟩ => by
  have hle : l.countP p ≤ l.countP q := List.countP_mono_left (fun y hy => h y (List.mem_cons_of_mem _ hy))
  rw [List.countP_cons, List.countP_cons]
  rcases List.mem_cons.1 hx with rfl | hx
  ·rw [h1, h2]; simp; omega
  ·have := countP_lt (fun y hy => h y (List.mem_cons_of_mem _ hy)) ⟨x, hx, h1, h2⟩
   have h3 := h a (List.mem_cons_self ..)
   cases hp : p a with
   | false => simp; split <;> omega
   | true => rw [h3 hp]; omega
end Go.Proofs.Wit
namespace Go.Proofs.Wit
open Go Go.RowKit
/-! blocks of a callee's, many at once; lists of lists; models -/
/-- blocks that are new since w, as they lie in w' -/
structure NewH (w w' : World) (H : Hl) : Prop where
  own : ∀ p ∈ H, ∀ b, p.1 = some b → w'.heap[b]? = some p.2 ∧ isSys p.2 = false ∧ w.heap.size ≤ b
  apart : H.Pairwise apartH
theorem NewH.of {w w' : World} {h : Hl} {Y : List (Nat × Obj)} (s : St w [] w' h Y) : NewH w w' h :=
 ⟨fun p hp b hb => by
  obtain ⟨h1, h2, h3⟩ := s.own p hp b hb
  exact ⟨h1, h2, h3.resolve_right (by simp)⟩, s.apart⟩
theorem NewH.sub {w w' : World} {H H' : Hl} (g : NewH w w' H) (hs : H'.Sublist H) : NewH w w' H' := ⟨fun p hp => g.own p (hs.subset hp), g.apart.sublist hs⟩
theorem St.gainL {w0 w w' : World} {S : List Nat} {h : Hl} {Y : List (Nat × Obj)} (s : St w0 S w h Y) (e : Ex [] w w') {H : Hl} (g : NewH w w' H) : St w0 S w' (H ++ h) Y := by
 have s' := s.later e
 refine ⟨s'.ext, fun p hp b hb => ?_, List.pairwise_append.2 ⟨g.apart, s.apart, fun p hp q hq b hb hqb => ?_⟩, s'.sys, s'.ynd⟩
 ·rcases List.mem_append.1 hp with hp | hp
  ·obtain ⟨h1, h2, h3⟩ := g.own p hp b hb
   exact ⟨h1, h2, .inl (Nat.le_trans s.ext.size h3)⟩
  ·exact s'.own p hp b hb
 ·have h1 := (g.own p hp b hb).2.2
  have h2 := (Array.getElem?_eq_some_iff.1 (s.own q hq b hqb).1).1
  omega
theorem St.pickT {w0 w : World} {S : List Nat} {pre pre' HR : Hl} {Y : List (Nat × Obj)} (s : St w0 S w (pre ++ HR) Y) (is : List Nat) (hn : is.Nodup) (e : is.map (fun i => pre[i]?) = pre'.map some) : St w0 S w (pre' ++ HR) Y := by
 have hlen : is.length = pre'.length := by have := congrArg List.length e; simpa using this
 have hat : ∀ j (hj : j < pre'.length), ∃ i, is[j]? = some i ∧ pre[i]? = some pre'[j] := fun j hj => by
  have h1 := congrArg (fun l => l[j]?) e
  have hj2 : j < is.length := by omega
  simp only [List.getElem?_map, List.getElem?_eq_getElem hj, List.getElem?_eq_getElem hj2, Option.map_some, Option.some.injEq] at h1
  exact ⟨is[j], List.getElem?_eq_getElem hj2, h1⟩
 have hmem : ∀ p ∈ pre', p ∈ pre := fun p hp => by
  obtain ⟨j, hj, rfl⟩ := List.mem_iff_getElem.1 hp
  obtain ⟨i, _, h2⟩ := hat j hj
  exact List.mem_of_getElem? h2
 have hap := List.pairwise_append.1 s.apart
 refine ⟨s.ext, fun p hp => ?_, List.pairwise_append.2 ⟨?_, hap.2.1, fun p hp q hq => hap.2.2 p (hmem p hp) q hq⟩, s.sys, s.ynd⟩
 ·rcases List.mem_append.1 hp with hp | hp
  ·exact s.own p (List.mem_append_left _ (hmem p hp))
  ·exact s.own p (List.mem_append_right _ hp)
 ·rw [List.pairwise_iff_getElem]
  intro j j' hj hj' hlt
  obtain ⟨i, h1, h2⟩ := hat j hj
  obtain ⟨i', h1', h2'⟩ := hat j' hj'
  have hne : i ≠ i' := by
   rintro rfl
   obtain ⟨a1, a2⟩ := List.getElem?_eq_some_iff.1 h1
   obtain ⟨b1, b2⟩ := List.getElem?_eq_some_iff.1 h1'
   have := (List.nodup_iff_pairwise_ne.1 hn)
   exact absurd (a2.trans b2.symm) (List.pairwise_iff_getElem.1 this j j' a1 b1 hlt)
  obtain ⟨a1, a2⟩ := List.getElem?_eq_some_iff.1 h2
  obtain ⟨b1, b2⟩ := List.getElem?_eq_some_iff.1 h2'
  rw [← a2, ← b2]
  rcases Nat.lt_or_gt_of_ne hne with hx | hx
  ·exact List.pairwise_iff_getElem.1 hap.1 i i' a1 b1 hx
  ·exact apartH_symm (List.pairwise_iff_getElem.1 hap.1 i' i b1 a1 hx)
theorem GoH.pickT {P : Program} {r : Option Nat} {f : FuncId} {R : Value → World → Prop} {w0 : World} {S : List Nat} {Y : List (Nat × Obj)} {n : Nat} {k : List Item} {l : Fl} {pre pre' : Hl} (HR : Hl) (is : List Nat) (hn : is.Nodup) (e : is.map (fun i => pre[i]?) = pre'.map some)
  (hg : GoH P r f R w0 S Y n k l (pre' ++ HR)) : GoH P r f R w0 S Y n k l (pre ++ HR) := fun t w Ds hF hS => hg t w Ds hF (hS.pickT is hn e)
theorem GoH.pick {P : Program} {r : Option Nat} {f : FuncId} {R : Value → World → Prop} {w0 : World} {S : List Nat} {Y : List (Nat × Obj)} {n : Nat} {k : List Item} {l : Fl} {pre pre' : Hl} (is : List Nat) (hn : is.Nodup) (e : is.map (fun i => pre[i]?) = pre'.map some)
  (hg : GoH P r f R w0 S Y n k l pre') : GoH P r f R w0 S Y n k l pre := by
 have := GoH.pickT (pre := pre) (pre' := pre') [] is hn e (by rw [List.append_nil]; exact hg)
 rwa [List.append_nil] at this
def InS {α : Type} (enc : α → Value) (H : Hl) (a : Option Addr) (xs : List α) : Prop :=
 xs = [] ∨ ∃ b e sp, a = some ⟨b, 0, none⟩ ∧ (some b, ob enc e xs sp) ∈ H
structure Row where
  a : Option Addr
  cap : Nat
  xs : List W64
def Row.v (r : Row) : Value := .slice r.a r.xs.length r.cap
structure Row.At (r : Row) (w : World) : Prop where
  at_ : SlU w r.a r.xs
  len : r.xs.length ≤ maxLen
  cap : r.xs.length ≤ r.cap
structure MV where
  n : Int
  ra : Option Addr
  rc : Nat
  rows : List Row
  va : Option Addr
  vc : Nat
  val : List W64
abbrev MV.cs (m : MV) : Array Value := #[.int .i64 m.n, .slice m.va m.val.length m.vc, .slice m.ra m.rows.length m.rc]
def MV.v (m : MV) : Value := .agg #[.int .i64 m.n, .slice m.va m.val.length m.vc, .slice m.ra m.rows.length m.rc]
def MV.rel (m : MV) : List (List W64) := m.rows.map Row.xs
def SlR (w : World) (a : Option Addr) (rs : List Row) : Prop := Sl w a (rs.map Row.v)
structure MV.At (m : MV) (w : World) : Prop where
  rel : SlR w m.ra m.rows
  row : ∀ r ∈ m.rows, r.At w
  val : SlU w m.va m.val
  lr : m.rows.length ≤ maxLen
  lv : m.val.length ≤ maxLen
  cr : m.rows.length ≤ m.rc
  cv : m.val.length ≤ m.vc
theorem Sl.at {α : Type} {enc : α → Value} {w : World} {a : Option Addr} {xs : List α} (h : Sl w a (xs.map enc)) (k : Nat) (hk : k < xs.length) : w.cell? (adr a k) = some (enc xs[k]) := by
 rw [Sl.cell h k (by simpa using hk)]
 simp [List.getD_eq_getElem?_getD, hk]
theorem Ex.keep {w w' : World} (e : Ex [] w w') {b : Nat} {o : Obj} (h : w.heap[b]? = some o) : w'.heap[b]? = some o := by
 rw [e.block b (Array.getElem?_eq_some_iff.1 h).1 (by simp)]; exact h
theorem Ex.cell {w w' : World} (e : Ex [] w w') {b j : Nat} {cs : Array Value} {t : TypeId} {fr : Nat × Nat} {v : Value} (h : w.heap[b]? = some (.cells cs t fr)) (hv : cs[j]? = some v) : w'.cell? ⟨b, j, none⟩ = some v := by
 rw [cell_of_row w' b j cs t fr (e.keep h), hv]
abbrev I64 : Int → Value := Value.int .i64
def SlI (w : World) (a : Option Addr) (xs : List Int) : Prop := Sl w a (xs.map I64)
theorem SlI.ex0 {w0 w : World} {a : Option Addr} {xs : List Int} (h : SlI w0 a xs) {S : List Nat} (e : Ex S w0 w) (hS : ∀ b o, a = some ⟨b, o, none⟩ → b ∉ S := by simp) : SlI w a xs := Sl.ex h e hS
theorem SlI.at {w : World} {a : Option Addr} {xs : List Int} (h : SlI w a xs) (k : Nat) (hk : k < xs.length) : w.cell? (adr a k) = some (.int .i64 xs[k]) := Sl.at h k hk
structure MV.In (m : MV) (H : Hl) : Prop where
  rel : InS Row.v H m.ra m.rows
  row : ∀ r ∈ m.rows, InS U H r.a r.xs ∧ r.xs.length ≤ maxLen ∧ r.xs.length ≤ r.cap
  val : InS U H m.va m.val
  lr : m.rows.length ≤ maxLen
  lv : m.val.length ≤ maxLen
  cr : m.rows.length ≤ m.rc
  cv : m.val.length ≤ m.vc
end Go.Proofs.Wit
namespace Go.Proofs.Wit
open Go Go.RowKit
end Go.Proofs.Wit
namespace Go.Proofs.Wit
def pairAt (e : Bool) (w u : Nat) : Nat := if e = true then u else w
def pairSrc (e : Bool) (w u : Nat) : Nat := if e = true then w else u
def clG (e : Bool) (w u : Nat) (l : List W64) : Prop := Rl l w u → ∀ x, Rl l (pairSrc e w u) x → Rl l (pairAt e w u) x
def allG (e : Bool) (l : List W64) : Prop := if e = true then euclR l else tranR l
structure Pass (e : Bool) (r o0 out : List W64) (again : Bool) (k j : Nat) : Prop where
  val : Val out
  le : Le r out
  min : ∀ c, Val c → Le r c → allG e c → Le out c
  up : Le o0 out
  yes : again = true → o0 ≠ out
  no : again = false → out = o0 ∧ ∀ w u, (w < k ∨ (w = k ∧ u < j)) → clG e w u out
end Go.Proofs.Wit
namespace Go.Proofs.Wit
end Go.Proofs.Wit
namespace Go.Proofs.Wit
open Go Go.RowKit
/-! models and logics, plainly -/
def outB (n : Nat) (l : List W64) : Bool := l.any (fun s => s &&& ~~~ allW n != 0#64)
def checkM (n : Int) (val : List W64) (rel : List (List W64)) : Int :=
 if n < 1 ∨ 64 < n then 2 else if 4 < rel.length ∨ 8 < val.length then 8 else if rel.any (fun r => (r.length : Int) != n) then 3 else if outB n.toNat val || rel.any (outB n.toNat) then 2 else 0
structure ValM (n : Int) (val : List W64) (rel : List (List W64)) : Prop where
  n1 : 1 ≤ n
  n64 : n ≤ 64
  agents : rel.length ≤ 4
  facts : val.length ≤ 8
  len : ∀ r ∈ rel, (r.length : Int) = n
  rels : ∀ r ∈ rel, Val r
  out : outB n.toNat val = false
end Go.Proofs.Wit
namespace Go.Proofs.Wit
open Go Go.RowKit
end Go.Proofs.Wit
namespace Go.Proofs.Wit
open Go Go.RowKit
end Go.Proofs.Wit
namespace Go.Proofs.Wit
open Go Go.RowKit
end Go.Proofs.Wit
namespace Go.Proofs.Wit
open Go Go.RowKit
/-! values of many cells: structs, slices of structs -/
section
variable {P : Program} {r : Option Nat} {f : FuncId} {R : Value → World → Prop} {w0 : World} {S : List Nat} {Y : List (Nat × Obj)} {n : Nat} {k : List Item} {l : Fl} {h : Hl}
variable {ops : Array Oper} {i d : Nat} {rest : List Nat} {ty : TypeId} {pos : String} {aft : Array Edge} {g : Option (Nat × Bool)}
theorem addr_off (b o q : Nat) : (⟨b, o, none⟩ : Addr).add q = ⟨b, o + q, none⟩ := by
 unfold Addr.add; split
 ·rename_i h0; subst h0; rfl
 ·rfl
theorem adr_adr (a : Option Addr) (i q : Nat) : (adr a i).add q = adr a (i + q) := by
 unfold adr; rw [addr_off, Nat.add_assoc]
theorem Vop.fldP {s : TypeId} {x : Operand} {b o q : Nat} {fs : Array Field} {fd : Field} {sz : Nat} (ho : ops[i]? = some ⟨some d, .fieldAddr s x q, ty, pos, aft, g⟩) (hw : wantL ops l g = true)
  (hx : opd l x = some (.pointer (some ⟨b, o, none⟩))) (hd : Nat.blt d n = true) (hu : P.underlying s = some (.struct fs)) (hq : fs[q]? = some fd) (he : ∀ w, (sizeOf fd.type).run P w = .ok (sz + 1) w) (o' : Nat) (hO : o + fd.offset = o') :
  Vop P w0 S n h ops i l d (.pointer (some ⟨b, o', none⟩)) := by
 subst hO
 exact .of ho hw rfl rfl hd (fun t w Ds _ hF hS => ⟨.value (.pointer (some ⟨b, o + fd.offset, none⟩)), by
  simp only [execOp, hF.opd hx, Instr.fieldAt, Sem.run_bind, run_underlying hu, Result.andThen_ok, hq, Instr.sureAddr, Sem.run_pure, fieldPlace, he]
  rw [if_neg (by omega)]
  simp [addr_off], rfl⟩)
theorem loadAgg_run {t : TypeId} {w : World} {a : Addr} {cs : List Value} (ha : ∀ w, (isAgg t).run P w = .ok true w) (hz : ∀ w, (sizeOf t).run P w = .ok cs.length w) (hc : ∀ j v, cs[j]? = some v → w.cell? (a.add j) = some v) :
  (Instr.loadAt t (.pointer (some a))).run P w = .ok (.agg cs.toArray) w := by
 simp only [Instr.loadAt, Instr.sureAddr, loadVar, Sem.run_bind, Sem.run_pure, Result.andThen_ok, ha, hz, if_true, run_loadCells_list w a cs hc]
theorem Vop.ldN {t : TypeId} {x : Operand} {p : Addr} {cs : List Value} (ho : ops[i]? = some ⟨some d, .load t x, ty, pos, aft, g⟩) (hw : wantL ops l g = true)
  (hx : opd l x = some (.pointer (some p))) (hd : Nat.blt d n = true) (ha : ∀ w, (isAgg t).run P w = .ok true w) (hz : ∀ w, (sizeOf t).run P w = .ok cs.length w) (hc : ∀ w Y', St w0 S w h Y' → ∀ j v, cs[j]? = some v → w.cell? (p.add j) = some v) : Vop P w0 S n h ops i l d (.agg cs.toArray) :=
 .of ho hw rfl rfl hd (fun t w Ds _ hF hS => ⟨.value (.agg cs.toArray), by
  simp only [execOp, hF.opd hx, Sem.run_bind, loadAgg_run ha hz (hc w _ hS)]; rfl, rfl⟩)
theorem Vop.ldB {t : TypeId} {x : Operand} {b : Nat} {cs : Array Value} {e : TypeId} {fr : Nat × Nat} {m : Nat} (ho : ops[i]? = some ⟨some d, .load t x, ty, pos, aft, g⟩) (hw : wantL ops l g = true)
  (hx : opd l x = some (.pointer (some ⟨b, 0, none⟩))) (hd : Nat.blt d n = true) (ha : ∀ w, (isAgg t).run P w = .ok true w) (j : Nat) (hj : h[j]? = some (some b, .cells cs e fr)) (hz : ∀ w, (sizeOf t).run P w = .ok m w) (hm : cs.size = m) : Vop P w0 S n h ops i l d (.agg cs) := by
 subst hm
 have := Vop.ldN (P := P) (w0 := w0) (S := S) (h := h) (cs := cs.toList) ho hw hx hd ha (fun w => by rw [hz]; simp) (fun w Y' hS q v hv => by
  rw [addr_off, Nat.zero_add]
  simp [World.cell?, hS.get hj] at hv ⊢
  exact hv)
 rw [Array.toArray_toList] at this
 exact this
theorem GoH.stB {t : TypeId} {x y : Operand} {b : Nat} {cs : Array Value} {e : TypeId} {v : Value} {m : Nat} (ho : ops[i]? = some ⟨none, .store t x y, ty, pos, aft, g⟩) (hw : wantL ops l g = true)
  (hx : opd l x = some (.pointer (some ⟨b, 0, none⟩))) (hy : opd l y = some v) (hz : ∀ w, (sizeOf t).run P w = .ok m w) (j : Nat) (hj : h[j]? = some (some b, .cells cs e (0, 0))) (hm : cs.size = m) (hv : v.cells.size = m) (h1 : v.cells.toList.all Value.oneCell' = true)
  (hk : GoH P r f R w0 S Y n (.inRegion ops rest :: k) l (h.set j (some b, .cells v.cells e (0, 0)))) : GoH P r f R w0 S Y n (.inRegion ops (i :: rest) :: k) l h :=
 .eff ho hw rfl rfl (fun t' w Ds _ hF hS => by
  have hb := hS.get hj
  have hrun := run_storeCells_at (P := P) b 0 e v.cells.toList 0 cs w hb (by simp; omega) (fun u hu => List.all_eq_true.1 h1 u hu)
  have hrow : (cs.toList.take (0 + 0) ++ v.cells.toList ++ cs.toList.drop (0 + 0 + v.cells.toList.length)).toArray = v.cells := by
   rw [← Array.toList_inj]
   simp
   omega
  rw [hrow] at hrun
  refine ⟨w.setRow b v.cells, _, ?_, hS.turn hj (o' := .cells v.cells e (0, 0)) rfl rfl rfl rfl (by simp [World.setRow]) (setRow_heap w b _ _ e _ hb) (fun q _ hq => setRow_other w b q _ hq), hk⟩
  simp only [execOp, hF.opd hx, hF.opd hy, Sem.run_bind, Instr.storeAt, Instr.sureAddr, storeVar, Sem.run_pure, Result.andThen_ok, hz, hv]
  simp only [ne_eq, not_true_eq_false, if_false, hrun]; rfl)

/-! building -/
def setAt (cells : List Value) (off : Nat) (vs : List Value) : List Value := cells.take off ++ vs ++ cells.drop (off + vs.length)
def fillL (place : Nat → Option (Nat × Nat)) (cells : List Value) : List (Nat × Value) → Option (List Value)
 | [] => some cells
 | (i, v) :: rest => match place i with
  | none => none
  | some (off, size) => match Nat.beq v.cells.toList.length size && Nat.ble (off + size) cells.length with
   | true => fillL place (setAt cells off v.cells.toList) rest
   | false => none
theorem foldl_set : ∀ (vs : List Value) (cs : List Value) (off j : Nat), off + j + vs.length ≤ cs.length →
  (vs.zipIdx j).foldl (fun (cs : Array Value) (c : Value × Nat) => cs.setIfInBounds (off + c.2) c.1) cs.toArray = (setAt cs (off + j) vs).toArray
 | [], cs, off, j, _ => by simp [setAt]
 | v :: vs, cs, off, j, hl => by
  simp only [List.length_cons] at hl
  rw [List.zipIdx_cons, List.foldl_cons]
  have h1 : cs.toArray.setIfInBounds (off + j) v = (cs.set (off + j) v).toArray := by simp
  rw [h1, foldl_set vs (cs.set (off + j) v) off (j + 1) (by simp; omega)]
  congr 1
  have hlt : off + j < cs.length := by omega
  have hset : cs.set (off + j) v = cs.take (off + j) ++ v :: cs.drop (off + j + 1) := by
   rw [List.set_eq_take_append_cons_drop, if_pos hlt]
  have hlen : (cs.take (off + j)).length = off + j := by simp; omega
  have t1 : (cs.set (off + j) v).take (off + (j + 1)) = cs.take (off + j) ++ [v] := by
   rw [hset, List.take_append, List.take_of_length_le (by omega), hlen, show off + (j + 1) - (off + j) = 1 from by omega]; simp
  have t2 : (cs.set (off + j) v).drop (off + (j + 1) + vs.length) = cs.drop (off + j + (vs.length + 1)) := by
   rw [hset, List.drop_append, List.drop_eq_nil_of_le (by omega), hlen, show off + (j + 1) + vs.length - (off + j) = vs.length + 1 from by omega]
   simp [Nat.add_assoc, Nat.add_comm 1]
  unfold setAt
  rw [t1, t2]; simp
theorem fill_eq {place : Nat → Option (Nat × Nat)} : ∀ {ps : List (Nat × Value)} {cells c : List Value}, fillL place cells ps = some c → Instr.fill place cells.toArray ps = some c.toArray
 | [], cells, c, e => by cases e; rfl
 | (i, v) :: rest, cells, c, e => by
  unfold fillL at e
  unfold Instr.fill
  split at e
  ·cases e
  ·rename_i off size hp
   rw [hp]
   split at e
   ·rename_i hb
    rw [Bool.and_eq_true, Nat.beq_eq, Nat.ble_eq] at hb
    obtain ⟨h1, h2⟩ := hb
    rw [Array.length_toList] at h1
    simp only
    rw [if_neg (by simp; omega)]
    have h3 := foldl_set v.cells.toList cells off 0 (by simp; omega)
    rw [Nat.add_zero] at h3
    have h4 : v.cells.zipIdx.foldl (fun cs (x : Value × Nat) => cs.setIfInBounds (off + x.2) x.1) cells.toArray = (setAt cells off v.cells.toList).toArray := by
     rw [← h3, ← Array.foldl_toList]; simp
    rw [h4]
    exact fill_eq e
   ·cases e
def Szs (P : Program) : List Field → List Nat → Prop
 | [], [] => True
 | f :: fs, s :: ss => (∀ w, (sizeOf f.type).run P w = .ok s w) ∧ Szs P fs ss
 | _, _ => False
theorem Szs.nil : Szs P [] [] := trivial
theorem Szs.cons {f : Field} {fs : List Field} {s : Nat} {ss : List Nat} (h : ∀ w, (sizeOf f.type).run P w = .ok s w) (hs : Szs P fs ss) : Szs P (f :: fs) (s :: ss) := ⟨h, hs⟩
theorem szs_run : ∀ {fs : List Field} {ss : List Nat}, Szs P fs ss → ∀ w, (fs.mapM (m := Sem) fun f => do pure (f.offset, ← sizeOf f.type)).run P w = .ok ((fs.zip ss).map fun x => (x.1.offset, x.2)) w
 | [], [], _, w => rfl
 | f :: fs, s :: ss, hs, w => by
  rw [List.mapM_cons]
  simp only [Sem.run_bind, Sem.run_pure, Result.andThen_ok, hs.1, szs_run hs.2]; rfl
 | [], _ :: _, hs, _ => hs.elim
 | _ :: _, [], hs, _ => hs.elim
def Bld (P : Program) (t : TypeId) (ps : List (Nat × Value)) (v : Value) : Prop := ∀ w, (Instr.build t ps.toArray).run P w = .ok v w
theorem bld {t : TypeId} {fs : Array Field} {ss : List Nat} {z : Value} {ps : List (Nat × Value)} {c : List Value} (hu : P.underlying t = some (.struct fs)) (hs : Szs P fs.toList ss) (hz : ∀ w, (zeroValue t).run P w = .ok z w)
  (hf : fillL (fun i => ((fs.toList.zip ss)[i]?).map fun x => (x.1.offset, x.2)) z.cells.toList ps = some c) : Bld P t ps (.agg c.toArray) := by
 intro w
 have h1 := fill_eq hf
 rw [Array.toArray_toList] at h1
 simp only [Instr.build, Sem.run_bind, hz, Result.andThen_ok, run_underlying hu]
 rw [Array.mapM_eq_mapM_toList]
 simp only [Sem.run_map, szs_run hs]
 have h2 : (fun (i : Nat) => (List.map (fun x => (x.1.offset, x.2)) (fs.toList.zip ss)).toArray[i]?) = fun i => ((fs.toList.zip ss)[i]?).map fun x => (x.1.offset, x.2) := by
  funext i; simp
 show ((match Instr.fill (fun (i : Nat) => (List.map (fun x => (x.1.offset, x.2)) (fs.toList.zip ss)).toArray[i]?) z.cells ps with
  | some cells => pure (.agg cells)
  | _ => stuck "build: no such field, or a part of the wrong size" : Sem Value)).run P w = _
 rw [h2, h1]; rfl
def partsL (l : Fl) : List (Nat × Operand) → Option (List (Nat × Value))
 | [] => some []
 | (q, x) :: xs => match Wit.opd l x, partsL l xs with
  | some v, some vs => some ((q, v) :: vs)
  | _, _ => none
theorem Frm.parts {t : Array Value} (hF : Frm n t l) (ds : List Deferred) : ∀ {xs : List (Nat × Operand)} {vs : List (Nat × Value)}, partsL l xs = some vs → xs.map (fun x => (x.1, Act.eval ⟨t, ds⟩ x.2)) = vs
 | [], vs, e => by cases e; rfl
 | (q, x) :: xs, vs, e => by
  simp only [partsL] at e
  split at e
  ·rename_i v us hx hxs
   cases e
   rw [List.map_cons, hF.opd hx, hF.parts ds hxs]
  ·cases e
theorem Vop.bld {t : TypeId} {az : Array (Nat × Operand)} {ps : List (Nat × Value)} {v : Value} (ho : ops[i]? = some ⟨some d, .build t az, ty, pos, aft, g⟩) (hw : wantL ops l g = true) (hx : partsL l az.toList = some ps) (hd : Nat.blt d n = true) (hb : Bld P t ps v) :
  Vop P w0 S n h ops i l d v :=
 .of ho hw rfl rfl hd (fun t w Ds _ hF hS => ⟨.value v, by
  have e1 : az.map (fun (x : Nat × Operand) => (x.1, Act.eval ⟨t, Ds.map mark⟩ x.2)) = ps.toArray := by rw [← Array.toList_inj]; simp [hF.parts (Ds.map mark) hx]
  have := hb w
  rw [← e1] at this
  simp only [execOp, Sem.run_bind]
  refine (congrArg (fun x => Result.andThen x _) this).trans ?_
  rfl, rfl⟩)
theorem bsN_run {t e : TypeId} {len : Nat} {az : Array (Nat × Operand)} {ps : List (Nat × Value)} {z : Value} {size : Nat} {c : List Value} {t' : Array Value} (hF : Frm n t' l) (hx : partsL l az.toList = some ps)
  (hu : P.underlying t = some (.slice e)) (hs : ∀ w, (sizeOf e).run P w = .ok size w) (hz : ∀ w, (zeroValue e).run P w = .ok z w) (hm : Nat.ble (len * size) 16777216 = true)
  (hf : fillL (fun i => some (i * size, size)) ((List.range (len * size)).map fun i => z.cells.toList.getD (i % z.cells.toList.length) default) ps = some c) (Ds : List Nat) (w : World) :
  (execOp (Act.eval ⟨t', Ds.map mark⟩) ⟨some d, .buildSlice t len az, ty, pos, aft, g⟩).run P w = .ok (.value (.slice (some ⟨w.heap.size, 0, none⟩) len len)) (w.alloc (.cells (c ++ []).toArray e)) := by
 have e1 : az.map (fun (x : Nat × Operand) => (x.1, Act.eval ⟨t', Ds.map mark⟩ x.2)) = ps.toArray := by rw [← Array.toList_inj]; simp [hF.parts (Ds.map mark) hx]
 have h1 := fill_eq hf
 have h2 : (Array.range (len * size)).map (fun i => (if len * size = 0 then #[] else z.cells)[i % (if len * size = 0 then #[] else z.cells).size]!) = ((List.range (len * size)).map fun i => z.cells.toList.getD (i % z.cells.toList.length) default).toArray := by
  by_cases h0 : len * size = 0
  ·rw [h0]; simp
  ·rw [if_neg h0, ← Array.toList_inj]; simp
   intro a _
   rw [getElem!_def]
   cases z.cells[a % z.cells.size]? <;> rfl
 rw [← h2] at h1
 have hrun : (Instr.buildSlice t len ps.toArray).run P w = .ok (.slice (some ⟨w.heap.size, 0, none⟩) len len) (w.alloc (.cells (c ++ []).toArray e)) := by
  have hm' : ¬ len * size > 2 ^ 24 := by have := Nat.le_of_ble_eq_true hm; omega
  by_cases h0 : len * size = 0
  ·simp only [if_pos h0] at h1
   simp only [Instr.buildSlice, Sem.run_bind, run_underlying hu, Result.andThen_ok, hs, if_neg hm', if_pos h0, Sem.run_pure]
   rw [h1]; simp [newRow]
  ·simp only [if_neg h0] at h1
   simp only [Instr.buildSlice, Sem.run_bind, run_underlying hu, Result.andThen_ok, hs, if_neg hm', if_neg h0, Sem.run_pure, hz]
   rw [h1]; simp [newRow]
 rw [← e1] at hrun
 simp only [execOp, Sem.run_bind]
 refine (congrArg (fun x => Result.andThen x _) hrun).trans ?_
 rfl
theorem GoH.bsN {t e : TypeId} {len : Nat} {az : Array (Nat × Operand)} {ps : List (Nat × Value)} {z : Value} {size : Nat} {c : List Value} (ho : ops[i]? = some ⟨some d, .buildSlice t len az, ty, pos, aft, g⟩) (hw : wantL ops l g = true) (hx : partsL l az.toList = some ps) (hd : Nat.blt d n = true)
  (hu : P.underlying t = some (.slice e)) (hs : ∀ w, (sizeOf e).run P w = .ok size w) (hz : ∀ w, (zeroValue e).run P w = .ok z w) (hm : Nat.ble (len * size) 16777216 = true)
  (hf : fillL (fun i => some (i * size, size)) ((List.range (len * size)).map fun i => z.cells.toList.getD (i % z.cells.toList.length) default) ps = some c)
  (hk : ∀ b, GoH P r f R w0 S Y n (.inRegion ops rest :: k) ((d, .slice (some ⟨b, 0, none⟩) len len) :: l) ((some b, .cells (c ++ []).toArray e) :: h)) : GoH P r f R w0 S Y n (.inRegion ops (i :: rest) :: k) l h :=
 .mem ho hw rfl rfl hd (fun _ w Ds _ hF hS => ⟨.slice (some ⟨w.heap.size, 0, none⟩) len len, w.alloc (.cells (c ++ []).toArray e), _, bsN_run hF hx hu hs hz hm hf Ds w, hS.alloc rfl, hk _⟩)
theorem Vop.slHi {t e : TypeId} {x y : Operand} {a : Option Addr} {m cap hi : Nat} {kd : IntKind} {j : Int} {sz : Nat} (ho : ops[i]? = some ⟨some d, .slice t x none (some y) none, ty, pos, aft, g⟩) (hw : wantL ops l g = true)
  (hx : opd l x = some (.slice a m cap)) (hy : opd l y = some (.int kd j)) (hd : Nat.blt d n = true) (hu : P.underlying t = some (.slice e)) (he : ∀ w, (sizeOf e).run P w = .ok sz w) (hj : j = hi) (hc : hi ≤ cap) :
  Vop P w0 S n h ops i l d (.slice a hi cap) :=
 .of ho hw rfl rfl hd (fun t w Ds _ hF hS => ⟨.value (.slice a hi cap), by
  subst hj
  simp only [execOp, hF.opd hx, hF.opd hy, Option.map_some, Option.map_none, Instr.sliceAt, Sem.run_bind, run_underlying hu, Result.andThen_ok, Instr.slice, Instr.sliceBounds, Instr.sliceBound, asIntOf, Sem.run_pure]
  rw [if_pos ⟨by omega, by omega⟩]
  simp only [Sem.run_pure, Result.andThen_ok, he, Int.toNat_natCast]
  cases a <;> simp [Addr.add_zero'], rfl⟩)

/-! calls of function values -/
theorem GoH.callC {az : Array Operand} {ts : Array TypeId} {cal : Operand} {gf : FuncId} {fs cs vs : List Value} (Rc : World → Value → World → Prop) (ho : ops[i]? = some ⟨some d, .call ⟨.value cal, az, ts⟩, ty, pos, aft, g⟩) (hw : wantL ops l g = true)
  (hc : opd l cal = some (.func (.func gf) fs.toArray cs.toArray)) (hx : opds l az.toList = some vs) (hd : Nat.blt d n = true) (hcf : ∀ args w, (callFunc gf args).run P w = .ok (.enter gf args) w)
  (hcall : ∀ w Y', St w0 S w h Y' → Cn P gf (fs ++ vs ++ cs) w (Rc w))
  (hk : ∀ v w w' Y', St w0 S w h Y' → Ex [] w w' → Rc w v w' → ∃ h', St w0 S w' h' Y' ∧ GoH P r f R w0 S Y n (.inRegion ops rest :: k) ((d, v) :: l) h') : GoH P r f R w0 S Y n (.inRegion ops (i :: rest) :: k) l h :=
 .callG ho hw hc hx hd hcf (fun w Ds hS => ⟨fun u w' => Ex [] w w' ∧ Rc w u w', by
  have := hcall w Ds hS
  unfold Cn at this
  simpa using this, fun u w' ⟨he, hu⟩ => hk u w w' Ds hS he hu⟩)
theorem GoH.callCP {az : Array Operand} {ts : Array TypeId} {cal : Operand} {gf : FuncId} {fs cs vs : List Value} {v : Value} (ho : ops[i]? = some ⟨some d, .call ⟨.value cal, az, ts⟩, ty, pos, aft, g⟩) (hw : wantL ops l g = true)
  (hc : opd l cal = some (.func (.func gf) fs.toArray cs.toArray)) (hx : opds l az.toList = some vs) (hd : Nat.blt d n = true) (hcf : ∀ args w, (callFunc gf args).run P w = .ok (.enter gf args) w)
  (hcall : ∀ w Y', St w0 S w h Y' → Cn P gf (fs ++ vs ++ cs) w (fun u _ => u = v))
  (hk : GoH P r f R w0 S Y n (.inRegion ops rest :: k) ((d, v) :: l) h) : GoH P r f R w0 S Y n (.inRegion ops (i :: rest) :: k) l h :=
 .callC (fun _ u _ => u = v) ho hw hc hx hd hcf hcall (fun _ _ _ _ hS he e => ⟨h, hS.later he, e ▸ hk⟩)
end
/-! a function whose results lie in cells -/
def resH (P : Program) (l : Fl) (h : Hl) : List ResultVar → List Value → Prop
 | [], [] => True
 | .tmp t :: rs, v :: vs => look l t = some v ∧ resH P l h rs vs
 | .cell a ty :: rs, v :: vs => (∃ b, look l a = some (.pointer (some ⟨b, 0, none⟩)) ∧ ∃ (j : Nat) (cs : Array Value) (e : TypeId) (fr : Nat × Nat), h[j]? = some (some b, Obj.cells cs e fr) ∧
  ((∀ w, (isAgg ty).run P w = .ok true w) ∧ (∀ w, (sizeOf ty).run P w = .ok cs.size w) ∧ v = .agg cs ∨ (∀ w, (isAgg ty).run P w = .ok false w) ∧ cs[0]? = some v)) ∧ resH P l h rs vs
 | _, _ => False
section
variable {P : Program} {f : FuncId} {R : Value → World → Prop} {w0 : World} {S : List Nat} {Y : List (Nat × Obj)} {n : Nat} {k : List Item} {l : Fl} {h : Hl} {fn : Func}
theorem resH.nil : resH P l h [] [] := trivial
theorem resH.tmp {t : Tmp} {v : Value} {rs : List ResultVar} {vs : List Value} (hv : look l t = some v) (hr : resH P l h rs vs) : resH P l h (.tmp t :: rs) (v :: vs) := ⟨hv, hr⟩
theorem resH.cell {a : Tmp} {ty : TypeId} {b m j : Nat} {cs : Array Value} {e : TypeId} {fr : Nat × Nat} {rs : List ResultVar} {vs : List Value} (ha : look l a = some (.pointer (some ⟨b, 0, none⟩))) (h1 : ∀ w, (isAgg ty).run P w = .ok true w) (h2 : ∀ w, (sizeOf ty).run P w = .ok m w) (hj : h[j]? = some (some b, Obj.cells cs e fr)) (hm : cs.size = m) (hr : resH P l h rs vs) : resH P l h (.cell a ty :: rs) (.agg cs :: vs) :=
 ⟨⟨b, ha, j, cs, e, fr, hj, .inl ⟨h1, fun w => by rw [h2, hm], rfl⟩⟩, hr⟩
theorem mapM_resH {w : World} {t : Array Value} (hF : Frm n t l) (hS : St w0 S w h Y) : ∀ {rs : List ResultVar} {vs : List Value}, resH P l h rs vs →
  (rs.mapM (m := Sem) fun | .tmp t' => pure (t.getD t' undef) | .cell a ty => do loadVar ty (← asAddr (t.getD a undef))).run P w = .ok vs w
 | [], [], _ => rfl
 | .tmp q :: rs, v :: vs, ⟨hv, hr⟩ => by
  rw [List.mapM_cons]
  simp only [Sem.run_bind, Sem.run_pure, Result.andThen_ok, mapM_resH hF hS hr, hF.2 _ _ hv]
 | .cell a ty :: rs, v :: vs, ⟨⟨b, ha, j, cs, e, fr, hj, hv⟩, hr⟩ => by
  rw [List.mapM_cons]
  have hl2 : (loadVar ty ⟨b, 0, none⟩).run P w = .ok v w := by
   rcases hv with ⟨hag, hsz, rfl⟩ | ⟨hag, hv⟩
   ·have hl := loadAgg_run (P := P) (w := w) (a := ⟨b, 0, none⟩) (cs := cs.toList) hag (fun w => by rw [hsz]; simp) (fun q v hv => by
     rw [addr_off, Nat.zero_add]
     simp [World.cell?, hS.get hj] at hv ⊢
     exact hv)
    rw [Array.toArray_toList] at hl
    simpa only [Instr.loadAt, Instr.sureAddr, Sem.run_bind, Sem.run_pure, Result.andThen_ok] using hl
   ·have hc := cell_of_row w b 0 cs e fr (hS.get hj)
    rw [hv] at hc
    simp [loadVar, hag, hc]
  have hA : (asAddr (t.getD a undef)).run P w = .ok ⟨b, 0, none⟩ w := by rw [hF.2 _ _ ha]; rfl
  simp only [Sem.run_bind, Sem.run_pure, Result.andThen_ok, hA, hl2, mapM_resH hF hS hr]
 | [], _ :: _, hr => hr.elim
 | .tmp _ :: _, [], hr => hr.elim
 | .cell _ _ :: _, [], hr => hr.elim
theorem GoH.retH (fn : Func) (hf : P.funcs[f]? = some fn) (vs : List Value) (hres : resH P l h fn.results.toList vs) (hR : ∀ w, St w0 S w h Y → R (retV vs) w) : GoH P none f R w0 S Y n (.code .ret :: k) l h := fun t w Ds hF hS => by
 refine gos_leave hf hS (fun cs => by rw [mkF_at]; exact stepR_ret rfl) ?_ (hR _ hS.shut)
 unfold results
 rw [Array.mapM_eq_mapM_toList]
 have hm := mapM_resH (P := P) hF hS.shut hres
 simp only [Sem.run_bind, Sem.run_map, Sem.run_pure]
 refine (congrArg (fun x => (x.andThen fun a w' => Result.ok a.toArray w').andThen fun a w' => Result.ok (if h : a.size = 1 then a[0] else Value.tuple a) w') hm).trans ?_
 simp only [Result.andThen_ok]
 cases vs with
 | nil => rfl
 | cons v us => cases us with
  | nil => rfl
  | cons u us => simp [retV]
end
end Go.Proofs.Wit
namespace Go.Proofs.Wit
open Go Go.RowKit
/-! witnesses against a property, plainly -/
def firstTo {α : Type} (f : Nat → Option α) : Nat → Option α
 | 0 => none
 | k + 1 => match firstTo f k with
  | some x => some x
  | none => f k
/-! slices of structs -/
theorem flat_get {α : Type} {enc : α → List Value} {sz : Nat} (hsz : ∀ x, (enc x).length = sz) : ∀ {xs : List α} {j i : Nat} (hj : j < xs.length), i < sz → (xs.flatMap enc)[j * sz + i]? = (enc xs[j])[i]?
 | [], j, i, hj, _ => by simp at hj
 | x :: xs, 0, i, _, hi => by
  rw [List.flatMap_cons, Nat.zero_mul, Nat.zero_add, List.getElem?_append_left (by rw [hsz]; exact hi)]; rfl
 | x :: xs, j + 1, i, hj, hi => by
  rw [List.flatMap_cons, List.getElem?_append_right (by rw [hsz, Nat.add_mul]; omega), hsz]
  rw [show (j + 1) * sz + i - sz = j * sz + i from by rw [Nat.add_mul]; omega]
  exact flat_get hsz (by simpa using hj) hi
theorem flat_len {α : Type} {enc : α → List Value} {sz : Nat} (hsz : ∀ x, (enc x).length = sz) : ∀ {xs : List α}, (xs.flatMap enc).length = xs.length * sz
 | [] => by simp
 | x :: xs => by rw [List.flatMap_cons, List.length_append, hsz, flat_len hsz, List.length_cons, Nat.add_mul]; omega
section
variable {P : Program} {r : Option Nat} {f : FuncId} {R : Value → World → Prop} {w0 : World} {S : List Nat} {Y : List (Nat × Obj)} {n : Nat} {k : List Item} {l : Fl} {h : Hl}
variable {ops : Array Oper} {i d : Nat} {rest : List Nat} {ty : TypeId} {pos : String} {aft : Array Edge} {g : Option (Nat × Bool)}
theorem Vop.idxN {t e : TypeId} {x y : Operand} {a : Option Addr} {m cap sz : Nat} {kd : IntKind} {j : Int} {xs : List Value} (ho : ops[i]? = some ⟨some d, .indexAddr t x y, ty, pos, aft, g⟩) (hw : wantL ops l g = true)
  (hx : opd l x = some (.slice a m cap)) (hy : opd l y = some (.int kd j)) (hd : Nat.blt d n = true) (hu : P.underlying t = some (.slice e)) (he : ∀ w, (sizeOf e).run P w = .ok sz w)
  (hs : ∃ w, Sl w a xs) (hm : xs.length = m * sz) (hsz : 0 < sz) (j' : Nat) (hj : j = j' ∧ j' < m) : Vop P w0 S n h ops i l d (.pointer (some (adr a (j' * sz)))) := by
 obtain ⟨w1, hs⟩ := hs
 obtain ⟨rfl, hj⟩ := hj
 have h0 : 0 < xs.length := by rw [hm]; exact Nat.mul_pos (by omega) hsz
 obtain ⟨b, o, rfl, _⟩ := hs.isSome h0
 exact .of ho hw rfl rfl hd (fun t' w Ds _ hF hS => ⟨.value (.pointer (some ⟨b, o + j' * sz, none⟩)), by
  simp only [execOp, hF.opd hx, hF.opd hy, Sem.run_bind, idxS_run hu he b o m cap kd j' hj w]; rfl, rfl⟩)
theorem Sl.many {α : Type} {enc : α → List Value} {sz : Nat} {w : World} {a : Option Addr} {xs : List α} (hs : Sl w a (xs.flatMap enc)) (hsz : ∀ x, (enc x).length = sz) {j : Nat} (hj : j < xs.length) : ∀ q v, (enc xs[j])[q]? = some v → w.cell? ((adr a (j * sz)).add q) = some v := by
 intro q v hv
 have hq : q < sz := by have := (List.getElem?_eq_some_iff.1 hv).1; rwa [hsz] at this
 have h1 := flat_get hsz hj hq
 rw [hv] at h1
 obtain ⟨h2, h3⟩ := List.getElem?_eq_some_iff.1 h1
 rw [adr_adr, hs.cell _ h2, List.getD_eq_getElem?_getD, h1]; rfl
theorem Sl.fld {α : Type} {enc : α → List Value} {sz : Nat} {w : World} {a : Option Addr} {xs : List α} (hs : Sl w a (xs.flatMap enc)) (hsz : ∀ x, (enc x).length = sz) {j : Nat} (hj : j < xs.length) {q : Nat} {v : Value} (hv : (enc xs[j])[q]? = some v) : w.cell? (adr a (j * sz + q)) = some v := by
 have := Sl.many hs hsz hj q v hv
 rwa [adr_adr] at this
theorem Vop.fldA {s : TypeId} {x : Operand} {a : Option Addr} {o q : Nat} {fs : Array Field} {fd : Field} {sz : Nat} (ho : ops[i]? = some ⟨some d, .fieldAddr s x q, ty, pos, aft, g⟩) (hw : wantL ops l g = true)
  (hx : opd l x = some (.pointer (some (adr a o)))) (hd : Nat.blt d n = true) (hu : P.underlying s = some (.struct fs)) (hq : fs[q]? = some fd) (he : ∀ w, (sizeOf fd.type).run P w = .ok (sz + 1) w) (o' : Nat) (hO : o + fd.offset = o') :
  Vop P w0 S n h ops i l d (.pointer (some (adr a o'))) := by
 subst hO
 exact .of ho hw rfl rfl hd (fun t w Ds _ hF hS => ⟨.value (.pointer (some (adr a (o + fd.offset)))), by
  simp only [execOp, hF.opd hx, Instr.fieldAt, Sem.run_bind, run_underlying hu, Result.andThen_ok, hq, Instr.sureAddr, Sem.run_pure, fieldPlace, he]
  rw [if_neg (by omega)]
  simp [adr_adr], rfl⟩)
end
end Go.Proofs.Wit
namespace Go.Proofs.Wit
open Go Go.RowKit
structure DV where
  agent : Int
  prop : Int
  a : Option Addr
  cap : Nat
  ws : List Int
def DV.cells (d : DV) : List Value := [.int .i64 d.agent, .int .i64 d.prop, .slice d.a d.ws.length d.cap]
def DV.plain (d : DV) : Int × Int × List Int := (d.agent, d.prop, d.ws)
structure DV.At (d : DV) (w : World) : Prop where
  at_ : SlI w d.a d.ws
  len : d.ws.length ≤ maxLen
structure DefsAt (w : World) (a : Option Addr) (ds : List DV) : Prop where
  at_ : Sl w a (ds.flatMap DV.cells)
  len : ds.length ≤ maxLen
  each : ∀ d ∈ ds, d.At w
end Go.Proofs.Wit
namespace Go.Proofs.Wit
open Go Go.RowKit
structure DefsIn (H : Hl) (a : Option Addr) (ds : List DV) : Prop where
  at_ : ds = [] ∨ ∃ b e sp, a = some ⟨b, 0, none⟩ ∧ (some b, Obj.cells (ds.flatMap DV.cells ++ sp).toArray e (0, 0)) ∈ H
  len : ds.length ≤ maxLen
  each : ∀ d ∈ ds, InS I64 H d.a d.ws ∧ d.ws.length ≤ maxLen
end Go.Proofs.Wit
namespace Go.Proofs.Wit
/-! formulas: nodes, trees, canonical lists -/
structure NV where
  op : Int
  i : Int
  e : Int
  g : Int
  x : Int
  y : Int
deriving DecidableEq
def NV.cells (n : NV) : List Value := [I64 n.op, I64 n.i, I64 n.e, I64 n.g, I64 n.x, I64 n.y]
def usX (op : Int) : Bool := decide (4 ≤ op) && decide (op ≤ 21)
def usY (op : Int) : Bool := decide (5 ≤ op) && decide (op ≤ 8) || op == 13 || op == 14 || op == 16 || op == 19 || op == 21
def agO (op : Int) : Bool := op == 9 || op == 10 || op == 14 || op == 15
def grO (op : Int) : Bool := decide (11 ≤ op) && decide (op ≤ 13)
theorem usY_X {op : Int} (h : usY op = true) : usX op = true := by
 simp only [usY, usX, Bool.or_eq_true, Bool.and_eq_true, decide_eq_true_eq, beq_iff_eq] at h ⊢
 omega
inductive Tr where
  | leaf (op i e g : Int)
  | un (op i e g : Int) (a : Tr)
  | bin (op i e g : Int) (a b : Tr)
deriving DecidableEq
def Tr.op : Tr → Int
 | .leaf op _ _ _ => op
 | .un op _ _ _ _ => op
 | .bin op _ _ _ _ _ => op
def kids : Tr → List Tr
 | .leaf .. => []
 | .un _ _ _ _ a => [a]
 | .bin _ _ _ _ a b => [a, b]
def Tr.wf : Tr → Prop
 | .leaf op _ _ _ => usX op = false
 | .un op _ _ _ a => usX op = true ∧ usY op = false ∧ a.wf
 | .bin op _ _ _ a b => usY op = true ∧ a.wf ∧ b.wf
def tr0 : Tr := .leaf 0 0 0 0
def mkT (n : NV) (a b : Tr) : Tr := if usY n.op = true then .bin n.op n.i n.e n.g a b else if usX n.op = true then .un n.op n.i n.e n.g a else .leaf n.op n.i n.e n.g
theorem mkT_leaf {n : NV} {a b : Tr} (h : usX n.op = false) : mkT n a b = .leaf n.op n.i n.e n.g := by
 unfold mkT
 rw [if_neg (by intro h2; rw [usY_X h2] at h; cases h), if_neg (by rw [h]; simp)]
theorem mkT_un {n : NV} {a b : Tr} (h : usX n.op = true) (h2 : usY n.op = false) : mkT n a b = .un n.op n.i n.e n.g a := by
 unfold mkT
 rw [if_neg (by rw [h2]; simp), if_pos h]
theorem mkT_bin {n : NV} {a b : Tr} (h : usY n.op = true) : mkT n a b = .bin n.op n.i n.e n.g a b := by
 unfold mkT
 rw [if_pos h]
theorem mkT_wf {n : NV} {a b : Tr} (ha : a.wf) (hb : b.wf) : (mkT n a b).wf := by
 unfold mkT
 split
 ·rename_i h; exact ⟨h, ha, hb⟩
 ·rename_i h
  split
  ·rename_i h2; exact ⟨h2, by simpa using h, ha⟩
  ·rename_i h2; show usX n.op = false; simpa using h2
theorem tr0_wf : tr0.wf := by show usX 0 = false; decide
def trs (acc : List Tr) : List NV → List Tr
 | [] => acc
 | n :: ns => trs (acc ++ [mkT n (acc.getD n.x.toNat tr0) (acc.getD n.y.toNat tr0)]) ns
def trees (f : List NV) : List Tr := trs [] f
theorem trs_snoc : ∀ {ns : List NV} {acc : List Tr} {n : NV}, trs acc (ns ++ [n]) = trs acc ns ++ [mkT n ((trs acc ns).getD n.x.toNat tr0) ((trs acc ns).getD n.y.toNat tr0)]
 | [], _, _ => rfl
 | m :: ns, acc, n => by rw [List.cons_append, trs, trs_snoc, trs]
theorem trees_snoc {f : List NV} {n : NV} : trees (f ++ [n]) = trees f ++ [mkT n ((trees f).getD n.x.toNat tr0) ((trees f).getD n.y.toNat tr0)] := trs_snoc
theorem snoc_ind {α : Type} {p : List α → Prop} (h0 : p []) (h1 : ∀ l a, p l → p (l ++ [a])) (l : List α) : p l := by
 have : ∀ n (l : List α), l.length = n → p l := by
  intro n
  induction n with
  | zero => intro l hl; rw [List.eq_nil_of_length_eq_zero hl]; exact h0
  | succ n ih =>
   intro l hl
   have hne : l ≠ [] := by rintro rfl; simp at hl
   rw [← List.dropLast_concat_getLast hne]
   exact h1 _ _ (ih _ (by simp [hl]))
 exact this _ l rfl
theorem trees_len (f : List NV) : (trees f).length = f.length := by
 induction f using snoc_ind with
 | h0 => rfl
 | h1 f n ih => rw [trees_snoc]; simp [ih]
theorem trees_take (f : List NV) (k : Nat) : (trees f).take k = trees (f.take k) := by
 induction f using snoc_ind with
 | h0 => simp [trees, trs]
 | h1 f n ih =>
  by_cases hk : k ≤ f.length
  ·rw [trees_snoc, List.take_append_of_le_length (by rw [trees_len]; exact hk), List.take_append_of_le_length hk, ih]
  ·rw [List.take_of_length_le (by rw [trees_len]; simp; omega), List.take_of_length_le (by simp; omega)]
theorem trees_get {f : List NV} {k : Nat} (hk : k < f.length) : (trees f)[k]'(by rw [trees_len]; exact hk) = mkT f[k] (((trees f).take k).getD f[k].x.toNat tr0) (((trees f).take k).getD f[k].y.toNat tr0) := by
 have h1 : f.take (k + 1) = f.take k ++ [f[k]] := List.take_succ_eq_append_getElem hk
 have h2 := trees_take f (k + 1)
 rw [h1, trees_snoc, ← trees_take] at h2
 have h3 : ((trees f).take (k + 1))[k]? = some (mkT f[k] (((trees f).take k).getD f[k].x.toNat tr0) (((trees f).take k).getD f[k].y.toNat tr0)) := by
  rw [h2, List.getElem?_append_right (by rw [List.length_take, trees_len]; omega), List.length_take, trees_len, Nat.min_eq_left (by omega), Nat.sub_self]; rfl
 rw [List.getElem?_take, if_pos (by omega), List.getElem?_eq_getElem (by rw [trees_len]; exact hk)] at h3
 exact Option.some.inj h3
theorem trees_wf (f : List NV) : ∀ t ∈ trees f, t.wf := by
 induction f using snoc_ind with
 | h0 => intro t h; cases h
 | h1 f n ih =>
  have hd : ∀ k, ((trees f).getD k tr0).wf := fun k => by
   by_cases hk : k < (trees f).length
   ·rw [show (trees f).getD k tr0 = (trees f)[k] from by simp [List.getD_eq_getElem?_getD, hk]]
    exact ih _ (List.getElem_mem hk)
   ·rw [show (trees f).getD k tr0 = tr0 from by simp [List.getD_eq_getElem?_getD, List.getElem?_eq_none (Nat.le_of_not_lt hk)]]
    exact tr0_wf
  intro t h
  rw [trees_snoc] at h
  rcases List.mem_append.1 h with h | h
  ·exact ih t h
  ·rw [List.mem_singleton.1 h]; exact mkT_wf (hd _) (hd _)
def visit : Tr → List Tr → List Tr
 | .leaf op i e g, ts => if Tr.leaf op i e g ∈ ts then ts else ts ++ [.leaf op i e g]
 | .un op i e g a, ts => if Tr.un op i e g a ∈ ts then ts else visit a ts ++ [.un op i e g a]
 | .bin op i e g a b, ts => if Tr.bin op i e g a b ∈ ts then ts else visit b (visit a ts) ++ [.bin op i e g a b]
def Clo (ts : List Tr) : Prop := ∀ (k : Nat) (hk : k < ts.length), ∀ c ∈ kids ts[k], c ∈ ts.take k
theorem Clo.nil : Clo [] := fun _k hk => absurd hk (Nat.not_lt_zero _)
theorem Clo.snoc {ts : List Tr} {t : Tr} (h : Clo ts) (ht : ∀ c ∈ kids t, c ∈ ts) : Clo (ts ++ [t]) := fun k hk c hc => by
 rw [List.length_append, List.length_singleton] at hk
 by_cases hlt : k < ts.length
 ·rw [List.getElem_append_left hlt] at hc
  rw [List.take_append_of_le_length (by omega)]
  exact h k hlt c hc
 ·obtain rfl : k = ts.length := by omega
  rw [List.getElem_append_right (Nat.le_refl _)] at hc
  simp only [Nat.sub_self, List.getElem_cons_zero] at hc
  rw [List.take_left']
  ·exact ht c hc
  ·rfl
theorem Clo.mem {ts : List Tr} (h : Clo ts) {t : Tr} (ht : t ∈ ts) : ∀ c ∈ kids t, c ∈ ts := fun c hc => by
 obtain ⟨k, hk, rfl⟩ := List.mem_iff_getElem.1 ht
 exact List.mem_of_mem_take (h k hk c hc)
def size : Tr → Nat
 | .leaf .. => 1
 | .un _ _ _ _ a => size a + 1
 | .bin _ _ _ _ a b => size a + size b + 1
theorem visit_new (t : Tr) : ∀ {ts : List Tr} {u : Tr}, u ∈ visit t ts → u ∈ ts ∨ size u ≤ size t := by
 induction t with
 | leaf op i e g =>
  intro ts u h
  rw [visit] at h
  split at h
  ·exact .inl h
  ·rcases List.mem_append.1 h with h | h
   ·exact .inl h
   ·rw [List.mem_singleton.1 h]; exact .inr (Nat.le_refl _)
 | un op i e g a iha =>
  intro ts u h
  rw [visit] at h
  split at h
  ·exact .inl h
  ·rcases List.mem_append.1 h with h | h
   ·rcases iha h with h | h
    ·exact .inl h
    ·exact .inr (by simp only [size]; omega)
   ·rw [List.mem_singleton.1 h]; exact .inr (Nat.le_refl _)
 | bin op i e g a b iha ihb =>
  intro ts u h
  rw [visit] at h
  split at h
  ·exact .inl h
  ·rcases List.mem_append.1 h with h | h
   ·rcases ihb h with h | h
    ·rcases iha h with h | h
     ·exact .inl h
     ·exact .inr (by simp only [size]; omega)
    ·exact .inr (by simp only [size]; omega)
   ·rw [List.mem_singleton.1 h]; exact .inr (Nat.le_refl _)
structure Vis (t : Tr) (ts us : List Tr) : Prop where
  clo : Clo us
  nd : us.Nodup
  pre : ts <+: us
  mem : t ∈ us
theorem nodup_snoc {ts : List Tr} {t : Tr} (h : ts.Nodup) (ht : t ∉ ts) : (ts ++ [t]).Nodup := by
 rw [List.nodup_append]
 exact ⟨h, by simp, fun a ha b hb => by rw [List.mem_singleton.1 hb]; rintro rfl; exact ht ha⟩
theorem visit_ok (t : Tr) : ∀ {ts : List Tr}, Clo ts → ts.Nodup → Vis t ts (visit t ts) := by
 induction t with
 | leaf op i e g =>
  intro ts hc hn
  rw [visit]
  split
  ·rename_i h; exact ⟨hc, hn, List.prefix_refl _, h⟩
  ·rename_i h; exact ⟨hc.snoc (fun c hc => by cases hc), nodup_snoc hn h, List.prefix_append _ _, by simp⟩
 | un op i e g a iha =>
  intro ts hc hn
  rw [visit]
  split
  ·rename_i h; exact ⟨hc, hn, List.prefix_refl _, h⟩
  ·rename_i h
   obtain ⟨h1, h2, h3, h4⟩ := iha hc hn
   have hnew : Tr.un op i e g a ∉ visit a ts := fun hm => by
    rcases visit_new a hm with h5 | h5
    ·exact h h5
    ·simp only [size] at h5; omega
   exact ⟨h1.snoc (fun c hc => by rw [List.mem_singleton.1 hc]; exact h4), nodup_snoc h2 hnew, h3.trans (List.prefix_append _ _), by simp⟩
 | bin op i e g a b iha ihb =>
  intro ts hc hn
  rw [visit]
  split
  ·rename_i h; exact ⟨hc, hn, List.prefix_refl _, h⟩
  ·rename_i h
   obtain ⟨h1, h2, h3, h4⟩ := iha hc hn
   obtain ⟨k1, k2, k3, k4⟩ := ihb h1 h2
   have hnew : Tr.bin op i e g a b ∉ visit b (visit a ts) := fun hm => by
    rcases visit_new b hm with h5 | h5
    ·rcases visit_new a h5 with h5 | h5
     ·exact h h5
     ·simp only [size] at h5; omega
    ·simp only [size] at h5; omega
   refine ⟨k1.snoc (fun c hc => ?_), nodup_snoc k2 hnew, (h3.trans k3).trans (List.prefix_append _ _), by simp⟩
   simp only [kids, List.mem_cons, List.not_mem_nil, or_false] at hc
   rcases hc with rfl | rfl
   ·exact k3.subset h4
   ·exact k4
def nodeOf (ts : List Tr) : Tr → NV
 | .leaf op i e g => ⟨op, i, e, g, 0, 0⟩
 | .un op i e g a => ⟨op, i, e, g, (ts.idxOf a : Int), 0⟩
 | .bin op i e g a b => ⟨op, i, e, g, (ts.idxOf a : Int), (ts.idxOf b : Int)⟩
def nodesOf (ts : List Tr) : List NV := ts.map (nodeOf ts)
theorem nodesOf_len {ts : List Tr} : (nodesOf ts).length = ts.length := by simp [nodesOf]
theorem idx_pre {ts us : List Tr} (h : ts <+: us) {t : Tr} (ht : t ∈ ts) : us.idxOf t = ts.idxOf t := by
 obtain ⟨vs, rfl⟩ := h
 rw [List.idxOf_append, if_pos ht]
theorem nodeOf_pre {ts us : List Tr} (h : ts <+: us) {t : Tr} (ht : ∀ c ∈ kids t, c ∈ ts) : nodeOf us t = nodeOf ts t := by
 cases t with
 | leaf => rfl
 | un op i e g a => simp only [nodeOf]; rw [idx_pre h (ht a (by simp [kids]))]
 | bin op i e g a b => simp only [nodeOf]; rw [idx_pre h (ht a (by simp [kids])), idx_pre h (ht b (by simp [kids]))]
theorem nodesOf_snoc {ts : List Tr} (hc : Clo ts) {t : Tr} (ht : ∀ c ∈ kids t, c ∈ ts) : nodesOf (ts ++ [t]) = nodesOf ts ++ [nodeOf ts t] := by
 unfold nodesOf
 rw [List.map_append, List.map_singleton, nodeOf_pre (List.prefix_append _ _) ht]
 congr 1
 exact List.map_congr_left (fun u hu => nodeOf_pre (List.prefix_append _ _) (hc.mem hu))
theorem idx_inj {ts : List Tr} {a b : Tr} (ha : a ∈ ts) (hb : b ∈ ts) (h : ts.idxOf a = ts.idxOf b) : a = b := by
 have h1 := List.getElem_idxOf (List.idxOf_lt_length_iff.2 ha)
 have h2 := List.getElem_idxOf (List.idxOf_lt_length_iff.2 hb)
 rw [← h1, ← h2]
 congr 1
theorem nodeOf_inj {ts : List Tr} {t u : Tr} (ht : t.wf) (hu : u.wf) (h1 : ∀ c ∈ kids t, c ∈ ts) (h2 : ∀ c ∈ kids u, c ∈ ts) (h : nodeOf ts t = nodeOf ts u) : t = u := by
 cases t with
 | leaf op i e g =>
  cases u with
  | leaf op' i' e' g' => simp only [nodeOf, NV.mk.injEq] at h; obtain ⟨rfl, rfl, rfl, rfl, _⟩ := h; rfl
  | un op' i' e' g' a' => simp only [nodeOf, NV.mk.injEq] at h; obtain ⟨rfl, _⟩ := h; simp only [Tr.wf] at ht hu; rw [ht] at hu; cases hu.1
  | bin op' i' e' g' a' b' => simp only [nodeOf, NV.mk.injEq] at h; obtain ⟨rfl, _⟩ := h; simp only [Tr.wf] at ht hu; rw [usY_X hu.1] at ht; cases ht
 | un op i e g a =>
  cases u with
  | leaf op' i' e' g' => simp only [nodeOf, NV.mk.injEq] at h; obtain ⟨rfl, _⟩ := h; simp only [Tr.wf] at ht hu; rw [ht.1] at hu; cases hu
  | un op' i' e' g' a' =>
   simp only [nodeOf, NV.mk.injEq] at h; obtain ⟨rfl, rfl, rfl, rfl, hx, _⟩ := h
   rw [idx_inj (h1 a (by simp [kids])) (h2 a' (by simp [kids])) (by omega)]
  | bin op' i' e' g' a' b' => simp only [nodeOf, NV.mk.injEq] at h; obtain ⟨rfl, _⟩ := h; simp only [Tr.wf] at ht hu; rw [hu.1] at ht; cases ht.2.1
 | bin op i e g a b =>
  cases u with
  | leaf op' i' e' g' => simp only [nodeOf, NV.mk.injEq] at h; obtain ⟨rfl, _⟩ := h; simp only [Tr.wf] at ht hu; rw [usY_X ht.1] at hu; cases hu
  | un op' i' e' g' a' => simp only [nodeOf, NV.mk.injEq] at h; obtain ⟨rfl, _⟩ := h; simp only [Tr.wf] at ht hu; rw [ht.1] at hu; cases hu.2.1
  | bin op' i' e' g' a' b' =>
   simp only [nodeOf, NV.mk.injEq] at h; obtain ⟨rfl, rfl, rfl, rfl, hx, hy⟩ := h
   rw [idx_inj (h1 a (by simp [kids])) (h2 a' (by simp [kids])) (by omega), idx_inj (h1 b (by simp [kids])) (h2 b' (by simp [kids])) (by omega)]
theorem put_old {ts : List Tr} (hc : Clo ts) (hn : ts.Nodup) (hw : ∀ u ∈ ts, u.wf) {t : Tr} (ht : t ∈ ts) :
  (nodesOf ts)[ts.idxOf t]? = some (nodeOf ts t) ∧ ∀ k, k < ts.idxOf t → (nodesOf ts)[k]? ≠ some (nodeOf ts t) := by
 have hlt := List.idxOf_lt_length_iff.2 ht
 refine ⟨by rw [nodesOf, List.getElem?_map, List.getElem?_eq_getElem hlt, List.getElem_idxOf hlt]; rfl, fun k hk h => ?_⟩
 have hkl : k < ts.length := by omega
 rw [nodesOf, List.getElem?_map, List.getElem?_eq_getElem hkl, Option.map_some, Option.some.injEq] at h
 have h1 := nodeOf_inj (hw _ (List.getElem_mem hkl)) (hw t ht) (hc.mem (List.getElem_mem hkl)) (hc.mem ht) h
 have h2 : ts.idxOf t = k := by rw [← h1]; exact hn.idxOf_getElem k hkl
 omega
theorem put_new {ts : List Tr} (hc : Clo ts) (hw : ∀ u ∈ ts, u.wf) {t : Tr} (htw : t.wf) (hk : ∀ c ∈ kids t, c ∈ ts) (ht : t ∉ ts) : ∀ k : Nat, (nodesOf ts)[k]? ≠ some (nodeOf ts t) := fun k h => by
 rw [nodesOf, List.getElem?_map] at h
 obtain ⟨u, hu, he⟩ := Option.map_eq_some_iff.1 h
 have hm := List.mem_of_getElem? hu
 rw [nodeOf_inj (hw u hm) htw (hc.mem hm) hk he] at hm
 exact ht hm
theorem visit_wf (t : Tr) (ht : t.wf) : ∀ {ts : List Tr}, (∀ u ∈ ts, u.wf) → ∀ u ∈ visit t ts, u.wf := by
 induction t with
 | leaf op i e g =>
  intro ts h u hu
  rw [visit] at hu
  split at hu
  ·exact h u hu
  ·rcases List.mem_append.1 hu with hu | hu
   ·exact h u hu
   ·rw [List.mem_singleton.1 hu]; exact ht
 | un op i e g a iha =>
  intro ts h u hu
  rw [visit] at hu
  split at hu
  ·exact h u hu
  ·rcases List.mem_append.1 hu with hu | hu
   ·exact iha ht.2.2 h u hu
   ·rw [List.mem_singleton.1 hu]; exact ht
 | bin op i e g a b iha ihb =>
  intro ts h u hu
  rw [visit] at hu
  split at hu
  ·exact h u hu
  ·rcases List.mem_append.1 hu with hu | hu
   ·exact ihb ht.2.2 (iha ht.2.1 h) u hu
   ·rw [List.mem_singleton.1 hu]; exact ht
theorem trees_nodesOf {ts : List Tr} (hc : Clo ts) (hw : ∀ u ∈ ts, u.wf) : trees (nodesOf ts) = ts := by
 induction ts using snoc_ind with
 | h0 => rfl
 | h1 ts t ih =>
  have hk : ∀ c ∈ kids t, c ∈ ts := fun c h => by
   have := hc ts.length (by simp) c (by simpa using h)
   rwa [List.take_left' rfl] at this
  have hc' : Clo ts := fun k hk c h => by
   have := hc k (by simp; omega) c (by rw [List.getElem_append_left hk]; exact h)
   rwa [List.take_append_of_le_length (by omega)] at this
  rw [nodesOf_snoc hc' hk, trees_snoc, ih hc' (fun u hu => hw u (List.mem_append_left _ hu))]
  congr 2
  have htw := hw t (by simp)
  have hg : ∀ c ∈ ts, ts.getD ((ts.idxOf c : Int)).toNat tr0 = c := fun c h => by
   have hlt := List.idxOf_lt_length_iff.2 h
   rw [Int.toNat_natCast, List.getD_eq_getElem?_getD, List.getElem?_eq_getElem hlt, List.getElem_idxOf hlt]; rfl
  cases t with
  | leaf op i e g => exact (mkT_leaf (n := ⟨op, i, e, g, 0, 0⟩) htw)
  | un op i e g a =>
   refine (mkT_un (n := ⟨op, i, e, g, (ts.idxOf a : Int), 0⟩) htw.1 htw.2.1).trans ?_
   dsimp only [nodeOf]
   rw [hg a (hk a (by simp [kids]))]
  | bin op i e g a b =>
   refine (mkT_bin (n := ⟨op, i, e, g, (ts.idxOf a : Int), (ts.idxOf b : Int)⟩) htw.1).trans ?_
   dsimp only [nodeOf]
   rw [hg a (hk a (by simp [kids])), hg b (hk b (by simp [kids]))]
theorem visit_sub (t : Tr) : ∀ {ts us : List Tr}, Clo us → t ∈ us → ts ⊆ us → visit t ts ⊆ us := by
 induction t with
 | leaf op i e g =>
  intro ts us hc ht hs
  rw [visit]
  split
  ·exact hs
  ·exact List.append_subset.2 ⟨hs, by simpa using ht⟩
 | un op i e g a iha =>
  intro ts us hc ht hs
  rw [visit]
  split
  ·exact hs
  ·exact List.append_subset.2 ⟨iha hc (hc.mem ht a (by simp [kids])) hs, by simpa using ht⟩
 | bin op i e g a b iha ihb =>
  intro ts us hc ht hs
  rw [visit]
  split
  ·exact hs
  ·exact List.append_subset.2 ⟨ihb hc (hc.mem ht b (by simp [kids])) (iha hc (hc.mem ht a (by simp [kids])) hs), by simpa using ht⟩
def subT (t : Tr) : List Tr := visit t []
def canT (t : Tr) : List NV := nodesOf (subT t)
theorem subT_ok (t : Tr) : Vis t [] (subT t) := visit_ok t Clo.nil List.nodup_nil
theorem subT_wf {t : Tr} (h : t.wf) : ∀ u ∈ subT t, u.wf := visit_wf t h (fun u hu => by cases hu)
theorem trees_canT {t : Tr} (h : t.wf) : trees (canT t) = subT t := trees_nodesOf (subT_ok t).clo (subT_wf h)
theorem canT_len {t : Tr} : (canT t).length = (subT t).length := nodesOf_len
theorem subT_last (t : Tr) : ∃ l, subT t = l ++ [t] := by
 cases t with
 | leaf op i e g => exact ⟨[], by simp [subT, visit]⟩
 | un op i e g a => exact ⟨visit a [], by simp [subT, visit]⟩
 | bin op i e g a b => exact ⟨visit b (visit a []), by simp [subT, visit]⟩
def topT (f : List NV) : Tr := (trees f).getD (f.length - 1) tr0
theorem topT_canT {t : Tr} (h : t.wf) : topT (canT t) = t := by
 unfold topT
 rw [trees_canT h, canT_len]
 obtain ⟨l, hl⟩ := subT_last t
 rw [hl]
 simp
end Go.Proofs.Wit
