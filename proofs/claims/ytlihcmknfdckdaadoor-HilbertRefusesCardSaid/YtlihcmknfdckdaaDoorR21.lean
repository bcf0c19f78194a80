/- Laws of walks, for any program, under the conditions that each theorem states. -/
import Derived.Test.YtlihcmknfdckdaaDoorR04
import Derived.Test.YtlihcmknfdckdaaDoorR17
namespace Go.Proofs.Wit
open Go Go.RowKit
/-! a region that draws its order: the reads are those of a list rs, c turns memory, those of ls come behind both -/
def reachD (ops : Array Oper) : Nat → Nat → Nat → Bool
  | 0, _, _ => false
  | f + 1, i, j => (dirs ops i).any (fun e => Nat.beq e j || reachD ops f e j)
def drawXOk (ops : Array Oper) (_l : Fl) (rs : List Nat) (c : Nat) (ls : List Nat) : Bool :=
  Nat.blt c ops.size && rs.all (fun i => Nat.blt i ops.size && !Nat.beq i c) &&
  (List.range rs.length).all (fun p => (List.range p).all (fun q => Nat.blt (rs.getD q 0) (rs.getD p 0))) &&
  (List.range ops.size).all (fun i => (dirs ops i).all (fun j => Nat.blt j i)) &&
  rs.all (fun i => (dirs ops i).all (fun j => rs.contains j)) && (dirs ops c).all (fun j => rs.contains j) &&
  (c :: rs).all (fun i => match ops[i]? with
    | none => false
    | some o => notSel o.op && match o.dst with
      | none => false
      | some d => (c :: rs).all (fun j => Nat.beq j i || !(dstOf ops j == some d)) &&
        (eyes ops o).all (fun s => (c :: rs).all (fun j => !(dstOf ops j == some s) || (dirs ops i).contains j))) &&
  (List.range ops.size).all (fun i => (c :: rs).contains i || (dirs ops i).any (fun j => !(c :: rs).contains j) || (c :: rs).all (fun j => reachD ops ops.size i j)) &&
  forced ops (c :: rs) ls
structure DrawXFacts (ops : Array Oper) (rs : List Nat) (c : Nat) (ls : List Nat) : Prop where
  size : c < ops.size
  rsz : ∀ i ∈ rs, i < ops.size ∧ i ≠ c
  inc : ∀ q p, q < p → p < rs.length → rs.getD q 0 < rs.getD p 0
  lt : ∀ i, i < ops.size → ∀ j ∈ dirs ops i, j < i
  rdir : ∀ i ∈ rs, ∀ j ∈ dirs ops i, j ∈ rs
  cdir : ∀ j ∈ dirs ops c, j ∈ rs
  sel : ∀ i, (i = c ∨ i ∈ rs) → ∀ o, ops[i]? = some o → notSel o.op = true
  inj : ∀ i j d, (i = c ∨ i ∈ rs) → (j = c ∨ j ∈ rs) → dstOf ops i = some d → dstOf ops j = some d → i = j
  eye : ∀ i, (i = c ∨ i ∈ rs) → ∀ o, ops[i]? = some o → ∀ s ∈ eyes ops o, ∀ j, (j = c ∨ j ∈ rs) → dstOf ops j = some s → j ∈ dirs ops i
  late : ∀ i, i < ops.size → ¬ (i = c ∨ i ∈ rs) → (∃ j ∈ dirs ops i, ¬ (j = c ∨ j ∈ rs)) ∨ ∀ j, (j = c ∨ j ∈ rs) → reachD ops ops.size i j = true
  forc : forced ops (c :: rs) ls = true
section
variable {P : Program} {r : Option Nat} {f : FuncId} {R : Value → World → Prop} {w0 : World} {S : List Nat} {Y : List (Nat × Obj)} {n : Nat} {k : List Item} {l : Fl} {h : Hl} {ops : Array Oper}
theorem xfacts_of {rs ls : List Nat} {c : Nat} (hc : drawXOk ops l rs c ls = true) : DrawXFacts ops rs c ls := by
  simp only [drawXOk, Bool.and_eq_true, List.all_eq_true, List.mem_range, Nat.blt_eq, Bool.or_eq_true, List.contains_iff_mem, List.any_eq_true, Bool.not_eq_true', List.mem_cons] at hc
  obtain ⟨⟨⟨⟨⟨⟨⟨⟨hsz, hrsz⟩, hinc⟩, hlt⟩, hrd⟩, hcd⟩, hr⟩, hla⟩, hfo⟩ := hc
  have hat : ∀ i, (i = c ∨ i ∈ rs) → ∃ o d, ops[i]? = some o ∧ o.dst = some d ∧ notSel o.op = true ∧ (∀ j, (j = c ∨ j ∈ rs) → j = i ∨ dstOf ops j ≠ some d) ∧ (∀ s ∈ eyes ops o, ∀ j, (j = c ∨ j ∈ rs) → dstOf ops j ≠ some s ∨ j ∈ dirs ops i) := by
    intro i hi
    have := hr i hi
    cases ho : ops[i]? with
    | none => simp [ho] at this
    | some o =>
      cases hd : o.dst with
      | none => simp [ho, hd] at this
      | some d =>
        simp only [ho, hd, Bool.and_eq_true, List.all_eq_true, Bool.or_eq_true, Nat.beq_eq, Bool.not_eq_true', beq_eq_false_iff_ne, List.contains_iff_mem, List.mem_cons] at this
        exact ⟨o, d, rfl, hd, this.1, fun j hj => this.2.1 j hj, fun s hs j hj => this.2.2 s hs j hj⟩
  refine ⟨hsz, fun i hi => ⟨(hrsz i hi).1, fun e => by have := (hrsz i hi).2; rw [e] at this; simp at this⟩, fun q p hq hp => hinc p hp q hq, hlt, hrd, hcd, fun i hi o ho => ?_, fun i j d hi hj h1 h2 => ?_, fun i hi o ho s hs j hj hd => ?_, fun i h1 h2 => ?_, hfo⟩
  · obtain ⟨o', d, e1, _, e3, _⟩ := hat i hi
    rw [ho] at e1; cases e1; exact e3
  · obtain ⟨o, d', e1, e2, _, e5, _⟩ := hat i hi
    have : d' = d := by simp [dstOf, e1, e2] at h1; exact h1
    subst this
    rcases e5 j hj with e | e
    · exact e.symm
    · exact absurd h2 e
  · obtain ⟨o', d, e1, _, _, _, e6⟩ := hat i hi
    rw [ho] at e1; cases e1
    rcases e6 s hs j hj with e | e
    · exact absurd hd e
    · exact e
  · rcases hla i h1 with (e | ⟨j, e1, e2⟩) | e
    · exact absurd e h2
    · refine .inl ⟨j, e1, fun hx => ?_⟩
      have : (c :: rs).contains j = true := by rw [List.contains_iff_mem, List.mem_cons]; exact hx
      rw [this] at e2; cases e2
    · exact .inr e
theorem reach_listed {listed : Nat → Bool} (hcl : ∀ j, listed j = true → ∀ e ∈ dirs ops j, listed e = true) : ∀ {f i j : Nat}, reachD ops f i j = true → (∀ e ∈ dirs ops i, listed e = true) → listed j = true
  | 0, _, _, h, _ => by cases h
  | f + 1, i, j, h, hd => by
    rw [reachD, List.any_eq_true] at h
    obtain ⟨e, he, h⟩ := h
    rw [Bool.or_eq_true, Nat.beq_eq] at h
    rcases h with rfl | h
    · exact hd e he
    · exact reach_listed hcl h (hcl e (hd e he))
def RdXS (P : Program) (w0 : World) (S : List Nat) (n : Nat) (Hs : Hl → Prop) (ops : Array Oper) (F : Array Value → Prop) : List Nat → Array Value → Prop
  | [], t => F t
  | i :: rs, t => ∃ d v, (∀ h', Hs h' → Outc P w0 S n h' ops i t d v) ∧ RdXS P w0 S n Hs ops F rs (t.setIfInBounds d v)
theorem RdXS.seq {Hs : Hl → Prop} {F : Array Value → Prop} : ∀ {rs : List Nat} {t : Array Value}, RdXS P w0 S n Hs ops F rs t → ∃ (D : Nat → Nat) (V : Nat → Value), (∀ j, j < rs.length → ∀ h', Hs h' → Outc P w0 S n h' ops (rs.getD j 0) (tsq D V t j) (D j) (V j)) ∧ F (tsq D V t rs.length)
  | [], t, hF => ⟨fun _ => 0, fun _ => undef, fun j hj => absurd hj (Nat.not_lt_zero _), hF⟩
  | i :: rs, t, ⟨d, v, ho, hr⟩ => by
    obtain ⟨D, V, h1, h2⟩ := RdXS.seq hr
    refine ⟨fun j => match j with | 0 => d | j + 1 => D j, fun j => match j with | 0 => v | j + 1 => V j, fun j hj => ?_, ?_⟩
    · cases j with
      | zero => exact ho
      | succ j =>
        have := h1 j (by simpa using hj)
        rw [tsq_shift]
        simpa using this
    · rw [List.length_cons, tsq_shift]; exact h2
def RdX (P : Program) (w0 : World) (S : List Nat) (n : Nat) (Hs : Hl → Prop) (ops : Array Oper) (F : Fl → Prop) (rs : List Nat) (l : Fl) : Prop :=
  ∀ t, Frm n t l → RdXS P w0 S n Hs ops (fun t' => ∃ l', Frm n t' l' ∧ F l') rs t
theorem RdX.nil {Hs : Hl → Prop} {F : Fl → Prop} (hg : F l) : RdX P w0 S n Hs ops F [] l := fun _ hF => ⟨l, hF, hg⟩
theorem RdX.v {Hs : Hl → Prop} {F : Fl → Prop} {i : Nat} {rs : List Nat} (d : Nat) (v : Value) (hd : Nat.blt d n = true) (hv : ∀ h', Hs h' → Vop P w0 S n h' ops i l d v) (hg : RdX P w0 S n Hs ops F rs ((d, v) :: l)) : RdX P w0 S n Hs ops F (i :: rs) l := by
  intro t hF
  refine ⟨d, v, fun h' hh => ?_, hg _ (hF.put v hd)⟩
  obtain ⟨o, ho, hw, hdst, hnd, hd, hr⟩ := hv h' hh
  exact ⟨o, ho, hdst, by simpa [Nat.blt_eq] using hd, hnd, .inl ⟨want_of hF hw, fun w Ds Y' hS => by obtain ⟨nx, h1, rfl⟩ := hr t w Ds Y' hF hS; exact .inl h1⟩⟩
theorem mutX_core {c : Nat} {rs ls : List Nat} (hf : DrawXFacts ops rs c ls) {Hs : Hl → Prop} (hh0 : Hs h) {D : Nat → Nat} {V : Nat → Value} {t0 : Array Value} (ht0 : t0.size = n) {l' : Fl} {d : Nat} {K : Value → Hl → Prop}
    (hout : ∀ j, j < rs.length → ∀ h', Hs h' → Outc P w0 S n h' ops (rs.getD j 0) (tsq D V t0 j) (D j) (V j)) (hFr : Frm n (tsq D V t0 rs.length) l') (hm : Mop P w0 S n h ops c l' d K)
    (hK : ∀ v h', K v h' → Hs h' ∧ GoH P r f R w0 S Y n (.inRegion ops ls :: k) ((d, v) :: l') h') :
    ∀ (fuel τ : Nat) (arr : Array Bool) (t : Array Value), arr.size = ops.size → (∀ j, arr.getD j false = true → ∀ e ∈ dirs ops j, arr.getD e false = true) → (∀ j, ¬ (j = c ∨ j ∈ rs) → arr.getD j false = false) → t.size = n →
      (∀ j, j < rs.length → arr.getD (rs.getD j 0) false = true → t.getD (D j) undef = V j) → (∀ s, (∀ j, j < rs.length → arr.getD (rs.getD j 0) false = true → D j ≠ s) → (arr.getD c false = true → d ≠ s) → t.getD s undef = t0.getD s undef) →
      (List.range ops.size).countP (fun j => !arr.getD j false) ≤ fuel → ∀ w Ds,
      (arr.getD c false = false ∧ St w0 S w h (mkY Ds ++ Y) ∨ arr.getD c false = true ∧ ∃ v h', K v h' ∧ t.getD d undef = v ∧ St w0 S w h' (mkY Ds ++ Y)) →
      Gos P r f R (.inRegion ops (Region.linearise.go .any ops fuel τ arr []) :: k) t (Ds.map mark) w := by
  have hmem : ∀ j, j < rs.length → rs.getD j 0 ∈ rs := fun j hj => by rw [List.getD_eq_getElem?_getD, List.getElem?_eq_getElem hj]; exact List.getElem_mem hj
  have hpos : ∀ i, i ∈ rs → ∃ j, j < rs.length ∧ rs.getD j 0 = i := fun i hi => by
    obtain ⟨j, hj, rfl⟩ := List.mem_iff_getElem.1 hi
    exact ⟨j, hj, by rw [List.getD_eq_getElem?_getD, List.getElem?_eq_getElem hj]; rfl⟩
  have hpinj : ∀ i j, i < rs.length → j < rs.length → rs.getD i 0 = rs.getD j 0 → i = j := fun i j hi hj e => by
    rcases Nat.lt_trichotomy i j with h1 | h1 | h1
    · have := hf.inc i j h1 hj; omega
    · exact h1
    · have := hf.inc j i h1 hi; omega
  have hDst : ∀ j, j < rs.length → dstOf ops (rs.getD j 0) = some (D j) := fun j hj => by
    obtain ⟨o, h1, h2, _⟩ := hout j hj h hh0
    unfold dstOf; rw [h1]; exact h2
  have hdst : dstOf ops c = some d := by
    obtain ⟨o, h1, h2, _⟩ := hm
    simp [dstOf, h1, h2]
  have hdn : d < n := by
    obtain ⟨o, _, _, _, _, h5, _⟩ := hm
    simpa [Nat.blt_eq] using h5
  have hDlt : ∀ j, j < rs.length → D j < t0.size := fun j hj => by
    obtain ⟨o, _, _, h3, _⟩ := hout j hj h hh0; omega
  have hDinj : ∀ i j, i < rs.length → j < rs.length → D i = D j → i = j := fun i j hi hj e => hpinj i j hi hj (hf.inj _ _ (D i) (.inr (hmem i hi)) (.inr (hmem j hj)) (hDst i hi) (by rw [hDst j hj, e]))
  have hDd : ∀ j, j < rs.length → D j ≠ d := fun j hj e =>
    (hf.rsz _ (hmem j hj)).2 (hf.inj _ c d (.inr (hmem j hj)) (.inl rfl) (by rw [hDst j hj, e]) hdst)
  have fin : ∀ (fuel τ : Nat) (arr : Array Bool) (t : Array Value), arr.size = ops.size → (∀ j, ¬ (j = c ∨ j ∈ rs) → arr.getD j false = false) → t.size = n → (∀ j, (j = c ∨ j ∈ rs) → arr.getD j false = true) →
      (∀ j, j < rs.length → arr.getD (rs.getD j 0) false = true → t.getD (D j) undef = V j) → (∀ s, (∀ j, j < rs.length → arr.getD (rs.getD j 0) false = true → D j ≠ s) → (arr.getD c false = true → d ≠ s) → t.getD s undef = t0.getD s undef) →
      (List.range ops.size).countP (fun j => !arr.getD j false) ≤ fuel → ∀ w Ds v h', K v h' → t.getD d undef = v → St w0 S w h' (mkY Ds ++ Y) →
      Gos P r f R (.inRegion ops (Region.linearise.go .any ops fuel τ arr []) :: k) t (Ds.map mark) w := by
    intro fuel τ arr t has hno hts hall h1 h2 hc w Ds v h' hKv hv hS
    have harr : ∀ j, arr.getD j false = (c :: rs).contains j := fun j => by
      by_cases hj : j = c ∨ j ∈ rs
      · rw [hall j hj]; symm; rw [List.contains_iff_mem, List.mem_cons]; exact hj
      · rw [hno j hj]; symm; rw [← Bool.not_eq_true, List.contains_iff_mem, List.mem_cons]; exact hj
    have hlen := forced_len hf.forc
    have hcnt : (List.range ops.size).countP (fun j => !(c :: rs).contains j) = (List.range ops.size).countP (fun j => !arr.getD j false) := by
      congr 1; funext j; rw [harr j]
    rw [forced_go hf.forc has harr (by omega)]
    have ht : t = (tsq D V t0 rs.length).setIfInBounds d v := by
      obtain ⟨g1, g2⟩ := tsq_get hDlt hDinj rs.length (Nat.le_refl _)
      have hdT : d < (tsq D V t0 rs.length).size := by rw [tsq_size]; omega
      refine Array.ext_getElem? (fun s => opt_of_getD (by rw [hts, Array.size_setIfInBounds, tsq_size, ht0]) ?_)
      rw [getD_set hdT]
      by_cases hs : d = s
      · subst hs; rw [if_pos rfl, hv]
      · rw [if_neg hs]
        by_cases hx : ∃ j, j < rs.length ∧ D j = s
        · obtain ⟨j, hj, rfl⟩ := hx
          rw [h1 j hj (hall _ (.inr (hmem j hj))), g1 j hj]
        · rw [h2 s (fun j hj _ e => hx ⟨j, hj, e⟩) (fun _ => hs), g2 s (fun j hj e => hx ⟨j, hj, e⟩)]
    rw [ht]
    exact (hK v h' hKv).2 _ w Ds (hFr.put v (by simpa [Nat.blt_eq] using hdn)) hS
  intro fuel
  induction fuel with
  | zero =>
    intro τ arr t has hcl hno hts h1 h2 hc w Ds hmm
    have hl : ∀ j, j < ops.size → arr.getD j false = true := fun j hj => by
      have := List.countP_eq_zero.1 (Nat.le_zero.1 hc) j (by simpa using hj)
      simpa using this
    have hsz := hf.size
    rcases hmm with ⟨h3, _⟩ | ⟨_, v, h', h4, h5, h6⟩
    · rw [hl c hsz] at h3; cases h3
    · exact fin 0 τ arr t has hno hts (fun j hj => hl j (by rcases hj with rfl | hj; exact hsz; exact (hf.rsz j hj).1)) h1 h2 hc w Ds v h' h4 h5 h6
  | succ fuel ih =>
    intro τ arr t has hcl hno hts h1 h2 hc w Ds hmm
    have hsz := hf.size
    by_cases hall : ∀ j, (j = c ∨ j ∈ rs) → arr.getD j false = true
    · rcases hmm with ⟨h3, _⟩ | ⟨_, v, h', h4, h5, h6⟩
      · rw [hall c (.inl rfl)] at h3; cases h3
      · exact fin (fuel + 1) τ arr t has hno hts hall h1 h2 hc w Ds v h' h4 h5 h6
    · obtain ⟨j0, hj0⟩ := Classical.not_forall.1 hall
      obtain ⟨hj0c, hj0u⟩ := Classical.not_imp.1 hj0
      rw [Bool.not_eq_true] at hj0u
      have hj0s : j0 < ops.size := by rcases hj0c with rfl | hj; exact hsz; exact (hf.rsz j0 hj).1
      have hready : Region.ready .any ops arr ≠ [] := by
        have key : ∀ q, q < ops.size → arr.getD q false = false → Region.ready .any ops arr ≠ [] := by
          intro q
          induction q using Nat.strongRecOn with
          | _ q ihq =>
            intro hq hqu
            by_cases hb : ∃ e ∈ dirs ops q, arr.getD e false = false
            · obtain ⟨e, he, heu⟩ := hb
              have hlt := hf.lt q hq e he
              exact ihq e hlt (by omega) heu
            · obtain ⟨o, ho⟩ : ∃ o, ops[q]? = some o := ⟨ops[q], Array.getElem?_eq_getElem hq⟩
              have : q ∈ Region.ready .any ops arr := by
                rw [mem_ready]
                refine ⟨by rw [getD_tf (by omega)]; exact hqu, o, ho, fun e he hbd => ?_⟩
                cases hx : arr.getD e.on false with
                | true => rfl
                | false => exact absurd ⟨e.on, (mem_dirs ho).2 ⟨e, he, hbd, rfl⟩, hx⟩ hb
              exact List.ne_nil_of_mem this
        exact key j0 hj0s hj0u
      simp only [Region.linearise.go]
      change Gos P r f R (.inRegion ops (match (Region.ready .any ops arr)[τ % (Region.ready .any ops arr).length]? with
        | some i => Region.linearise.go .any ops fuel (τ / (Region.ready .any ops arr).length) (arr.setIfInBounds i true) [i]
        | none => [].reverse) :: k) t (Ds.map mark) w
      cases hi : (Region.ready .any ops arr)[τ % (Region.ready .any ops arr).length]? with
      | none =>
        exfalso
        cases hr : Region.ready .any ops arr with
        | nil => exact hready hr
        | cons x xs =>
          rw [hr] at hi
          have hlt : τ % (x :: xs).length < (x :: xs).length := Nat.mod_lt _ (by simp)
          rw [List.getElem?_eq_getElem hlt] at hi; cases hi
      | some i =>
        have hmemi := List.mem_of_getElem? hi
        rw [mem_ready] at hmemi
        obtain ⟨hu, o, ho, hdep⟩ := hmemi
        have hiN : i < ops.size := (Array.getElem?_eq_some_iff.1 ho).1
        rw [getD_tf (by omega)] at hu
        simp only []
        rw [linearise_go_acc, List.reverse_singleton, List.singleton_append]
        have hdl : ∀ e ∈ dirs ops i, arr.getD e false = true := fun e he => by
          obtain ⟨e', he', hb, rfl⟩ := (mem_dirs ho).1 he
          exact hdep e' he' hb
        have hic : i = c ∨ i ∈ rs := by
          apply Classical.byContradiction
          intro hgt
          rcases hf.late i hiN hgt with ⟨j, e1, e2⟩ | e
          · have := hdl j e1; rw [hno j e2] at this; cases this
          · have := reach_listed (ops := ops) (listed := fun j => arr.getD j false) hcl (e j0 hj0c) hdl
            rw [hj0u] at this; cases this
        have hcl' : ∀ j, (arr.setIfInBounds i true).getD j false = true → ∀ e ∈ dirs ops j, (arr.setIfInBounds i true).getD e false = true := by
          intro j hj e he
          rw [getD_listed (by omega)] at hj ⊢
          split
          · rfl
          · split at hj
            · rename_i hij; subst hij; exact hdl e he
            · exact hcl j hj e he
        have hno' : ∀ j, ¬ (j = c ∨ j ∈ rs) → (arr.setIfInBounds i true).getD j false = false := fun j hj => by
          rw [getD_listed (by omega), if_neg (fun e : i = j => hj (by rw [← e]; exact hic))]; exact hno j hj
        have hcnt := count_set (listed := arr) has hiN hu
        by_cases him : i ∈ rs
        · -- a read
          obtain ⟨p, hp, hpe⟩ := hpos i him
          have heyes : ∀ o', ops[i]? = some o' → ∀ s ∈ eyes ops o', t.getD s undef = (tsq D V t0 p).getD s undef := fun o' ho' s hs => by
            obtain ⟨g1, g2⟩ := tsq_get hDlt hDinj p (by omega)
            by_cases hx : ∃ j, j < rs.length ∧ D j = s
            · obtain ⟨j, hj, rfl⟩ := hx
              have hjd := hf.eye i hic o' ho' (D j) hs _ (.inr (hmem j hj)) (hDst j hj)
              have hjp : j < p := by
                have h3 := hf.lt i hiN _ hjd
                rw [← hpe] at h3
                rcases Nat.lt_trichotomy j p with h4 | h4 | h4
                · exact h4
                · subst h4; omega
                · have := hf.inc p j h4 hj; omega
              rw [h1 j hj (hdl _ hjd), g1 j hjp]
            · have hsd : arr.getD c false = true → d ≠ s := fun _ e => by
                subst e
                have := hf.rdir i him c (hf.eye i hic o' ho' d hs c (.inl rfl) hdst)
                exact (hf.rsz c this).2 rfl
              rw [h2 s (fun j hj _ e => hx ⟨j, hj, e⟩) hsd, g2 s (fun j hj e => hx ⟨j, by omega, e⟩)]
          have hOut : ∀ h', Hs h' → Outc P w0 S n h' ops i t (D p) (V p) := fun h' hh => by
            have := hout p hp h' hh
            rw [hpe] at this
            exact this.congr (hf.sel i hic) (by rw [hts, tsq_size, ht0]) heyes
          have hDi : D p < t.size := by rw [hts, ← ht0]; exact hDlt p hp
          have hcc : (arr.setIfInBounds i true).getD c false = arr.getD c false := by rw [getD_listed (by omega), if_neg ((hf.rsz i him).2)]
          have next : ∀ w', (arr.getD c false = false ∧ St w0 S w' h (mkY Ds ++ Y) ∨ arr.getD c false = true ∧ ∃ v h', K v h' ∧ t.getD d undef = v ∧ St w0 S w' h' (mkY Ds ++ Y)) →
              Gos P r f R (.inRegion ops (Region.linearise.go .any ops fuel (τ / (Region.ready .any ops arr).length) (arr.setIfInBounds i true) []) :: k) (t.setIfInBounds (D p) (V p)) (Ds.map mark) w' := fun w' hmem' => by
            refine ih _ _ _ (by simpa using has) hcl' hno' (by simpa using hts) (fun j hj hlj => ?_) (fun s hs hsd => ?_) (by omega) w' Ds ?_
            · rw [getD_set hDi]
              split
              · rename_i e; rw [hDinj p j hp hj e]
              · rename_i e
                rw [getD_listed (by omega)] at hlj
                split at hlj
                · rename_i e2; exact absurd (by rw [hpinj p j hp hj (by rw [hpe, e2])]) e
                · exact h1 j hj hlj
            · rw [getD_set hDi, if_neg (hs p hp (by rw [hpe, getD_listed (by omega), if_pos rfl]))]
              refine h2 s (fun j hj hlj => hs j hj ?_) (fun hx => hsd (by rw [hcc]; exact hx))
              rw [getD_listed (by omega)]; split
              · rfl
              · exact hlj
            · rw [hcc, getD_set hDi, if_neg (hDd p hp)]; exact hmem'
          rcases hmm with ⟨h3, hS⟩ | ⟨h3, v, h', h4, h5, hS⟩
          · exact (hOut h hh0).go hS (fun w' hS' => next w' (.inl ⟨h3, hS'⟩))
          · exact (hOut h' (hK v h' h4).1).go hS (fun w' hS' => next w' (.inr ⟨h3, v, h', h4, h5, hS'⟩))
        · -- the operation that turns memory
          have hice : i = c := by rcases hic with e | e; exact e; exact absurd e him
          subst hice
          have heyes : ∀ o', ops[i]? = some o' → ∀ s ∈ eyes ops o', t.getD s undef = (tsq D V t0 rs.length).getD s undef := fun o' ho' s hs => by
            obtain ⟨g1, g2⟩ := tsq_get hDlt hDinj rs.length (Nat.le_refl _)
            by_cases hx : ∃ j, j < rs.length ∧ D j = s
            · obtain ⟨j, hj, rfl⟩ := hx
              have hjd := hf.eye i hic o' ho' (D j) hs _ (.inr (hmem j hj)) (hDst j hj)
              rw [h1 j hj (hdl _ hjd), g1 j hj]
            · have hsd : arr.getD i false = true → d ≠ s := fun _ e => by
                subst e
                have := hf.lt i hiN i (hf.eye i hic o' ho' d hs i (.inl rfl) hdst)
                omega
              rw [h2 s (fun j hj _ e => hx ⟨j, hj, e⟩) hsd, g2 s (fun j hj e => hx ⟨j, hj, e⟩)]
          rcases hmm with ⟨h3, hS⟩ | ⟨h3, _⟩
          · refine Mop.go hm hFr (by rw [hts, tsq_size, ht0]) heyes hS (fun v w' h' hKv hS' => ?_)
            have hdt : d < t.size := by omega
            refine ih _ _ _ (by simpa using has) hcl' hno' (by simpa using hts) (fun j hj hlj => ?_) (fun s hs hsd => ?_) (by omega) w' Ds ?_
            · rw [getD_set hdt, if_neg (fun e => hDd j hj e.symm)]
              rw [getD_listed (by omega), if_neg (fun e : i = rs.getD j 0 => him (by rw [e]; exact hmem j hj))] at hlj
              exact h1 j hj hlj
            · rw [getD_set hdt, if_neg (hsd (by rw [getD_listed (by omega), if_pos rfl]))]
              refine h2 s (fun j hj hlj => hs j hj ?_) (fun hx => by rw [h3] at hx; cases hx)
              rw [getD_listed (by omega), if_neg (fun e : i = rs.getD j 0 => him (by rw [e]; exact hmem j hj))]; exact hlj
            · refine .inr ⟨by rw [getD_listed (by omega), if_pos rfl], v, h', hKv, ?_, hS'⟩
              rw [getD_set hdt, if_pos rfl]
          · rw [hu] at h3; cases h3
theorem GoH.drawX {id : Nat} (rs : List Nat) (c : Nat) (ls : List Nat) (Hs : Hl → Prop) (hmix : P.follows .mixedOrders = true) (hc : drawXOk ops l rs c ls = true) (hh0 : Hs h)
    (hg : RdX P w0 S n Hs ops (fun l' => ∃ d K, Mop P w0 S n h ops c l' d K ∧ ∀ v h', K v h' → Hs h' ∧ GoH P r f R w0 S Y n (.inRegion ops ls :: k) ((d, v) :: l') h') rs l) : GoH P r f R w0 S Y n (.code (.region id ops true) :: k) l h := by
  intro t w Ds hF hS
  have hf := xfacts_of hc
  refine .regionDraw (fun τ => ?_)
  obtain ⟨D, V, hout, l', hFr, d, K, hm, hK⟩ := (hg t hF).seq
  simp only [Region.schedule, hmix, Bool.true_or, if_true, Region.linearise]
  have h0 : ∀ j, (Array.replicate ops.size false).getD j false = false := fun j => by
    simp [Array.getD_eq_getD_getElem?, Array.getElem?_replicate]; split <;> simp
  refine mutX_core hf hh0 hF.1 hout hFr hm hK ops.size τ _ t (by simp) (fun j hj => ?_) (fun j _ => h0 j) hF.1 (fun j _ hj => ?_) (fun s _ _ => rfl) ?_ _ Ds (.inl ⟨h0 c, hS.drew⟩)
  · rw [h0 j] at hj; cases hj
  · rw [h0 _] at hj; cases hj
  · exact Nat.le_trans (List.countP_le_length) (by simp)
end
end Go.Proofs.Wit
namespace Go.Proofs.Wit
open Go Go.RowKit
/-! the memo of negation normal forms: two maps -/
abbrev Nm := List (Int × FV)
section
variable {P : Program} {r : Option Nat} {f : FuncId} {R : Value → World → Prop} {w0 : World} {S : List Nat} {Y : List (Nat × Obj)} {n : Nat} {k : List Item} {l : Fl} {hb : Option Nat × Obj} {ht : Hl} {ops : Array Oper} {c : Nat} {ls : List Nat}
end
abbrev nmH (m0 : Nat) (L0 : Nm) (m1 : Nat) (L1 : Nm) : Hl := [(some m0, mobj (Value.int .i64) FV.v L0), (some m1, mobj (Value.int .i64) FV.v L1)]
abbrev nmBk (na : Option Addr) (nl nc m0 m1 : Nat) : Array Value := #[.slice na nl nc, .map (some m0), .map (some m1)]
structure NMemo (c : List NV) (L0 L1 : Nm) : Prop where
  e0 : ∀ e ∈ L0, ∃ k : Nat, e.1 = (k : Int) ∧ e.2.f = bT (nnT (treeAt c k)).1
  e1 : ∀ e ∈ L1, ∃ k : Nat, e.1 = (k : Int) ∧ e.2.f = bT (nnT (treeAt c k)).2
def Held (t : TypeId) (L0 L1 : Nm) (F : Hl) (x : FV) : Prop := x.In t F ∨ (∃ k, (k, x) ∈ L0) ∨ ∃ k, (k, x) ∈ L1
structure NGrew (t : TypeId) (c : List NV) (d : Nat) (L0 L1 L0' L1' : Nm) (F : Hl) : Prop where
  memo : NMemo c L0' L1'
  s0 : L0 ⊆ L0'
  s1 : L1 ⊆ L1'
  n0 : ∀ e ∈ L0', e ∈ L0 ∨ (e.1 < (d : Int) ∧ Held t L0 L1 F e.2)
  n1 : ∀ e ∈ L1', e ∈ L1 ∨ (e.1 < (d : Int) ∧ Held t L0 L1 F e.2)
section
variable {t : TypeId} {c : List NV}
structure NPre (t tn : TypeId) (c : List NV) (na : Option Addr) (nc bk m0 m1 : Nat) (w : World) (L0 L1 : Nm) : Prop where
  has : HasH w (nmH m0 L0 m1 L1)
  blk : w.heap[bk]? = some (.cells (nmBk na c.length nc m0 m1) tn (0, 0))
  fa : FA w na c
  f0 : ∀ e ∈ L0, FA w e.2.a e.2.f
  f1 : ∀ e ∈ L1, FA w e.2.a e.2.f
  memo : NMemo c L0 L1
variable {tn : TypeId} {na : Option Addr} {nc bk m0 m1 : Nat} {w : World} {L0 L1 : Nm}
end
section
variable {P : Program} {r : Option Nat} {f : FuncId} {R : Value → World → Prop} {w0 : World} {Y : List (Nat × Obj)} {n : Nat} {k : List Item} {l : Fl} {hb : Option Nat × Obj} {ops : Array Oper} {i d : Nat} {rest : List Nat} {ty : TypeId} {pos : String} {aft : Array Edge} {g : Option (Nat × Bool)}
variable {az : Array Operand} {ts : Array TypeId} {cal : Operand} {gf : FuncId} {vs : List Value} {t tn : TypeId} {c : List NV} {na : Option Addr} {nc bk m0 m1 D D' : Nat} {L0 L1 La Lb : Nm} {F : Hl} {u : Tr}
end
theorem bT_max {f : List NV} {t : Tr} (h : f = bT t) : f.length ≤ maxLen := by
  rw [h]; have := bT_le t; unfold maxLen; omega
end Go.Proofs.Wit
