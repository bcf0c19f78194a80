/- Laws of walks, for any program, under the conditions that each theorem states. -/
import Derived.Test.YtkoipdlkkchmiaaF03
import Derived.Test.YtkoipdlkkchmiaaF23
namespace Go.Proofs.Wit
open Go Go.RowKit
/-! a region that draws its order: the reads are those of a list rs, c turns memory, those of ls come behind both -/
def reachD (ops : Array Oper) : Nat → Nat → Nat → Bool
  | 0, _, _ => false
  | f + 1, i, j => (dirs ops i).any (fun e => Nat.beq e j || reachD ops f e j)
def drawXOk (ops : Array Oper) (_l : Fl) (rs : List Nat) (c : Nat) (ls : List Nat) : Bool :=
  Nat.blt c ops.size && rs.all (fun i => Nat.blt i ops.size && !Nat.beq i c) &&
  (List.range rs.length).all (fun p => (List.range p).all (fun q => Nat.blt (rs.getD q 0) (rs.getD p 0))) &&
  (List.range ops.size).all (fun i => (dirs ops i).all (fun j => Nat.blt j i)) &&
  rs.all (fun i => (dirs ops i).all (fun j => rs.contains j)) && (dirs ops c).all (fun j => rs.contains j) &&
  (c :: rs).all (fun i => match ops[i]? with
    | none => false
    | some o => notSel o.op && match o.dst with
      | none => false
      | some d => (c :: rs).all (fun j => Nat.beq j i || !(dstOf ops j == some d)) &&
        (eyes ops o).all (fun s => (c :: rs).all (fun j => !(dstOf ops j == some s) || (dirs ops i).contains j))) &&
  (List.range ops.size).all (fun i => (c :: rs).contains i || (dirs ops i).any (fun j => !(c :: rs).contains j) || (c :: rs).all (fun j => reachD ops ops.size i j)) &&
  forced ops (c :: rs) ls
structure DrawXFacts (ops : Array Oper) (rs : List Nat) (c : Nat) (ls : List Nat) : Prop where
  size : c < ops.size
  rsz : ∀ i ∈ rs, i < ops.size ∧ i ≠ c
  inc : ∀ q p, q < p → p < rs.length → rs.getD q 0 < rs.getD p 0
  lt : ∀ i, i < ops.size → ∀ j ∈ dirs ops i, j < i
  rdir : ∀ i ∈ rs, ∀ j ∈ dirs ops i, j ∈ rs
  cdir : ∀ j ∈ dirs ops c, j ∈ rs
  sel : ∀ i, (i = c ∨ i ∈ rs) → ∀ o, ops[i]? = some o → notSel o.op = true
  inj : ∀ i j d, (i = c ∨ i ∈ rs) → (j = c ∨ j ∈ rs) → dstOf ops i = some d → dstOf ops j = some d → i = j
  eye : ∀ i, (i = c ∨ i ∈ rs) → ∀ o, ops[i]? = some o → ∀ s ∈ eyes ops o, ∀ j, (j = c ∨ j ∈ rs) → dstOf ops j = some s → j ∈ dirs ops i
  late : ∀ i, i < ops.size → ¬ (i = c ∨ i ∈ rs) → (∃ j ∈ dirs ops i, ¬ (j = c ∨ j ∈ rs)) ∨ ∀ j, (j = c ∨ j ∈ rs) → reachD ops ops.size i j = true
  forc : forced ops (c :: rs) ls = true
section
variable {P : Program} {r : Option Nat} {f : FuncId} {R : Value → World → Prop} {w0 : World} {S : List Nat} {Y : List (Nat × Obj)} {n : Nat} {k : List Item} {l : Fl} {h : Hl} {ops : Array Oper}
theorem xfacts_of {rs ls : List Nat} {c : Nat} (hc : drawXOk ops l rs c ls = true) : DrawXFacts ops rs c ls := by
  simp only [drawXOk, Bool.and_eq_true, List.all_eq_true, List.mem_range, Nat.blt_eq, Bool.or_eq_true, List.contains_iff_mem, List.any_eq_true, Bool.not_eq_true', List.mem_cons] at hc
  obtain ⟨⟨⟨⟨⟨⟨⟨⟨hsz, hrsz⟩, hinc⟩, hlt⟩, hrd⟩, hcd⟩, hr⟩, hla⟩, hfo⟩ := hc
  have hat : ∀ i, (i = c ∨ i ∈ rs) → ∃ o d, ops[i]? = some o ∧ o.dst = some d ∧ notSel o.op = true ∧ (∀ j, (j = c ∨ j ∈ rs) → j = i ∨ dstOf ops j ≠ some d) ∧ (∀ s ∈ eyes ops o, ∀ j, (j = c ∨ j ∈ rs) → dstOf ops j ≠ some s ∨ j ∈ dirs ops i) := by
    intro i hi
    have := hr i hi
    cases ho : ops[i]? with
    | none => simp [ho] at this
    | some o =>
      cases hd : o.dst with
      | none => simp [ho, hd] at this
      | some d =>
        simp only [ho, hd, Bool.and_eq_true, List.all_eq_true, Bool.or_eq_true, Nat.beq_eq, Bool.not_eq_true', beq_eq_false_iff_ne, List.contains_iff_mem, List.mem_cons] at this
        exact ⟨o, d, rfl, hd, this.1, fun j hj => this.2.1 j hj, fun s hs j hj => this.2.2 s hs j hj⟩
  refine ⟨hsz, fun i hi => ⟨(hrsz i hi).1, fun e => by have := (hrsz i hi).2; rw [e] at this; simp at this⟩, fun q p hq hp => hinc p hp q hq, hlt, hrd, hcd, fun i hi o ho => ?_, fun i j d hi hj h1 h2 => ?_, fun i hi o ho s hs j hj hd => ?_, fun i h1 h2 => ?_, hfo⟩
  · obtain ⟨o', d, e1, _, e3, _⟩ := hat i hi
    rw [ho] at e1; cases e1; exact e3
  · obtain ⟨o, d', e1, e2, _, e5, _⟩ := hat i hi
    have : d' = d := by simp [dstOf, e1, e2] at h1; exact h1
    subst this
    rcases e5 j hj with e | e
    · exact e.symm
    · exact absurd h2 e
  · obtain ⟨o', d, e1, _, _, _, e6⟩ := hat i hi
    rw [ho] at e1; cases e1
    rcases e6 s hs j hj with e | e
    · exact absurd hd e
    · exact e
  · rcases hla i h1 with (e | ⟨j, e1, e2⟩) | e
    · exact absurd e h2
    · refine .inl ⟨j, e1, fun hx => ?_⟩
      have : (c :: rs).contains j = true := by rw [List.contains_iff_mem, List.mem_cons]; exact hx
      rw [this] at e2; cases e2
    · exact .inr e
theorem reach_listed {listed : Nat → Bool} (hcl : ∀ j, listed j = true → ∀ e ∈ dirs ops j, listed e = true) : ∀ {f i j : Nat}, reachD ops f i j = true → (∀ e ∈ dirs ops i, listed e = true) → listed j = true
  | 0, _, _, h, _ => by cases h
  | f + 1, i, j, h, hd => by
    rw [reachD, List.any_eq_true] at h
    obtain ⟨e, he, h⟩ := h
    rw [Bool.or_eq_true, Nat.beq_eq] at h
    rcases h with rfl | h
    · exact hd e he
    · exact reach_listed hcl h (hcl e (hd e he))
/-- the reads of a list, one after the other -/
def RdXS (P : Program) (w0 : World) (S : List Nat) (n : Nat) (Hs : Hl → Prop) (ops : Array Oper) (F : Array Value → Prop) : List Nat → Array Value → Prop
  | [], t => F t
  | i :: rs, t => ∃ d v, (∀ h', Hs h' → Outc P w0 S n h' ops i t d v) ∧ RdXS P w0 S n Hs ops F rs (t.setIfInBounds d v)
theorem RdXS.seq {Hs : Hl → Prop} {F : Array Value → Prop} : ∀ {rs : List Nat} {t : Array Value}, RdXS P w0 S n Hs ops F rs t → ∃ (D : Nat → Nat) (V : Nat → Value), (∀ j, j < rs.length → ∀ h', Hs h' → Outc P w0 S n h' ops (rs.getD j 0) (tsq D V t j) (D j) (V j)) ∧ F (tsq D V t rs.length)
  | [], t, hF => ⟨fun _ => 0, fun _ => undef, fun j hj => absurd hj (Nat.not_lt_zero _), hF⟩
  | i :: rs, t, ⟨d, v, ho, hr⟩ => by
    obtain ⟨D, V, h1, h2⟩ := RdXS.seq hr
    refine ⟨fun j => match j with | 0 => d | j + 1 => D j, fun j => match j with | 0 => v | j + 1 => V j, fun j hj => ?_, ?_⟩
    · cases j with
      | zero => exact ho
      | succ j =>
        have := h1 j (by simpa using hj)
        rw [tsq_shift]
        simpa using this
    · rw [List.length_cons, tsq_shift]; exact h2
def RdX (P : Program) (w0 : World) (S : List Nat) (n : Nat) (Hs : Hl → Prop) (ops : Array Oper) (F : Fl → Prop) (rs : List Nat) (l : Fl) : Prop :=
  ∀ t, Frm n t l → RdXS P w0 S n Hs ops (fun t' => ∃ l', Frm n t' l' ∧ F l') rs t
theorem RdX.nil {Hs : Hl → Prop} {F : Fl → Prop} (hg : F l) : RdX P w0 S n Hs ops F [] l := fun _ hF => ⟨l, hF, hg⟩
theorem RdX.v {Hs : Hl → Prop} {F : Fl → Prop} {i : Nat} {rs : List Nat} (d : Nat) (v : Value) (hd : Nat.blt d n = true) (hv : ∀ h', Hs h' → Vop P w0 S n h' ops i l d v) (hg : RdX P w0 S n Hs ops F rs ((d, v) :: l)) : RdX P w0 S n Hs ops F (i :: rs) l := by
  intro t hF
  refine ⟨d, v, fun h' hh => ?_, hg _ (hF.put v hd)⟩
  obtain ⟨o, ho, hw, hdst, hnd, hd, hr⟩ := hv h' hh
  exact ⟨o, ho, hdst, by simpa [Nat.blt_eq] using hd, hnd, .inl ⟨want_of hF hw, fun w Ds Y' hS => by obtain ⟨nx, h1, rfl⟩ := hr t w Ds Y' hF hS; exact .inl h1⟩⟩
theorem mutX_core {c : Nat} {rs ls : List Nat} (hf : DrawXFacts ops rs c ls) {Hs : Hl → Prop} (hh0 : Hs h) {D : Nat → Nat} {V : Nat → Value} {t0 : Array Value} (ht0 : t0.size = n) {l' : Fl} {d : Nat} {K : Value → Hl → Prop}
    (hout : ∀ j, j < rs.length → ∀ h', Hs h' → Outc P w0 S n h' ops (rs.getD j 0) (tsq D V t0 j) (D j) (V j)) (hFr : Frm n (tsq D V t0 rs.length) l') (hm : Mop P w0 S n h ops c l' d K)
    (hK : ∀ v h', K v h' → Hs h' ∧ GoH P r f R w0 S Y n (.inRegion ops ls :: k) ((d, v) :: l') h') :
    ∀ (fuel τ : Nat) (arr : Array Bool) (t : Array Value), arr.size = ops.size → (∀ j, arr.getD j false = true → ∀ e ∈ dirs ops j, arr.getD e false = true) → (∀ j, ¬ (j = c ∨ j ∈ rs) → arr.getD j false = false) → t.size = n →
      (∀ j, j < rs.length → arr.getD (rs.getD j 0) false = true → t.getD (D j) undef = V j) → (∀ s, (∀ j, j < rs.length → arr.getD (rs.getD j 0) false = true → D j ≠ s) → (arr.getD c false = true → d ≠ s) → t.getD s undef = t0.getD s undef) →
      (List.range ops.size).countP (fun j => !arr.getD j false) ≤ fuel → ∀ w Ds,
      (arr.getD c false = false ∧ St w0 S w h (mkY Ds ++ Y) ∨ arr.getD c false = true ∧ ∃ v h', K v h' ∧ t.getD d undef = v ∧ St w0 S w h' (mkY Ds ++ Y)) →
      Gos P r f R (.inRegion ops (Region.linearise.go .any ops fuel τ arr []) :: k) t (Ds.map mark) w := by
  have hmem : ∀ j, j < rs.length → rs.getD j 0 ∈ rs := fun j hj => by rw [List.getD_eq_getElem?_getD, List.getElem?_eq_getElem hj]; exact List.getElem_mem hj
  have hpos : ∀ i, i ∈ rs → ∃ j, j < rs.length ∧ rs.getD j 0 = i := fun i hi => by
    obtain ⟨j, hj, rfl⟩ := List.mem_iff_getElem.1 hi
    exact ⟨j, hj, by rw [List.getD_eq_getElem?_getD, List.getElem?_eq_getElem hj]; rfl⟩
  have hpinj : ∀ i j, i < rs.length → j < rs.length → rs.getD i 0 = rs.getD j 0 → i = j := fun i j hi hj e => by
    rcases Nat.lt_trichotomy i j with h1 | h1 | h1
    · have := hf.inc i j h1 hj; omega
    · exact h1
    · have := hf.inc j i h1 hi; omega
  have hDst : ∀ j, j < rs.length → dstOf ops (rs.getD j 0) = some (D j) := fun j hj => by
    obtain ⟨o, h1, h2, _⟩ := hout j hj h hh0
    unfold dstOf; rw [h1]; exact h2
  have hdst : dstOf ops c = some d := by
    obtain ⟨o, h1, h2, _⟩ := hm
    simp [dstOf, h1, h2]
  have hdn : d < n := by
    obtain ⟨o, _, _, _, _, h5, _⟩ := hm
    simpa [Nat.blt_eq] using h5
  have hDlt : ∀ j, j < rs.length → D j < t0.size := fun j hj => by
    obtain ⟨o, _, _, h3, _⟩ := hout j hj h hh0; omega
  have hDinj : ∀ i j, i < rs.length → j < rs.length → D i = D j → i = j := fun i j hi hj e => hpinj i j hi hj (hf.inj _ _ (D i) (.inr (hmem i hi)) (.inr (hmem j hj)) (hDst i hi) (by rw [hDst j hj, e]))
  have hDd : ∀ j, j < rs.length → D j ≠ d := fun j hj e =>
    (hf.rsz _ (hmem j hj)).2 (hf.inj _ c d (.inr (hmem j hj)) (.inl rfl) (by rw [hDst j hj, e]) hdst)
  -- all are listed
  have fin : ∀ (fuel τ : Nat) (arr : Array Bool) (t : Array Value), arr.size = ops.size → (∀ j, ¬ (j = c ∨ j ∈ rs) → arr.getD j false = false) → t.size = n → (∀ j, (j = c ∨ j ∈ rs) → arr.getD j false = true) →
      (∀ j, j < rs.length → arr.getD (rs.getD j 0) false = true → t.getD (D j) undef = V j) → (∀ s, (∀ j, j < rs.length → arr.getD (rs.getD j 0) false = true → D j ≠ s) → (arr.getD c false = true → d ≠ s) → t.getD s undef = t0.getD s undef) →
      (List.range ops.size).countP (fun j => !arr.getD j false) ≤ fuel → ∀ w Ds v h', K v h' → t.getD d undef = v → St w0 S w h' (mkY Ds ++ Y) →
      Gos P r f R (.inRegion ops (Region.linearise.go .any ops fuel τ arr []) :: k) t (Ds.map mark) w := by
    intro fuel τ arr t has hno hts hall h1 h2 hc w Ds v h' hKv hv hS
    have harr : ∀ j, arr.getD j false = (c :: rs).contains j := fun j => by
      by_cases hj : j = c ∨ j ∈ rs
      · rw [hall j hj]; symm; rw [List.contains_iff_mem, List.mem_cons]; exact hj
      · rw [hno j hj]; symm; rw [← Bool.not_eq_true, List.contains_iff_mem, List.mem_cons]; exact hj
    have hlen := forced_len hf.forc
    have hcnt : (List.range ops.size).countP (fun j => !(c :: rs).contains j) = (List.range ops.size).countP (fun j => !arr.getD j false) := by
      congr 1; funext j; rw [harr j]
    rw [forced_go hf.forc has harr (by omega)]
    have ht : t = (tsq D V t0 rs.length).setIfInBounds d v := by
      obtain ⟨g1, g2⟩ := tsq_get hDlt hDinj rs.length (Nat.le_refl _)
      have hdT : d < (tsq D V t0 rs.length).size := by rw [tsq_size]; omega
      refine Array.ext_getElem? (fun s => opt_of_getD (by rw [hts, Array.size_setIfInBounds, tsq_size, ht0]) ?_)
      rw [getD_set hdT]
      by_cases hs : d = s
      · subst hs; rw [if_pos rfl, hv]
      · rw [if_neg hs]
        by_cases hx : ∃ j, j < rs.length ∧ D j = s
        · obtain ⟨j, hj, rfl⟩ := hx
          rw [h1 j hj (hall _ (.inr (hmem j hj))), g1 j hj]
        · rw [h2 s (fun j hj _ e => hx ⟨j, hj, e⟩) (fun _ => hs), g2 s (fun j hj e => hx ⟨j, hj, e⟩)]
    rw [ht]
    exact (hK v h' hKv).2 _ w Ds (hFr.put v (by simpa [Nat.blt_eq] using hdn)) hS
  intro fuel
  induction fuel with
  | zero =>
    intro τ arr t has hcl hno hts h1 h2 hc w Ds hmm
    have hl : ∀ j, j < ops.size → arr.getD j false = true := fun j hj => by
      have := List.countP_eq_zero.1 (Nat.le_zero.1 hc) j (by simpa using hj)
      simpa using this
    have hsz := hf.size
    rcases hmm with ⟨h3, _⟩ | ⟨_, v, h', h4, h5, h6⟩
    · rw [hl c hsz] at h3; cases h3
    · exact fin 0 τ arr t has hno hts (fun j hj => hl j (by rcases hj with rfl | hj; exact hsz; exact (hf.rsz j hj).1)) h1 h2 hc w Ds v h' h4 h5 h6
  | succ fuel ih =>
    intro τ arr t has hcl hno hts h1 h2 hc w Ds hmm
    have hsz := hf.size
    by_cases hall : ∀ j, (j = c ∨ j ∈ rs) → arr.getD j false = true
    · rcases hmm with ⟨h3, _⟩ | ⟨_, v, h', h4, h5, h6⟩
      · rw [hall c (.inl rfl)] at h3; cases h3
      · exact fin (fuel + 1) τ arr t has hno hts hall h1 h2 hc w Ds v h' h4 h5 h6
    · obtain ⟨j0, hj0⟩ := Classical.not_forall.1 hall
      obtain ⟨hj0c, hj0u⟩ := Classical.not_imp.1 hj0
      rw [Bool.not_eq_true] at hj0u
      have hj0s : j0 < ops.size := by rcases hj0c with rfl | hj; exact hsz; exact (hf.rsz j0 hj).1
      have hready : Region.ready .any ops arr ≠ [] := by
        have key : ∀ q, q < ops.size → arr.getD q false = false → Region.ready .any ops arr ≠ [] := by
          intro q
          induction q using Nat.strongRecOn with
          | _ q ihq =>
            intro hq hqu
            by_cases hb : ∃ e ∈ dirs ops q, arr.getD e false = false
            · obtain ⟨e, he, heu⟩ := hb
              have hlt := hf.lt q hq e he
              exact ihq e hlt (by omega) heu
            · obtain ⟨o, ho⟩ : ∃ o, ops[q]? = some o := ⟨ops[q], Array.getElem?_eq_getElem hq⟩
              have : q ∈ Region.ready .any ops arr := by
                rw [mem_ready]
                refine ⟨by rw [getD_tf (by omega)]; exact hqu, o, ho, fun e he hbd => ?_⟩
                cases hx : arr.getD e.on false with
                | true => rfl
                | false => exact absurd ⟨e.on, (mem_dirs ho).2 ⟨e, he, hbd, rfl⟩, hx⟩ hb
              exact List.ne_nil_of_mem this
        exact key j0 hj0s hj0u
      simp only [Region.linearise.go]
      change Gos P r f R (.inRegion ops (match (Region.ready .any ops arr)[τ % (Region.ready .any ops arr).length]? with
        | some i => Region.linearise.go .any ops fuel (τ / (Region.ready .any ops arr).length) (arr.setIfInBounds i true) [i]
        | none => [].reverse) :: k) t (Ds.map mark) w
      cases hi : (Region.ready .any ops arr)[τ % (Region.ready .any ops arr).length]? with
      | none =>
        exfalso
        cases hr : Region.ready .any ops arr with
        | nil => exact hready hr
        | cons x xs =>
          rw [hr] at hi
          have hlt : τ % (x :: xs).length < (x :: xs).length := Nat.mod_lt _ (by simp)
          rw [List.getElem?_eq_getElem hlt] at hi; cases hi
      | some i =>
        have hmemi := List.mem_of_getElem? hi
        rw [mem_ready] at hmemi
        obtain ⟨hu, o, ho, hdep⟩ := hmemi
        have hiN : i < ops.size := (Array.getElem?_eq_some_iff.1 ho).1
        rw [getD_tf (by omega)] at hu
        simp only []
        rw [linearise_go_acc, List.reverse_singleton, List.singleton_append]
        have hdl : ∀ e ∈ dirs ops i, arr.getD e false = true := fun e he => by
          obtain ⟨e', he', hb, rfl⟩ := (mem_dirs ho).1 he
          exact hdep e' he' hb
        have hic : i = c ∨ i ∈ rs := by
          apply Classical.byContradiction
          intro hgt
          rcases hf.late i hiN hgt with ⟨j, e1, e2⟩ | e
          · have := hdl j e1; rw [hno j e2] at this; cases this
          · have := reach_listed (ops := ops) (listed := fun j => arr.getD j false) hcl (e j0 hj0c) hdl
            rw [hj0u] at this; cases this
        have hcl' : ∀ j, (arr.setIfInBounds i true).getD j false = true → ∀ e ∈ dirs ops j, (arr.setIfInBounds i true).getD e false = true := by
          intro j hj e he
          rw [getD_listed (by omega)] at hj ⊢
          split
          · rfl
          · split at hj
            · rename_i hij; subst hij; exact hdl e he
            · exact hcl j hj e he
        have hno' : ∀ j, ¬ (j = c ∨ j ∈ rs) → (arr.setIfInBounds i true).getD j false = false := fun j hj => by
          rw [getD_listed (by omega), if_neg (fun e : i = j => hj (by rw [← e]; exact hic))]; exact hno j hj
        have hcnt := count_set (listed := arr) has hiN hu
        by_cases him : i ∈ rs
        · -- a read
          obtain ⟨p, hp, hpe⟩ := hpos i him
          have heyes : ∀ o', ops[i]? = some o' → ∀ s ∈ eyes ops o', t.getD s undef = (tsq D V t0 p).getD s undef := fun o' ho' s hs => by
            obtain ⟨g1, g2⟩ := tsq_get hDlt hDinj p (by omega)
            by_cases hx : ∃ j, j < rs.length ∧ D j = s
            · obtain ⟨j, hj, rfl⟩ := hx
              have hjd := hf.eye i hic o' ho' (D j) hs _ (.inr (hmem j hj)) (hDst j hj)
              have hjp : j < p := by
                have h3 := hf.lt i hiN _ hjd
                rw [← hpe] at h3
                rcases Nat.lt_trichotomy j p with h4 | h4 | h4
                · exact h4
                · subst h4; omega
                · have := hf.inc p j h4 hj; omega
              rw [h1 j hj (hdl _ hjd), g1 j hjp]
            · have hsd : arr.getD c false = true → d ≠ s := fun _ e => by
                subst e
                have := hf.rdir i him c (hf.eye i hic o' ho' d hs c (.inl rfl) hdst)
                exact (hf.rsz c this).2 rfl
              rw [h2 s (fun j hj _ e => hx ⟨j, hj, e⟩) hsd, g2 s (fun j hj e => hx ⟨j, by omega, e⟩)]
          have hOut : ∀ h', Hs h' → Outc P w0 S n h' ops i t (D p) (V p) := fun h' hh => by
            have := hout p hp h' hh
            rw [hpe] at this
            exact this.congr (hf.sel i hic) (by rw [hts, tsq_size, ht0]) heyes
          have hDi : D p < t.size := by rw [hts, ← ht0]; exact hDlt p hp
          have hcc : (arr.setIfInBounds i true).getD c false = arr.getD c false := by rw [getD_listed (by omega), if_neg ((hf.rsz i him).2)]
          have next : ∀ w', (arr.getD c false = false ∧ St w0 S w' h (mkY Ds ++ Y) ∨ arr.getD c false = true ∧ ∃ v h', K v h' ∧ t.getD d undef = v ∧ St w0 S w' h' (mkY Ds ++ Y)) →
              Gos P r f R (.inRegion ops (Region.linearise.go .any ops fuel (τ / (Region.ready .any ops arr).length) (arr.setIfInBounds i true) []) :: k) (t.setIfInBounds (D p) (V p)) (Ds.map mark) w' := fun w' hmem' => by
            refine ih _ _ _ (by simpa using has) hcl' hno' (by simpa using hts) (fun j hj hlj => ?_) (fun s hs hsd => ?_) (by omega) w' Ds ?_
            · rw [getD_set hDi]
              split
              · rename_i e; rw [hDinj p j hp hj e]
              · rename_i e
                rw [getD_listed (by omega)] at hlj
                split at hlj
                · rename_i e2; exact absurd (by rw [hpinj p j hp hj (by rw [hpe, e2])]) e
                · exact h1 j hj hlj
            · rw [getD_set hDi, if_neg (hs p hp (by rw [hpe, getD_listed (by omega), if_pos rfl]))]
              refine h2 s (fun j hj hlj => hs j hj ?_) (fun hx => hsd (by rw [hcc]; exact hx))
              rw [getD_listed (by omega)]; split
              · rfl
              · exact hlj
            · rw [hcc, getD_set hDi, if_neg (hDd p hp)]; exact hmem'
          rcases hmm with ⟨h3, hS⟩ | ⟨h3, v, h', h4, h5, hS⟩
          · exact (hOut h hh0).go hS (fun w' hS' => next w' (.inl ⟨h3, hS'⟩))
          · exact (hOut h' (hK v h' h4).1).go hS (fun w' hS' => next w' (.inr ⟨h3, v, h', h4, h5, hS'⟩))
        · -- the operation that turns memory
          have hice : i = c := by rcases hic with e | e; exact e; exact absurd e him
          subst hice
          have heyes : ∀ o', ops[i]? = some o' → ∀ s ∈ eyes ops o', t.getD s undef = (tsq D V t0 rs.length).getD s undef := fun o' ho' s hs => by
            obtain ⟨g1, g2⟩ := tsq_get hDlt hDinj rs.length (Nat.le_refl _)
            by_cases hx : ∃ j, j < rs.length ∧ D j = s
            · obtain ⟨j, hj, rfl⟩ := hx
              have hjd := hf.eye i hic o' ho' (D j) hs _ (.inr (hmem j hj)) (hDst j hj)
              rw [h1 j hj (hdl _ hjd), g1 j hj]
            · have hsd : arr.getD i false = true → d ≠ s := fun _ e => by
                subst e
                have := hf.lt i hiN i (hf.eye i hic o' ho' d hs i (.inl rfl) hdst)
                omega
              rw [h2 s (fun j hj _ e => hx ⟨j, hj, e⟩) hsd, g2 s (fun j hj e => hx ⟨j, hj, e⟩)]
          rcases hmm with ⟨h3, hS⟩ | ⟨h3, _⟩
          · refine Mop.go hm hFr (by rw [hts, tsq_size, ht0]) heyes hS (fun v w' h' hKv hS' => ?_)
            have hdt : d < t.size := by omega
            refine ih _ _ _ (by simpa using has) hcl' hno' (by simpa using hts) (fun j hj hlj => ?_) (fun s hs hsd => ?_) (by omega) w' Ds ?_
            · rw [getD_set hdt, if_neg (fun e => hDd j hj e.symm)]
              rw [getD_listed (by omega), if_neg (fun e : i = rs.getD j 0 => him (by rw [e]; exact hmem j hj))] at hlj
              exact h1 j hj hlj
            · rw [getD_set hdt, if_neg (hsd (by rw [getD_listed (by omega), if_pos rfl]))]
              refine h2 s (fun j hj hlj => hs j hj ?_) (fun hx => by rw [h3] at hx; cases hx)
              rw [getD_listed (by omega), if_neg (fun e : i = rs.getD j 0 => him (by rw [e]; exact hmem j hj))]; exact hlj
            · refine .inr ⟨by rw [getD_listed (by omega), if_pos rfl], v, h', hKv, ?_, hS'⟩
              rw [getD_set hdt, if_pos rfl]
          · rw [hu] at h3; cases h3
/-- **a region that draws its order: c turns memory, those of rs read, those of ls come behind** -/
theorem GoH.drawX {id : Nat} (rs : List Nat) (c : Nat) (ls : List Nat) (Hs : Hl → Prop) (hmix : P.follows .mixedOrders = true) (hc : drawXOk ops l rs c ls = true) (hh0 : Hs h)
    (hg : RdX P w0 S n Hs ops (fun l' => ∃ d K, Mop P w0 S n h ops c l' d K ∧ ∀ v h', K v h' → Hs h' ∧ GoH P r f R w0 S Y n (.inRegion ops ls :: k) ((d, v) :: l') h') rs l) : GoH P r f R w0 S Y n (.code (.region id ops true) :: k) l h := by
  intro t w Ds hF hS
  have hf := xfacts_of hc
  refine .regionDraw (fun τ => ?_)
  obtain ⟨D, V, hout, l', hFr, d, K, hm, hK⟩ := (hg t hF).seq
  simp only [Region.schedule, hmix, Bool.true_or, if_true, Region.linearise]
  have h0 : ∀ j, (Array.replicate ops.size false).getD j false = false := fun j => by
    simp [Array.getD_eq_getD_getElem?, Array.getElem?_replicate]; split <;> simp
  refine mutX_core hf hh0 hF.1 hout hFr hm hK ops.size τ _ t (by simp) (fun j hj => ?_) (fun j _ => h0 j) hF.1 (fun j _ hj => ?_) (fun s _ _ => rfl) ?_ _ Ds (.inl ⟨h0 c, hS.drew⟩)
  · rw [h0 j] at hj; cases hj
  · rw [h0 _] at hj; cases hj
  · exact Nat.le_trans (List.countP_le_length) (by simp)
end
end Go.Proofs.Wit
namespace Go.Proofs.Wit
open Go Go.RowKit
/-! the memo of negation normal forms: two maps -/
abbrev Nm := List (Int × FV)
abbrev iq : Int → Int → Bool := fun a b => a == b
theorem mgetI_mem {ν : Type} : ∀ {L : List (Int × ν)} {k : Int} {v : ν}, mget iq L k = some v → (k, v) ∈ L
  | [], _, _, h => by cases h
  | (a, b) :: L, k, v, h => by
    rw [mget] at h
    split at h
    · rename_i hq
      have : a = k := (eq_of_beq hq).symm
      cases h; rw [this]; simp
    · exact List.mem_cons_of_mem _ (mgetI_mem h)
theorem mgetI_none {ν : Type} : ∀ {L : List (Int × ν)} {k : Int}, mget iq L k = none ↔ ∀ e ∈ L, e.1 ≠ k
  | [], _ => by simp [mget]
  | (a, b) :: L, k => by
    rw [mget]
    split
    · rename_i hq
      have : a = k := (eq_of_beq hq).symm
      simp [this]
    · rename_i hq
      have hne : a ≠ k := by rintro rfl; exact hq (by simp [iq])
      rw [mgetI_none]
      constructor
      · intro h e he
        rcases List.mem_cons.1 he with rfl | he
        · exact hne
        · exact h e he
      · exact fun h e he => h e (List.mem_cons_of_mem _ he)
theorem notIn_maps {w : World} {S : List Nat} (hm : ∀ b ∈ S, ∃ es k, w.heap[b]? = some (.map es k)) {a : Option Addr} {xs : List Value} (h : Sl w a xs) (h0 : 0 < xs.length) : ∀ b o, a = some ⟨b, o, none⟩ → b ∉ S := fun b o e hb => by
  obtain ⟨es, k, hm⟩ := hm b hb
  have := h.cell 0 h0
  subst e
  unfold adr World.cell? at this
  simp only [Option.getD_some, hm] at this
  cases this
theorem Sl.exMs {w w' : World} {S : List Nat} (hm : ∀ b ∈ S, ∃ es k, w.heap[b]? = some (.map es k)) {a : Option Addr} {xs : List Value} (h : Sl w a xs) (e : Ex S w w') : Sl w' a xs := by
  by_cases h0 : 0 < xs.length
  · exact h.ex e (notIn_maps hm h h0)
  · rw [List.eq_nil_of_length_eq_zero (by omega : xs.length = 0)]; exact Sl.nil _ _
theorem FA.exMs {w w' : World} {S : List Nat} (hm : ∀ b ∈ S, ∃ es k, w.heap[b]? = some (.map es k)) {a : Option Addr} {f : List NV} (h : FA w a f) (e : Ex S w w') : FA w' a f := ⟨Sl.exMs hm h.at_ e⟩
/-- a block among others, in front of a region that draws its order -/
def RdXB (P : Program) (r : Option Nat) (f : FuncId) (R : Value → World → Prop) (w0 : World) (S : List Nat) (Y : List (Nat × Obj)) (n : Nat) (k : List Item) (hb : Option Nat × Obj) (ht : Hl) (ops : Array Oper) (c : Nat) (ls rs : List Nat) (l : Fl) : Prop :=
  RdX P w0 S n (fun h' => ∃ H, h' = hb :: H) ops (fun l' => ∃ d K, Mop P w0 S n (hb :: ht) ops c l' d K ∧ ∀ v h', K v h' → (∃ H, h' = hb :: H) ∧ GoH P r f R w0 S Y n (.inRegion ops ls :: k) ((d, v) :: l') h') rs l
section
variable {P : Program} {r : Option Nat} {f : FuncId} {R : Value → World → Prop} {w0 : World} {S : List Nat} {Y : List (Nat × Obj)} {n : Nat} {k : List Item} {l : Fl} {hb : Option Nat × Obj} {ht : Hl} {ops : Array Oper} {c : Nat} {ls : List Nat}
theorem GoH.drawXB {id : Nat} (rs : List Nat) (c : Nat) (ls : List Nat) (hmix : P.follows .mixedOrders = true) (hc : drawXOk ops l rs c ls = true) (hg : RdXB P r f R w0 S Y n k hb ht ops c ls rs l) : GoH P r f R w0 S Y n (.code (.region id ops true) :: k) l (hb :: ht) :=
  GoH.drawX rs c ls _ hmix hc ⟨ht, rfl⟩ hg
theorem RdXB.v {i d : Nat} {rs : List Nat} {v : Value} (hv : ∀ H, Vop P w0 S n (hb :: H) ops i l d v) (hg : RdXB P r f R w0 S Y n k hb ht ops c ls rs ((d, v) :: l)) : RdXB P r f R w0 S Y n k hb ht ops c ls (i :: rs) l := by
  obtain ⟨_, _, _, _, _, hd, _⟩ := hv []
  exact RdX.v d v hd (fun h' ⟨H, e⟩ => by subst e; exact hv H) hg
theorem RdXB.callS {d : Nat} {ty : TypeId} {pos : String} {aft : Array Edge} {g : Option (Nat × Bool)} {az : Array Operand} {ts : Array TypeId} {cal : Operand} {gf : FuncId} {fs cs vs : List Value} {hC hF : Hl} (hp : (hb :: ht).Perm (hC ++ hF)) (Rc : World → Value → Hl → Prop) (ho : ops[c]? = some ⟨some d, .call ⟨.value cal, az, ts⟩, ty, pos, aft, g⟩) (hw : wantL ops l g = true)
    (hc : opd l cal = some (.func (.func gf) fs.toArray cs.toArray)) (hx : opds l az.toList = some vs) (hd : Nat.blt d n = true) (hcf : ∀ args w, (callFunc gf args).run P w = .ok (.enter gf args) w)
    (hcall : ∀ w Y', St w0 S w (hC ++ hF) Y' → CnS P gf (fs ++ vs ++ cs) w hC (Rc w))
    (hk : ∀ w v h', Rc w v h' → ∃ H, (h' ++ hF).Perm (hb :: H) ∧ GoH P r f R w0 S Y n (.inRegion ops ls :: k) ((d, v) :: l) (hb :: H)) : RdXB P r f R w0 S Y n k hb ht ops c ls [] l := by
  refine RdX.nil ⟨d, fun v h' => (∃ H, h' = hb :: H) ∧ GoH P r f R w0 S Y n (.inRegion ops ls :: k) ((d, v) :: l) h', ?_, fun _ _ hK => hK⟩
  refine ⟨_, ho, rfl, rfl, rfl, hd, .inl ⟨hw, fun t w Ds Y' hF' hS => .inr ⟨gf, (fs ++ vs ++ cs).toArray, fun v w' => ∃ h', Rc w v h' ∧ St w (blks hC) w' h' [], ?_, ?_, fun v w' ⟨h', h1, h2⟩ => ?_⟩⟩⟩
  · have e1 := resolve_run (P := P) (ty := ty) (ts := ts) (Ds := Ds) (w := w) hF' hc hx
    simp only [execOp, Sem.run_bind, e1, Result.andThen_ok, invoke, hcf]
    simp
  · exact Calls.mono (hcall w Y' (hS.perm hp)) (fun e w' ⟨v, h', e1, e2, e3⟩ => ⟨v, e1, h', e2, e3⟩)
  · obtain ⟨H, hp2, hg⟩ := hk w v h' h1
    exact ⟨hb :: H, ((hS.perm hp).frame h2).perm hp2, ⟨H, rfl⟩, hg⟩
end
abbrev nmH (m0 : Nat) (L0 : Nm) (m1 : Nat) (L1 : Nm) : Hl := [(some m0, mobj (Value.int .i64) FV.v L0), (some m1, mobj (Value.int .i64) FV.v L1)]
abbrev nmBk (na : Option Addr) (nl nc m0 m1 : Nat) : Array Value := #[.slice na nl nc, .map (some m0), .map (some m1)]
structure NMemo (c : List NV) (L0 L1 : Nm) : Prop where
  e0 : ∀ e ∈ L0, ∃ k : Nat, e.1 = (k : Int) ∧ e.2.f = bT (nnT (treeAt c k)).1
  e1 : ∀ e ∈ L1, ∃ k : Nat, e.1 = (k : Int) ∧ e.2.f = bT (nnT (treeAt c k)).2
/-- a formula in new blocks or in the memo -/
def Held (t : TypeId) (L0 L1 : Nm) (F : Hl) (x : FV) : Prop := x.In t F ∨ (∃ k, (k, x) ∈ L0) ∨ ∃ k, (k, x) ∈ L1
structure NGrew (t : TypeId) (c : List NV) (d : Nat) (L0 L1 L0' L1' : Nm) (F : Hl) : Prop where
  memo : NMemo c L0' L1'
  s0 : L0 ⊆ L0'
  s1 : L1 ⊆ L1'
  n0 : ∀ e ∈ L0', e ∈ L0 ∨ (e.1 < (d : Int) ∧ Held t L0 L1 F e.2)
  n1 : ∀ e ∈ L1', e ∈ L1 ∨ (e.1 < (d : Int) ∧ Held t L0 L1 F e.2)
section
variable {t : TypeId} {c : List NV}
theorem Held.mono {L0 L1 L0' L1' : Nm} {F F' : Hl} {x : FV} (h : Held t L0 L1 F x) (s0 : L0 ⊆ L0') (s1 : L1 ⊆ L1') (hs : F ⊆ F') : Held t L0' L1' F' x :=
  h.imp (fun h => h.mono hs) (Or.imp (fun ⟨k, h⟩ => ⟨k, s0 h⟩) (fun ⟨k, h⟩ => ⟨k, s1 h⟩))
theorem Held.base {d : Nat} {L0 L1 L0' L1' : Nm} {F : Hl} {x : FV} (h : NGrew t c d L0 L1 L0' L1' F) (g : Held t L0' L1' F x) : Held t L0 L1 F x := by
  rcases g with g | ⟨k, g⟩ | ⟨k, g⟩
  · exact .inl g
  · rcases h.n0 _ g with h1 | h1
    · exact .inr (.inl ⟨k, h1⟩)
    · exact h1.2
  · rcases h.n1 _ g with h1 | h1
    · exact .inr (.inr ⟨k, h1⟩)
    · exact h1.2
theorem NGrew.refl {d : Nat} {L0 L1 : Nm} (h : NMemo c L0 L1) : NGrew t c d L0 L1 L0 L1 [] := ⟨h, fun _ h => h, fun _ h => h, fun _ h => .inl h, fun _ h => .inl h⟩
theorem NGrew.mono {d d' : Nat} {L0 L1 L0' L1' : Nm} {F F' : Hl} (h : NGrew t c d L0 L1 L0' L1' F) (hd : d ≤ d') (hs : F ⊆ F') : NGrew t c d' L0 L1 L0' L1' F' :=
  ⟨h.memo, h.s0, h.s1, fun e he => (h.n0 e he).imp id (fun h => ⟨by omega, h.2.mono (fun _ h => h) (fun _ h => h) hs⟩), fun e he => (h.n1 e he).imp id (fun h => ⟨by omega, h.2.mono (fun _ h => h) (fun _ h => h) hs⟩)⟩
theorem NGrew.seq {d d' : Nat} {L0 L1 L0' L1' L0'' L1'' : Nm} {F F' H : Hl} (h : NGrew t c d L0 L1 L0' L1' F) (g : NGrew t c d' L0' L1' L0'' L1'' F') (hd : d' ≤ d) (h1 : F ⊆ H) (h2 : F' ⊆ H) : NGrew t c d L0 L1 L0'' L1'' H := by
  have hh := h.mono (Nat.le_refl _) h1
  have hb : ∀ {x : FV}, Held t L0' L1' F' x → Held t L0 L1 H x := fun hx => (hx.mono (fun _ h => h) (fun _ h => h) h2).base hh
  refine ⟨g.memo, fun _ hx => g.s0 (h.s0 hx), fun _ hx => g.s1 (h.s1 hx), fun e he => ?_, fun e he => ?_⟩
  · rcases g.n0 e he with h3 | ⟨h3, h4⟩
    · exact hh.n0 e h3
    · exact .inr ⟨by omega, hb h4⟩
  · rcases g.n1 e he with h3 | ⟨h3, h4⟩
    · exact hh.n1 e h3
    · exact .inr ⟨by omega, hb h4⟩
structure NPre (t tn : TypeId) (c : List NV) (na : Option Addr) (nc bk m0 m1 : Nat) (w : World) (L0 L1 : Nm) : Prop where
  has : HasH w (nmH m0 L0 m1 L1)
  blk : w.heap[bk]? = some (.cells (nmBk na c.length nc m0 m1) tn (0, 0))
  fa : FA w na c
  f0 : ∀ e ∈ L0, FA w e.2.a e.2.f
  f1 : ∀ e ∈ L1, FA w e.2.a e.2.f
  memo : NMemo c L0 L1
variable {tn : TypeId} {na : Option Addr} {nc bk m0 m1 : Nat} {w : World} {L0 L1 : Nm}
theorem NPre.maps (h : NPre t tn c na nc bk m0 m1 w L0 L1) : ∀ b ∈ [m0, m1], ∃ es k, w.heap[b]? = some (.map es k) := fun b hb => by
  simp only [List.mem_cons, List.not_mem_nil, or_false] at hb
  rcases hb with rfl | rfl
  · exact ⟨_, _, (h.has.own _ (List.mem_cons_self ..) _ rfl).1⟩
  · exact ⟨_, _, (h.has.own _ (List.mem_cons_of_mem _ (List.mem_cons_self ..)) _ rfl).1⟩
theorem NPre.ne (h : NPre t tn c na nc bk m0 m1 w L0 L1) : bk ∉ [m0, m1] := fun hb => by
  obtain ⟨es, k, hm⟩ := h.maps bk hb
  rw [h.blk] at hm; cases hm
/-- where what is held lies -/
theorem Held.fa {w' w0 : World} {S : List Nat} {h : Hl} {Y : List (Nat × Obj)} {d : Nat} {L0' L1' : Nm} {F : Hl} {x : FV} (g : Held t L0' L1' F x) (hp : NPre t tn c na nc bk m0 m1 w L0 L1) (gr : NGrew t c d L0 L1 L0' L1' F) (e : Ex [m0, m1] w w') (s : St w0 S w' h Y) (hs : F ⊆ h) : FA w' x.a x.f := by
  rcases g.base gr with g | ⟨k, g⟩ | ⟨k, g⟩
  · exact (g.mono hs).at s
  · exact (hp.f0 _ g).exMs hp.maps e
  · exact (hp.f1 _ g).exMs hp.maps e
theorem NPre.step {w' : World} {h : Hl} {Y : List (Nat × Obj)} {L0' L1' : Nm} {F : Hl} {d : Nat} (g : NPre t tn c na nc bk m0 m1 w L0 L1) (s : St w [m0, m1] w' h Y) (hs : (nmH m0 L0' m1 L1').Sublist h) (hF : F ⊆ h) (gr : NGrew t c d L0 L1 L0' L1' F) : NPre t tn c na nc bk m0 m1 w' L0' L1' :=
  ⟨(s.subH hs).has, by rw [s.ext.block bk (Array.getElem?_eq_some_iff.1 g.blk).1 g.ne]; exact g.blk, g.fa.exMs g.maps s.ext,
   fun e he => Held.fa (x := e.2) (.inr (.inl ⟨e.1, he⟩)) g gr s.ext s hF, fun e he => Held.fa (x := e.2) (.inr (.inr ⟨e.1, he⟩)) g gr s.ext s hF, gr.memo⟩
/-- of a pair, one -/
def pn (no : Bool) (p : Tr × Tr) : Tr := if no then p.2 else p.1
/-- what a call leaves: a formula, and the memo grown -/
def NfPost (t : TypeId) (c : List NV) (m0 m1 d : Nat) (u : Tr) (L0 L1 : Nm) (v : Value) (h' : Hl) : Prop :=
  ∃ fv L0' L1' F, v = FV.v fv ∧ h' = nmH m0 L0' m1 L1' ++ F ∧ NGrew t c d L0 L1 L0' L1' F ∧ fv.f = bT u ∧ Held t L0' L1' F fv
end
section
variable {P : Program} {r : Option Nat} {f : FuncId} {R : Value → World → Prop} {w0 : World} {Y : List (Nat × Obj)} {n : Nat} {k : List Item} {l : Fl} {hb : Option Nat × Obj} {ops : Array Oper} {i d : Nat} {rest : List Nat} {ty : TypeId} {pos : String} {aft : Array Edge} {g : Option (Nat × Bool)}
variable {az : Array Operand} {ts : Array TypeId} {cal : Operand} {gf : FuncId} {vs : List Value} {t tn : TypeId} {c : List NV} {na : Option Addr} {nc bk m0 m1 D D' : Nat} {L0 L1 La Lb : Nm} {F : Hl} {u : Tr}
theorem perm_n1 {A B : Hl} : (hb :: (A ++ B)).Perm (A ++ (hb :: B)) := List.perm_middle.symm
theorem perm_n2 {A B C : Hl} : ((A ++ B) ++ (hb :: C)).Perm (hb :: (A ++ (B ++ C))) := by
  rw [← List.append_assoc]; exact List.perm_middle
/-- a call that makes a normal form -/
theorem GoH.nStep (hp : NPre t tn c na nc bk m0 m1 w0 L0 L1) (gr : NGrew t c D L0 L1 La Lb F) (hj : D' ≤ D) (ho : ops[i]? = some ⟨some d, .call ⟨.value cal, az, ts⟩, ty, pos, aft, g⟩) (hw : wantL ops l g = true)
    (hc : opd l cal = some (.func (.func gf) #[] #[])) (hx : opds l az.toList = some vs) (hd : Nat.blt d n = true) (hcf : ∀ args w, (callFunc gf args).run P w = .ok (.enter gf args) w)
    (hof : ∀ w L0 L1, NPre t tn c na nc bk m0 m1 w L0 L1 → CnS P gf vs w (nmH m0 L0 m1 L1) (NfPost t c m0 m1 D' u L0 L1))
    (hk : ∀ fv La' Lb' F', NGrew t c D L0 L1 La' Lb' F' → (∀ x, Held t La Lb F x → Held t La' Lb' F' x) → fv.f = bT u → Held t La' Lb' F' fv → GoH P r f R w0 [m0, m1] Y n (.inRegion ops rest :: k) ((d, fv.v) :: l) (hb :: (nmH m0 La' m1 Lb' ++ F'))) :
    GoH P r f R w0 [m0, m1] Y n (.inRegion ops (i :: rest) :: k) l (hb :: (nmH m0 La m1 Lb ++ F)) := by
  refine GoH.permH (h' := nmH m0 La m1 Lb ++ (hb :: F)) perm_n1 ?_
  refine GoH.callS (h := nmH m0 La m1 Lb) (hF := hb :: F) (fs := []) (cs := []) (fun _ => NfPost t c m0 m1 D' u La Lb) ho hw hc hx hd hcf (fun w Y' hS => ?_) (fun w v h' hR => ?_)
  · rw [List.nil_append, List.append_nil]
    exact hof w _ _ (hp.step hS (List.sublist_append_left _ _) (fun _ h => List.mem_append_right _ (List.mem_cons_of_mem _ h)) gr)
  · obtain ⟨fv, La', Lb', F2, rfl, rfl, g2, hf, hh⟩ := hR
    refine GoH.permH (h' := hb :: (nmH m0 La' m1 Lb' ++ (F2 ++ F))) perm_n2 ?_
    exact hk fv La' Lb' (F2 ++ F) (gr.seq g2 hj (List.subset_append_right _ _) (List.subset_append_left _ _)) (fun x hx => hx.mono g2.s0 g2.s1 (List.subset_append_right _ _)) hf (hh.mono (fun _ h => h) (fun _ h => h) (List.subset_append_left _ _))
/-- the same, as the first call of a region that draws its order -/
theorem RdXB.nStep {ls : List Nat} (hp : NPre t tn c na nc bk m0 m1 w0 L0 L1) (gr : NGrew t c D L0 L1 La Lb F) (hj : D' ≤ D) (ho : ops[i]? = some ⟨some d, .call ⟨.value cal, az, ts⟩, ty, pos, aft, g⟩) (hw : wantL ops l g = true)
    (hc : opd l cal = some (.func (.func gf) #[] #[])) (hx : opds l az.toList = some vs) (hd : Nat.blt d n = true) (hcf : ∀ args w, (callFunc gf args).run P w = .ok (.enter gf args) w)
    (hof : ∀ w L0 L1, NPre t tn c na nc bk m0 m1 w L0 L1 → CnS P gf vs w (nmH m0 L0 m1 L1) (NfPost t c m0 m1 D' u L0 L1))
    (hk : ∀ fv La' Lb' F', NGrew t c D L0 L1 La' Lb' F' → (∀ x, Held t La Lb F x → Held t La' Lb' F' x) → fv.f = bT u → Held t La' Lb' F' fv → GoH P r f R w0 [m0, m1] Y n (.inRegion ops ls :: k) ((d, fv.v) :: l) (hb :: (nmH m0 La' m1 Lb' ++ F'))) :
    RdXB P r f R w0 [m0, m1] Y n k hb (nmH m0 La m1 Lb ++ F) ops i ls [] l := by
  refine RdXB.callS (hC := nmH m0 La m1 Lb) (hF := hb :: F) (fs := []) (cs := []) perm_n1 (fun _ => NfPost t c m0 m1 D' u La Lb) ho hw hc hx hd hcf (fun w Y' hS => ?_) (fun w v h' hR => ?_)
  · rw [List.nil_append, List.append_nil]
    exact hof w _ _ (hp.step hS (List.sublist_append_left _ _) (fun _ h => List.mem_append_right _ (List.mem_cons_of_mem _ h)) gr)
  · obtain ⟨fv, La', Lb', F2, rfl, rfl, g2, hf, hh⟩ := hR
    exact ⟨nmH m0 La' m1 Lb' ++ (F2 ++ F), perm_n2, hk fv La' Lb' (F2 ++ F) (gr.seq g2 hj (List.subset_append_right _ _) (List.subset_append_left _ _)) (fun x hx => hx.mono g2.s0 g2.s1 (List.subset_append_right _ _)) hf (hh.mono (fun _ h => h) (fun _ h => h) (List.subset_append_left _ _))⟩
/-- a call that makes a new formula -/
theorem GoH.nMk (gr : NGrew t c D L0 L1 La Lb F) (ho : ops[i]? = some ⟨some d, .call ⟨.value cal, az, ts⟩, ty, pos, aft, g⟩) (hw : wantL ops l g = true)
    (hc : opd l cal = some (.func (.func gf) #[] #[])) (hx : opds l az.toList = some vs) (hd : Nat.blt d n = true) (hcf : ∀ args w, (callFunc gf args).run P w = .ok (.enter gf args) w)
    (hcall : ∀ w Y', St w0 [m0, m1] w (hb :: (nmH m0 La m1 Lb ++ F)) Y' → Cn P gf vs w (fun v w' => OwnN t w w' v (bT u)))
    (hk : ∀ fv F', NGrew t c D L0 L1 La Lb F' → (∀ x, Held t La Lb F x → Held t La Lb F' x) → fv.f = bT u → Held t La Lb F' fv → GoH P r f R w0 [m0, m1] Y n (.inRegion ops rest :: k) ((d, fv.v) :: l) (hb :: (nmH m0 La m1 Lb ++ F'))) :
    GoH P r f R w0 [m0, m1] Y n (.inRegion ops (i :: rest) :: k) l (hb :: (nmH m0 La m1 Lb ++ F)) := by
  refine GoH.callM (fun w v w' => OwnN t w w' v (bT u)) ho hw hc hx hd hcf hcall (fun v w w' Y' hS he hO => ?_)
  obtain ⟨q, cap, sp, rfl, hq, hcap, hS'⟩ := gainN hS he hO
  have hpm : ((q, obN t (bT u) sp) :: hb :: (nmH m0 La m1 Lb ++ F)).Perm (hb :: (nmH m0 La m1 Lb ++ ((q, obN t (bT u) sp) :: F))) :=
    (List.Perm.swap _ _ _).trans (List.Perm.cons _ perm_n1)
  refine ⟨_, hS'.perm hpm, ?_⟩
  have e1 : osv q (bT u).length cap = FV.v ⟨q.map (fun b => ⟨b, 0, none⟩), cap, bT u⟩ := by cases q <;> rfl
  rw [e1]
  exact hk _ _ (gr.mono (Nat.le_refl _) (List.subset_cons_self _ _)) (fun x hx => hx.mono (fun _ h => h) (fun _ h => h) (List.subset_cons_self _ _)) rfl (.inl ⟨q, sp, List.mem_cons_self .., rfl, hq, hcap⟩)
theorem nRet {w' : World} {fv : FV} (gr : NGrew t c D L0 L1 La Lb F) (hf : fv.f = bT u) (hh : Held t La Lb F fv) (hS : St w0 [m0, m1] w' (hb :: (nmH m0 La m1 Lb ++ F)) []) : ∃ h', NfPost t c m0 m1 D u L0 L1 fv.v h' ∧ St w0 [m0, m1] w' h' [] :=
  ⟨_, ⟨fv, La, Lb, F, rfl, rfl, gr, hf, hh⟩, hS.subH (List.sublist_cons_self _ _)⟩
end
theorem NGrew.add0 {t : TypeId} {c : List NV} {i : Nat} {L0 L1 La Lb : Nm} {F : Hl} {fv : FV} (g : NGrew t c i L0 L1 La Lb F) (hf : fv.f = bT (nnT (treeAt c i)).1) (hh : Held t La Lb F fv) : NGrew t c (i + 1) L0 L1 (La ++ [((i : Int), fv)]) Lb F :=
  ⟨⟨fun e he => by
    rcases List.mem_append.1 he with he | he
    · exact g.memo.e0 e he
    · rw [List.mem_singleton.1 he]; exact ⟨i, rfl, hf⟩, g.memo.e1⟩, fun _ h => List.mem_append_left _ (g.s0 h), g.s1, fun e he => by
    rcases List.mem_append.1 he with he | he
    · exact (g.n0 e he).imp id (fun h => ⟨by omega, h.2⟩)
    · rw [List.mem_singleton.1 he]; exact .inr ⟨by simp only []; omega, hh.base g⟩, fun e he => (g.n1 e he).imp id (fun h => ⟨by omega, h.2⟩)⟩
theorem NGrew.add1 {t : TypeId} {c : List NV} {i : Nat} {L0 L1 La Lb : Nm} {F : Hl} {fv : FV} (g : NGrew t c i L0 L1 La Lb F) (hf : fv.f = bT (nnT (treeAt c i)).2) (hh : Held t La Lb F fv) : NGrew t c (i + 1) L0 L1 La (Lb ++ [((i : Int), fv)]) F :=
  ⟨⟨g.memo.e0, fun e he => by
    rcases List.mem_append.1 he with he | he
    · exact g.memo.e1 e he
    · rw [List.mem_singleton.1 he]; exact ⟨i, rfl, hf⟩⟩, g.s0, fun _ h => List.mem_append_left _ (g.s1 h), fun e he => (g.n0 e he).imp id (fun h => ⟨by omega, h.2⟩), fun e he => by
    rcases List.mem_append.1 he with he | he
    · exact (g.n1 e he).imp id (fun h => ⟨by omega, h.2⟩)
    · rw [List.mem_singleton.1 he]; exact .inr ⟨by simp only []; omega, hh.base g⟩⟩
/-- the struct while its maps are made -/
def nmArr (sl : Value) (ms : List Nat) : Array Value := #[sl, .map ms[0]?, .map ms[1]?]
theorem nmArr_set {sl : Value} {ms : List Nat} {b : Nat} (h : ms.length < 2) : (nmArr sl ms).setIfInBounds (1 + ms.length) (.map (some b)) = nmArr sl (ms ++ [b]) := by
  rcases ms with _ | ⟨a, _ | ⟨b, l⟩⟩
  · rfl
  · rfl
  · simp only [List.length_cons] at h; omega
theorem two_of {ms : List Nat} (h : ms.length = 2) : ∃ a b, ms = [a, b] := by
  rcases ms with _ | ⟨a, _ | ⟨b, _ | ⟨c, l⟩⟩⟩
  · cases h
  · cases h
  · exact ⟨a, b, rfl⟩
  · simp only [List.length_cons] at h; omega
theorem pn_t (p : Tr × Tr) : pn true p = p.2 := rfl
theorem pn_f (p : Tr × Tr) : pn false p = p.1 := rfl
theorem bT_max {f : List NV} {t : Tr} (h : f = bT t) : f.length ≤ maxLen := by
  rw [h]; have := bT_le t; unfold maxLen; omega
theorem nn1_un {op i e g : Int} {a : Tr} (h : op ≠ 4) : (nnT (.un op i e g a)).1 = .un op i e g (nnT a).1 := by
  rw [nnT, if_neg h]; split
  · rfl
  · split <;> rfl
theorem nn1_bin {op i e g : Int} {a b : Tr} (h7 : op ≠ 7) (h8 : op ≠ 8) : (nnT (.bin op i e g a b)).1 = .bin op i e g (nnT a).1 (nnT b).1 := by
  rw [nnT]; split
  · rfl
  · split
    · rfl
    · rfl
end Go.Proofs.Wit
namespace Go.Proofs.Wit
open Go Go.RowKit
/-! regions that draw their order, in general: what only reads may be taken first; else one operation is next -/
/-- static: what only reads, and alone writes its slot -/
def pureOk (ops : Array Oper) (i : Nat) : Bool := match ops[i]? with
  | none => false
  | some o => notSel o.op && match o.dst with
    | none => false
    | some d => (List.range ops.size).all (fun j => Nat.beq j i || (!(dstOf ops j == some d) && (match ops[j]? with
      | none => true
      | some p => (!(eyes ops p).contains d || (dirs ops j).contains i || (dirs ops i).contains j)) && (match dstOf ops j with
      | none => true
      | some e => (!(eyes ops o).contains e || (dirs ops i).contains j || (dirs ops j).contains i))))
structure PureF (ops : Array Oper) (i d : Nat) : Prop where
  sel : ∀ o, ops[i]? = some o → notSel o.op = true
  dst : dstOf ops i = some d
  one : ∀ j, j < ops.size → j ≠ i → dstOf ops j ≠ some d
  seen : ∀ j p, j < ops.size → j ≠ i → ops[j]? = some p → d ∈ eyes ops p → i ∈ dirs ops j ∨ j ∈ dirs ops i
  sees : ∀ j e o, j < ops.size → j ≠ i → dstOf ops j = some e → ops[i]? = some o → e ∈ eyes ops o → j ∈ dirs ops i ∨ i ∈ dirs ops j
theorem pureF_of {ops : Array Oper} {i : Nat} (h : pureOk ops i = true) : ∃ d, PureF ops i d := by
  unfold pureOk at h
  split at h
  · cases h
  · rename_i o ho
    rw [Bool.and_eq_true] at h
    obtain ⟨h1, h2⟩ := h
    split at h2
    · cases h2
    · rename_i d hd
      simp only [List.all_eq_true, List.mem_range, Bool.or_eq_true, Nat.beq_eq, Bool.and_eq_true, Bool.not_eq_true'] at h2
      refine ⟨d, fun p hp => by rw [ho] at hp; cases hp; exact h1, by simp [dstOf, ho, hd], fun j hj hne => ?_, fun j p hj hne hp hm => ?_, fun j e p hj hne he hp hm => ?_⟩
      · rcases h2 j hj with h | h
        · exact absurd h hne
        · simpa using h.1.1
      · rcases h2 j hj with h | h
        · exact absurd h hne
        · have := h.1.2
          rw [hp] at this
          simp only [Bool.or_eq_true, Bool.not_eq_true'] at this
          rcases this with (h3 | h3) | h3
          · rw [List.contains_eq_mem, decide_eq_false_iff_not] at h3; exact absurd hm h3
          · exact .inl (by simpa using h3)
          · exact .inr (by simpa using h3)
      · rcases h2 j hj with h | h
        · exact absurd h hne
        · have := h.2
          rw [he] at this
          simp only [Bool.or_eq_true, Bool.not_eq_true'] at this
          rw [ho] at hp; cases hp
          rcases this with (h3 | h3) | h3
          · rw [List.contains_eq_mem, decide_eq_false_iff_not] at h3; exact absurd hm h3
          · exact .inl (by simpa using h3)
          · exact .inr (by simpa using h3)
section
variable {P : Program} {r : Option Nat} {f : FuncId} {R : Value → World → Prop} {w0 : World} {S : List Nat} {Y : List (Nat × Obj)} {n : Nat} {k : List Item} {l : Fl} {h : Hl} {ops : Array Oper}
/-- an operation at a frame -/
def StepC (P : Program) (w0 : World) (S : List Nat) (n : Nat) (ops : Array Oper) (i : Nat) (t : Array Value) (h : Hl) (K : Array Value → Hl → Prop) : Prop :=
  ∃ o d, ops[i]? = some o ∧ o.dst = some d ∧ isDefer o.op = false ∧ notSel o.op = true ∧ d < n ∧
    ((Region.wanted o (yielded ops t) = true ∧ ∀ (w : World) (Ds : List Nat) (Y' : List (Nat × Obj)), St w0 S w h Y' →
      (∃ v w' h', (execOp (Act.eval ⟨t, Ds.map mark⟩) o).run P w = .ok (.value v) w' ∧ St w0 S w' h' Y' ∧ K (t.setIfInBounds d v) h') ∨
      (∃ gf args, ∃ Rc : Value → World → Prop, (execOp (Act.eval ⟨t, Ds.map mark⟩) o).run P w = .ok (.enter gf args) w ∧ (Calls P gf args w fun e w' => ∃ v, e = .returned v ∧ Rc v w') ∧ ∀ v w', Rc v w' → ∃ h', St w0 S w' h' Y' ∧ K (t.setIfInBounds d v) h')) ∨
    (Region.wanted o (yielded ops t) = false ∧ K (t.setIfInBounds d undef) h))
theorem StepC.of {i d : Nat} {K : Value → Hl → Prop} {K' : Array Value → Hl → Prop} {t : Array Value} (hm : Mop P w0 S n h ops i l d K) (hF : Frm n t l) (hK : ∀ v h', K v h' → K' (t.setIfInBounds d v) h') : StepC P w0 S n ops i t h K' := by
  obtain ⟨o, ho, hdst, hnd, hsel, hd, hr⟩ := hm
  refine ⟨o, d, ho, hdst, hnd, hsel, by simpa [Nat.blt_eq] using hd, ?_⟩
  rcases hr with ⟨hw, hr⟩ | ⟨hs, hk⟩
  · refine .inl ⟨want_of hF hw, fun w Ds Y' hS => ?_⟩
    rcases hr t w Ds Y' hF hS with ⟨v, w', h', h1, h2, h3⟩ | ⟨gf, args, Rc, h1, h2, h3⟩
    · exact .inl ⟨v, w', h', h1, h2, hK v h' h3⟩
    · refine .inr ⟨gf, args, Rc, h1, h2, fun v w' hR => ?_⟩
      obtain ⟨h', h4, h5⟩ := h3 v w' hR
      exact ⟨h', h4, hK v h' h5⟩
  · exact .inr ⟨skip_of hF hs, hK undef h hk⟩
/-- the same operation, a slot that it doesn't look at being as it was -/
theorem StepC.congr {i : Nat} {t t' : Array Value} {K K' : Array Value → Hl → Prop} (hm : StepC P w0 S n ops i t h K) (hs : t'.size = t.size) (he : ∀ o, ops[i]? = some o → ∀ s ∈ eyes ops o, t'.getD s undef = t.getD s undef)
    (hK : ∀ d v h', dstOf ops i = some d → K (t.setIfInBounds d v) h' → K' (t'.setIfInBounds d v) h') : StepC P w0 S n ops i t' h K' := by
  obtain ⟨o, d, ho, hdst, hnd, hsel, hd, hr⟩ := hm
  have hdo : dstOf ops i = some d := by simp [dstOf, ho, hdst]
  have hw := wanted_congr (ops := ops) (o := o) hs (he o ho)
  refine ⟨o, d, ho, hdst, hnd, hsel, hd, ?_⟩
  rcases hr with ⟨hwant, hr⟩ | ⟨hskip, hk⟩
  · refine .inl ⟨hw.trans hwant, fun w Ds Y' hS => ?_⟩
    have hexec : execOp (Act.eval ⟨t', Ds.map mark⟩) o = execOp (Act.eval ⟨t, Ds.map mark⟩) o := execOp_congr (ρ' := Act.eval ⟨t, Ds.map mark⟩) o (fun cs bb e => by rw [e] at hsel; cases hsel) (fun x hx => by
      cases x with
      | tmp s => exact he o ho s (by
          simp only [eyes, List.mem_append]
          exact .inr (List.mem_filterMap.2 ⟨.tmp s, by simpa using hx, rfl⟩))
      | const v => rfl
      | global g => rfl
      | func g => rfl)
    rw [hexec]
    rcases hr w Ds Y' hS with ⟨v, w', h', h1, h2, h3⟩ | ⟨gf, args, Rc, h1, h2, h3⟩
    · exact .inl ⟨v, w', h', h1, h2, hK d v h' hdo h3⟩
    · refine .inr ⟨gf, args, Rc, h1, h2, fun v w' hR => ?_⟩
      obtain ⟨h', h4, h5⟩ := h3 v w' hR
      exact ⟨h', h4, hK d v h' hdo h5⟩
  · exact .inr ⟨hw.trans hskip, hK d undef h hdo hk⟩
theorem StepC.pure {i d : Nat} {v : Value} {t : Array Value} {hb : Hl} {K : Array Value → Hl → Prop} (ho : Outc P w0 S n hb ops i t d v) (hsel : ∀ o, ops[i]? = some o → notSel o.op = true) (hs : hb.Sublist h) (hK : K (t.setIfInBounds d v) h) : StepC P w0 S n ops i t h K := by
  obtain ⟨o, h1, h2, h3, h4, h5⟩ := ho
  refine ⟨o, d, h1, h2, h4, hsel o h1, h3, ?_⟩
  rcases h5 with ⟨a, b⟩ | ⟨a, rfl⟩
  · refine .inl ⟨a, fun w Ds Y' hS => ?_⟩
    rcases b w Ds Y' (hS.subH hs) with hb2 | ⟨gf, args, hb2, hcall⟩
    · exact .inl ⟨v, w, h, hb2, hS, hK⟩
    · exact .inr ⟨gf, args, _, hb2, hcall, fun u w' ⟨he, hu⟩ => ⟨h, hS.later he, by rw [hu]; exact hK⟩⟩
  · exact .inr ⟨a, hK⟩
def Dt (P : Program) (r : Option Nat) (f : FuncId) (R : Value → World → Prop) (w0 : World) (S : List Nat) (Y : List (Nat × Obj)) (n : Nat) (k : List Item) (ops : Array Oper) (hb : Hl) : Nat → List Nat → Array Value → Hl → Prop
  | 0, _, _, _ => False
  | q + 1, D, t, h =>
    (readyL ops D = [] ∧ ∀ w Ds, St w0 S w h (mkY Ds ++ Y) → Gos P r f R (.inRegion ops [] :: k) t (Ds.map mark) w) ∨
    (readyL ops D ≠ [] ∧ ∀ i ∈ readyL ops D, StepC P w0 S n ops i t h (fun t' h' => hb.Sublist h' ∧ Dt P r f R w0 S Y n k ops hb q (i :: D) t' h'))
theorem StepC.mono {i : Nat} {t : Array Value} {K K' : Array Value → Hl → Prop} (hm : StepC P w0 S n ops i t h K) (hK : ∀ t' h', K t' h' → K' t' h') : StepC P w0 S n ops i t h K' := hm.congr rfl (fun _ _ _ _ => rfl) (fun _ _ _ _ h => hK _ _ h)
theorem Dt.perm {hb : Hl} : ∀ {q : Nat} {D D' : List Nat} {t : Array Value} {h : Hl}, (∀ j, j ∈ D ↔ j ∈ D') → Dt P r f R w0 S Y n k ops hb q D t h → Dt P r f R w0 S Y n k ops hb q D' t h
  | 0, _, _, _, _, _, hd => hd
  | q + 1, D, D', t, h, hp, hd => by
    rw [Dt] at hd ⊢
    rw [← readyL_congr hp]
    rcases hd with hd | ⟨h1, h2⟩
    · exact .inl hd
    · exact .inr ⟨h1, fun i hi => (h2 i hi).mono (fun t' h' ⟨e1, e2⟩ => ⟨e1, e2.perm (fun j => by rw [List.mem_cons, List.mem_cons, hp j])⟩)⟩
theorem set_comm {t : Array Value} {d e : Nat} {u v : Value} (hne : d ≠ e) : (t.setIfInBounds d u).setIfInBounds e v = (t.setIfInBounds e v).setIfInBounds d u := by
  apply Array.ext_getElem?
  intro j
  simp only [Array.getElem?_setIfInBounds, Array.size_setIfInBounds]
  by_cases h1 : e = j
  · by_cases h2 : d = j
    · exact absurd (h2.trans h1.symm) hne
    · simp [h1, h2]
  · by_cases h2 : d = j <;> simp [h1, h2]
/-- what only reads may be taken first -/
theorem Dt.pure {hb : Hl} {i d : Nat} (hf : PureF ops i d) (hd : d < n) : ∀ {q : Nat} {D : List Nat} {t : Array Value} {h : Hl} {v : Value}, t.size = n → i ∈ readyL ops D → Outc P w0 S n hb ops i t d v → hb.Sublist h → Dt P r f R w0 S Y n k ops hb q (i :: D) (t.setIfInBounds d v) h → Dt P r f R w0 S Y n k ops hb (q + 1) D t h
  | 0, _, _, _, _, _, _, _, _, hd => hd.elim
  | q + 1, D, t, h, v, hts, hi, ho, hs, hdt => by
    have hme : StepC P w0 S n ops i t h (fun t' h' => hb.Sublist h' ∧ Dt P r f R w0 S Y n k ops hb (q + 1) (i :: D) t' h') := StepC.pure ho hf.sel hs ⟨hs, hdt⟩
    have hne : readyL ops D ≠ [] := fun e => by rw [e] at hi; cases hi
    obtain ⟨hiS, hiD, hid⟩ := mem_readyL.1 hi
    rw [Dt]
    refine .inr ⟨hne, fun j hj => ?_⟩
    by_cases hji : j = i
    · rw [hji]; exact hme
    obtain ⟨hjS, hjD, hjd⟩ := mem_readyL.1 hj
    have hj2 : j ∈ readyL ops (i :: D) := mem_readyL.2 ⟨hjS, by simp [hji, hjD], fun e he => List.mem_cons_of_mem _ (hjd e he)⟩
    rw [Dt] at hdt
    rcases hdt with ⟨h1, _⟩ | ⟨_, h2⟩
    · rw [h1] at hj2; cases hj2
    have hjo : ∀ o, ops[j]? = some o → d ∉ eyes ops o := fun o hoo hm => (hf.seen j o hjS hji hoo hm).elim (fun h5 => hiD (hjd i h5)) (fun h5 => hjD (hid j h5))
    refine (h2 j hj2).congr (by simp) (fun o hoo s hse => ?_) (fun e u h' hde hk => ?_)
    · have hds : d ≠ s := fun e1 => hjo o hoo (by rw [e1]; exact hse)
      rw [getD_set (by rw [hts]; exact hd), if_neg hds]
    · obtain ⟨hk1, hk2⟩ := hk
      refine ⟨hk1, ?_⟩
      have hde2 : d ≠ e := fun e1 => hf.one j hjS hji (by rw [hde, e1])
      rw [set_comm hde2] at hk2
      have hi2 : i ∈ readyL ops (j :: D) := mem_readyL.2 ⟨hiS, by simp [Ne.symm hji, hiD], fun e he => List.mem_cons_of_mem _ (hid e he)⟩
      refine Dt.pure hf hd (by simpa using hts) hi2 (ho.congr hf.sel (by simp) (fun o hoo s hse => ?_)) hk1 (hk2.perm (fun x => by simp only [List.mem_cons]; exact or_left_comm))
      have hes : e ≠ s := fun e1 => by
        subst e1
        rcases hf.sees j e o hjS hji hde hoo hse with h5 | h5
        · exact hjD (hid j h5)
        · exact hiD (hjd i h5)
      by_cases hlt : e < t.size
      · rw [getD_set hlt, if_neg hes]
      · rw [show t.setIfInBounds e u = t from Array.setIfInBounds_eq_of_size_le (Nat.le_of_not_lt hlt)]
theorem Dt.go {hb : Hl} : ∀ (fuel τ : Nat) (arr : Array Bool) (D : List Nat) (q : Nat) (t : Array Value) (h : Hl) (w : World) (Ds : List Nat), arr.size = ops.size → (∀ j, arr.getD j false = D.contains j) → Dt P r f R w0 S Y n k ops hb q D t h → St w0 S w h (mkY Ds ++ Y) → (List.range ops.size).countP (fun j => !D.contains j) ≤ fuel →
    Gos P r f R (.inRegion ops (Region.linearise.go .any ops fuel τ arr []) :: k) t (Ds.map mark) w
  | _, _, _, _, 0, _, _, _, _, _, _, hd, _, _ => hd.elim
  | fuel, τ, arr, D, q + 1, t, h, w, Ds, hs, ha, hd, hS, hfu => by
    rw [Dt] at hd
    rcases hd with ⟨h0, hg⟩ | ⟨h1, h2⟩
    · have : Region.linearise.go .any ops fuel τ arr [] = [] := by
        cases fuel with
        | zero => rfl
        | succ fuel =>
          simp only [Region.linearise.go]
          change (match (Region.ready .any ops arr)[_ % (Region.ready .any ops arr).length]? with
            | some i => _
            | none => [].reverse) = []
          rw [ready_eq hs ha, h0]; rfl
      rw [this]; exact hg w Ds hS
    · cases fuel with
      | zero =>
        exfalso
        obtain ⟨x, hx⟩ := List.exists_mem_of_ne_nil _ h1
        obtain ⟨e1, e2, _⟩ := mem_readyL.1 hx
        have : 0 < (List.range ops.size).countP (fun j => !D.contains j) := List.countP_pos_iff.2 ⟨x, by simpa using e1, by simpa using e2⟩
        omega
      | succ fuel =>
        have hpos : 0 < (readyL ops D).length := List.length_pos_iff.2 h1
        simp only [Region.linearise.go]
        change Gos P r f R (.inRegion ops (match (Region.ready .any ops arr)[τ % (Region.ready .any ops arr).length]? with
          | some i => Region.linearise.go .any ops fuel (τ / (Region.ready .any ops arr).length) (arr.setIfInBounds i true) [i]
          | none => [].reverse) :: k) t (Ds.map mark) w
        rw [ready_eq hs ha]
        have hlt : τ % (readyL ops D).length < (readyL ops D).length := Nat.mod_lt _ hpos
        rw [List.getElem?_eq_getElem hlt]
        obtain ⟨x, hx⟩ : ∃ x, x = (readyL ops D)[τ % (readyL ops D).length] := ⟨_, rfl⟩
        rw [← hx]
        have hxm : x ∈ readyL ops D := by rw [hx]; exact List.getElem_mem hlt
        obtain ⟨e1, e2, _⟩ := mem_readyL.1 hxm
        dsimp only
        rw [linearise_go_acc, List.reverse_singleton, List.singleton_append]
        have hnext : ∀ (t' : Array Value) (h' : Hl) (w' : World), hb.Sublist h' ∧ Dt P r f R w0 S Y n k ops hb q (x :: D) t' h' → St w0 S w' h' (mkY Ds ++ Y) → Gos P r f R (.inRegion ops (Region.linearise.go .any ops fuel (τ / (readyL ops D).length) (arr.setIfInBounds x true) []) :: k) t' (Ds.map mark) w' := fun t' h' w' hK hS' => by
          refine Dt.go fuel _ _ (x :: D) q t' h' w' Ds (by simpa using hs) (fun j => ?_) hK.2 hS' ?_
          · rw [getD_listed (by omega), ha j, List.contains_cons]
            split
            · rename_i e; subst e; simp
            · rename_i e; rw [beq_false_of_ne (Ne.symm e)]; rfl
          · have := countP_lt (l := List.range ops.size) (p := fun j => !(x :: D).contains j) (q := fun j => !D.contains j) (fun y _ hy => by simp at hy ⊢; exact hy.2) ⟨x, by simpa using e1, by simpa using e2, by simp⟩
            omega
        obtain ⟨o, d, ho, hdst, hnd, hsel, hdn, hr⟩ := h2 x hxm
        rcases hr with ⟨hw, hr⟩ | ⟨hw, hk⟩
        · rcases hr w Ds _ hS with ⟨v, w', h', h3, h4, h5⟩ | ⟨gf, args, Rc, h3, h4, h5⟩
          · refine Gos.op ho hw (not_defer hnd) h3 (.inl rfl) ?_
            rw [hdst]; exact hnext _ _ _ h5 h4
          · refine Gos.call ho hw (not_defer hnd) h3 h4 (fun u w2 hu => ?_)
            obtain ⟨h', h6, h7⟩ := h5 u w2 hu
            rw [hdst]; exact hnext _ _ _ h7 h6
        · refine Gos.opSkip ho hw ?_
          rw [hdst]; exact hnext _ _ _ hk hS
/-- such a region, by what is known of the frame -/
def RdC (P : Program) (r : Option Nat) (f : FuncId) (R : Value → World → Prop) (w0 : World) (S : List Nat) (Y : List (Nat × Obj)) (n : Nat) (k : List Item) (ops : Array Oper) (hb : Hl) (q : Nat) (D : List Nat) (l : Fl) (h : Hl) : Prop :=
  ∀ t, Frm n t l → Dt P r f R w0 S Y n k ops hb q D t h
variable {hb : Hl} {q : Nat} {D : List Nat}
theorem GoH.drawC {id : Nat} (q : Nat) (hb : Hl) (hmix : P.follows .mixedOrders = true) (hg : RdC P r f R w0 S Y n k ops hb q [] l h) : GoH P r f R w0 S Y n (.code (.region id ops true) :: k) l h := by
  intro t w Ds hF hS
  refine .regionDraw (fun τ => ?_)
  simp only [Region.schedule, hmix, Bool.true_or, if_true, Region.linearise]
  refine Dt.go ops.size τ _ [] q t h _ Ds (by simp) (fun j => ?_) (hg t hF) hS.drew ?_
  · simp [Array.getD_eq_getD_getElem?, Array.getElem?_replicate]; split <;> simp
  · exact Nat.le_trans List.countP_le_length (by simp)
theorem GoH.drawCh {id : Nat} (q : Nat) (hmix : P.follows .mixedOrders = true) (hg : RdC P r f R w0 S Y n k ops h q [] l h) : GoH P r f R w0 S Y n (.code (.region id ops true) :: k) l h := GoH.drawC q h hmix hg
theorem GoH.drawC1 {id : Nat} {p : Option Nat × Obj} (q : Nat) (hmix : P.follows .mixedOrders = true) (hg : RdC P r f R w0 S Y n k ops [p] q [] l (p :: h)) : GoH P r f R w0 S Y n (.code (.region id ops true) :: k) l (p :: h) := GoH.drawC q [p] hmix hg
theorem RdC.done (h0 : readyL ops D = []) (hg : GoH P r f R w0 S Y n (.inRegion ops [] :: k) l h) : RdC P r f R w0 S Y n k ops hb (q + 1) D l h := fun t hF => .inl ⟨h0, fun w Ds hS => hg t w Ds hF hS⟩
theorem RdC.outc {i d : Nat} {v : Value} (hi : (readyL ops D).contains i = true) (hp : pureOk ops i = true) (ho : ∀ t, Frm n t l → Outc P w0 S n hb ops i t d v) (hs : hb.Sublist h) (hg : RdC P r f R w0 S Y n k ops hb q (i :: D) ((d, v) :: l) h) : RdC P r f R w0 S Y n k ops hb (q + 1) D l h := by
  intro t hF
  obtain ⟨d', hf⟩ := pureF_of hp
  have hO := ho t hF
  obtain ⟨o, h1, h2, h3, _⟩ := hO
  have e : d' = d := by
    have := hf.dst
    simp [dstOf, h1, h2] at this; exact this.symm
  subst e
  exact Dt.pure hf h3 hF.1 (by simpa using hi) (ho t hF) hs (hg _ (hF.put v (by simpa [Nat.blt_eq] using h3)))
theorem RdC.v {i d : Nat} {v : Value} (hv : Vop P w0 S n hb ops i l d v) (hi : (readyL ops D).contains i = true) (hp : pureOk ops i = true) (hs : hb.Sublist h) (hg : RdC P r f R w0 S Y n k ops hb q (i :: D) ((d, v) :: l) h) : RdC P r f R w0 S Y n k ops hb (q + 1) D l h := by
  refine RdC.outc hi hp (fun t hF => ?_) hs hg
  obtain ⟨o, ho, hw, hdst, hnd, hd, hr⟩ := hv
  exact ⟨o, ho, hdst, by simpa [Nat.blt_eq] using hd, hnd, .inl ⟨want_of hF hw, fun w Ds Y' hS => by
    obtain ⟨nx, h1, rfl⟩ := hr t w Ds Y' hF hS; exact .inl h1⟩⟩
/-- one operation is next -/
theorem RdC.one {i d : Nat} (h1 : readyL ops D = [i]) (hm : Mop P w0 S n h ops i l d (fun v h' => hb.Sublist h' ∧ RdC P r f R w0 S Y n k ops hb q (i :: D) ((d, v) :: l) h')) (hd : Nat.blt d n = true) : RdC P r f R w0 S Y n k ops hb (q + 1) D l h := by
  intro t hF
  rw [Dt]
  refine .inr ⟨by rw [h1]; simp, fun j hj => ?_⟩
  rw [h1] at hj; obtain rfl := List.mem_singleton.1 hj
  exact StepC.of hm hF (fun v h' ⟨e1, e2⟩ => ⟨e1, e2 _ (hF.put v hd)⟩)
theorem RdC.call {i d : Nat} {ty : TypeId} {pos : String} {aft : Array Edge} {g : Option (Nat × Bool)} {az : Array Operand} {ts : Array TypeId} {cal : Operand} {gf : FuncId} {vs : List Value} (Rc : World → Value → World → Prop) (h1 : readyL ops D = [i]) (ho : ops[i]? = some ⟨some d, .call ⟨.value cal, az, ts⟩, ty, pos, aft, g⟩) (hw : wantL ops l g = true)
    (hc : opd l cal = some (.func (.func gf) #[] #[])) (hx : opds l az.toList = some vs) (hd : Nat.blt d n = true) (hcf : ∀ args w, (callFunc gf args).run P w = .ok (.enter gf args) w)
    (hcall : ∀ w Y', St w0 S w h Y' → Cn P gf vs w (Rc w))
    (hk : ∀ v w w' Y', St w0 S w h Y' → Ex [] w w' → Rc w v w' → ∃ h', St w0 S w' h' Y' ∧ hb.Sublist h' ∧ RdC P r f R w0 S Y n k ops hb q (i :: D) ((d, v) :: l) h') : RdC P r f R w0 S Y n k ops hb (q + 1) D l h :=
  RdC.one h1 (Mop.call Rc ho hw hc hx hd hcf hcall (fun v w w' Y' hS he hr => by
    obtain ⟨h', e1, e2, e3⟩ := hk v w w' Y' hS he hr; exact ⟨h', e1, e2, e3⟩)) hd
theorem RdC.callP {i d : Nat} {v : Value} {ty : TypeId} {pos : String} {aft : Array Edge} {g : Option (Nat × Bool)} {az : Array Operand} {ts : Array TypeId} {cal : Operand} {gf : FuncId} {vs : List Value} (h1 : readyL ops D = [i]) (ho : ops[i]? = some ⟨some d, .call ⟨.value cal, az, ts⟩, ty, pos, aft, g⟩) (hw : wantL ops l g = true)
    (hc : opd l cal = some (.func (.func gf) #[] #[])) (hx : opds l az.toList = some vs) (hd : Nat.blt d n = true) (hcf : ∀ args w, (callFunc gf args).run P w = .ok (.enter gf args) w)
    (hcall : ∀ w Y', St w0 S w h Y' → Cn P gf vs w (fun u _ => u = v)) (hs : hb.Sublist h) (hg : RdC P r f R w0 S Y n k ops hb q (i :: D) ((d, v) :: l) h) : RdC P r f R w0 S Y n k ops hb (q + 1) D l h :=
  RdC.call (fun _ u _ => u = v) h1 ho hw hc hx hd hcf hcall (fun _u _ _ _ hS he e => ⟨h, hS.later he, hs, e ▸ hg⟩)
end
end Go.Proofs.Wit
namespace Go.Proofs.Wit
open Go Go.RowKit
/-! regions that draw their order, with calls that turn given blocks -/
section
variable {P : Program} {r : Option Nat} {f : FuncId} {R : Value → World → Prop} {w0 : World} {S : List Nat} {Y : List (Nat × Obj)} {n : Nat} {k : List Item} {l : Fl} {h hb : Hl} {ops : Array Oper} {q : Nat} {Dn : List Nat}
theorem RdC.callS {i d : Nat} {ty : TypeId} {pos : String} {aft : Array Edge} {g : Option (Nat × Bool)} {az : Array Operand} {ts : Array TypeId} {cal : Operand} {gf : FuncId} {fs cs vs : List Value} {hC hF : Hl} (hp : h.Perm (hC ++ hF)) (Rc : World → Value → Hl → Prop) (h1 : readyL ops Dn = [i]) (ho : ops[i]? = some ⟨some d, .call ⟨.value cal, az, ts⟩, ty, pos, aft, g⟩) (hw : wantL ops l g = true)
    (hc : opd l cal = some (.func (.func gf) fs.toArray cs.toArray)) (hx : opds l az.toList = some vs) (hd : Nat.blt d n = true) (hcf : ∀ args w, (callFunc gf args).run P w = .ok (.enter gf args) w)
    (hcall : ∀ w Y', St w0 S w (hC ++ hF) Y' → CnS P gf (fs ++ vs ++ cs) w hC (Rc w))
    (hk : ∀ w v h', Rc w v h' → ∃ H, (h' ++ hF).Perm H ∧ hb.Sublist H ∧ RdC P r f R w0 S Y n k ops hb q (i :: Dn) ((d, v) :: l) H) : RdC P r f R w0 S Y n k ops hb (q + 1) Dn l h := by
  refine RdC.one h1 ⟨_, ho, rfl, rfl, rfl, hd, .inl ⟨hw, fun t w Ds Y' hF' hS => .inr ⟨gf, (fs ++ vs ++ cs).toArray, fun v w' => ∃ h', Rc w v h' ∧ St w (blks hC) w' h' [], ?_, ?_, fun v w' ⟨h', h1, h2⟩ => ?_⟩⟩⟩ hd
  · have e1 := resolve_run (P := P) (ty := ty) (ts := ts) (Ds := Ds) (w := w) hF' hc hx
    simp only [execOp, Sem.run_bind, e1, Result.andThen_ok, invoke, hcf]
    simp
  · exact Calls.mono (hcall w Y' (hS.perm hp)) (fun e w' ⟨v, h', e1, e2, e3⟩ => ⟨v, e1, h', e2, e3⟩)
  · obtain ⟨H, hp2, hs, hg⟩ := hk w v h' h1
    exact ⟨H, ((hS.perm hp).frame h2).perm hp2, hs, hg⟩
end
section
variable {P : Program} {r : Option Nat} {f : FuncId} {R : Value → World → Prop} {w0 : World} {Y : List (Nat × Obj)} {n : Nat} {k : List Item} {l : Fl} {hb : Option Nat × Obj} {ops : Array Oper} {i d : Nat} {ty : TypeId} {pos : String} {aft : Array Edge} {g : Option (Nat × Bool)}
variable {az : Array Operand} {ts : Array TypeId} {cal : Operand} {gf : FuncId} {vs : List Value} {t tn : TypeId} {c : List NV} {na : Option Addr} {nc bk m0 m1 D D' : Nat} {L0 L1 La Lb : Nm} {F : Hl} {u : Tr} {q : Nat} {Dn : List Nat}
theorem RdC.nStep (hp : NPre t tn c na nc bk m0 m1 w0 L0 L1) (gr : NGrew t c D L0 L1 La Lb F) (hj : D' ≤ D) (h1 : readyL ops Dn = [i]) (ho : ops[i]? = some ⟨some d, .call ⟨.value cal, az, ts⟩, ty, pos, aft, g⟩) (hw : wantL ops l g = true)
    (hc : opd l cal = some (.func (.func gf) #[] #[])) (hx : opds l az.toList = some vs) (hd : Nat.blt d n = true) (hcf : ∀ args w, (callFunc gf args).run P w = .ok (.enter gf args) w)
    (hof : ∀ w L0 L1, NPre t tn c na nc bk m0 m1 w L0 L1 → CnS P gf vs w (nmH m0 L0 m1 L1) (NfPost t c m0 m1 D' u L0 L1))
    (hk : ∀ fv La' Lb' F', NGrew t c D L0 L1 La' Lb' F' → (∀ x, Held t La Lb F x → Held t La' Lb' F' x) → fv.f = bT u → Held t La' Lb' F' fv → RdC P r f R w0 [m0, m1] Y n k ops [hb] q (i :: Dn) ((d, fv.v) :: l) (hb :: (nmH m0 La' m1 Lb' ++ F'))) :
    RdC P r f R w0 [m0, m1] Y n k ops [hb] (q + 1) Dn l (hb :: (nmH m0 La m1 Lb ++ F)) := by
  refine RdC.callS (hC := nmH m0 La m1 Lb) (hF := hb :: F) (fs := []) (cs := []) perm_n1 (fun _ => NfPost t c m0 m1 D' u La Lb) h1 ho hw hc hx hd hcf (fun w Y' hS => ?_) (fun w v h' hR => ?_)
  · rw [List.nil_append, List.append_nil]
    exact hof w _ _ (hp.step hS (List.sublist_append_left _ _) (fun _ h => List.mem_append_right _ (List.mem_cons_of_mem _ h)) gr)
  · obtain ⟨fv, La', Lb', F2, rfl, rfl, g2, hf, hh⟩ := hR
    exact ⟨hb :: (nmH m0 La' m1 Lb' ++ (F2 ++ F)), perm_n2, .cons_cons _ (List.nil_sublist _), hk fv La' Lb' (F2 ++ F) (gr.seq g2 hj (List.subset_append_right _ _) (List.subset_append_left _ _)) (fun x hx => hx.mono g2.s0 g2.s1 (List.subset_append_right _ _)) hf (hh.mono (fun _ h => h) (fun _ h => h) (List.subset_append_left _ _))⟩
theorem RdC.nMk (gr : NGrew t c D L0 L1 La Lb F) (h1 : readyL ops Dn = [i]) (ho : ops[i]? = some ⟨some d, .call ⟨.value cal, az, ts⟩, ty, pos, aft, g⟩) (hw : wantL ops l g = true)
    (hc : opd l cal = some (.func (.func gf) #[] #[])) (hx : opds l az.toList = some vs) (hd : Nat.blt d n = true) (hcf : ∀ args w, (callFunc gf args).run P w = .ok (.enter gf args) w)
    (hcall : ∀ w Y', St w0 [m0, m1] w (hb :: (nmH m0 La m1 Lb ++ F)) Y' → Cn P gf vs w (fun v w' => OwnN t w w' v (bT u)))
    (hk : ∀ fv F', NGrew t c D L0 L1 La Lb F' → (∀ x, Held t La Lb F x → Held t La Lb F' x) → fv.f = bT u → Held t La Lb F' fv → RdC P r f R w0 [m0, m1] Y n k ops [hb] q (i :: Dn) ((d, fv.v) :: l) (hb :: (nmH m0 La m1 Lb ++ F'))) :
    RdC P r f R w0 [m0, m1] Y n k ops [hb] (q + 1) Dn l (hb :: (nmH m0 La m1 Lb ++ F)) := by
  refine RdC.call (fun w v w' => OwnN t w w' v (bT u)) h1 ho hw hc hx hd hcf hcall (fun v w w' Y' hS he hO => ?_)
  obtain ⟨qq, cap, sp, rfl, hq, hcap, hS'⟩ := gainN hS he hO
  have hpm : ((qq, obN t (bT u) sp) :: hb :: (nmH m0 La m1 Lb ++ F)).Perm (hb :: (nmH m0 La m1 Lb ++ ((qq, obN t (bT u) sp) :: F))) :=
    (List.Perm.swap _ _ _).trans (List.Perm.cons _ perm_n1)
  refine ⟨_, hS'.perm hpm, .cons_cons _ (List.nil_sublist _), ?_⟩
  have e1 : osv qq (bT u).length cap = FV.v ⟨qq.map (fun b => ⟨b, 0, none⟩), cap, bT u⟩ := by cases qq <;> rfl
  rw [e1]
  exact hk _ _ (gr.mono (Nat.le_refl _) (List.subset_cons_self _ _)) (fun x hx => hx.mono (fun _ h => h) (fun _ h => h) (List.subset_cons_self _ _)) rfl (.inl ⟨qq, sp, List.mem_cons_self .., rfl, hq, hcap⟩)
end
end Go.Proofs.Wit
