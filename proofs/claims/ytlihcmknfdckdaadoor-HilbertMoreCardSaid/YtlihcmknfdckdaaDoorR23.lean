/- Laws of walks, for any program, under the conditions that each theorem states. -/
import Derived.Test.YtlihcmknfdckdaaDoorR03
import Derived.Test.YtlihcmknfdckdaaDoorR04
import Derived.Test.YtlihcmknfdckdaaDoorR17
import Derived.Test.YtlihcmknfdckdaaDoorR15
namespace Go.Proofs.Wit
open Go Go.RowKit
/-! regions that draw their order, in general: what only reads may be taken first; else one operation is next -/
/-- static: what only reads, and alone writes its slot -/
def pureOk (ops : Array Oper) (i : Nat) : Bool := match ops[i]? with
  | none => false
  | some o => notSel o.op && match o.dst with
    | none => false
    | some d => (List.range ops.size).all (fun j => Nat.beq j i || (!(dstOf ops j == some d) && (match ops[j]? with
      | none => true
      | some p => (!(eyes ops p).contains d || (dirs ops j).contains i || (dirs ops i).contains j)) && (match dstOf ops j with
      | none => true
      | some e => (!(eyes ops o).contains e || (dirs ops i).contains j || (dirs ops j).contains i))))
structure PureF (ops : Array Oper) (i d : Nat) : Prop where
  sel : ∀ o, ops[i]? = some o → notSel o.op = true
  dst : dstOf ops i = some d
  one : ∀ j, j < ops.size → j ≠ i → dstOf ops j ≠ some d
  seen : ∀ j p, j < ops.size → j ≠ i → ops[j]? = some p → d ∈ eyes ops p → i ∈ dirs ops j ∨ j ∈ dirs ops i
  sees : ∀ j e o, j < ops.size → j ≠ i → dstOf ops j = some e → ops[i]? = some o → e ∈ eyes ops o → j ∈ dirs ops i ∨ i ∈ dirs ops j
theorem pureF_of {ops : Array Oper} {i : Nat} (h : pureOk ops i = true) : ∃ d, PureF ops i d := by
  unfold pureOk at h
  split at h
  · cases h
  · rename_i o ho
    rw [Bool.and_eq_true] at h
    obtain ⟨h1, h2⟩ := h
    split at h2
    · cases h2
    · rename_i d hd
      simp only [List.all_eq_true, List.mem_range, Bool.or_eq_true, Nat.beq_eq, Bool.and_eq_true, Bool.not_eq_true'] at h2
      refine ⟨d, fun p hp => by rw [ho] at hp; cases hp; exact h1, by simp [dstOf, ho, hd], fun j hj hne => ?_, fun j p hj hne hp hm => ?_, fun j e p hj hne he hp hm => ?_⟩
      · rcases h2 j hj with h | h
        · exact absurd h hne
        · simpa using h.1.1
      · rcases h2 j hj with h | h
        · exact absurd h hne
        · have := h.1.2
          rw [hp] at this
          simp only [Bool.or_eq_true, Bool.not_eq_true'] at this
          rcases this with (h3 | h3) | h3
          · rw [List.contains_eq_mem, decide_eq_false_iff_not] at h3; exact absurd hm h3
          · exact .inl (by simpa using h3)
          · exact .inr (by simpa using h3)
      · rcases h2 j hj with h | h
        · exact absurd h hne
        · have := h.2
          rw [he] at this
          simp only [Bool.or_eq_true, Bool.not_eq_true'] at this
          rw [ho] at hp; cases hp
          rcases this with (h3 | h3) | h3
          · rw [List.contains_eq_mem, decide_eq_false_iff_not] at h3; exact absurd hm h3
          · exact .inl (by simpa using h3)
          · exact .inr (by simpa using h3)
section
variable {P : Program} {r : Option Nat} {f : FuncId} {R : Value → World → Prop} {w0 : World} {S : List Nat} {Y : List (Nat × Obj)} {n : Nat} {k : List Item} {l : Fl} {h : Hl} {ops : Array Oper}
def StepC (P : Program) (w0 : World) (S : List Nat) (n : Nat) (ops : Array Oper) (i : Nat) (t : Array Value) (h : Hl) (K : Array Value → Hl → Prop) : Prop :=
  ∃ o d, ops[i]? = some o ∧ o.dst = some d ∧ isDefer o.op = false ∧ notSel o.op = true ∧ d < n ∧
    ((Region.wanted o (yielded ops t) = true ∧ ∀ (w : World) (Ds : List Nat) (Y' : List (Nat × Obj)), St w0 S w h Y' →
      (∃ v w' h', (execOp (Act.eval ⟨t, Ds.map mark⟩) o).run P w = .ok (.value v) w' ∧ St w0 S w' h' Y' ∧ K (t.setIfInBounds d v) h') ∨
      (∃ gf args, ∃ Rc : Value → World → Prop, (execOp (Act.eval ⟨t, Ds.map mark⟩) o).run P w = .ok (.enter gf args) w ∧ (Calls P gf args w fun e w' => ∃ v, e = .returned v ∧ Rc v w') ∧ ∀ v w', Rc v w' → ∃ h', St w0 S w' h' Y' ∧ K (t.setIfInBounds d v) h')) ∨
    (Region.wanted o (yielded ops t) = false ∧ K (t.setIfInBounds d undef) h))
theorem StepC.of {i d : Nat} {K : Value → Hl → Prop} {K' : Array Value → Hl → Prop} {t : Array Value} (hm : Mop P w0 S n h ops i l d K) (hF : Frm n t l) (hK : ∀ v h', K v h' → K' (t.setIfInBounds d v) h') : StepC P w0 S n ops i t h K' := by
  obtain ⟨o, ho, hdst, hnd, hsel, hd, hr⟩ := hm
  refine ⟨o, d, ho, hdst, hnd, hsel, by simpa [Nat.blt_eq] using hd, ?_⟩
  rcases hr with ⟨hw, hr⟩ | ⟨hs, hk⟩
  · refine .inl ⟨want_of hF hw, fun w Ds Y' hS => ?_⟩
    rcases hr t w Ds Y' hF hS with ⟨v, w', h', h1, h2, h3⟩ | ⟨gf, args, Rc, h1, h2, h3⟩
    · exact .inl ⟨v, w', h', h1, h2, hK v h' h3⟩
    · refine .inr ⟨gf, args, Rc, h1, h2, fun v w' hR => ?_⟩
      obtain ⟨h', h4, h5⟩ := h3 v w' hR
      exact ⟨h', h4, hK v h' h5⟩
  · exact .inr ⟨skip_of hF hs, hK undef h hk⟩
theorem StepC.congr {i : Nat} {t t' : Array Value} {K K' : Array Value → Hl → Prop} (hm : StepC P w0 S n ops i t h K) (hs : t'.size = t.size) (he : ∀ o, ops[i]? = some o → ∀ s ∈ eyes ops o, t'.getD s undef = t.getD s undef)
    (hK : ∀ d v h', dstOf ops i = some d → K (t.setIfInBounds d v) h' → K' (t'.setIfInBounds d v) h') : StepC P w0 S n ops i t' h K' := by
  obtain ⟨o, d, ho, hdst, hnd, hsel, hd, hr⟩ := hm
  have hdo : dstOf ops i = some d := by simp [dstOf, ho, hdst]
  have hw := wanted_congr (ops := ops) (o := o) hs (he o ho)
  refine ⟨o, d, ho, hdst, hnd, hsel, hd, ?_⟩
  rcases hr with ⟨hwant, hr⟩ | ⟨hskip, hk⟩
  · refine .inl ⟨hw.trans hwant, fun w Ds Y' hS => ?_⟩
    have hexec : execOp (Act.eval ⟨t', Ds.map mark⟩) o = execOp (Act.eval ⟨t, Ds.map mark⟩) o := execOp_congr (ρ' := Act.eval ⟨t, Ds.map mark⟩) o (fun cs bb e => by rw [e] at hsel; cases hsel) (fun x hx => by
      cases x with
      | tmp s => exact he o ho s (by
          simp only [eyes, List.mem_append]
          exact .inr (List.mem_filterMap.2 ⟨.tmp s, by simpa using hx, rfl⟩))
      | const v => rfl
      | global g => rfl
      | func g => rfl)
    rw [hexec]
    rcases hr w Ds Y' hS with ⟨v, w', h', h1, h2, h3⟩ | ⟨gf, args, Rc, h1, h2, h3⟩
    · exact .inl ⟨v, w', h', h1, h2, hK d v h' hdo h3⟩
    · refine .inr ⟨gf, args, Rc, h1, h2, fun v w' hR => ?_⟩
      obtain ⟨h', h4, h5⟩ := h3 v w' hR
      exact ⟨h', h4, hK d v h' hdo h5⟩
  · exact .inr ⟨hw.trans hskip, hK d undef h hdo hk⟩
theorem StepC.pure {i d : Nat} {v : Value} {t : Array Value} {hb : Hl} {K : Array Value → Hl → Prop} (ho : Outc P w0 S n hb ops i t d v) (hsel : ∀ o, ops[i]? = some o → notSel o.op = true) (hs : hb.Sublist h) (hK : K (t.setIfInBounds d v) h) : StepC P w0 S n ops i t h K := by
  obtain ⟨o, h1, h2, h3, h4, h5⟩ := ho
  refine ⟨o, d, h1, h2, h4, hsel o h1, h3, ?_⟩
  rcases h5 with ⟨a, b⟩ | ⟨a, rfl⟩
  · refine .inl ⟨a, fun w Ds Y' hS => ?_⟩
    rcases b w Ds Y' (hS.subH hs) with hb2 | ⟨gf, args, hb2, hcall⟩
    · exact .inl ⟨v, w, h, hb2, hS, hK⟩
    · exact .inr ⟨gf, args, _, hb2, hcall, fun u w' ⟨he, hu⟩ => ⟨h, hS.later he, by rw [hu]; exact hK⟩⟩
  · exact .inr ⟨a, hK⟩
def Dt (P : Program) (r : Option Nat) (f : FuncId) (R : Value → World → Prop) (w0 : World) (S : List Nat) (Y : List (Nat × Obj)) (n : Nat) (k : List Item) (ops : Array Oper) (hb : Hl) : Nat → List Nat → Array Value → Hl → Prop
  | 0, _, _, _ => False
  | q + 1, D, t, h =>
    (readyL ops D = [] ∧ ∀ w Ds, St w0 S w h (mkY Ds ++ Y) → Gos P r f R (.inRegion ops [] :: k) t (Ds.map mark) w) ∨
    (readyL ops D ≠ [] ∧ ∀ i ∈ readyL ops D, StepC P w0 S n ops i t h (fun t' h' => hb.Sublist h' ∧ Dt P r f R w0 S Y n k ops hb q (i :: D) t' h'))
theorem StepC.mono {i : Nat} {t : Array Value} {K K' : Array Value → Hl → Prop} (hm : StepC P w0 S n ops i t h K) (hK : ∀ t' h', K t' h' → K' t' h') : StepC P w0 S n ops i t h K' := hm.congr rfl (fun _ _ _ _ => rfl) (fun _ _ _ _ h => hK _ _ h)
theorem Dt.perm {hb : Hl} : ∀ {q : Nat} {D D' : List Nat} {t : Array Value} {h : Hl}, (∀ j, j ∈ D ↔ j ∈ D') → Dt P r f R w0 S Y n k ops hb q D t h → Dt P r f R w0 S Y n k ops hb q D' t h
  | 0, _, _, _, _, _, hd => hd
  | q + 1, D, D', t, h, hp, hd => by
    rw [Dt] at hd ⊢
    rw [← readyL_congr hp]
    rcases hd with hd | ⟨h1, h2⟩
    · exact .inl hd
    · exact .inr ⟨h1, fun i hi => (h2 i hi).mono (fun t' h' ⟨e1, e2⟩ => ⟨e1, e2.perm (fun j => by rw [List.mem_cons, List.mem_cons, hp j])⟩)⟩
theorem set_comm {t : Array Value} {d e : Nat} {u v : Value} (hne : d ≠ e) : (t.setIfInBounds d u).setIfInBounds e v = (t.setIfInBounds e v).setIfInBounds d u := by
  apply Array.ext_getElem?
  intro j
  simp only [Array.getElem?_setIfInBounds, Array.size_setIfInBounds]
  by_cases h1 : e = j
  · by_cases h2 : d = j
    · exact absurd (h2.trans h1.symm) hne
    · simp [h1, h2]
  · by_cases h2 : d = j <;> simp [h1, h2]
theorem Dt.pure {hb : Hl} {i d : Nat} (hf : PureF ops i d) (hd : d < n) : ∀ {q : Nat} {D : List Nat} {t : Array Value} {h : Hl} {v : Value}, t.size = n → i ∈ readyL ops D → Outc P w0 S n hb ops i t d v → hb.Sublist h → Dt P r f R w0 S Y n k ops hb q (i :: D) (t.setIfInBounds d v) h → Dt P r f R w0 S Y n k ops hb (q + 1) D t h
  | 0, _, _, _, _, _, _, _, _, hd => hd.elim
  | q + 1, D, t, h, v, hts, hi, ho, hs, hdt => by
    have hme : StepC P w0 S n ops i t h (fun t' h' => hb.Sublist h' ∧ Dt P r f R w0 S Y n k ops hb (q + 1) (i :: D) t' h') := StepC.pure ho hf.sel hs ⟨hs, hdt⟩
    have hne : readyL ops D ≠ [] := fun e => by rw [e] at hi; cases hi
    obtain ⟨hiS, hiD, hid⟩ := mem_readyL.1 hi
    rw [Dt]
    refine .inr ⟨hne, fun j hj => ?_⟩
    by_cases hji : j = i
    · rw [hji]; exact hme
    obtain ⟨hjS, hjD, hjd⟩ := mem_readyL.1 hj
    have hj2 : j ∈ readyL ops (i :: D) := mem_readyL.2 ⟨hjS, by simp [hji, hjD], fun e he => List.mem_cons_of_mem _ (hjd e he)⟩
    rw [Dt] at hdt
    rcases hdt with ⟨h1, _⟩ | ⟨_, h2⟩
    · rw [h1] at hj2; cases hj2
    have hjo : ∀ o, ops[j]? = some o → d ∉ eyes ops o := fun o hoo hm => (hf.seen j o hjS hji hoo hm).elim (fun h5 => hiD (hjd i h5)) (fun h5 => hjD (hid j h5))
    refine (h2 j hj2).congr (by simp) (fun o hoo s hse => ?_) (fun e u h' hde hk => ?_)
    · have hds : d ≠ s := fun e1 => hjo o hoo (by rw [e1]; exact hse)
      rw [getD_set (by rw [hts]; exact hd), if_neg hds]
    · obtain ⟨hk1, hk2⟩ := hk
      refine ⟨hk1, ?_⟩
      have hde2 : d ≠ e := fun e1 => hf.one j hjS hji (by rw [hde, e1])
      rw [set_comm hde2] at hk2
      have hi2 : i ∈ readyL ops (j :: D) := mem_readyL.2 ⟨hiS, by simp [Ne.symm hji, hiD], fun e he => List.mem_cons_of_mem _ (hid e he)⟩
      refine Dt.pure hf hd (by simpa using hts) hi2 (ho.congr hf.sel (by simp) (fun o hoo s hse => ?_)) hk1 (hk2.perm (fun x => by simp only [List.mem_cons]; exact or_left_comm))
      have hes : e ≠ s := fun e1 => by
        subst e1
        rcases hf.sees j e o hjS hji hde hoo hse with h5 | h5
        · exact hjD (hid j h5)
        · exact hiD (hjd i h5)
      by_cases hlt : e < t.size
      · rw [getD_set hlt, if_neg hes]
      · rw [show t.setIfInBounds e u = t from Array.setIfInBounds_eq_of_size_le (Nat.le_of_not_lt hlt)]
theorem Dt.go {hb : Hl} : ∀ (fuel τ : Nat) (arr : Array Bool) (D : List Nat) (q : Nat) (t : Array Value) (h : Hl) (w : World) (Ds : List Nat), arr.size = ops.size → (∀ j, arr.getD j false = D.contains j) → Dt P r f R w0 S Y n k ops hb q D t h → St w0 S w h (mkY Ds ++ Y) → (List.range ops.size).countP (fun j => !D.contains j) ≤ fuel →
    Gos P r f R (.inRegion ops (Region.linearise.go .any ops fuel τ arr []) :: k) t (Ds.map mark) w
  | _, _, _, _, 0, _, _, _, _, _, _, hd, _, _ => hd.elim
  | fuel, τ, arr, D, q + 1, t, h, w, Ds, hs, ha, hd, hS, hfu => by
    rw [Dt] at hd
    rcases hd with ⟨h0, hg⟩ | ⟨h1, h2⟩
    · have : Region.linearise.go .any ops fuel τ arr [] = [] := by
        cases fuel with
        | zero => rfl
        | succ fuel =>
          simp only [Region.linearise.go]
          change (match (Region.ready .any ops arr)[_ % (Region.ready .any ops arr).length]? with
            | some i => _
            | none => [].reverse) = []
          rw [ready_eq hs ha, h0]; rfl
      rw [this]; exact hg w Ds hS
    · cases fuel with
      | zero =>
        exfalso
        obtain ⟨x, hx⟩ := List.exists_mem_of_ne_nil _ h1
        obtain ⟨e1, e2, _⟩ := mem_readyL.1 hx
        have : 0 < (List.range ops.size).countP (fun j => !D.contains j) := List.countP_pos_iff.2 ⟨x, by simpa using e1, by simpa using e2⟩
        omega
      | succ fuel =>
        have hpos : 0 < (readyL ops D).length := List.length_pos_iff.2 h1
        simp only [Region.linearise.go]
        change Gos P r f R (.inRegion ops (match (Region.ready .any ops arr)[τ % (Region.ready .any ops arr).length]? with
          | some i => Region.linearise.go .any ops fuel (τ / (Region.ready .any ops arr).length) (arr.setIfInBounds i true) [i]
          | none => [].reverse) :: k) t (Ds.map mark) w
        rw [ready_eq hs ha]
        have hlt : τ % (readyL ops D).length < (readyL ops D).length := Nat.mod_lt _ hpos
        rw [List.getElem?_eq_getElem hlt]
        obtain ⟨x, hx⟩ : ∃ x, x = (readyL ops D)[τ % (readyL ops D).length] := ⟨_, rfl⟩
        rw [← hx]
        have hxm : x ∈ readyL ops D := by rw [hx]; exact List.getElem_mem hlt
        obtain ⟨e1, e2, _⟩ := mem_readyL.1 hxm
        dsimp only
        rw [linearise_go_acc, List.reverse_singleton, List.singleton_append]
        have hnext : ∀ (t' : Array Value) (h' : Hl) (w' : World), hb.Sublist h' ∧ Dt P r f R w0 S Y n k ops hb q (x :: D) t' h' → St w0 S w' h' (mkY Ds ++ Y) → Gos P r f R (.inRegion ops (Region.linearise.go .any ops fuel (τ / (readyL ops D).length) (arr.setIfInBounds x true) []) :: k) t' (Ds.map mark) w' := fun t' h' w' hK hS' => by
          refine Dt.go fuel _ _ (x :: D) q t' h' w' Ds (by simpa using hs) (fun j => ?_) hK.2 hS' ?_
          · rw [getD_listed (by omega), ha j, List.contains_cons]
            split
            · rename_i e; subst e; simp
            · rename_i e; rw [beq_false_of_ne (Ne.symm e)]; rfl
          · have := countP_lt (l := List.range ops.size) (p := fun j => !(x :: D).contains j) (q := fun j => !D.contains j) (fun y _ hy => by simp at hy ⊢; exact hy.2) ⟨x, by simpa using e1, by simpa using e2, by simp⟩
            omega
        obtain ⟨o, d, ho, hdst, hnd, hsel, hdn, hr⟩ := h2 x hxm
        rcases hr with ⟨hw, hr⟩ | ⟨hw, hk⟩
        · rcases hr w Ds _ hS with ⟨v, w', h', h3, h4, h5⟩ | ⟨gf, args, Rc, h3, h4, h5⟩
          · refine Gos.op ho hw (not_defer hnd) h3 (.inl rfl) ?_
            rw [hdst]; exact hnext _ _ _ h5 h4
          · refine Gos.call ho hw (not_defer hnd) h3 h4 (fun u w2 hu => ?_)
            obtain ⟨h', h6, h7⟩ := h5 u w2 hu
            rw [hdst]; exact hnext _ _ _ h7 h6
        · refine Gos.opSkip ho hw ?_
          rw [hdst]; exact hnext _ _ _ hk hS
def RdC (P : Program) (r : Option Nat) (f : FuncId) (R : Value → World → Prop) (w0 : World) (S : List Nat) (Y : List (Nat × Obj)) (n : Nat) (k : List Item) (ops : Array Oper) (hb : Hl) (q : Nat) (D : List Nat) (l : Fl) (h : Hl) : Prop :=
  ∀ t, Frm n t l → Dt P r f R w0 S Y n k ops hb q D t h
variable {hb : Hl} {q : Nat} {D : List Nat}
theorem GoH.drawC {id : Nat} (q : Nat) (hb : Hl) (hmix : P.follows .mixedOrders = true) (hg : RdC P r f R w0 S Y n k ops hb q [] l h) : GoH P r f R w0 S Y n (.code (.region id ops true) :: k) l h := by
  intro t w Ds hF hS
  refine .regionDraw (fun τ => ?_)
  simp only [Region.schedule, hmix, Bool.true_or, if_true, Region.linearise]
  refine Dt.go ops.size τ _ [] q t h _ Ds (by simp) (fun j => ?_) (hg t hF) hS.drew ?_
  · simp [Array.getD_eq_getD_getElem?, Array.getElem?_replicate]; split <;> simp
  · exact Nat.le_trans List.countP_le_length (by simp)
theorem GoH.drawCh {id : Nat} (q : Nat) (hmix : P.follows .mixedOrders = true) (hg : RdC P r f R w0 S Y n k ops h q [] l h) : GoH P r f R w0 S Y n (.code (.region id ops true) :: k) l h := GoH.drawC q h hmix hg
theorem RdC.done (h0 : readyL ops D = []) (hg : GoH P r f R w0 S Y n (.inRegion ops [] :: k) l h) : RdC P r f R w0 S Y n k ops hb (q + 1) D l h := fun t hF => .inl ⟨h0, fun w Ds hS => hg t w Ds hF hS⟩
theorem RdC.outc {i d : Nat} {v : Value} (hi : (readyL ops D).contains i = true) (hp : pureOk ops i = true) (ho : ∀ t, Frm n t l → Outc P w0 S n hb ops i t d v) (hs : hb.Sublist h) (hg : RdC P r f R w0 S Y n k ops hb q (i :: D) ((d, v) :: l) h) : RdC P r f R w0 S Y n k ops hb (q + 1) D l h := by
  intro t hF
  obtain ⟨d', hf⟩ := pureF_of hp
  have hO := ho t hF
  obtain ⟨o, h1, h2, h3, _⟩ := hO
  have e : d' = d := by
    have := hf.dst
    simp [dstOf, h1, h2] at this; exact this.symm
  subst e
  exact Dt.pure hf h3 hF.1 (by simpa using hi) (ho t hF) hs (hg _ (hF.put v (by simpa [Nat.blt_eq] using h3)))
theorem RdC.v {i d : Nat} {v : Value} (hv : Vop P w0 S n hb ops i l d v) (hi : (readyL ops D).contains i = true) (hp : pureOk ops i = true) (hs : hb.Sublist h) (hg : RdC P r f R w0 S Y n k ops hb q (i :: D) ((d, v) :: l) h) : RdC P r f R w0 S Y n k ops hb (q + 1) D l h := by
  refine RdC.outc hi hp (fun t hF => ?_) hs hg
  obtain ⟨o, ho, hw, hdst, hnd, hd, hr⟩ := hv
  exact ⟨o, ho, hdst, by simpa [Nat.blt_eq] using hd, hnd, .inl ⟨want_of hF hw, fun w Ds Y' hS => by
    obtain ⟨nx, h1, rfl⟩ := hr t w Ds Y' hF hS; exact .inl h1⟩⟩
theorem RdC.no {i d : Nat} {o : Oper} (ho : ops[i]? = some o) (hw : skipL ops l o.guard = true) (hdst : o.dst = some d) (hnd : isDefer o.op = false) (hd : Nat.blt d n = true) (hi : (readyL ops D).contains i = true) (hp : pureOk ops i = true) (hs : hb.Sublist h) (hg : RdC P r f R w0 S Y n k ops hb q (i :: D) ((d, undef) :: l) h) : RdC P r f R w0 S Y n k ops hb (q + 1) D l h :=
  RdC.outc hi hp (fun _ hF => ⟨o, ho, hdst, by simpa [Nat.blt_eq] using hd, hnd, .inr ⟨skip_of hF hw, rfl⟩⟩) hs hg
theorem RdC.cases {d : Nat} {b : Bool} (hv : look l d = some (.bool b)) (ht : b = true → RdC P r f R w0 S Y n k ops hb q D ((d, .bool true) :: l) h) (hf : b = false → RdC P r f R w0 S Y n k ops hb q D ((d, .bool false) :: l) h) : RdC P r f R w0 S Y n k ops hb q D l h := by
  intro t hF
  cases hb2 : b with
  | true => exact ht hb2 t (frm_case hF hv hb2)
  | false => exact hf hb2 t (frm_case hF hv hb2)
theorem RdC.one {i d : Nat} (h1 : readyL ops D = [i]) (hm : Mop P w0 S n h ops i l d (fun v h' => hb.Sublist h' ∧ RdC P r f R w0 S Y n k ops hb q (i :: D) ((d, v) :: l) h')) (hd : Nat.blt d n = true) : RdC P r f R w0 S Y n k ops hb (q + 1) D l h := by
  intro t hF
  rw [Dt]
  refine .inr ⟨by rw [h1]; simp, fun j hj => ?_⟩
  rw [h1] at hj; obtain rfl := List.mem_singleton.1 hj
  exact StepC.of hm hF (fun v h' ⟨e1, e2⟩ => ⟨e1, e2 _ (hF.put v hd)⟩)
theorem RdC.call {i d : Nat} {ty : TypeId} {pos : String} {aft : Array Edge} {g : Option (Nat × Bool)} {az : Array Operand} {ts : Array TypeId} {cal : Operand} {gf : FuncId} {vs : List Value} (Rc : World → Value → World → Prop) (h1 : readyL ops D = [i]) (ho : ops[i]? = some ⟨some d, .call ⟨.value cal, az, ts⟩, ty, pos, aft, g⟩) (hw : wantL ops l g = true)
    (hc : opd l cal = some (.func (.func gf) #[] #[])) (hx : opds l az.toList = some vs) (hd : Nat.blt d n = true) (hcf : ∀ args w, (callFunc gf args).run P w = .ok (.enter gf args) w)
    (hcall : ∀ w Y', St w0 S w h Y' → Cn P gf vs w (Rc w))
    (hk : ∀ v w w' Y', St w0 S w h Y' → Ex [] w w' → Rc w v w' → ∃ h', St w0 S w' h' Y' ∧ hb.Sublist h' ∧ RdC P r f R w0 S Y n k ops hb q (i :: D) ((d, v) :: l) h') : RdC P r f R w0 S Y n k ops hb (q + 1) D l h :=
  RdC.one h1 (Mop.call Rc ho hw hc hx hd hcf hcall (fun v w w' Y' hS he hr => by
    obtain ⟨h', e1, e2, e3⟩ := hk v w w' Y' hS he hr; exact ⟨h', e1, e2, e3⟩)) hd
theorem RdC.callP {i d : Nat} {v : Value} {ty : TypeId} {pos : String} {aft : Array Edge} {g : Option (Nat × Bool)} {az : Array Operand} {ts : Array TypeId} {cal : Operand} {gf : FuncId} {vs : List Value} (h1 : readyL ops D = [i]) (ho : ops[i]? = some ⟨some d, .call ⟨.value cal, az, ts⟩, ty, pos, aft, g⟩) (hw : wantL ops l g = true)
    (hc : opd l cal = some (.func (.func gf) #[] #[])) (hx : opds l az.toList = some vs) (hd : Nat.blt d n = true) (hcf : ∀ args w, (callFunc gf args).run P w = .ok (.enter gf args) w)
    (hcall : ∀ w Y', St w0 S w h Y' → Cn P gf vs w (fun u _ => u = v)) (hs : hb.Sublist h) (hg : RdC P r f R w0 S Y n k ops hb q (i :: D) ((d, v) :: l) h) : RdC P r f R w0 S Y n k ops hb (q + 1) D l h :=
  RdC.call (fun _ u _ => u = v) h1 ho hw hc hx hd hcf hcall (fun _u _ _ _ hS he e => ⟨h, hS.later he, hs, e ▸ hg⟩)
end
end Go.Proofs.Wit
namespace Go.Proofs.Wit
open Go Go.RowKit
/-! tautologies -/
def lfB (op : Int) : Bool := op == 3 || decide (8 < op)
def cmbB (op : Int) (x y : Bool) : Bool := if op = 1 then true else if op = 4 then !x else if op = 5 then x && y else if op = 6 then x || y else if op = 7 then !x || y else if op = 8 then x == y else false
def evB (r : Tr → Bool) : Tr → Bool
  | .leaf op i e g => if lfB op = true then r (.leaf op i e g) else cmbB op false false
  | .un op i e g a => if lfB op = true then r (.un op i e g a) else cmbB op (evB r a) false
  | .bin op i e g a b => if lfB op = true then r (.bin op i e g a b) else cmbB op (evB r a) (evB r b)
def atT : Tr → List Tr
  | .leaf op i e g => if lfB op = true then [.leaf op i e g] else []
  | .un op i e g a => if lfB op = true then [.un op i e g a] else atT a
  | .bin op i e g a b => if lfB op = true then [.bin op i e g a b] else atT a ++ atT b
theorem ev_agree {r r' : Tr → Bool} : ∀ {t : Tr}, (∀ u ∈ atT t, r u = r' u) → evB r t = evB r' t
  | .leaf op i e g, h => by
    unfold evB atT at *
    split
    · rename_i hl; rw [if_pos hl] at h; exact h _ (List.mem_cons_self ..)
    · rfl
  | .un op i e g a, h => by
    unfold atT at h
    unfold evB
    split
    · rename_i hl; rw [if_pos hl] at h; exact h _ (List.mem_cons_self ..)
    · rename_i hl; rw [if_neg hl] at h; rw [ev_agree h]
  | .bin op i e g a b, h => by
    unfold atT at h
    unfold evB
    split
    · rename_i hl; rw [if_pos hl] at h; exact h _ (List.mem_cons_self ..)
    · rename_i hl
      rw [if_neg hl] at h
      rw [ev_agree (t := a) (fun u hu => h u (List.mem_append_left _ hu)), ev_agree (t := b) (fun u hu => h u (List.mem_append_right _ hu))]
def AxTau (t : Tr) : Prop := (∃ l : List Tr, l.Nodup ∧ (∀ u, u ∈ l ↔ u ∈ atT t) ∧ l.length ≤ 10) ∧ ∀ r : Tr → Bool, evB r t = true
theorem tau_iff {t : Tr} {l : List Tr} (hn : l.Nodup) (hm : ∀ u, u ∈ l ↔ u ∈ atT t) : AxTau t ↔ l.length ≤ 10 ∧ ∀ r : Tr → Bool, evB r t = true := by
  constructor
  · rintro ⟨⟨l', hn', hm', hl'⟩, h⟩
    have := hn.length_le_of_subset (fun u hu => (hm' u).2 ((hm u).1 hu) : l ⊆ l')
    exact ⟨by omega, h⟩
  · rintro ⟨h1, h2⟩
    exact ⟨⟨l, hn, hm, h1⟩, h2⟩
theorem bits_ex (b : Nat → Bool) : ∀ n : Nat, ∃ v, v < 2 ^ n ∧ ∀ k, k < n → v.testBit k = b k
  | 0 => ⟨0, by decide, fun k hk => absurd hk (Nat.not_lt_zero _)⟩
  | n + 1 => by
    obtain ⟨v, hv, h⟩ := bits_ex b n
    cases hb : b n with
    | false =>
      refine ⟨v, by rw [Nat.pow_succ]; omega, fun k hk => ?_⟩
      by_cases e : k = n
      · subst e; rw [hb]; exact Nat.testBit_lt_two_pow hv
      · exact h k (by omega)
    | true =>
      refine ⟨2 ^ n + v, by rw [Nat.pow_succ]; omega, fun k hk => ?_⟩
      by_cases e : k = n
      · subst e; rw [hb, Nat.testBit_two_pow_add_eq, Nat.testBit_lt_two_pow hv]; rfl
      · rw [Nat.testBit_two_pow_add_gt (by omega)]; exact h k (by omega)
theorem tau_nums {t : Tr} {l : List Tr} (hm : ∀ u, u ∈ l ↔ u ∈ atT t) {R : Nat → Tr → Bool} (hR : ∀ v u, u ∈ l → R v u = v.testBit (l.idxOf u)) : (∀ r : Tr → Bool, evB r t = true) ↔ ∀ v, v < 2 ^ l.length → evB (R v) t = true := by
  constructor
  · exact fun h v _ => h _
  · intro h r
    obtain ⟨v, hv, hb⟩ := bits_ex (fun k => r (l.getD k (.leaf 0 0 0 0))) l.length
    rw [← h v hv]
    refine ev_agree (fun u hu => ?_)
    have hul := (hm u).2 hu
    have hlt := List.idxOf_lt_length_of_mem hul
    rw [hR v u hul, hb _ hlt]
    simp [List.getD_eq_getElem?_getD, hlt, List.getElem_idxOf]
end Go.Proofs.Wit
namespace Go.Proofs.Wit
open Go Go.RowKit
/-! the walk to the atoms of a formula -/
abbrev sB (s : List Bool) (j : Nat) : Bool := s.getD j false
structure Lv (c : List NV) (i : Nat) (s : List Bool) (o : List Int) (s' : List Bool) (o' : List Int) : Prop where
  len : s'.length = s.length
  mono : ∀ j, sB s j = true → sB s' j = true
  self : sB s' i = true
  new : ∀ (j : Nat), sB s' j = true → sB s j = false → ∃ hj : j < c.length, (lfB c[j].op = true → treeAt c j ∈ atT (treeAt c i)) ∧ (lfB c[j].op = false → (usX c[j].op = true → sB s' c[j].x.toNat = true) ∧ (usY c[j].op = true → sB s' c[j].y.toNat = true))
  out : ∃ l : List Nat, o' = o ++ l.map (fun j : Nat => (j : Int)) ∧ l.Nodup ∧ ∀ j, j ∈ l ↔ (sB s' j = true ∧ sB s j = false ∧ ∃ hj : j < c.length, lfB c[j].op = true)
theorem sB_set {s : List Bool} {i j : Nat} (hi : i < s.length) : sB (s.set i true) j = if j = i then true else sB s j := by
  unfold sB
  by_cases e : j = i
  · subst e; simp [List.getD_eq_getElem?_getD, hi]
  · rw [if_neg e]; simp [List.getD_eq_getElem?_getD, Ne.symm e]
theorem sB_keep {s : List Bool} {i j : Nat} (hi : i < s.length) (h : sB s j = true) : sB (s.set i true) j = true := by
  rw [sB_set hi]; split
  · rfl
  · exact h
section
variable {c : List NV} {i : Nat} {s s1 s2 s3 : List Bool} {o o2 o3 : List Int}
theorem Lv.seen (h : sB s i = true) : Lv c i s o s o :=
  ⟨rfl, fun _ h => h, h, fun j h1 h2 => (by rw [h1] at h2; cases h2), [], by simp, List.nodup_nil, fun j => ⟨fun h => (by cases h), fun ⟨h1, h2, _⟩ => by rw [h1] at h2; cases h2⟩⟩
theorem atT_self {t : Tr} (h : lfB (topO t) = true) : atT t = [t] := by
  cases t <;> exact if_pos h
theorem Lv.leaf (hi : i < c.length) (hO : NodesOk c) (hs : s.length = c.length) (h0 : sB s i = false) (hl : lfB c[i].op = true) : Lv c i s o (s.set i true) (o ++ [(i : Int)]) := by
  have hst : ∀ j, sB (s.set i true) j = if j = i then true else sB s j := fun j => sB_set (by omega)
  have ht : topO (treeAt c i) = c[i].op := treeAt_op hi hO
  refine ⟨by simp, fun j h => sB_keep (by omega) h, by rw [hst]; simp, fun j h1 h2 => ?_, [i], by simp, by simp, fun j => ?_⟩
  · rw [hst] at h1
    by_cases e : j = i
    · subst e; exact ⟨hi, fun _ => by rw [atT_self (by rw [ht]; exact hl)]; exact List.mem_cons_self .., fun h => (by rw [hl] at h; cases h)⟩
    · rw [if_neg e, h2] at h1; cases h1
  · rw [hst, List.mem_singleton]
    constructor
    · rintro rfl; exact ⟨by simp, h0, hi, hl⟩
    · rintro ⟨h1, h2, _⟩
      by_cases e : j = i
      · exact e
      · rw [if_neg e, h2] at h1; cases h1
theorem Lv.node (hi : i < c.length) (hs : s.length = c.length) (h0 : sB s i = false) (hl : lfB c[i].op = false)
    (hA : (usX c[i].op = true ∧ Lv c c[i].x.toNat (s.set i true) o s2 o2 ∧ ∀ u ∈ atT (treeAt c c[i].x.toNat), u ∈ atT (treeAt c i)) ∨ (usX c[i].op = false ∧ s2 = s.set i true ∧ o2 = o))
    (hB : (usY c[i].op = true ∧ Lv c c[i].y.toNat s2 o2 s3 o3 ∧ ∀ u ∈ atT (treeAt c c[i].y.toNat), u ∈ atT (treeAt c i)) ∨ (usY c[i].op = false ∧ s3 = s2 ∧ o3 = o2)) : Lv c i s o s3 o3 := by
  have hst : ∀ j, sB (s.set i true) j = if j = i then true else sB s j := fun j => sB_set (by omega)
  have l2 : s2.length = s.length := by
    rcases hA with ⟨_, h, _⟩ | ⟨_, h, _⟩
    · rw [h.len]; simp
    · rw [h]; simp
  have m2 : ∀ j, sB (s.set i true) j = true → sB s2 j = true := fun j h => by
    rcases hA with ⟨_, h', _⟩ | ⟨_, h', _⟩
    · exact h'.mono j h
    · rw [h']; exact h
  have l3 : s3.length = s.length := by
    rcases hB with ⟨_, h, _⟩ | ⟨_, h, _⟩
    · rw [h.len, l2]
    · rw [h, l2]
  have m3 : ∀ j, sB s2 j = true → sB s3 j = true := fun j h => by
    rcases hB with ⟨_, h', _⟩ | ⟨_, h', _⟩
    · exact h'.mono j h
    · rw [h']; exact h
  have i1 : sB (s.set i true) i = true := by rw [hst]; simp
  have hx : usX c[i].op = true → sB s2 c[i].x.toNat = true := fun h => by
    rcases hA with ⟨_, h', _⟩ | ⟨h', _⟩
    · exact h'.self
    · rw [h] at h'; cases h'
  have hy : usY c[i].op = true → sB s3 c[i].y.toNat = true := fun h => by
    rcases hB with ⟨_, h', _⟩ | ⟨h', _⟩
    · exact h'.self
    · rw [h] at h'; cases h'
  have n2 : ∀ j, sB s2 j = true → sB (s.set i true) j = false → ∃ hj : j < c.length, (lfB c[j].op = true → treeAt c j ∈ atT (treeAt c i)) ∧ (lfB c[j].op = false → (usX c[j].op = true → sB s2 c[j].x.toNat = true) ∧ (usY c[j].op = true → sB s2 c[j].y.toNat = true)) := fun j h1 h2 => by
    rcases hA with ⟨_, h', hsub⟩ | ⟨_, h', _⟩
    · obtain ⟨hj, k1, k2⟩ := h'.new j h1 h2
      exact ⟨hj, fun h => hsub _ (k1 h), k2⟩
    · rw [h', h2] at h1; cases h1
  have n3 : ∀ j, sB s3 j = true → sB s2 j = false → ∃ hj : j < c.length, (lfB c[j].op = true → treeAt c j ∈ atT (treeAt c i)) ∧ (lfB c[j].op = false → (usX c[j].op = true → sB s3 c[j].x.toNat = true) ∧ (usY c[j].op = true → sB s3 c[j].y.toNat = true)) := fun j h1 h2 => by
    rcases hB with ⟨_, h', hsub⟩ | ⟨_, h', _⟩
    · obtain ⟨hj, k1, k2⟩ := h'.new j h1 h2
      exact ⟨hj, fun h => hsub _ (k1 h), k2⟩
    · rw [h', h2] at h1; cases h1
  obtain ⟨la, ea, na, ma⟩ : ∃ l : List Nat, o2 = o ++ l.map (fun j : Nat => (j : Int)) ∧ l.Nodup ∧ ∀ j, j ∈ l ↔ (sB s2 j = true ∧ sB (s.set i true) j = false ∧ ∃ hj : j < c.length, lfB c[j].op = true) := by
    rcases hA with ⟨_, h', _⟩ | ⟨_, h', e⟩
    · exact h'.out
    · exact ⟨[], by simp [e], List.nodup_nil, fun j => ⟨fun h => (by cases h), fun ⟨k1, k2, _⟩ => by rw [h', k2] at k1; cases k1⟩⟩
  obtain ⟨lb, eb, nb, mb⟩ : ∃ l : List Nat, o3 = o2 ++ l.map (fun j : Nat => (j : Int)) ∧ l.Nodup ∧ ∀ j, j ∈ l ↔ (sB s3 j = true ∧ sB s2 j = false ∧ ∃ hj : j < c.length, lfB c[j].op = true) := by
    rcases hB with ⟨_, h', _⟩ | ⟨_, h', e⟩
    · exact h'.out
    · exact ⟨[], by simp [e], List.nodup_nil, fun j => ⟨fun h => (by cases h), fun ⟨k1, k2, _⟩ => by rw [h', k2] at k1; cases k1⟩⟩
  refine ⟨l3, fun j h => m3 j (m2 j (sB_keep (by omega) h)), m3 i (m2 i i1), fun j h1 h2 => ?_, la ++ lb, by rw [eb, ea, List.map_append, List.append_assoc], List.nodup_append.2 ⟨na, nb, fun a h1 b h2 e => ?_⟩, fun j => ?_⟩
  · by_cases e : j = i
    · subst e
      exact ⟨hi, fun h => (by rw [hl] at h; cases h), fun _ => ⟨fun h => m3 _ (hx h), hy⟩⟩
    · cases h3 : sB s2 j with
      | false => exact n3 j h1 h3
      | true =>
        obtain ⟨hj, k1, k2⟩ := n2 j h3 (by rw [hst, if_neg e]; exact h2)
        exact ⟨hj, k1, fun h => ⟨fun h' => m3 _ ((k2 h).1 h'), fun h' => m3 _ ((k2 h).2 h')⟩⟩
  · subst e
    have k1 := ((ma a).1 h1).1
    have k2 := ((mb a).1 h2).2.1
    rw [k1] at k2; cases k2
  · rw [List.mem_append, ma, mb]
    constructor
    · rintro (⟨k1, k2, k3⟩ | ⟨k1, k2, k3⟩)
      · refine ⟨m3 j k1, ?_, k3⟩
        rw [hst] at k2
        split at k2
        · cases k2
        · exact k2
      · refine ⟨k1, ?_, k3⟩
        cases h : sB s j with
        | false => rfl
        | true =>
          have := m2 j (sB_keep (by omega) h)
          rw [this] at k2; cases k2
    · rintro ⟨k1, k2, k3⟩
      have hji : j ≠ i := fun e => by
        subst e
        obtain ⟨_, h⟩ := k3
        rw [hl] at h; cases h
      cases h3 : sB s2 j with
      | true => exact .inl ⟨rfl, by rw [hst, if_neg hji]; exact k2, k3⟩
      | false => exact .inr ⟨k1, rfl, k3⟩
theorem Lv.done (hO : NodesOk c) (_hi : i < c.length) (h : Lv c i (List.replicate c.length false) [] s3 o3) : ∃ l : List Nat, o3 = l.map (fun j : Nat => (j : Int)) ∧ l.Nodup ∧ (∀ j ∈ l, j < c.length) ∧ ∀ u, u ∈ l.map (treeAt c) ↔ u ∈ atT (treeAt c i) := by
  obtain ⟨l, e, hn, hm⟩ := h.out
  have h0 : ∀ j, sB (List.replicate c.length false) j = false := fun j => by
    unfold sB
    rw [List.getD_eq_getElem?_getD, List.getElem?_replicate]
    split <;> rfl
  have key : ∀ j, sB s3 j = true → ∀ u ∈ atT (treeAt c j), u ∈ l.map (treeAt c) := by
    intro j
    induction j using Nat.strongRecOn with
    | _ j ih =>
      intro hj u hu
      obtain ⟨hjl, k1, k2⟩ := h.new j hj (h0 j)
      have ht : topO (treeAt c j) = c[j].op := treeAt_op hjl hO
      cases hl : lfB c[j].op with
      | true =>
        rw [atT_self (by rw [ht]; exact hl), List.mem_singleton] at hu
        rw [hu]
        exact List.mem_map_of_mem ((hm j).2 ⟨hj, h0 j, hjl, hl⟩)
      | false =>
        obtain ⟨kx, ky⟩ := k2 hl
        have hord := hO.ord j hjl
        rcases kids_node hjl hO with ⟨h1, h2⟩ | ⟨h1, h1', h2⟩ | ⟨h1, h2⟩
        · rw [h2] at hu
          unfold atT at hu
          rw [hl] at hu; cases hu
        · rw [h2] at hu
          unfold atT at hu
          rw [hl] at hu
          have hx := hord.1 h1
          exact ih _ (by omega) (kx h1) u hu
        · rw [h2] at hu
          unfold atT at hu
          rw [hl] at hu
          have hx := hord.1 (usY_X h1)
          have hy := hord.2 h1
          rcases List.mem_append.1 hu with hu | hu
          · exact ih _ (by omega) (kx (usY_X h1)) u hu
          · exact ih _ (by omega) (ky h1) u hu
  refine ⟨l, by rw [e]; rfl, hn, fun j hj => by obtain ⟨_, _, hj', _⟩ := (hm j).1 hj; exact hj', fun u => ⟨fun hu => ?_, key i h.self u⟩⟩
  obtain ⟨j, hj, rfl⟩ := List.mem_map.1 hu
  obtain ⟨k1, k2, hj', k3⟩ := (hm j).1 hj
  obtain ⟨_, k4, _⟩ := h.new j k1 k2
  exact k4 k3
end
/-! values by nodes -/
theorem ev_leaf {c : List NV} {k : Nat} {r : Tr → Bool} (hk : k < c.length) (hO : NodesOk c) (hl : lfB c[k].op = true) : evB r (treeAt c k) = r (treeAt c k) := by
  have ht : topO (treeAt c k) = c[k].op := treeAt_op hk hO
  rw [← ht] at hl
  generalize treeAt c k = t at hl
  cases t <;> exact if_pos hl
theorem ev_node {c : List NV} {k : Nat} {r : Tr → Bool} {bx bY : Bool} (hk : k < c.length) (hO : NodesOk c) (hl : lfB c[k].op = false) (hx : usX c[k].op = true → bx = evB r (treeAt c c[k].x.toNat)) (hy : usY c[k].op = true → bY = evB r (treeAt c c[k].y.toNat)) :
    cmbB c[k].op bx bY = evB r (treeAt c k) := by
  have hop := (hO k hk).op
  have hc : (1 ≤ c[k].op ∧ c[k].op ≤ 8) ∧ c[k].op ≠ 3 := by
    unfold lfB at hl
    simp only [Bool.or_eq_false_iff, decide_eq_false_iff_not, beq_eq_false_iff_ne] at hl
    omega
  rcases kids_node hk hO with ⟨h1, h2⟩ | ⟨h1, h1', h2⟩ | ⟨h1, h2⟩
  · rw [h2]
    unfold evB
    rw [if_neg (by rw [hl]; simp)]
    rw [usX_ge hop, decide_eq_false_iff_not] at h1
    have : c[k].op = 1 ∨ c[k].op = 2 := by omega
    rcases this with h | h <;> rw [h] <;> rfl
  · rw [h2]
    unfold evB
    rw [if_neg (by rw [hl]; simp), hx h1]
    have : c[k].op = 4 := by
      rcases (by omega : c[k].op = 1 ∨ c[k].op = 2 ∨ c[k].op = 4 ∨ c[k].op = 5 ∨ c[k].op = 6 ∨ c[k].op = 7 ∨ c[k].op = 8) with h | h | h | h | h | h | h
      · rw [h] at h1; cases h1
      · rw [h] at h1; cases h1
      · exact h
      all_goals rw [h] at h1'; cases h1'
    rw [this]; rfl
  · rw [h2]
    conv => rhs; unfold evB
    rw [if_neg (by rw [hl]; simp), hx (usY_X h1), hy h1]
theorem lf_kids {c : List NV} {k : Nat} (hk : k < c.length) (hO : NodesOk c) (hl : lfB c[k].op = false) : (usX c[k].op = true → ∀ u ∈ atT (treeAt c c[k].x.toNat), u ∈ atT (treeAt c k)) ∧ (usY c[k].op = true → ∀ u ∈ atT (treeAt c c[k].y.toNat), u ∈ atT (treeAt c k)) := by
  rcases kids_node hk hO with ⟨h1, h2⟩ | ⟨h1, h1', h2⟩ | ⟨h1, h2⟩
  · exact ⟨fun h => (by rw [h1] at h; cases h), fun h => (by have := usY_X h; rw [h1] at this; cases this)⟩
  · refine ⟨fun _ u hu => ?_, fun h => (by rw [h1'] at h; cases h)⟩
    rw [h2]
    unfold atT
    rw [if_neg (by rw [hl]; simp)]
    exact hu
  · refine ⟨fun _ u hu => ?_, fun _ u hu => ?_⟩ <;> rw [h2] <;> unfold atT <;> rw [if_neg (by rw [hl]; simp)]
    · exact List.mem_append_left _ hu
    · exact List.mem_append_right _ hu
def rT (c : List NV) (b : Nat → Bool) (u : Tr) : Bool := b ((trees c).idxOf u)
theorem rT_at {c : List NV} (hC : CanF c) {b : Nat → Bool} {k : Nat} (hk : k < c.length) : rT c b (treeAt c k) = b k := by
  have hn : (trees c).Nodup := by rw [hC.trees]; exact (subT_ok _).nd
  unfold rT
  have hk' : k < (trees c).length := by rw [trees_len]; exact hk
  rw [treeAt_eq hk, hn.idxOf_getElem k hk']
def OutL (c : List NV) (s : List Bool) (o : List Int) : Prop := ∃ l : List Nat, o = l.map (fun j : Nat => (j : Int)) ∧ l.Nodup ∧ ∀ j ∈ l, sB s j = true ∧ j < c.length
theorem OutL.nil {c : List NV} {s : List Bool} : OutL c s [] := ⟨[], rfl, List.nodup_nil, fun _ h => by cases h⟩
theorem OutL.le {c : List NV} {s : List Bool} {o : List Int} (h : OutL c s o) : o.length ≤ c.length := by
  obtain ⟨l, rfl, hn, hm⟩ := h
  have := hn.length_le_of_subset (fun j hj => List.mem_range.2 (hm j hj).2 : l ⊆ List.range c.length)
  simpa using this
theorem OutL.set {c : List NV} {s : List Bool} {o : List Int} {i : Nat} (h : OutL c s o) (hi : i < s.length) : OutL c (s.set i true) o := by
  obtain ⟨l, e, hn, hm⟩ := h
  exact ⟨l, e, hn, fun j hj => ⟨sB_keep hi (hm j hj).1, (hm j hj).2⟩⟩
theorem OutL.go {c : List NV} {i : Nat} {s s' : List Bool} {o o' : List Int} (h : OutL c s o) (g : Lv c i s o s' o') : OutL c s' o' := by
  obtain ⟨l, rfl, hn, hm⟩ := h
  obtain ⟨l2, rfl, hn2, hm2⟩ := g.out
  refine ⟨l ++ l2, by rw [List.map_append], List.nodup_append.2 ⟨hn, hn2, fun a h1 b h2 e => ?_⟩, fun j hj => ?_⟩
  · subst e
    have k1 := (hm a h1).1
    have k2 := ((hm2 a).1 h2).2.1
    rw [k1] at k2; cases k2
  · rcases List.mem_append.1 hj with hj | hj
    · exact ⟨g.mono j (hm j hj).1, (hm j hj).2⟩
    · obtain ⟨k1, _, k3, _⟩ := (hm2 j).1 hj
      exact ⟨k1, k3⟩
/-! the numbers of the atoms -/
def nmL (L : Nat) (l : List Nat) (k : Nat) : List Int := (List.range L).map (fun i => if l.idxOf i < k then (l.idxOf i : Int) else 0)
theorem nmL_len {L k : Nat} {l : List Nat} : (nmL L l k).length = L := by simp [nmL]
theorem nmL_zero {L : Nat} {l : List Nat} : nmL L l 0 = List.replicate L 0 := by
  apply List.ext_getElem (by simp [nmL])
  intro i h1 h2
  simp [nmL]
theorem nmL_get {L k i : Nat} {l : List Nat} (hi : i < L) : (nmL L l k).getD i 0 = if l.idxOf i < k then (l.idxOf i : Int) else 0 := by simp [nmL, List.getD_eq_getElem?_getD, hi]
theorem nmL_set {L k : Nat} {l : List Nat} (hn : l.Nodup) (hk : k < l.length) : (nmL L l k).set l[k] (k : Int) = nmL L l (k + 1) := by
  have hx : l.idxOf l[k] = k := hn.idxOf_getElem k hk
  apply List.ext_getElem (by simp [nmL])
  intro i h1 h2
  rw [List.getElem_set]
  by_cases e : l[k] = i
  · subst e; rw [if_pos rfl]; simp [nmL, hx]
  · rw [if_neg e]
    have hne : l.idxOf i ≠ k := fun h => by
      have hlt : l.idxOf i < l.length := by omega
      have := List.getElem_idxOf hlt
      apply e
      rw [← this]
      congr 1
      exact h.symm
    simp only [nmL, List.getElem_map, List.getElem_range]
    by_cases h : l.idxOf i < k
    · rw [if_pos h, if_pos (by omega)]
    · rw [if_neg h, if_neg (by omega)]
section
variable {c : List NV} {l : List Nat}
theorem treeAt_inj (hC : CanF c) {i j : Nat} (hi : i < c.length) (hj : j < c.length) (e : treeAt c i = treeAt c j) : i = j := by
  have hn : (trees c).Nodup := by rw [hC.trees]; exact (subT_ok _).nd
  rw [treeAt_eq hi, treeAt_eq hj] at e
  exact (List.getElem_inj hn).1 e
theorem map_nd (hC : CanF c) (hn : l.Nodup) (hl : ∀ j ∈ l, j < c.length) : (l.map (treeAt c)).Nodup := by
  induction l with
  | nil => exact List.nodup_nil
  | cons a l ih =>
    rw [List.nodup_cons] at hn
    rw [List.map_cons, List.nodup_cons]
    refine ⟨fun h => ?_, ih hn.2 (fun j hj => hl j (by simp [hj]))⟩
    obtain ⟨j, hj, e⟩ := List.mem_map.1 h
    have := treeAt_inj hC (hl j (by simp [hj])) (hl a (by simp)) e
    exact hn.1 (this ▸ hj)
theorem idx_map (hC : CanF c) (hl : ∀ j ∈ l, j < c.length) {j : Nat} (hj : j ∈ l) : (l.map (treeAt c)).idxOf (treeAt c j) = l.idxOf j := by
  induction l with
  | nil => cases hj
  | cons a l ih =>
    rw [List.map_cons, List.idxOf_cons, List.idxOf_cons]
    by_cases e : a = j
    · subst e; simp
    · have hne : ¬ treeAt c a = treeAt c j := fun h => e (treeAt_inj hC (hl a (by simp)) (hl j hj) h)
      have hj2 : j ∈ l := by
        rcases List.mem_cons.1 hj with h | h
        · exact absurd h.symm e
        · exact h
      have h1 : (treeAt c a == treeAt c j) = false := beq_eq_false_iff_ne.2 hne
      have h2 : (a == j) = false := beq_eq_false_iff_ne.2 e
      rw [h1, h2, ih (fun j hj => hl j (by simp [hj])) hj2]
theorem rT_nums (hC : CanF c) (hl : ∀ j ∈ l, j < c.length) (v : Nat) (u : Tr) (hu : u ∈ l.map (treeAt c)) : rT c (fun i => v.testBit ((nmL c.length l l.length).getD i 0).toNat) u = v.testBit ((l.map (treeAt c)).idxOf u) := by
  obtain ⟨j, hj, rfl⟩ := List.mem_map.1 hu
  rw [rT_at hC (hl j hj), idx_map hC hl hj, nmL_get (hl j hj), if_pos (List.idxOf_lt_length_of_mem hj), Int.toNat_natCast]
end
def InstT (r : Int) (t : Tr) : Prop := if r = 1 then AxTau t else if r = 2 then AxK t else if r = 3 then AxT t else if r = 4 then Ax4 t else if r = 5 then Ax5 t else if r = 6 then AxD t else if r = 7 then AxP t else if r = 8 then AxE t else if r = 9 then AxC t else False
theorem nine {p : Int → Prop} (h : p 1 ∧ p 2 ∧ p 3 ∧ p 4 ∧ p 5 ∧ p 6 ∧ p 7 ∧ p 8 ∧ p 9) {r : Int} (h1 : 1 ≤ r) (h9 : r ≤ 9) : p r := by
  obtain ⟨a1, a2, a3, a4, a5, a6, a7, a8, a9⟩ := h
  rcases (by omega : r = 1 ∨ r = 2 ∨ r = 3 ∨ r = 4 ∨ r = 5 ∨ r = 6 ∨ r = 7 ∨ r = 8 ∨ r = 9) with e | e | e | e | e | e | e | e | e <;> rw [e] <;> assumption
structure FtAt (g : Nat) (fn : Int → FuncId) (w : World) : Prop where
  size : g < w.heap.size
  cell : ∀ r : Nat, 1 ≤ r → r ≤ 9 → w.cell? ⟨g, r, none⟩ = some (.func (.func (fn r)) #[] #[])
theorem FtAt.ex {g : Nat} {fn : Int → FuncId} {w0 w : World} {S : List Nat} (h : FtAt g fn w0) (e : Ex S w0 w) (hS : g ∉ S := by simp) : FtAt g fn w :=
  ⟨Nat.lt_of_lt_of_le h.size e.size, fun i h1 h9 => by rw [← h.cell i h1 h9]; exact World.cell?_of_block (e.block g h.size hS)⟩
/-! lines of proofs -/
structure LV where
  f : FV
  r : Int
  a : Int
  b : Int
  g : Int
def LV.cells (x : LV) : List Value := [x.f.v, .int .i64 x.r, .int .i64 x.a, .int .i64 x.b, .int .i64 x.g]
structure LA (w : World) (A : Option Addr) (ls : List LV) : Prop where
  at_ : Sl w A (ls.flatMap LV.cells)
  fs : ∀ l ∈ ls, FA w l.f.a l.f.f ∧ l.f.f.length ≤ maxLen
theorem LA.ex0 {w0 w : World} {A : Option Addr} {ls : List LV} (h : LA w0 A ls) (e : Ex [] w0 w) : LA w A ls := ⟨Sl.ex h.at_ e (by simp), fun l hl => ⟨(h.fs l hl).1.ex0 e, (h.fs l hl).2⟩⟩
end Go.Proofs.Wit
