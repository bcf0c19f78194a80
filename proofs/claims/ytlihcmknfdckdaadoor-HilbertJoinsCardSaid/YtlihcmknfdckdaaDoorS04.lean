/- Laws of walks, for any program, under the conditions that each theorem states. -/
import Derived.Test.YtlihcmknfdckdaaDoorS03
import Derived.Test.YtlihcmknfdckdaaDoorS02
namespace Go.Proofs.Wit
open Go Go.RowKit
/-! regions that draw their order, in general: what only reads may be taken first; else one operation is next -/
/-- static: what only reads, and alone writes its slot -/
def pureOk (ops : Array Oper) (i : Nat) : Bool := match ops[i]? with
 | none => false
 | some o => notSel o.op && match o.dst with
  | none => false
  | some d => (List.range ops.size).all (fun j => Nat.beq j i || (!(dstOf ops j == some d) && (match ops[j]? with
   | none => true
   | some p => (!(eyes ops p).contains d || (dirs ops j).contains i || (dirs ops i).contains j)) && (match dstOf ops j with
   | none => true
   | some e => (!(eyes ops o).contains e || (dirs ops i).contains j || (dirs ops j).contains i))))
structure PureF (ops : Array Oper) (i d : Nat) : Prop where
  sel : ∀ o, ops[i]? = some o → notSel o.op = true
  dst : dstOf ops i = some d
  one : ∀ j, j < ops.size → j ≠ i → dstOf ops j ≠ some d
  seen : ∀ j p, j < ops.size → j ≠ i → ops[j]? = some p → d ∈ eyes ops p → i ∈ dirs ops j ∨ j ∈ dirs ops i
  sees : ∀ j e o, j < ops.size → j ≠ i → dstOf ops j = some e → ops[i]? = some o → e ∈ eyes ops o → j ∈ dirs ops i ∨ i ∈ dirs ops j
theorem pureF_of {ops : Array Oper} {i : Nat} (h : pureOk ops i = true) : ∃ d, PureF ops i d := by
 unfold pureOk at h
 split at h
 ·cases h
 ·rename_i o ho
  rw [Bool.and_eq_true] at h
  obtain ⟨h1, h2⟩ := h
  split at h2
  ·cases h2
  ·rename_i d hd
   simp only [List.all_eq_true, List.mem_range, Bool.or_eq_true, Nat.beq_eq, Bool.and_eq_true, Bool.not_eq_true'] at h2
   refine ⟨d, fun p hp => by rw [ho] at hp; cases hp; exact h1, by simp [dstOf, ho, hd], fun j hj hne => ?_, fun j p hj hne hp hm => ?_, fun j e p hj hne he hp hm => ?_⟩
   ·rcases h2 j hj with h | h
    ·exact absurd h hne
    ·simpa using h.1.1
   ·rcases h2 j hj with h | h
    ·exact absurd h hne
    ·have := h.1.2
     rw [hp] at this
     simp only [Bool.or_eq_true, Bool.not_eq_true'] at this
     rcases this with (h3 | h3) | h3
     ·rw [List.contains_eq_mem, decide_eq_false_iff_not] at h3; exact absurd hm h3
     ·exact .inl (by simpa using h3)
     ·exact .inr (by simpa using h3)
   ·rcases h2 j hj with h | h
    ·exact absurd h hne
    ·have := h.2
     rw [he] at this
     simp only [Bool.or_eq_true, Bool.not_eq_true'] at this
     rw [ho] at hp; cases hp
     rcases this with (h3 | h3) | h3
     ·rw [List.contains_eq_mem, decide_eq_false_iff_not] at h3; exact absurd hm h3
     ·exact .inl (by simpa using h3)
     ·exact .inr (by simpa using h3)
section
variable {P : Program} {r : Option Nat} {f : FuncId} {R : Value → World → Prop} {w0 : World} {S : List Nat} {Y : List (Nat × Obj)} {n : Nat} {k : List Item} {l : Fl} {h : Hl} {ops : Array Oper}
def StepC (P : Program) (w0 : World) (S : List Nat) (n : Nat) (ops : Array Oper) (i : Nat) (t : Array Value) (h : Hl) (K : Array Value → Hl → Prop) : Prop :=
 ∃ o d, ops[i]? = some o ∧ o.dst = some d ∧ isDefer o.op = false ∧ notSel o.op = true ∧ d < n ∧
  ((Region.wanted o (yielded ops t) = true ∧ ∀ (w : World) (Ds : List Nat) (Y' : List (Nat × Obj)), St w0 S w h Y' →
   (∃ v w' h', (execOp (Act.eval ⟨t, Ds.map mark⟩) o).run P w = .ok (.value v) w' ∧ St w0 S w' h' Y' ∧ K (t.setIfInBounds d v) h') ∨
   (∃ gf args, ∃ Rc : Value → World → Prop, (execOp (Act.eval ⟨t, Ds.map mark⟩) o).run P w = .ok (.enter gf args) w ∧ (Calls P gf args w fun e w' => ∃ v, e = .returned v ∧ Rc v w') ∧ ∀ v w', Rc v w' → ∃ h', St w0 S w' h' Y' ∧ K (t.setIfInBounds d v) h')) ∨
  (Region.wanted o (yielded ops t) = false ∧ K (t.setIfInBounds d undef) h))
theorem StepC.of {i d : Nat} {K : Value → Hl → Prop} {K' : Array Value → Hl → Prop} {t : Array Value} (hm : Mop P w0 S n h ops i l d K) (hF : Frm n t l) (hK : ∀ v h', K v h' → K' (t.setIfInBounds d v) h') : StepC P w0 S n ops i t h K' := by
 obtain ⟨o, ho, hdst, hnd, hsel, hd, hr⟩ := hm
 refine ⟨o, d, ho, hdst, hnd, hsel, by simpa [Nat.blt_eq] using hd, ?_⟩
 rcases hr with ⟨hw, hr⟩ | ⟨hs, hk⟩
 ·refine .inl ⟨want_of hF hw, fun w Ds Y' hS => ?_⟩
  rcases hr t w Ds Y' hF hS with ⟨v, w', h', h1, h2, h3⟩ | ⟨gf, args, Rc, h1, h2, h3⟩
  ·exact .inl ⟨v, w', h', h1, h2, hK v h' h3⟩
  ·refine .inr ⟨gf, args, Rc, h1, h2, fun v w' hR => ?_⟩
   obtain ⟨h', h4, h5⟩ := h3 v w' hR
   exact ⟨h', h4, hK v h' h5⟩
 ·exact .inr ⟨skip_of hF hs, hK undef h hk⟩
theorem StepC.congr {i : Nat} {t t' : Array Value} {K K' : Array Value → Hl → Prop} (hm : StepC P w0 S n ops i t h K) (hs : t'.size = t.size) (he : ∀ o, ops[i]? = some o → ∀ s ∈ eyes ops o, t'.getD s undef = t.getD s undef)
  (hK : ∀ d v h', dstOf ops i = some d → K (t.setIfInBounds d v) h' → K' (t'.setIfInBounds d v) h') : StepC P w0 S n ops i t' h K' := by
 obtain ⟨o, d, ho, hdst, hnd, hsel, hd, hr⟩ := hm
 have hdo : dstOf ops i = some d := by simp [dstOf, ho, hdst]
 have hw := wanted_congr (ops := ops) (o := o) hs (he o ho)
 refine ⟨o, d, ho, hdst, hnd, hsel, hd, ?_⟩
 rcases hr with ⟨hwant, hr⟩ | ⟨hskip, hk⟩
 ·refine .inl ⟨hw.trans hwant, fun w Ds Y' hS => ?_⟩
  have hexec : execOp (Act.eval ⟨t', Ds.map mark⟩) o = execOp (Act.eval ⟨t, Ds.map mark⟩) o := execOp_congr (ρ' := Act.eval ⟨t, Ds.map mark⟩) o (fun cs bb e => by rw [e] at hsel; cases hsel) (fun x hx => by
   cases x with
   | tmp s => exact he o ho s (by
     simp only [eyes, List.mem_append]
     exact .inr (List.mem_filterMap.2 ⟨.tmp s, by simpa using hx, rfl⟩))
   | const v => rfl
   | global g => rfl
   | func g => rfl)
  rw [hexec]
  rcases hr w Ds Y' hS with ⟨v, w', h', h1, h2, h3⟩ | ⟨gf, args, Rc, h1, h2, h3⟩
  ·exact .inl ⟨v, w', h', h1, h2, hK d v h' hdo h3⟩
  ·refine .inr ⟨gf, args, Rc, h1, h2, fun v w' hR => ?_⟩
   obtain ⟨h', h4, h5⟩ := h3 v w' hR
   exact ⟨h', h4, hK d v h' hdo h5⟩
 ·exact .inr ⟨hw.trans hskip, hK d undef h hdo hk⟩
theorem StepC.pure {i d : Nat} {v : Value} {t : Array Value} {hb : Hl} {K : Array Value → Hl → Prop} (ho : Outc P w0 S n hb ops i t d v) (hsel : ∀ o, ops[i]? = some o → notSel o.op = true) (hs : hb.Sublist h) (hK : K (t.setIfInBounds d v) h) : StepC P w0 S n ops i t h K := by
 obtain ⟨o, h1, h2, h3, h4, h5⟩ := ho
 refine ⟨o, d, h1, h2, h4, hsel o h1, h3, ?_⟩
 rcases h5 with ⟨a, b⟩ | ⟨a, rfl⟩
 ·refine .inl ⟨a, fun w Ds Y' hS => ?_⟩
  rcases b w Ds Y' (hS.subH hs) with hb2 | ⟨gf, args, hb2, hcall⟩
  ·exact .inl ⟨v, w, h, hb2, hS, hK⟩
  ·exact .inr ⟨gf, args, _, hb2, hcall, fun u w' ⟨he, hu⟩ => ⟨h, hS.later he, by rw [hu]; exact hK⟩⟩
 ·exact .inr ⟨a, hK⟩
def Dt (P : Program) (r : Option Nat) (f : FuncId) (R : Value → World → Prop) (w0 : World) (S : List Nat) (Y : List (Nat × Obj)) (n : Nat) (k : List Item) (ops : Array Oper) (hb : Hl) : Nat → List Nat → Array Value → Hl → Prop
 | 0, _, _, _ => False
 | q + 1, D, t, h =>
  (readyL ops D = [] ∧ ∀ w Ds, St w0 S w h (mkY Ds ++ Y) → Gos P r f R (.inRegion ops [] :: k) t (Ds.map mark) w) ∨
  (readyL ops D ≠ [] ∧ ∀ i ∈ readyL ops D, StepC P w0 S n ops i t h (fun t' h' => hb.Sublist h' ∧ Dt P r f R w0 S Y n k ops hb q (i :: D) t' h'))
theorem StepC.mono {i : Nat} {t : Array Value} {K K' : Array Value → Hl → Prop} (hm : StepC P w0 S n ops i t h K) (hK : ∀ t' h', K t' h' → K' t' h') : StepC P w0 S n ops i t h K' := hm.congr rfl (fun _ _ _ _ => rfl) (fun _ _ _ _ h => hK _ _ h)
theorem Dt.perm {hb : Hl} : ∀ {q : Nat} {D D' : List Nat} {t : Array Value} {h : Hl}, (∀ j, j ∈ D ↔ j ∈ D') → Dt P r f R w0 S Y n k ops hb q D t h → Dt P r f R w0 S Y n k ops hb q D' t h
 | 0, _, _, _, _, _, hd => hd
 | q + 1, D, D', t, h, hp, hd => by
  rw [Dt] at hd ⊢
  rw [← readyL_congr hp]
  rcases hd with hd | ⟨h1, h2⟩
  ·exact .inl hd
  ·exact .inr ⟨h1, fun i hi => (h2 i hi).mono (fun t' h' ⟨e1, e2⟩ => ⟨e1, e2.perm (fun j => by rw [List.mem_cons, List.mem_cons, hp j])⟩)⟩
theorem set_comm {t : Array Value} {d e : Nat} {u v : Value} (hne : d ≠ e) : (t.setIfInBounds d u).setIfInBounds e v = (t.setIfInBounds e v).setIfInBounds d u := by
 apply Array.ext_getElem?
 intro j
 simp only [Array.getElem?_setIfInBounds, Array.size_setIfInBounds]
 by_cases h1 : e = j
 ·by_cases h2 : d = j
  ·exact absurd (h2.trans h1.symm) hne
  ·simp [h1, h2]
 ·by_cases h2 : d = j <;> simp [h1, h2]
theorem Dt.pure {hb : Hl} {i d : Nat} (hf : PureF ops i d) (hd : d < n) : ∀ {q : Nat} {D : List Nat} {t : Array Value} {h : Hl} {v : Value}, t.size = n → i ∈ readyL ops D → Outc P w0 S n hb ops i t d v → hb.Sublist h → Dt P r f R w0 S Y n k ops hb q (i :: D) (t.setIfInBounds d v) h → Dt P r f R w0 S Y n k ops hb (q + 1) D t h
 | 0, _, _, _, _, _, _, _, _, hd => hd.elim
 | q + 1, D, t, h, v, hts, hi, ho, hs, hdt => by
  have hme : StepC P w0 S n ops i t h (fun t' h' => hb.Sublist h' ∧ Dt P r f R w0 S Y n k ops hb (q + 1) (i :: D) t' h') := StepC.pure ho hf.sel hs ⟨hs, hdt⟩
  have hne : readyL ops D ≠ [] := fun e => by rw [e] at hi; cases hi
  obtain ⟨hiS, hiD, hid⟩ := mem_readyL.1 hi
  rw [Dt]
  refine .inr ⟨hne, fun j hj => ?_⟩
  by_cases hji : j = i
  ·rw [hji]; exact hme
  obtain ⟨hjS, hjD, hjd⟩ := mem_readyL.1 hj
  have hj2 : j ∈ readyL ops (i :: D) := mem_readyL.2 ⟨hjS, by simp [hji, hjD], fun e he => List.mem_cons_of_mem _ (hjd e he)⟩
  rw [Dt] at hdt
  rcases hdt with ⟨h1, _⟩ | ⟨_, h2⟩
  ·rw [h1] at hj2; cases hj2
  have hjo : ∀ o, ops[j]? = some o → d ∉ eyes ops o := fun o hoo hm => (hf.seen j o hjS hji hoo hm).elim (fun h5 => hiD (hjd i h5)) (fun h5 => hjD (hid j h5))
  refine (h2 j hj2).congr (by simp) (fun o hoo s hse => ?_) (fun e u h' hde hk => ?_)
  ·have hds : d ≠ s := fun e1 => hjo o hoo (by rw [e1]; exact hse)
   rw [getD_set (by rw [hts]; exact hd), if_neg hds]
  ·obtain ⟨hk1, hk2⟩ := hk
   refine ⟨hk1, ?_⟩
   have hde2 : d ≠ e := fun e1 => hf.one j hjS hji (by rw [hde, e1])
   rw [set_comm hde2] at hk2
   have hi2 : i ∈ readyL ops (j :: D) := mem_readyL.2 ⟨hiS, by simp [Ne.symm hji, hiD], fun e he => List.mem_cons_of_mem _ (hid e he)⟩
   refine Dt.pure hf hd (by simpa using hts) hi2 (ho.congr hf.sel (by simp) (fun o hoo s hse => ?_)) hk1 (hk2.perm (fun x => by simp only [List.mem_cons]; exact or_left_comm))
   have hes : e ≠ s := fun e1 => by
    subst e1
    rcases hf.sees j e o hjS hji hde hoo hse with h5 | h5
    ·exact hjD (hid j h5)
    ·exact hiD (hjd i h5)
   by_cases hlt : e < t.size
   ·rw [getD_set hlt, if_neg hes]
   ·rw [show t.setIfInBounds e u = t from Array.setIfInBounds_eq_of_size_le (Nat.le_of_not_lt hlt)]
theorem Dt.go {hb : Hl} : ∀ (fuel τ : Nat) (arr : Array Bool) (D : List Nat) (q : Nat) (t : Array Value) (h : Hl) (w : World) (Ds : List Nat), arr.size = ops.size → (∀ j, arr.getD j false = D.contains j) → Dt P r f R w0 S Y n k ops hb q D t h → St w0 S w h (mkY Ds ++ Y) → (List.range ops.size).countP (fun j => !D.contains j) ≤ fuel →
  Gos P r f R (.inRegion ops (Region.linearise.go .any ops fuel τ arr []) :: k) t (Ds.map mark) w
 | _, _, _, _, 0, _, _, _, _, _, _, hd, _, _ => hd.elim
 | fuel, τ, arr, D, q + 1, t, h, w, Ds, hs, ha, hd, hS, hfu => by
  rw [Dt] at hd
  rcases hd with ⟨h0, hg⟩ | ⟨h1, h2⟩
  ·have : Region.linearise.go .any ops fuel τ arr [] = [] := by
    cases fuel with
    | zero => rfl
    | succ fuel =>
     simp only [Region.linearise.go]
     change (match (Region.ready .any ops arr)[_ % (Region.ready .any ops arr).length]? with
      | some i => _
      | none => [].reverse) = []
     rw [ready_eq hs ha, h0]; rfl
   rw [this]; exact hg w Ds hS
  ·cases fuel with
   | zero =>
    exfalso
    obtain ⟨x, hx⟩ := List.exists_mem_of_ne_nil _ h1
    obtain ⟨e1, e2, _⟩ := mem_readyL.1 hx
    have : 0 < (List.range ops.size).countP (fun j => !D.contains j) := List.countP_pos_iff.2 ⟨x, by simpa using e1, by simpa using e2⟩
    omega
   | succ fuel =>
    have hpos : 0 < (readyL ops D).length := List.length_pos_iff.2 h1
    simp only [Region.linearise.go]
    change Gos P r f R (.inRegion ops (match (Region.ready .any ops arr)[τ % (Region.ready .any ops arr).length]? with
     | some i => Region.linearise.go .any ops fuel (τ / (Region.ready .any ops arr).length) (arr.setIfInBounds i true) [i]
     | none => [].reverse) :: k) t (Ds.map mark) w
    rw [ready_eq hs ha]
    have hlt : τ % (readyL ops D).length < (readyL ops D).length := Nat.mod_lt _ hpos
    rw [List.getElem?_eq_getElem hlt]
    obtain ⟨x, hx⟩ : ∃ x, x = (readyL ops D)[τ % (readyL ops D).length] := ⟨_, rfl⟩
    rw [← hx]
    have hxm : x ∈ readyL ops D := by rw [hx]; exact List.getElem_mem hlt
    obtain ⟨e1, e2, _⟩ := mem_readyL.1 hxm
    dsimp only
    rw [linearise_go_acc, List.reverse_singleton, List.singleton_append]
    have hnext : ∀ (t' : Array Value) (h' : Hl) (w' : World), hb.Sublist h' ∧ Dt P r f R w0 S Y n k ops hb q (x :: D) t' h' → St w0 S w' h' (mkY Ds ++ Y) → Gos P r f R (.inRegion ops (Region.linearise.go .any ops fuel (τ / (readyL ops D).length) (arr.setIfInBounds x true) []) :: k) t' (Ds.map mark) w' := fun t' h' w' hK hS' => by
     refine Dt.go fuel _ _ (x :: D) q t' h' w' Ds (by simpa using hs) (fun j => ?_) hK.2 hS' ?_
     ·rw [getD_listed (by omega), ha j, List.contains_cons]
      split
      ·rename_i e; subst e; simp
      ·rename_i e; rw [beq_false_of_ne (Ne.symm e)]; rfl
     ·have := countP_lt (l := List.range ops.size) (p := fun j => !(x :: D).contains j) (q := fun j => !D.contains j) (fun y _ hy => by simp at hy ⊢; exact hy.2) ⟨x, by simpa using e1, by simpa using e2, by simp⟩
      omega
    obtain ⟨o, d, ho, hdst, hnd, hsel, hdn, hr⟩ := h2 x hxm
    rcases hr with ⟨hw, hr⟩ | ⟨hw, hk⟩
    ·rcases hr w Ds _ hS with ⟨v, w', h', h3, h4, h5⟩ | ⟨gf, args, Rc, h3, h4, h5⟩
     ·refine Gos.op ho hw (not_defer hnd) h3 (.inl rfl) ?_
      rw [hdst]; exact hnext _ _ _ h5 h4
     ·refine Gos.call ho hw (not_defer hnd) h3 h4 (fun u w2 hu => ?_)
      obtain ⟨h', h6, h7⟩ := h5 u w2 hu
      rw [hdst]; exact hnext _ _ _ h7 h6
    ·refine Gos.opSkip ho hw ?_
     rw [hdst]; exact hnext _ _ _ hk hS
def RdC (P : Program) (r : Option Nat) (f : FuncId) (R : Value → World → Prop) (w0 : World) (S : List Nat) (Y : List (Nat × Obj)) (n : Nat) (k : List Item) (ops : Array Oper) (hb : Hl) (q : Nat) (D : List Nat) (l : Fl) (h : Hl) : Prop :=
 ∀ t, Frm n t l → Dt P r f R w0 S Y n k ops hb q D t h
variable {hb : Hl} {q : Nat} {D : List Nat}
theorem GoH.drawC {id : Nat} (q : Nat) (hb : Hl) (hmix : P.follows .mixedOrders = true) (hg : RdC P r f R w0 S Y n k ops hb q [] l h) : GoH P r f R w0 S Y n (.code (.region id ops true) :: k) l h := by
 intro t w Ds hF hS
 refine .regionDraw (fun τ => ?_)
 simp only [Region.schedule, hmix, Bool.true_or, if_true, Region.linearise]
 refine Dt.go ops.size τ _ [] q t h _ Ds (by simp) (fun j => ?_) (hg t hF) hS.drew ?_
 ·simp [Array.getD_eq_getD_getElem?, Array.getElem?_replicate]; split <;> simp
 ·exact Nat.le_trans List.countP_le_length (by simp)
theorem GoH.drawCh {id : Nat} (q : Nat) (hmix : P.follows .mixedOrders = true) (hg : RdC P r f R w0 S Y n k ops h q [] l h) : GoH P r f R w0 S Y n (.code (.region id ops true) :: k) l h := GoH.drawC q h hmix hg
theorem RdC.done (h0 : readyL ops D = []) (hg : GoH P r f R w0 S Y n (.inRegion ops [] :: k) l h) : RdC P r f R w0 S Y n k ops hb (q + 1) D l h := fun t hF => .inl ⟨h0, fun w Ds hS => hg t w Ds hF hS⟩
theorem RdC.outc {i d : Nat} {v : Value} (hi : (readyL ops D).contains i = true) (hp : pureOk ops i = true) (ho : ∀ t, Frm n t l → Outc P w0 S n hb ops i t d v) (hs : hb.Sublist h) (hg : RdC P r f R w0 S Y n k ops hb q (i :: D) ((d, v) :: l) h) : RdC P r f R w0 S Y n k ops hb (q + 1) D l h := by
 intro t hF
 obtain ⟨d', hf⟩ := pureF_of hp
 have hO := ho t hF
 obtain ⟨o, h1, h2, h3, _⟩ := hO
 have e : d' = d := by
  have := hf.dst
  simp [dstOf, h1, h2] at this; exact this.symm
 subst e
 exact Dt.pure hf h3 hF.1 (by simpa using hi) (ho t hF) hs (hg _ (hF.put v (by simpa [Nat.blt_eq] using h3)))
theorem RdC.v {i d : Nat} {v : Value} (hv : Vop P w0 S n hb ops i l d v) (hi : (readyL ops D).contains i = true) (hp : pureOk ops i = true) (hs : hb.Sublist h) (hg : RdC P r f R w0 S Y n k ops hb q (i :: D) ((d, v) :: l) h) : RdC P r f R w0 S Y n k ops hb (q + 1) D l h := by
 refine RdC.outc hi hp (fun t hF => ?_) hs hg
 obtain ⟨o, ho, hw, hdst, hnd, hd, hr⟩ := hv
 exact ⟨o, ho, hdst, by simpa [Nat.blt_eq] using hd, hnd, .inl ⟨want_of hF hw, fun w Ds Y' hS => by
  obtain ⟨nx, h1, rfl⟩ := hr t w Ds Y' hF hS; exact .inl h1⟩⟩
theorem RdC.no {i d : Nat} {o : Oper} (ho : ops[i]? = some o) (hw : skipL ops l o.guard = true) (hdst : o.dst = some d) (hnd : isDefer o.op = false) (hd : Nat.blt d n = true) (hi : (readyL ops D).contains i = true) (hp : pureOk ops i = true) (hs : hb.Sublist h) (hg : RdC P r f R w0 S Y n k ops hb q (i :: D) ((d, undef) :: l) h) : RdC P r f R w0 S Y n k ops hb (q + 1) D l h :=
 RdC.outc hi hp (fun _ hF => ⟨o, ho, hdst, by simpa [Nat.blt_eq] using hd, hnd, .inr ⟨skip_of hF hw, rfl⟩⟩) hs hg
theorem RdC.cases {d : Nat} {b : Bool} (hv : look l d = some (.bool b)) (ht : b = true → RdC P r f R w0 S Y n k ops hb q D ((d, .bool true) :: l) h) (hf : b = false → RdC P r f R w0 S Y n k ops hb q D ((d, .bool false) :: l) h) : RdC P r f R w0 S Y n k ops hb q D l h := by
 intro t hF
 cases hb2 : b with
 | true => exact ht hb2 t (frm_case hF hv hb2)
 | false => exact hf hb2 t (frm_case hF hv hb2)
theorem RdC.one {i d : Nat} (h1 : readyL ops D = [i]) (hm : Mop P w0 S n h ops i l d (fun v h' => hb.Sublist h' ∧ RdC P r f R w0 S Y n k ops hb q (i :: D) ((d, v) :: l) h')) (hd : Nat.blt d n = true) : RdC P r f R w0 S Y n k ops hb (q + 1) D l h := by
 intro t hF
 rw [Dt]
 refine .inr ⟨by rw [h1]; simp, fun j hj => ?_⟩
 rw [h1] at hj; obtain rfl := List.mem_singleton.1 hj
 exact StepC.of hm hF (fun v h' ⟨e1, e2⟩ => ⟨e1, e2 _ (hF.put v hd)⟩)
theorem RdC.call {i d : Nat} {ty : TypeId} {pos : String} {aft : Array Edge} {g : Option (Nat × Bool)} {az : Array Operand} {ts : Array TypeId} {cal : Operand} {gf : FuncId} {vs : List Value} (Rc : World → Value → World → Prop) (h1 : readyL ops D = [i]) (ho : ops[i]? = some ⟨some d, .call ⟨.value cal, az, ts⟩, ty, pos, aft, g⟩) (hw : wantL ops l g = true)
  (hc : opd l cal = some (.func (.func gf) #[] #[])) (hx : opds l az.toList = some vs) (hd : Nat.blt d n = true) (hcf : ∀ args w, (callFunc gf args).run P w = .ok (.enter gf args) w)
  (hcall : ∀ w Y', St w0 S w h Y' → Cn P gf vs w (Rc w))
  (hk : ∀ v w w' Y', St w0 S w h Y' → Ex [] w w' → Rc w v w' → ∃ h', St w0 S w' h' Y' ∧ hb.Sublist h' ∧ RdC P r f R w0 S Y n k ops hb q (i :: D) ((d, v) :: l) h') : RdC P r f R w0 S Y n k ops hb (q + 1) D l h :=
 RdC.one h1 (Mop.call Rc ho hw hc hx hd hcf hcall (fun v w w' Y' hS he hr => by
  obtain ⟨h', e1, e2, e3⟩ := hk v w w' Y' hS he hr; exact ⟨h', e1, e2, e3⟩)) hd
theorem RdC.callP {i d : Nat} {v : Value} {ty : TypeId} {pos : String} {aft : Array Edge} {g : Option (Nat × Bool)} {az : Array Operand} {ts : Array TypeId} {cal : Operand} {gf : FuncId} {vs : List Value} (h1 : readyL ops D = [i]) (ho : ops[i]? = some ⟨some d, .call ⟨.value cal, az, ts⟩, ty, pos, aft, g⟩) (hw : wantL ops l g = true)
  (hc : opd l cal = some (.func (.func gf) #[] #[])) (hx : opds l az.toList = some vs) (hd : Nat.blt d n = true) (hcf : ∀ args w, (callFunc gf args).run P w = .ok (.enter gf args) w)
  (hcall : ∀ w Y', St w0 S w h Y' → Cn P gf vs w (fun u _ => u = v)) (hs : hb.Sublist h) (hg : RdC P r f R w0 S Y n k ops hb q (i :: D) ((d, v) :: l) h) : RdC P r f R w0 S Y n k ops hb (q + 1) D l h :=
 RdC.call (fun _ u _ => u = v) h1 ho hw hc hx hd hcf hcall (fun _u _ _ _ hS he e => ⟨h, hS.later he, hs, e ▸ hg⟩)
end
end Go.Proofs.Wit
namespace Go.Proofs.Wit
open Go Go.RowKit
/-! the steps of a walk, in short -/
section
variable {P : Program} {r : Option Nat} {f : FuncId} {R : Value → World → Prop} {w0 : World} {S : List Nat} {Y : List (Nat × Obj)} {n : Nat} {k : List Item} {l : Fl} {h : Hl} {ops : Array Oper} {i d m : Nat} {rest : List Nat} {ty : TypeId} {pos : String} {aft : Array Edge} {g : Option (Nat × Bool)}
theorem gE (hk : GoH P r f R w0 S Y n k l h) : GoH P r f R w0 S Y n (.inRegion ops [] :: k) l h := .regionEnd hk
theorem gS {x y : Code} (hk : GoH P r f R w0 S Y n (.code x :: .code y :: k) l h) : GoH P r f R w0 S Y n (.code (.seq x y) :: k) l h := .seq hk
theorem gR {id : Nat} (hk : GoH P r f R w0 S Y n (.inRegion ops (List.range' 0 ops.size) :: k) l h) : GoH P r f R w0 S Y n (.code (.region id ops false) :: k) l h := .region hk
theorem gK (hk : GoH P r f R w0 S Y n k l h) : GoH P r f R w0 S Y n (.code .skip :: k) l h := .skip hk
theorem gB {id : Nat} {c : Code} (hk : GoH P r f R w0 S Y n (.code c :: .inBlock id :: k) l h) : GoH P r f R w0 S Y n (.code (.block id c) :: k) l h := .block hk
theorem gIb {id : Nat} (hk : GoH P r f R w0 S Y n k l h) : GoH P r f R w0 S Y n (.inBlock id :: k) l h := .inBlock hk
theorem gMv {x : Operand} {v : Value} (hk : GoH P r f R w0 S Y n (.inRegion ops rest :: k) ((d, v) :: l) h) (ho : ops[i]? = some ⟨some d, .move x, ty, pos, aft, g⟩ := by exact rfl) (hw : wantL ops l g = true := by exact rfl) (hx : opd l x = some v := by exact rfl) (hd : Nat.blt d n = true := by exact rfl) : GoH P r f R w0 S Y n (.inRegion ops (i :: rest) :: k) l h := GoH.v (.mv ho hw hx hd) hk
theorem rMv {x : Operand} {v : Value} (hk : RdGo P r f R w0 S Y n k ops (i + 1) m ((d, v) :: l) h) (ho : ops[i]? = some ⟨some d, .move x, ty, pos, aft, g⟩ := by exact rfl) (hw : wantL ops l g = true := by exact rfl) (hx : opd l x = some v := by exact rfl) (hd : Nat.blt d n = true := by exact rfl) : RdGo P r f R w0 S Y n k ops i (m + 1) l h := RdGo.v (.mv ho hw hx hd) hk
theorem gAs {x : Operand} {v : Value} (hk : GoH P r f R w0 S Y n (.inRegion ops rest :: k) ((d, v) :: l) h) (ho : ops[i]? = some ⟨some d, .assign x, ty, pos, aft, g⟩ := by exact rfl) (hw : wantL ops l g = true := by exact rfl) (hx : opd l x = some v := by exact rfl) (hd : Nat.blt d n = true := by exact rfl) : GoH P r f R w0 S Y n (.inRegion ops (i :: rest) :: k) l h := GoH.v (.asg ho hw hx hd) hk
theorem rAs {x : Operand} {v : Value} (hk : RdGo P r f R w0 S Y n k ops (i + 1) m ((d, v) :: l) h) (ho : ops[i]? = some ⟨some d, .assign x, ty, pos, aft, g⟩ := by exact rfl) (hw : wantL ops l g = true := by exact rfl) (hx : opd l x = some v := by exact rfl) (hd : Nat.blt d n = true := by exact rfl) : RdGo P r f R w0 S Y n k ops i (m + 1) l h := RdGo.v (.asg ho hw hx hd) hk
theorem gPt {c x y : Operand} {u : Value} (hk : GoH P r f R w0 S Y n (.inRegion ops rest :: k) ((d, u) :: l) h) (ho : ops[i]? = some ⟨some d, .pick c x y, ty, pos, aft, g⟩ := by exact rfl) (hw : wantL ops l g = true := by exact rfl) (hc : opd l c = some (.bool true) := by exact rfl) (hx : opd l x = some u := by exact rfl) (hd : Nat.blt d n = true := by exact rfl) : GoH P r f R w0 S Y n (.inRegion ops (i :: rest) :: k) l h := GoH.v (.pickT ho hw hc hx hd) hk
theorem gPf {c x y : Operand} {u : Value} (hk : GoH P r f R w0 S Y n (.inRegion ops rest :: k) ((d, u) :: l) h) (ho : ops[i]? = some ⟨some d, .pick c x y, ty, pos, aft, g⟩ := by exact rfl) (hw : wantL ops l g = true := by exact rfl) (hc : opd l c = some (.bool false) := by exact rfl) (hx : opd l y = some u := by exact rfl) (hd : Nat.blt d n = true := by exact rfl) : GoH P r f R w0 S Y n (.inRegion ops (i :: rest) :: k) l h := GoH.v (.pickF ho hw hc hx hd) hk
theorem rPf {c x y : Operand} {u : Value} (hk : RdGo P r f R w0 S Y n k ops (i + 1) m ((d, u) :: l) h) (ho : ops[i]? = some ⟨some d, .pick c x y, ty, pos, aft, g⟩ := by exact rfl) (hw : wantL ops l g = true := by exact rfl) (hc : opd l c = some (.bool false) := by exact rfl) (hx : opd l y = some u := by exact rfl) (hd : Nat.blt d n = true := by exact rfl) : RdGo P r f R w0 S Y n k ops i (m + 1) l h := RdGo.v (.pickF ho hw hc hx hd) hk
theorem gNk {x : Operand} {a : Addr} (hk : GoH P r f R w0 S Y n (.inRegion ops rest :: k) ((d, .pointer (some a)) :: l) h) (ho : ops[i]? = some ⟨some d, .nilCheck x, ty, pos, aft, g⟩ := by exact rfl) (hw : wantL ops l g = true := by exact rfl) (hx : opd l x = some (.pointer (some a)) := by exact rfl) (hd : Nat.blt d n = true := by exact rfl) : GoH P r f R w0 S Y n (.inRegion ops (i :: rest) :: k) l h := GoH.v (.nilCk ho hw hx hd) hk
theorem rNk {x : Operand} {a : Addr} (hk : RdGo P r f R w0 S Y n k ops (i + 1) m ((d, .pointer (some a)) :: l) h) (ho : ops[i]? = some ⟨some d, .nilCheck x, ty, pos, aft, g⟩ := by exact rfl) (hw : wantL ops l g = true := by exact rfl) (hx : opd l x = some (.pointer (some a)) := by exact rfl) (hd : Nat.blt d n = true := by exact rfl) : RdGo P r f R w0 S Y n k ops i (m + 1) l h := RdGo.v (.nilCk ho hw hx hd) hk
theorem gEx {x : Operand} {j : Nat} {vs : Array Value} {v : Value} (hk : GoH P r f R w0 S Y n (.inRegion ops rest :: k) ((d, v) :: l) h) (ho : ops[i]? = some ⟨some d, .extract x j, ty, pos, aft, g⟩ := by exact rfl) (hw : wantL ops l g = true := by exact rfl) (hx : opd l x = some (.tuple vs) := by exact rfl) (hb : vs[j]? = some v := by exact rfl) (hd : Nat.blt d n = true := by exact rfl) : GoH P r f R w0 S Y n (.inRegion ops (i :: rest) :: k) l h := GoH.v (.ext ho hw hx hb hd) hk
theorem gUn {o : UnOp} {tx : TypeId} {x : Operand} {a v : Value} (hb : Una P o a v) (hk : GoH P r f R w0 S Y n (.inRegion ops rest :: k) ((d, v) :: l) h) (ho : ops[i]? = some ⟨some d, .unOp o tx x, ty, pos, aft, g⟩ := by exact rfl) (hw : wantL ops l g = true := by exact rfl) (hx : opd l x = some a := by exact rfl) (hd : Nat.blt d n = true := by exact rfl) : GoH P r f R w0 S Y n (.inRegion ops (i :: rest) :: k) l h := GoH.v (.un ho hw hx hb hd) hk
theorem rUn {o : UnOp} {tx : TypeId} {x : Operand} {a v : Value} (hb : Una P o a v) (hk : RdGo P r f R w0 S Y n k ops (i + 1) m ((d, v) :: l) h) (ho : ops[i]? = some ⟨some d, .unOp o tx x, ty, pos, aft, g⟩ := by exact rfl) (hw : wantL ops l g = true := by exact rfl) (hx : opd l x = some a := by exact rfl) (hd : Nat.blt d n = true := by exact rfl) : RdGo P r f R w0 S Y n k ops i (m + 1) l h := RdGo.v (.un ho hw hx hb hd) hk
theorem gBi {o : BinOp} {tx tyy : TypeId} {x y : Operand} {a b v : Value} (hb : Bin P o tx a b v) (hk : GoH P r f R w0 S Y n (.inRegion ops rest :: k) ((d, v) :: l) h) (ho : ops[i]? = some ⟨some d, .binOp o tx x y tyy, ty, pos, aft, g⟩ := by exact rfl) (hw : wantL ops l g = true := by exact rfl) (hx : opd l x = some a := by exact rfl) (hy : opd l y = some b := by exact rfl) (hd : Nat.blt d n = true := by exact rfl) : GoH P r f R w0 S Y n (.inRegion ops (i :: rest) :: k) l h := GoH.v (.bin ho hw hx hy hb hd) hk
theorem rBi {o : BinOp} {tx tyy : TypeId} {x y : Operand} {a b v : Value} (hb : Bin P o tx a b v) (hk : RdGo P r f R w0 S Y n k ops (i + 1) m ((d, v) :: l) h) (ho : ops[i]? = some ⟨some d, .binOp o tx x y tyy, ty, pos, aft, g⟩ := by exact rfl) (hw : wantL ops l g = true := by exact rfl) (hx : opd l x = some a := by exact rfl) (hy : opd l y = some b := by exact rfl) (hd : Nat.blt d n = true := by exact rfl) : RdGo P r f R w0 S Y n k ops i (m + 1) l h := RdGo.v (.bin ho hw hx hy hb hd) hk
theorem gLo {t : TypeId} {x : Operand} {b off : Nat} {cs : Array Value} {e : TypeId} {fr : Nat × Nat} {v : Value} (ha : ∀ w, (isAgg t).run P w = .ok false w) (j : Nat) (hk : GoH P r f R w0 S Y n (.inRegion ops rest :: k) ((d, v) :: l) h) (ho : ops[i]? = some ⟨some d, .load t x, ty, pos, aft, g⟩ := by exact rfl) (hw : wantL ops l g = true := by exact rfl) (hx : opd l x = some (.pointer (some ⟨b, off, none⟩)) := by exact rfl) (hd : Nat.blt d n = true := by exact rfl) (hj : h[j]? = some (some b, .cells cs e fr) := by exact rfl) (hv : cs[off]? = some v := by exact rfl) : GoH P r f R w0 S Y n (.inRegion ops (i :: rest) :: k) l h := GoH.v (.ldo ho hw hx hd ha j hj hv) hk
theorem rLo {t : TypeId} {x : Operand} {b off : Nat} {cs : Array Value} {e : TypeId} {fr : Nat × Nat} {v : Value} (ha : ∀ w, (isAgg t).run P w = .ok false w) (j : Nat) (hk : RdGo P r f R w0 S Y n k ops (i + 1) m ((d, v) :: l) h) (ho : ops[i]? = some ⟨some d, .load t x, ty, pos, aft, g⟩ := by exact rfl) (hw : wantL ops l g = true := by exact rfl) (hx : opd l x = some (.pointer (some ⟨b, off, none⟩)) := by exact rfl) (hd : Nat.blt d n = true := by exact rfl) (hj : h[j]? = some (some b, .cells cs e fr) := by exact rfl) (hv : cs[off]? = some v := by exact rfl) : RdGo P r f R w0 S Y n k ops i (m + 1) l h := RdGo.v (.ldo ho hw hx hd ha j hj hv) hk
theorem gFp {s tt : TypeId} {x : Operand} {b o q : Nat} {fs : Array Field} {fd : Field} {sz : Nat} (hu : P.underlying s = some (.struct fs)) (he : ∀ w, (sizeOf tt).run P w = .ok (sz + 1) w) (o' : Nat) (hk : GoH P r f R w0 S Y n (.inRegion ops rest :: k) ((d, .pointer (some ⟨b, o', none⟩)) :: l) h) (ho : ops[i]? = some ⟨some d, .fieldAddr s x q, ty, pos, aft, g⟩ := by exact rfl) (hw : wantL ops l g = true := by exact rfl) (hx : opd l x = some (.pointer (some ⟨b, o, none⟩)) := by exact rfl) (hd : Nat.blt d n = true := by exact rfl) (hq : fs[q]? = some fd := by exact rfl) (ht : fd.type = tt := by exact rfl) (hO : o + fd.offset = o' := by exact rfl) : GoH P r f R w0 S Y n (.inRegion ops (i :: rest) :: k) l h := GoH.v (.fldP ho hw hx hd hu hq (ht ▸ he) o' hO) hk
theorem rFp {s tt : TypeId} {x : Operand} {b o q : Nat} {fs : Array Field} {fd : Field} {sz : Nat} (hu : P.underlying s = some (.struct fs)) (he : ∀ w, (sizeOf tt).run P w = .ok (sz + 1) w) (o' : Nat) (hk : RdGo P r f R w0 S Y n k ops (i + 1) m ((d, .pointer (some ⟨b, o', none⟩)) :: l) h) (ho : ops[i]? = some ⟨some d, .fieldAddr s x q, ty, pos, aft, g⟩ := by exact rfl) (hw : wantL ops l g = true := by exact rfl) (hx : opd l x = some (.pointer (some ⟨b, o, none⟩)) := by exact rfl) (hd : Nat.blt d n = true := by exact rfl) (hq : fs[q]? = some fd := by exact rfl) (ht : fd.type = tt := by exact rfl) (hO : o + fd.offset = o' := by exact rfl) : RdGo P r f R w0 S Y n k ops i (m + 1) l h := RdGo.v (.fldP ho hw hx hd hu hq (ht ▸ he) o' hO) hk
theorem gBl {t e : TypeId} {az : Operand} {a : Option Addr} {q c : Nat} (hu : P.underlying t = some (.slice e)) (hk : GoH P r f R w0 S Y n (.inRegion ops rest :: k) ((d, .int .i64 q) :: l) h) (ho : ops[i]? = some ⟨some d, .call ⟨.builtin .len, #[az], #[t]⟩, ty, pos, aft, g⟩ := by exact rfl) (hw : wantL ops l g = true := by exact rfl) (hx : opds l [az] = some [.slice a q c] := by exact rfl) (hd : Nat.blt d n = true := by exact rfl) : GoH P r f R w0 S Y n (.inRegion ops (i :: rest) :: k) l h := GoH.v (.blt ho hw hx (blt_len_slice hu) hd) hk
theorem gNo {o : Oper} (hk : GoH P r f R w0 S Y n (.inRegion ops rest :: k) ((d, undef) :: l) h) (ho : ops[i]? = some o := by exact rfl) (hw : skipL ops l o.guard = true := by exact rfl) (hdst : o.dst = some d := by exact rfl) (hd : Nat.blt d n = true := by exact rfl) : GoH P r f R w0 S Y n (.inRegion ops (i :: rest) :: k) l h := GoH.no ho hw hdst hd hk
theorem gP {az : Array Operand} {ts : Array TypeId} {cal : Operand} {gf : FuncId} {vs : List Value} {v : Value} (ho : ops[i]? = some ⟨some d, .call ⟨.value cal, az, ts⟩, ty, pos, aft, g⟩) (hw : wantL ops l g = true) (hc : opd l cal = some (.func (.func gf) #[] #[])) (hx : opds l az.toList = some vs) (hd : Nat.blt d n = true) (hcf : ∀ args w, (callFunc gf args).run P w = .ok (.enter gf args) w) (hcall : ∀ w Y', St w0 S w h Y' → Cn P gf vs w (fun u _ => u = v)) (hk : GoH P r f R w0 S Y n (.inRegion ops rest :: k) ((d, v) :: l) h) : GoH P r f R w0 S Y n (.inRegion ops (i :: rest) :: k) l h := .callP ho hw hc hx hd hcf hcall hk
theorem gM {az : Array Operand} {ts : Array TypeId} {cal : Operand} {gf : FuncId} {vs : List Value} {Rc : World → Value → World → Prop} (ho : ops[i]? = some ⟨some d, .call ⟨.value cal, az, ts⟩, ty, pos, aft, g⟩) (hw : wantL ops l g = true) (hc : opd l cal = some (.func (.func gf) #[] #[])) (hx : opds l az.toList = some vs) (hd : Nat.blt d n = true) (hcf : ∀ args w, (callFunc gf args).run P w = .ok (.enter gf args) w) (hcall : ∀ w Y', St w0 S w h Y' → Cn P gf vs w (Rc w)) (hk : ∀ v w w' Y', St w0 S w h Y' → Ex [] w w' → Rc w v w' → ∃ h', St w0 S w' h' Y' ∧ GoH P r f R w0 S Y n (.inRegion ops rest :: k) ((d, v) :: l) h') : GoH P r f R w0 S Y n (.inRegion ops (i :: rest) :: k) l h := .callM Rc ho hw hc hx hd hcf hcall hk
theorem gT {fn : Func} {vs : List Value} (hf : P.funcs[f]? = some fn) (hR : ∀ w, St w0 S w h Y → R (retV vs) w) (hres : resL l fn.results.toList = some vs := by exact rfl) : GoH P none f R w0 S Y n (.code .ret :: k) l h := .ret fn hf hres hR
theorem gC {c : Operand} {x y : Code} {b : Bool} (ht : b = true → GoH P r f R w0 S Y n (.code x :: k) l h) (hf : b = false → GoH P r f R w0 S Y n (.code y :: k) l h) (hc : opd l c = some (.bool b) := by exact rfl) : GoH P r f R w0 S Y n (.code (.cond c x y) :: k) l h := .cond hc ht hf
theorem gCs (d : Nat) {b : Bool} (ht : b = true → GoH P r f R w0 S Y n k ((d, .bool true) :: l) h) (hf : b = false → GoH P r f R w0 S Y n k ((d, .bool false) :: l) h) (hv : look l d = some (.bool b) := by exact rfl) : GoH P r f R w0 S Y n k l h := .cases hv ht hf
theorem gBx {o : BinOp} {tx tyy : TypeId} {x y : Operand} {a b v : Value} (ho : ops[i]? = some ⟨some d, .binOp o tx x y tyy, ty, pos, aft, g⟩) (hw : wantL ops l g = true) (hx : opd l x = some a) (hy : opd l y = some b) (hb : Bin P o tx a b v) (hk : GoH P r f R w0 S Y n (.inRegion ops rest :: k) ((d, v) :: l) h) (hd : Nat.blt d n = true := by exact rfl) : GoH P r f R w0 S Y n (.inRegion ops (i :: rest) :: k) l h := .v (.bin ho hw hx hy hb hd) hk
theorem cV {q : Nat} {D : List Nat} {hb : Hl} {d : Nat} {v : Value} (i : Nat) (hv : Vop P w0 S n hb ops i l d v) (hg : RdC P r f R w0 S Y n k ops hb q (i :: D) ((d, v) :: l) h) (hi : (readyL ops D).contains i = true := by exact rfl) (hp : pureOk ops i = true := by exact rfl) (hs : hb.Sublist h := by repeat (first | exact List.Sublist.refl _ | exact List.nil_sublist _ | refine List.Sublist.cons_cons _ ?_ | refine List.Sublist.cons _ ?_)) : RdC P r f R w0 S Y n k ops hb (q + 1) D l h := .v hv hi hp hs hg
theorem cN {q : Nat} {D : List Nat} {hb : Hl} {d : Nat} {o : Oper} (i : Nat) (hg : RdC P r f R w0 S Y n k ops hb q (i :: D) ((d, undef) :: l) h) (ho : ops[i]? = some o := by exact rfl) (hw : skipL ops l o.guard = true := by exact rfl) (hdst : o.dst = some d := by exact rfl) (hnd : isDefer o.op = false := by exact rfl) (hd : Nat.blt d n = true := by exact rfl) (hi : (readyL ops D).contains i = true := by exact rfl) (hp : pureOk ops i = true := by exact rfl) (hs : hb.Sublist h := by repeat (first | exact List.Sublist.refl _ | exact List.nil_sublist _ | refine List.Sublist.cons_cons _ ?_ | refine List.Sublist.cons _ ?_)) : RdC P r f R w0 S Y n k ops hb (q + 1) D l h := .no ho hw hdst hnd hd hi hp hs hg
end
end Go.Proofs.Wit
