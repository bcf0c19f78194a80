/- Laws of a calculus of walks, proved for any program: no condition beyond those that each theorem states. -/
import Derived.Test.YtoiafcoaeomnlaaDoorWst
namespace Go.Proofs.Wit
open Go Go.RowKit

/-- the judgement: from every frame and memory that is known as l and h say, the todo list k runs to the end of the frame -/
def GoH (P : Program) (r : Option Nat) (f : FuncId) (R : Value → World → Prop) (w0 : World) (S : List Nat) (Y : List (Nat × Obj)) (n : Nat) (k : List Item) (l : Fl) (h : Hl) : Prop :=
  ∀ t w Ds, Frm n t l → St w0 S w h (mkY Ds ++ Y) → Gos P r f R k t (Ds.map mark) w

def wantL (ops : Array Oper) (l : Fl) : Option (Nat × Bool) → Bool
  | none => true
  | some (j, want) => match (ops[j]?).bind (·.dst) with
    | some d => match look l d with
      | some (.bool b) => b == want
      | _ => false
    | none => false
/-- the guard says no: what it looks at is the other bool, or nothing -/
def skipL (ops : Array Oper) (l : Fl) : Option (Nat × Bool) → Bool
  | none => false
  | some (j, want) => match (ops[j]?).bind (·.dst) with
    | some d => match look l d with
      | some (.bool b) => b != want
      | some (.tuple _) => true
      | _ => false
    | none => false
def isDefer : Op → Bool
  | .defer _ => true
  | _ => false
theorem not_defer {o : Op} (h : isDefer o = false) : ∀ c, o ≠ .defer c := by rintro c rfl; cases h

section
variable {P : Program} {r : Option Nat} {f : FuncId} {R : Value → World → Prop} {w0 : World} {S : List Nat} {Y : List (Nat × Obj)} {n : Nat} {k k' : List Item} {l l' : Fl} {h h' : Hl}

theorem yielded_eq {ops : Array Oper} {t : Array Value} {j d : Nat} {v : Value} (hF : Frm n t l) (hd : (ops[j]?).bind (·.dst) = some d) (hv : look l d = some v) (hne : v ≠ undef) :
    yielded ops t j = match v with | .bool b => some b | _ => none := by
  have h1 := hF.2 _ _ hv
  unfold yielded
  rw [hd]
  simp only [Option.bind_some]
  rw [Array.getD_eq_getD_getElem?] at h1
  cases ht : t[d]? with
  | none => rw [ht] at h1; simp at h1; exact absurd h1.symm hne
  | some u => rw [ht] at h1; simp at h1; subst h1; cases u <;> rfl
theorem want_of {ops : Array Oper} {t : Array Value} {o : Oper} (hF : Frm n t l) (hw : wantL ops l o.guard = true) : Region.wanted o (yielded ops t) = true := by
  unfold Region.wanted
  cases hg : o.guard with
  | none => rfl
  | some p =>
    obtain ⟨j, want⟩ := p
    rw [hg] at hw
    simp only [wantL] at hw
    split at hw
    · rename_i d hd
      split at hw
      · rename_i b hb
        show (yielded ops t j == some want) = true
        rw [yielded_eq hF hd hb (by simp [undef])]
        simp only [beq_iff_eq] at hw; subst hw; simp
      · cases hw
    · cases hw
theorem skip_of {ops : Array Oper} {t : Array Value} {o : Oper} (hF : Frm n t l) (hw : skipL ops l o.guard = true) : Region.wanted o (yielded ops t) = false := by
  unfold Region.wanted
  cases hg : o.guard with
  | none => rw [hg] at hw; cases hw
  | some p =>
    obtain ⟨j, want⟩ := p
    rw [hg] at hw
    simp only [skipL] at hw
    split at hw
    · rename_i d hd
      split at hw
      · rename_i b hb
        show (yielded ops t j == some want) = false
        rw [yielded_eq hF hd hb (by simp [undef])]
        simp at hw ⊢; exact hw
      · rename_i vs hb
        have h1 := hF.2 _ _ hb
        have : yielded ops t j = none := by
          unfold yielded
          rw [hd]
          simp only [Option.bind_some]
          rw [Array.getD_eq_getD_getElem?] at h1
          cases ht : t[d]? with
          | none => rfl
          | some u => rw [ht] at h1; simp at h1; subst h1; rfl
        show (yielded ops t j == some want) = false
        rw [this]; rfl
      · cases hw
    · cases hw

theorem GoH.mono {R' : Value → World → Prop} (hg : GoH P r f R w0 S Y n k l h) (hr : ∀ v w, R v w → R' v w) : GoH P r f R' w0 S Y n k l h := fun t w Ds hF hS => (hg t w Ds hF hS).mono hr
theorem GoH.sub (hs : SubF l' l) (hg : GoH P r f R w0 S Y n k l' h) : GoH P r f R w0 S Y n k l h := fun t w Ds hF hS => hg t w Ds (hF.sub hs) hS
theorem GoH.subH (hs : h'.Sublist h) (hg : GoH P r f R w0 S Y n k l h') : GoH P r f R w0 S Y n k l h := fun t w Ds hF hS => hg t w Ds hF (hS.subH hs)
theorem GoH.skip (hg : GoH P r f R w0 S Y n k l h) : GoH P r f R w0 S Y n (.code .skip :: k) l h := fun t w Ds hF hS => .skip (hg t w Ds hF hS)
theorem GoH.label {q : Nat} (hg : GoH P r f R w0 S Y n k l h) : GoH P r f R w0 S Y n (.code (.label q) :: k) l h := fun t w Ds hF hS => .label (hg t w Ds hF hS)
theorem GoH.inBlock {id : Nat} (hg : GoH P r f R w0 S Y n k l h) : GoH P r f R w0 S Y n (.inBlock id :: k) l h := fun t w Ds hF hS => .inBlock (hg t w Ds hF hS)
theorem GoH.seq {x y : Code} (hg : GoH P r f R w0 S Y n (.code x :: .code y :: k) l h) : GoH P r f R w0 S Y n (.code (.seq x y) :: k) l h := fun t w Ds hF hS => .seq (hg t w Ds hF hS)
theorem GoH.block {id : Nat} {c : Code} (hg : GoH P r f R w0 S Y n (.code c :: .inBlock id :: k) l h) : GoH P r f R w0 S Y n (.code (.block id c) :: k) l h := fun t w Ds hF hS => .block (hg t w Ds hF hS)
theorem GoH.scope {c : Code} (hg : GoH P r f R w0 S Y n (.code c :: .inScope c :: k) l h) : GoH P r f R w0 S Y n (.code (.scope c) :: k) l h := fun t w Ds hF hS => .scope (hg t w Ds hF hS)
theorem GoH.inScope {c : Code} (hg : GoH P r f R w0 S Y n k l h) : GoH P r f R w0 S Y n (.inScope c :: k) l h := fun t w Ds hF hS => .inScope (hg t w Ds hF hS)
theorem GoH.exit {id : Nat} (he : exitTo id k = some k') (hg : GoH P r f R w0 S Y n k' l h) : GoH P r f R w0 S Y n (.code (.exit id) :: k) l h := fun t w Ds hF hS => .exit he (hg t w Ds hF hS)
theorem GoH.goto {id : Nat} (he : gotoIn id k = some k') (hg : GoH P r f R w0 S Y n k' l h) : GoH P r f R w0 S Y n (.code (.goto id) :: k) l h := fun t w Ds hF hS => .goto he (hg t w Ds hF hS)
theorem GoH.region {id : Nat} {ops : Array Oper} (hg : GoH P r f R w0 S Y n (.inRegion ops (List.range' 0 ops.size) :: k) l h) : GoH P r f R w0 S Y n (.code (.region id ops false) :: k) l h := fun t w Ds hF hS => .region (by rw [List.range_eq_range']; exact hg t w Ds hF hS)
theorem GoH.regionEnd {ops : Array Oper} (hg : GoH P r f R w0 S Y n k l h) : GoH P r f R w0 S Y n (.inRegion ops [] :: k) l h := fun t w Ds hF hS => .regionEnd (hg t w Ds hF hS)
theorem GoH.cond {c : Operand} {x y : Code} {b : Bool} (hc : opd l c = some (.bool b)) (ht : b = true → GoH P r f R w0 S Y n (.code x :: k) l h) (hf : b = false → GoH P r f R w0 S Y n (.code y :: k) l h) : GoH P r f R w0 S Y n (.code (.cond c x y) :: k) l h := fun t w Ds hF hS =>
  .cond (hF.opd hc _) (by cases b; exact hf rfl t w Ds hF hS; exact ht rfl t w Ds hF hS)
theorem GoH.condT {c : Operand} {x y : Code} (hc : opd l c = some (.bool true)) (ht : GoH P r f R w0 S Y n (.code x :: k) l h) : GoH P r f R w0 S Y n (.code (.cond c x y) :: k) l h := .cond hc (fun _ => ht) (fun e => by cases e)
theorem GoH.condF {c : Operand} {x y : Code} (hc : opd l c = some (.bool false)) (hf : GoH P r f R w0 S Y n (.code y :: k) l h) : GoH P r f R w0 S Y n (.code (.cond c x y) :: k) l h := .cond hc (fun e => by cases e) (fun _ => hf)
/-- a bool of the frame is looked at -/
theorem GoH.cases {d : Nat} {b : Bool} (hv : look l d = some (.bool b)) (ht : b = true → GoH P r f R w0 S Y n k ((d, .bool true) :: l) h) (hf : b = false → GoH P r f R w0 S Y n k ((d, .bool false) :: l) h) : GoH P r f R w0 S Y n k l h := by
  have key : ∀ t c, Frm n t l → b = c → Frm n t ((d, .bool c) :: l) := by
    rintro t c hF rfl
    refine ⟨hF.1, fun i u hu => ?_⟩
    unfold look at hu
    cases hb : Nat.beq d i with
    | true => rw [hb] at hu; obtain rfl := Nat.eq_of_beq_eq_true hb; cases hu; exact hF.2 _ _ hv
    | false => rw [hb] at hu; exact hF.2 _ _ hu
  cases b
  · exact fun t w Ds hF hS => hf rfl t w Ds (key t _ hF rfl) hS
  · exact fun t w Ds hF hS => ht rfl t w Ds (key t _ hF rfl) hS
theorem GoH.loop {σ : Type} {c : Code} (L : σ → Fl) (H : σ → Hl) (I : σ → Prop) (μ : σ → Nat) (s0 : σ) (h0 : I s0) (hl : SubF (L s0) l) (hh : (H s0).Sublist h)
    (round : ∀ s, I s → (∀ (s' : σ) (l' : Fl) (h' : Hl), I s' → μ s' < μ s → SubF (L s') l' → (H s').Sublist h' → GoH P r f R w0 S Y n (.inLoop c :: k) l' h') → GoH P r f R w0 S Y n (.code c :: .inLoop c :: k) (L s) (H s)) :
    GoH P r f R w0 S Y n (.code (.loop c) :: k) l h := by
  have key : ∀ m s, μ s = m → I s → GoH P r f R w0 S Y n (.code c :: .inLoop c :: k) (L s) (H s) := by
    intro m
    induction m using Nat.strongRecOn with
    | _ m ih =>
      intro s hm hI
      refine round s hI (fun s' l' h' hI' hlt hsl hsh => ?_)
      have := ih (μ s') (hm ▸ hlt) s' rfl hI'
      exact .sub hsl (.subH hsh (fun t w Ds hF hS => .inLoop (this t w Ds hF hS)))
  exact .sub hl (.subH hh (fun t w Ds hF hS => .loop (key _ s0 rfl h0 t w Ds hF hS)))

/-! ### operations -/
theorem GoH.val {ops : Array Oper} {i d : Nat} {rest : List Nat} {o : Oper} {v : Value} (ho : ops[i]? = some o) (hw : wantL ops l o.guard = true) (hdst : o.dst = some d) (hnd : isDefer o.op = false) (hd : Nat.blt d n = true)
    (hr : ∀ (t : Array Value) (w : World) (Ds : List Nat) (Y' : List (Nat × Obj)), Frm n t l → St w0 S w h Y' → ∃ nx, (execOp (Act.eval ⟨t, Ds.map mark⟩) o).run P w = .ok nx w ∧ nx = .value v)
    (hk : GoH P r f R w0 S Y n (.inRegion ops rest :: k) ((d, v) :: l) h) : GoH P r f R w0 S Y n (.inRegion ops (i :: rest) :: k) l h := by
  intro t w Ds hF hS
  obtain ⟨nx, hx, rfl⟩ := hr t w Ds _ hF hS
  refine Gos.op ho (want_of hF hw) (not_defer hnd) hx (.inl rfl) ?_
  rw [hdst]
  exact hk _ w Ds (hF.put v hd) hS
/-- the general operation: memory may turn -/
theorem GoH.mem {ops : Array Oper} {i d : Nat} {rest : List Nat} {o : Oper} (ho : ops[i]? = some o) (hw : wantL ops l o.guard = true) (hdst : o.dst = some d) (hnd : isDefer o.op = false) (hd : Nat.blt d n = true)
    (hr : ∀ (t : Array Value) (w : World) (Ds : List Nat) (Y' : List (Nat × Obj)), Frm n t l → St w0 S w h Y' → ∃ v w' h', (execOp (Act.eval ⟨t, Ds.map mark⟩) o).run P w = .ok (.value v) w' ∧ St w0 S w' h' Y' ∧ GoH P r f R w0 S Y n (.inRegion ops rest :: k) ((d, v) :: l) h') :
    GoH P r f R w0 S Y n (.inRegion ops (i :: rest) :: k) l h := by
  intro t w Ds hF hS
  obtain ⟨v, w', h', hx, hS', hk⟩ := hr t w Ds _ hF hS
  refine Gos.op ho (want_of hF hw) (not_defer hnd) hx (.inl rfl) ?_
  rw [hdst]
  exact hk _ w' Ds (hF.put v hd) hS'
/-- an operation that has no value: a store -/
theorem GoH.eff {ops : Array Oper} {i : Nat} {rest : List Nat} {o : Oper} (ho : ops[i]? = some o) (hw : wantL ops l o.guard = true) (hdst : o.dst = none) (hnd : isDefer o.op = false)
    (hr : ∀ (t : Array Value) (w : World) (Ds : List Nat) (Y' : List (Nat × Obj)), Frm n t l → St w0 S w h Y' → ∃ w' h', (execOp (Act.eval ⟨t, Ds.map mark⟩) o).run P w = .ok .skip w' ∧ St w0 S w' h' Y' ∧ GoH P r f R w0 S Y n (.inRegion ops rest :: k) l h') :
    GoH P r f R w0 S Y n (.inRegion ops (i :: rest) :: k) l h := by
  intro t w Ds hF hS
  obtain ⟨w', h', hx, hS', hk⟩ := hr t w Ds _ hF hS
  refine Gos.op ho (want_of hF hw) (not_defer hnd) hx (.inr ⟨rfl, rfl⟩) ?_
  rw [hdst]
  exact hk _ w' Ds hF hS'
theorem GoH.no {ops : Array Oper} {i d : Nat} {rest : List Nat} {o : Oper} (ho : ops[i]? = some o) (hw : skipL ops l o.guard = true) (hdst : o.dst = some d) (hd : Nat.blt d n = true)
    (hk : GoH P r f R w0 S Y n (.inRegion ops rest :: k) ((d, undef) :: l) h) : GoH P r f R w0 S Y n (.inRegion ops (i :: rest) :: k) l h := by
  intro t w Ds hF hS
  refine Gos.opSkip ho (skip_of hF hw) ?_
  rw [hdst]
  exact hk _ w Ds (hF.put undef hd) hS
theorem GoH.noEff {ops : Array Oper} {i : Nat} {rest : List Nat} {o : Oper} (ho : ops[i]? = some o) (hw : skipL ops l o.guard = true) (hdst : o.dst = none)
    (hk : GoH P r f R w0 S Y n (.inRegion ops rest :: k) l h) : GoH P r f R w0 S Y n (.inRegion ops (i :: rest) :: k) l h := by
  intro t w Ds hF hS
  refine Gos.opSkip ho (skip_of hF hw) ?_
  rw [hdst]
  exact hk _ w Ds hF hS
/-- operation i yields v into slot d, and turns nothing -/
def Vop (P : Program) (w0 : World) (S : List Nat) (n : Nat) (h : Hl) (ops : Array Oper) (i : Nat) (l : Fl) (d : Nat) (v : Value) : Prop :=
  ∃ o, ops[i]? = some o ∧ wantL ops l o.guard = true ∧ o.dst = some d ∧ isDefer o.op = false ∧ Nat.blt d n = true ∧
    ∀ (t : Array Value) (w : World) (Ds : List Nat) (Y' : List (Nat × Obj)), Frm n t l → St w0 S w h Y' → ∃ nx, (execOp (Act.eval ⟨t, Ds.map mark⟩) o).run P w = .ok nx w ∧ nx = .value v
theorem Vop.of {ops : Array Oper} {i d : Nat} {o : Oper} {v : Value} (ho : ops[i]? = some o) (hw : wantL ops l o.guard = true) (hdst : o.dst = some d) (hnd : isDefer o.op = false) (hd : Nat.blt d n = true)
    (hr : ∀ (t : Array Value) (w : World) (Ds : List Nat) (Y' : List (Nat × Obj)), Frm n t l → St w0 S w h Y' → ∃ nx, (execOp (Act.eval ⟨t, Ds.map mark⟩) o).run P w = .ok nx w ∧ nx = .value v) : Vop P w0 S n h ops i l d v :=
  ⟨o, ho, hw, hdst, hnd, hd, hr⟩
theorem GoH.v {ops : Array Oper} {i d : Nat} {rest : List Nat} {v : Value} (hv : Vop P w0 S n h ops i l d v) (hk : GoH P r f R w0 S Y n (.inRegion ops rest :: k) ((d, v) :: l) h) : GoH P r f R w0 S Y n (.inRegion ops (i :: rest) :: k) l h := by
  obtain ⟨o, ho, hw, hdst, hnd, hd, hr⟩ := hv
  exact .val ho hw hdst hnd hd hr hk
end
end Go.Proofs.Wit
