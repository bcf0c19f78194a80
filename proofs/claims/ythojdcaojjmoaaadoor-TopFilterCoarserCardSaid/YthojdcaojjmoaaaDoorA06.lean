/- Laws of walks, for any program, under the conditions that each theorem states. -/
import Derived.Test.YthojdcaojjmoaaaDoorA04
import Derived.Test.YthojdcaojjmoaaaDoorA03
namespace Go.Proofs.Wit
open Go Go.RowKit
/-! an iterator without an end: it makes a list of ints, hands it out, and goes on till a round says no -/
/-- the blocks that it has handed out, the last one first -/
def Hist (e : TypeId) (pf : Nat → List Int) : List Nat → Hl
  | [] => []
  | b :: t => (some b, ob I64 e (pf t.length) []) :: Hist e pf t
def pV (pf : Nat → List Int) (b : Nat) (t : List Nat) : Value := .slice (some ⟨b, 0, none⟩) (pf t.length).length (pf t.length).length
def IterE (P : Program) (w0 : World) (S : List Nat) (gf : FuncId) (lb : List Value) (e : TypeId) (pf : Nat → List Int) (cap : Hl) : Prop :=
  ∀ (Y : List (Nat × Obj)) (σ : Type) (Hc : σ → Hl) (N : Nat) (I : List Nat → σ → Prop) (X : List Nat → σ → Prop) (Yx : σ → List (Nat × Obj)) (L : Nat),
    (∀ t s, I t s → t.length ≤ N) →
    (∀ (b : Nat) (t : List Nat) (s : σ), I t s → ∀ (hi : Hl) (w : World) (Y1 : List (Nat × Obj)), St w0 S w (hi ++ (Hist e pf (b :: t) ++ Hc s)) (Y1 ++ Y) →
      Rnd P L #[pV pf b t] w (fun v w' => (v = .bool true ∧ ∃ s', I (b :: t) s' ∧ St w0 S w' (hi ++ (Hist e pf (b :: t) ++ Hc s')) (Y1 ++ Y)) ∨ (v = .bool false ∧ ∃ s', X (b :: t) s' ∧ St w0 S w' (hi ++ (Hist e pf (b :: t) ++ Hc s')) (Y1 ++ Yx s')))) →
    ∀ s0 w, I [] s0 → St w0 S w (cap ++ Hc s0) Y →
      Calls P gf ((Value.func (.yield L) #[] #[] :: lb).toArray) w fun e' w' => ∃ v, e' = .returned v ∧ ∃ t s, X t s ∧ St w0 S w' (Hist e pf t ++ Hc s) (Yx s)
section
variable {P : Program} {f : FuncId} {R : Value → World → Prop} {w0 : World} {S : List Nat} {Y : List (Nat × Obj)} {n : Nat} {k k' : List Item} {l l' : Fl} {h h' : Hl}
/-- **for .. := range g { .. }**, outermost -/
theorem GoH.rangeE {g : Operand} {ps : Array Tmp} {assign body : Code} {gf : FuncId} {lb : List Value} {e : TypeId} {pf : Nat → List Int} {cap : Hl} {σ : Type} (Hc : σ → Hl) (N : Nat) (I : List Nat → σ → Prop) (X : Code → List Nat → σ → Prop) (s0 : σ)
    (hg : opd l g = some (.func (.func gf) #[] lb.toArray)) (hcf : ∀ args w, (callFunc gf args).run P w = .ok (.enter gf args) w) (it : IterE P w0 S gf lb e pf cap)
    (hps : ps.size = 1) (hpn : ps.toList.all (fun p => Nat.blt p n) = true) (hN : ∀ t s, I t s → t.length ≤ N) (h0 : I [] s0) (hh : (cap ++ Hc s0).Sublist h)
    (hround : ∀ (L : Nat) (Y' : List (Nat × Obj)) (rec : Loop) (hi : Hl) (b : Nat) (t : List Nat) (s : σ), I t s → rec.state = .ready →
      GoH P (some L) f (RoundR w0 S (fun x : List Nat × σ => Hc x.2 ++ Hist e pf x.1) (fun _ x => x.1 = b :: t ∧ I x.1 x.2) (fun c x => x.1 = b :: t ∧ X c x.1 x.2) L rec Y' hi 0) w0 S ((L, .loop rec) :: Y') n [.code assign, .beginRound, .code body] (bindL ps.toList [pV pf b t] l) (Hc s ++ Hist e pf (b :: t) ++ hi))
    (_hdone : False → False) (hstop : ∀ c t s, X c t s → GoH P none f R w0 S Y n (.code c :: k) l (Hc s ++ Hist e pf t)) :
    GoH P none f R w0 S Y n (.code (.rangeFunc g ps assign body) :: k) l h := by
  intro t w Ds hF hS cs hcs
  -- the two blocks of book-keeping
  obtain ⟨rec, hrec⟩ : ∃ rec : Loop, rec = { state := .ready, pending := none, fn := f, tmps := t, params := ps, assign, body, defers := w.heap.size } := ⟨_, rfl⟩
  have hS1 := (hS.newY (o := .deferred (some [])) rfl).newY (o := .loop rec) rfl
  rw [World.size_alloc] at hS1
  obtain ⟨w2, hw2⟩ : ∃ w2, (w.alloc (.deferred (some []))).alloc (.loop rec) = w2 := ⟨_, rfl⟩
  rw [hw2] at hS1
  have henter : (Instr.enterLoop f t ps assign body none).run P w = .ok (w.heap.size + 1, [mark w.heap.size]) w2 := by
    rw [← hw2, hrec]
    exact run_enterLoop_outer _ _ _ _ _
  have hinv : (invoke (.fn (.func gf) lb.toArray) #[Value.func (.yield (w.heap.size + 1)) #[] #[]]).run P w2 = .ok (.enter gf ((Value.func (.yield (w.heap.size + 1)) #[] #[] :: lb).toArray)) w2 := by
    simp only [invoke, hcf]
    congr 2
    simp
  have hres : (resolve (Act.eval ⟨t, Ds.map mark⟩) (rangeCall g (w.heap.size + 1)) 0).run P w2 = .ok { target := .fn (.func gf) lb.toArray, args := #[Value.func (.yield (w.heap.size + 1)) #[] #[]] } w2 := by
    have e1 := hF.opd hg (Ds.map mark)
    simp only [resolve, e1, Deferred.ofValue]
    simp [Act.eval]
  have hstep := stepR_rangeFunc (P := P) (b := mkF f none #[] [] []) (a := ⟨t, Ds.map mark⟩) (k := k) (cs := cs) (w := w) (ps := ps) (assign := assign) (body := body) (g := g) henter hres hinv
  -- the iterator's contract
  obtain ⟨Yr, hYr⟩ : ∃ Yr, (w.heap.size, (.deferred (some []) : Obj)) :: (mkY Ds ++ Y) = Yr := ⟨_, rfl⟩
  have hcall := it ((w.heap.size + 1, .loop rec) :: Yr) (σ × Option Code) (fun s => Hc s.1) N (fun t s => I t s.1 ∧ s.2 = none) (fun t s => ∃ c, s.2 = some c ∧ X c t s.1)
    (fun s => (w.heap.size + 1, .loop { rec with state := .done, pending := s.2 }) :: Yr) (w.heap.size + 1) (fun t s hs => hN t s.1 hs.1) (by
      rintro b ti ⟨s, c⟩ ⟨hI, hc⟩ hi W Y1 hSt
      simp only at hc hSt
      subst hc
      have hSt1 := (hSt.perm ((List.perm_append_comm).trans (List.perm_append_comm.append_right hi))).permY (List.perm_middle (l₁ := Y1) (a := (w.heap.size + 1, Obj.loop rec)) (l₂ := Yr))
      have hL := (hSt1.sys _ (List.mem_cons_self ..)).2.1
      simp only at hL
      refine ⟨f, (ps.zip [pV pf b ti].toArray).foldl (fun t (p : Tmp × Value) => t.setIfInBounds p.1 p.2) t, assign, body, ?_, fun c cs => ?_⟩
      · simp only [Instr.yield, Instr.getLoop, getObj, Sem.run, hL, bind, Sem.bind, pure]
        rw [hrec]
        simp [hps]
      · have hg1 := hround (w.heap.size + 1) (Y1 ++ Yr) rec hi b ti s hI (by rw [hrec])
        have hfr : Frm n ((ps.zip [pV pf b ti].toArray).foldl (fun t (p : Tmp × Value) => t.setIfInBounds p.1 p.2) t) (bindL ps.toList [pV pf b ti] l) := by
          have := frm_bind (ps := ps.toList) (az := [pV pf b ti]) hF (List.all_eq_true.1 hpn)
          rw [← Array.foldl_toList, Array.toList_zip]; exact this
        obtain ⟨v, w', m, hR, hst, htg⟩ := hg1 _ W [] hfr (by simpa [mkY] using hSt1) (c :: cs) (by simp)
        obtain ⟨c', cs', hcc, rfl⟩ := htg
        cases hcc
        refine ⟨v, w', ?_, hst⟩
        rcases hR with ⟨hv, ⟨t', s'⟩, ⟨ht, hI'⟩, hS'⟩ | ⟨hv, c2, ⟨t', s'⟩, ⟨ht, hX⟩, hS'⟩
        · dsimp only at ht; subst ht
          refine .inl ⟨hv, (s', none), ⟨hI', rfl⟩, ?_⟩
          have e1 : ({ rec with state := .ready, pending := none } : Loop) = rec := by rw [hrec]
          rw [e1] at hS'
          exact (hS'.perm ((List.perm_append_comm.append_right hi).trans List.perm_append_comm)).permY (List.perm_middle (l₁ := Y1) (a := (w.heap.size + 1, Obj.loop rec)) (l₂ := Yr)).symm
        · dsimp only at ht; subst ht
          refine .inr ⟨hv, (s', some c2), ⟨c2, rfl, hX⟩, ?_⟩
          exact (hS'.perm ((List.perm_append_comm.append_right hi).trans List.perm_append_comm)).permY (List.perm_middle (l₁ := Y1) (l₂ := Yr)).symm)
    (s0, none) w2 ⟨h0, rfl⟩ ((hYr ▸ hS1).subH hh)
  obtain ⟨e', w3, fr, ⟨v, rfl, hpost⟩, hcomes, hfn, hleave⟩ := hcall ((mkF f none #[] [] []).atR ⟨t, [mark w.heap.size] ++ Ds.map mark⟩ (.inRangeFunc (w.heap.size + 1) :: k) :: cs)
  have hback := step_leave_returned (c := (mkF f none #[] [] []).atR ⟨t, [mark w.heap.size] ++ Ds.map mark⟩ (.inRangeFunc (w.heap.size + 1) :: k)) (cs := cs) hleave
  rw [finish_atR_inRangeFunc] at hback
  have fin : ∀ (H : Hl) (rc : Loop) (jump : Option Code), rc.state ≠ .busy → rc.pending = jump → St w0 S w3 H ((w.heap.size + 1, .loop rc) :: Yr) →
      (∀ w4, St w0 S w4 H (mkY (w.heap.size :: Ds) ++ Y) → Gos P none f R ((jump.map Item.code).toList ++ k) t ((w.heap.size :: Ds).map mark) w4) →
      ∃ v w' m, R v w' ∧ Steps P (lone (mkF f none t (Ds.map mark) (.code (.rangeFunc g ps assign body) :: k)) cs w) m ∧ Tgt P none f cs v w' m := by
    intro H rc jump hnb hj hS3 hgo
    have hL := (hS3.sys _ (List.mem_cons_self ..)).2.1
    simp only at hL
    have hend : (Instr.endLoop (w.heap.size + 1)).run P w3 = .ok jump { w3 with heap := w3.heap.setIfInBounds (w.heap.size + 1) (.loop { rc with state := .exhausted }) } := by
      simp [Instr.endLoop, Instr.getLoop, getObj, setObj, Sem.run, hL, bind, Sem.bind, pure, hj]
      exact fun hx => absurd hx hnb
    have hS4 := (hS3.turnY (o' := .loop { rc with state := .exhausted }) rfl).subY (List.sublist_cons_self ..)
    obtain ⟨v', w', m, hR, hst, htg⟩ := hgo _ (by rw [← hYr] at hS4; exact hS4) cs hcs
    refine ⟨v', w', m, hR, .head hstep (Steps.trans hcomes (.head hback (.head (stepR_endRangeFunc hend) ?_))), htg⟩
    exact hst
  obtain ⟨t', ⟨s, c⟩, ⟨c', hc, hX⟩, hS3⟩ := hpost
  simp only at hc; subst hc
  exact fin _ _ (some c') (by simp) rfl hS3 (fun w4 hS4 => hstop c' t' s hX t w4 (w.heap.size :: Ds) hF (hS4.perm List.perm_append_comm))
/-- an endless iterator's contract out of its body -/
theorem IterE.of {gf : FuncId} {lb : List Value} {e : TypeId} {pf : Nat → List Int} {cap : Hl} {c : Code} {fn : Func} (hf : P.funcs[gf]? = some fn) (hb : fn.body = some c) (hn : Nat.ble (lb.length + 1) fn.ntmps = true)
    (hgo : ∀ (Y : List (Nat × Obj)) (σ : Type) (Hc : σ → Hl) (N : Nat) (I : List Nat → σ → Prop) (X : List Nat → σ → Prop) (Yx : σ → List (Nat × Obj)) (L : Nat),
      (∀ t s, I t s → t.length ≤ N) →
      (∀ (b : Nat) (t : List Nat) (s : σ), I t s → ∀ (hi : Hl) (w : World) (Y1 : List (Nat × Obj)), St w0 S w (hi ++ (Hist e pf (b :: t) ++ Hc s)) (Y1 ++ Y) →
        Rnd P L #[pV pf b t] w (fun v w' => (v = .bool true ∧ ∃ s', I (b :: t) s' ∧ St w0 S w' (hi ++ (Hist e pf (b :: t) ++ Hc s')) (Y1 ++ Y)) ∨ (v = .bool false ∧ ∃ s', X (b :: t) s' ∧ St w0 S w' (hi ++ (Hist e pf (b :: t) ++ Hc s')) (Y1 ++ Yx s')))) →
      ∀ s0, I [] s0 → GoH P none gf (fun _ w' => ∃ t s, X t s ∧ St w0 S w' (Hist e pf t ++ Hc s) (Yx s)) w0 S Y fn.ntmps [.code c] (parL 0 (Value.func (.yield L) #[] #[] :: lb)) (cap ++ Hc s0)) :
    IterE P w0 S gf lb e pf cap := by
  intro Y σ Hc N I X Yx L hN hy s0 w hI hS cs
  obtain ⟨v, w', m, hR, hst, fr, rfl, hfn, hl⟩ := hgo Y σ Hc N I X Yx L hN hy s0 hI _ w [] (frm_enter (by simpa using Nat.le_of_ble_eq_true hn)) hS cs (by simp)
  refine ⟨.returned v, w', fr, ⟨v, rfl, hR⟩, ?_, hfn, hl⟩
  have henter : Frame.enter P gf (Value.func (.yield L) #[] #[] :: lb).toArray .normal = mkF gf none ((Value.func (.yield L) #[] #[] :: lb).toArray ++ Array.replicate (fn.ntmps - (Value.func (.yield L) #[] #[] :: lb).toArray.size) undef) [] [.code c] := by
    simp [Frame.enter, hf, hb, mkF]
  show Steps P _ _
  rw [henter]; exact hst
end
end Go.Proofs.Wit
namespace Go.Proofs.Wit
/-! partitions as lists of lowest points; the rounds of a refinement -/
section
variable {κ κ' : Type} [DecidableEq κ] [DecidableEq κ']
/-- the first of the first n points that has the key k -/
def ldr (key : Nat → κ) (k : κ) (n : Nat) : Option Nat := firstTo (fun j => if key j = k then some j else none) n
theorem ldr_some {key : Nat → κ} {k : κ} {n j : Nat} (h : ldr key k n = some j) : j < n ∧ key j = k ∧ ∀ i, i < j → key i ≠ k := by
  obtain ⟨q, h1, h2, h3⟩ := firstTo_some h
  split at h2
  · rename_i hk
    cases h2
    refine ⟨h1, hk, fun i hi e => ?_⟩
    have := h3 i hi
    rw [if_pos e] at this; cases this
  · cases h2
theorem ldr_none {key : Nat → κ} {k : κ} {n : Nat} (h : ldr key k n = none) : ∀ i, i < n → key i ≠ k := fun i hi e => by
  have := firstTo_none.1 h i hi
  rw [if_pos e] at this; cases this
theorem ldr_hit {key : Nat → κ} {k : κ} {n : Nat} (h : ldr key k n = none) (hk : key n = k) : ldr key k (n + 1) = some n := firstTo_hit h (by rw [if_pos hk]) _ (Nat.lt_succ_self n)
theorem ldr_keep {key : Nat → κ} {k : κ} {n j : Nat} (h : ldr key k n = some j) : ldr key k (n + 1) = some j := by
  unfold ldr at h ⊢; rw [firstTo, h]
theorem ldr_skip {key : Nat → κ} {k : κ} {n : Nat} (hk : key n ≠ k) : ldr key k (n + 1) = ldr key k n := by
  cases h : ldr key k n with
  | some j => exact ldr_keep h
  | none => exact firstTo_step h (by rw [if_neg hk])
/-- the first point with the key of i -/
def led (key : Nat → κ) (i : Nat) : Nat := (ldr key (key i) (i + 1)).getD 0
theorem led_spec (key : Nat → κ) (i : Nat) : led key i ≤ i ∧ key (led key i) = key i ∧ ∀ j, key j = key i → led key i ≤ j := by
  unfold led
  cases h : ldr key (key i) (i + 1) with
  | none => exact absurd rfl (ldr_none h i (Nat.lt_succ_self i))
  | some j =>
    obtain ⟨h1, h2, h3⟩ := ldr_some h
    refine ⟨Nat.le_of_lt_succ h1, h2, fun q hq => ?_⟩
    rcases Nat.lt_or_ge q j with hlt | hge
    · exact absurd hq (h3 q hlt)
    · exact hge
theorem led_at {key : Nat → κ} {i j : Nat} (h : ldr key (key i) (i + 1) = some j) : led key i = j := by rw [led, h]; rfl
theorem led_old {key : Nat → κ} {i j : Nat} (h : ldr key (key i) i = some j) : led key i = j := led_at (ldr_keep h)
theorem led_new {key : Nat → κ} {i : Nat} (h : ldr key (key i) i = none) : led key i = i := led_at (ldr_hit h rfl)
theorem led_iff {key : Nat → κ} {i j : Nat} : led key i = led key j ↔ key i = key j := by
  refine ⟨fun e => ?_, fun e => ?_⟩
  · rw [← (led_spec key i).2.1, e, (led_spec key j).2.1]
  · exact Nat.le_antisymm ((led_spec key i).2.2 _ ((led_spec key j).2.1.trans e.symm)) ((led_spec key j).2.2 _ ((led_spec key i).2.1.trans e))
theorem led_idem (key : Nat → κ) (i : Nat) : led key (led key i) = led key i := led_iff.2 (led_spec key i).2.1
theorem led_congr {key : Nat → κ} {key' : Nat → κ'} {n : Nat} (h : ∀ i j, i < n → j < n → (key i = key j ↔ key' i = key' j)) {i : Nat} (hi : i < n) : led key i = led key' i := by
  have a := led_spec key i; have b := led_spec key' i
  exact Nat.le_antisymm (a.2.2 _ ((h _ _ (by omega) hi).2 b.2.1)) (b.2.2 _ ((h _ _ (by omega) hi).1 a.2.1))
/-- the partition of n points by their keys -/
def ker (n : Nat) (key : Nat → κ) : List Int := (List.range n).map (fun i => (led key i : Int))
theorem ker_len {n : Nat} {key : Nat → κ} : (ker n key).length = n := by simp [ker]
theorem ker_get {n : Nat} {key : Nat → κ} {i : Nat} (hi : i < n) : (ker n key).getD i 0 = (led key i : Int) := by simp [ker, List.getD_eq_getElem?_getD, hi]
theorem ker_congr {key : Nat → κ} {key' : Nat → κ'} {n : Nat} (h : ∀ i j, i < n → j < n → (key i = key j ↔ key' i = key' j)) : ker n key = ker n key' := by
  unfold ker
  refine List.map_congr_left (fun i hi => ?_)
  rw [led_congr h (List.mem_range.1 hi)]
theorem ker_eq_iff {n : Nat} {key : Nat → κ} {i j : Nat} (hi : i < n) (hj : j < n) : (ker n key).getD i 0 = (ker n key).getD j 0 ↔ key i = key j := by
  rw [ker_get hi, ker_get hj, Int.ofNat_inj, led_iff]
end
/-- a partition -/
structure OkP (p : List Int) : Prop where
  len : p.length ≤ 64
  low : ∀ i, i < p.length → 0 ≤ p.getD i 0 ∧ p.getD i 0 ≤ i ∧ p.getD (p.getD i 0).toNat 0 = p.getD i 0
theorem ker_ok {κ : Type} [DecidableEq κ] {n : Nat} {key : Nat → κ} (hn : n ≤ 64) : OkP (ker n key) := by
  refine ⟨by rw [ker_len]; exact hn, fun i hi => ?_⟩
  rw [ker_len] at hi
  have h := led_spec key i
  rw [ker_get hi, Int.toNat_natCast, ker_get (by omega), led_idem]
  exact ⟨by omega, by omega, rfl⟩
theorem okP_zero {n : Nat} (hn : n ≤ 64) : OkP (List.replicate n (0 : Int)) := by
  refine ⟨by simpa using hn, fun i hi => ?_⟩
  simp only [List.length_replicate] at hi
  have e : ∀ j, (List.replicate n (0 : Int)).getD j 0 = 0 := fun j => by
    rw [List.getD_eq_getElem?_getD, List.getElem?_replicate]; split <;> rfl
  rw [e, e]; simp
/-- points are put together that have equal elements in both lists -/
def divP (a b : List Int) : List Int := ker a.length (fun i => (a.getD i 0, b.getD i 0))
/-- the blocks that a set meets -/
def bitsP (p : List Int) : List W64 := p.map (fun x => 1#64 <<< x.toNat)
def rch (p : List Int) (s : W64) : W64 := mapR (bitsP p) s
/-- the next round -/
def nxt (rels : List (List W64)) (p : List Int) : List Int := ker p.length (fun w => (p.getD w 0, rels.map (fun r => rch p (r.getD w 0#64))))
/-- the facts of a world, as a number -/
def fmTo (val : List W64) (w : Nat) : Nat → Nat
  | 0 => 0
  | k + 1 => fmTo val w k + (if (val.getD k 0#64).getLsbD w = true then 2 ^ k else 0)
def fm (val : List W64) (w : Nat) : Nat := fmTo val w val.length
theorem fmTo_lt (val : List W64) (w : Nat) : ∀ k, fmTo val w k < 2 ^ k
  | 0 => by simp [fmTo]
  | k + 1 => by have := fmTo_lt val w k; rw [fmTo, Nat.pow_succ]; split <;> omega
/-- the partition after i rounds -/
def psq (n : Nat) (val : List W64) (rels : List (List W64)) : Nat → List Int
  | 0 => ker n (fun w => fm val w)
  | i + 1 => nxt rels (psq n val rels i)
theorem psq_len {n : Nat} {val : List W64} {rels : List (List W64)} : ∀ i, (psq n val rels i).length = n
  | 0 => ker_len
  | i + 1 => by rw [psq, nxt, ker_len, psq_len i]
theorem psq_ok {n : Nat} {val : List W64} {rels : List (List W64)} (hn : n ≤ 64) : ∀ i, OkP (psq n val rels i)
  | 0 => ker_ok hn
  | i + 1 => by rw [psq, nxt]; exact ker_ok (by rw [psq_len]; exact hn)
theorem nxt_eq_iff {rels : List (List W64)} {p : List Int} {i j : Nat} (hi : i < p.length) (hj : j < p.length) :
    (nxt rels p).getD i 0 = (nxt rels p).getD j 0 ↔ p.getD i 0 = p.getD j 0 ∧ ∀ r ∈ rels, rch p (r.getD i 0#64) = rch p (r.getD j 0#64) := by
  rw [nxt, ker_eq_iff hi hj]; simp
/-- a list that is being filled -/
def fillI (n : Nat) (f : Nat → Int) (k : Nat) : List Int := (List.range n).map (fun i => if i < k then f i else 0)
theorem fillI_len {n : Nat} {f : Nat → Int} {k : Nat} : (fillI n f k).length = n := by simp [fillI]
theorem fillI_zero {n : Nat} {f : Nat → Int} : fillI n f 0 = List.replicate n 0 := by
  apply List.ext_getElem (by simp [fillI])
  intro i h1 h2; simp [fillI]
theorem fillI_set {n : Nat} {f : Nat → Int} {k : Nat} (_hk : k < n) : (fillI n f k).set k (f k) = fillI n f (k + 1) := by
  apply List.ext_getElem (by simp [fillI])
  intro i h1 h2
  simp [fillI, List.getElem_set]
  by_cases e : k = i
  · subst e; simp
  · rw [if_neg e]
    by_cases h3 : i < k
    · rw [if_pos h3, if_pos (by omega)]
    · rw [if_neg h3, if_neg (by omega)]
theorem fillI_all {n : Nat} {f : Nat → Int} : fillI n f n = (List.range n).map f := by
  unfold fillI
  refine List.map_congr_left (fun i hi => ?_)
  rw [if_pos (List.mem_range.1 hi)]
/-! the rounds end -/
def fixN (p : List Int) : Nat := (List.range p.length).countP (fun i => p.getD i 0 == (i : Int))
theorem cntR_lt {n : Nat} {f g : Nat → Bool} (h : ∀ i, i < n → f i = true → g i = true) {j : Nat} (hj : j < n) (h1 : f j = false) (h2 : g j = true) : (List.range n).countP f < (List.range n).countP g := by
  induction n with
  | zero => omega
  | succ n ih =>
    rw [List.range_succ, List.countP_append, List.countP_append]
    have hle : ∀ m, m ≤ n → (List.range m).countP f ≤ (List.range m).countP g := fun m hm => by
      refine List.countP_mono_left (fun i hi e => h i (by have := List.mem_range.1 hi; omega) e)
    simp only [List.countP_singleton]
    rcases Nat.lt_or_ge j n with hlt | hge
    · have := ih (fun i hi => h i (by omega)) hlt
      have h3 := h n (by omega)
      cases hf : f n with
      | false => rw [if_neg (by simp)]; split <;> omega
      | true => rw [h3 hf]; simp; omega
    · obtain rfl : j = n := by omega
      have := hle j (Nat.le_refl _)
      rw [h1, h2]; simp; omega
theorem fix_lt {rels : List (List W64)} {p : List Int} (hp : OkP p) (hne : nxt rels p ≠ p) : fixN p < fixN (nxt rels p) := by
  have hl : (nxt rels p).length = p.length := by rw [nxt, ker_len]
  -- the first point at which they differ
  have hex : ∃ j, j < p.length ∧ (nxt rels p).getD j 0 ≠ p.getD j 0 := by
    by_cases h : ∃ j, j < p.length ∧ (nxt rels p).getD j 0 ≠ p.getD j 0
    · exact h
    · exfalso; apply hne
      apply List.ext_getElem hl
      intro i h1 h2
      by_cases e : (nxt rels p).getD i 0 = p.getD i 0
      · simpa [List.getD_eq_getElem?_getD, h1, h2] using e
      · exact absurd ⟨i, h2, e⟩ h
  obtain ⟨j, hj, hd⟩ := hex
  let key : Nat → Int × List W64 := fun w => (p.getD w 0, rels.map (fun r => rch p (r.getD w 0#64)))
  have hq : ∀ i, i < p.length → (nxt rels p).getD i 0 = (led key i : Int) := fun i hi => by rw [nxt, ker_get hi]
  have hle := led_spec key j
  have hlt : led key j < p.length := by omega
  -- the leader in the new one
  have hk : p.getD (led key j) 0 = p.getD j 0 := congrArg Prod.fst hle.2.1
  unfold fixN
  rw [hl]
  refine cntR_lt (fun i hi e => ?_) hlt ?_ ?_
  · simp only [beq_iff_eq] at e ⊢
    rw [hq i hi]
    have h := led_spec key i
    have hk2 : p.getD (led key i) 0 = p.getD i 0 := congrArg Prod.fst h.2.1
    have := (hp.low (led key i) (by omega)).2.1
    omega
  · rw [beq_eq_false_iff_ne, hk]
    intro e
    apply hd
    rw [hq j hj, e]
  · rw [beq_iff_eq, hq _ hlt, led_idem]
theorem fix_le (p : List Int) : fixN p ≤ p.length := by
  have := List.countP_le_length (p := fun i : Nat => p.getD i 0 == (i : Int)) (l := List.range p.length)
  simpa [fixN] using this
section
variable {n : Nat} {val : List W64} {rels : List (List W64)}
theorem fix_psq (hn : 1 ≤ n) (h64 : n ≤ 64) : ∀ i, (∀ j, j < i → psq n val rels j ≠ psq n val rels (j + 1)) → i + 1 ≤ fixN (psq n val rels i)
  | 0, _ => by
    unfold fixN
    rw [psq_len]
    refine List.countP_pos_iff.2 ⟨0, by simp; omega, ?_⟩
    have := ((psq_ok (val := val) (rels := rels) h64 0).low 0 (by rw [psq_len]; omega))
    simp only [beq_iff_eq]
    have h := this.1; have h2 := this.2.1
    exact Int.le_antisymm h2 h
  | i + 1, h => by
    have := fix_psq hn h64 i (fun j hj => h j (by omega))
    have h2 := fix_lt (rels := rels) (psq_ok h64 i) (fun e => h i (by omega) (by rw [psq, e]))
    rw [psq]; omega
/-- after how many rounds nothing changes any more -/
def depO (n : Nat) (val : List W64) (rels : List (List W64)) : Option Nat := ldr (fun d => decide (psq n val rels d = psq n val rels (d + 1))) true n
def dep (n : Nat) (val : List W64) (rels : List (List W64)) : Nat := (depO n val rels).getD 0
theorem dep_spec (hn : 1 ≤ n) (h64 : n ≤ 64) : dep n val rels < n ∧ psq n val rels (dep n val rels) = psq n val rels (dep n val rels + 1) ∧ ∀ j, j < dep n val rels → psq n val rels j ≠ psq n val rels (j + 1) := by
  unfold dep depO
  cases h : ldr (fun d => decide (psq n val rels d = psq n val rels (d + 1))) true n with
  | some d =>
    obtain ⟨h1, h2, h3⟩ := ldr_some h
    refine ⟨h1, by simpa using h2, fun j hj => ?_⟩
    have := h3 j hj
    simpa using this
  | none =>
    exfalso
    have h1 := ldr_none h
    have := fix_psq (val := val) (rels := rels) hn h64 n (fun j hj => by have := h1 j hj; simpa using this)
    have h2 := fix_le (psq n val rels n)
    rw [psq_len] at h2; omega
theorem dep_uniq (hn : 1 ≤ n) (h64 : n ≤ 64) {d : Nat} (h1 : psq n val rels d = psq n val rels (d + 1)) (h2 : ∀ j, j < d → psq n val rels j ≠ psq n val rels (j + 1)) : d = dep n val rels := by
  have := dep_spec (val := val) (rels := rels) hn h64
  rcases Nat.lt_trichotomy d (dep n val rels) with h | h | h
  · exact absurd h1 (this.2.2 d h)
  · exact h
  · exact absurd this.2.1 (h2 _ h)
theorem psq_stable {d : Nat} (h : psq n val rels d = psq n val rels (d + 1)) : ∀ k, psq n val rels (d + k) = psq n val rels d
  | 0 => rfl
  | k + 1 => by rw [← Nat.add_assoc, psq, psq_stable h k, ← psq, ← h]
end
/-- what Coarsest, Depth and Rounds return -/
def crs (n : Int) (val : List W64) (rel : List (List W64)) : List Int := if checkM n val rel ≠ 0 then [] else psq n.toNat val rel (dep n.toNat val rel)
def rndsE (n : Int) (val : List W64) (rel : List (List W64)) (k : Int) : Int := if checkM n val rel ≠ 0 then checkM n val rel else if k < 0 then 2 else 0
def rnds (n : Int) (val : List W64) (rel : List (List W64)) (k : Int) : List Int := if rndsE n val rel k ≠ 0 then [] else psq n.toNat val rel (min k.toNat n.toNat)
theorem crs_bad {n : Int} {val : List W64} {rel : List (List W64)} (h : checkM n val rel ≠ 0) : crs n val rel = [] := if_pos h
theorem crs_ok {n : Int} {val : List W64} {rel : List (List W64)} (h : checkM n val rel = 0) : crs n val rel = psq n.toNat val rel (dep n.toNat val rel) := if_neg (by simp [h])
theorem crs_len {n : Int} {val : List W64} {rel : List (List W64)} (h : checkM n val rel = 0) : (crs n val rel).length = n.toNat := by rw [crs_ok h, psq_len]
theorem rnds_bad {n : Int} {val : List W64} {rel : List (List W64)} {k : Int} (h : rndsE n val rel k ≠ 0) : rnds n val rel k = [] := if_pos h
theorem rnds_ok {n : Int} {val : List W64} {rel : List (List W64)} {k : Int} (h : rndsE n val rel k = 0) : rnds n val rel k = psq n.toNat val rel (min k.toNat n.toNat) := if_neg (by simp [h])
theorem rnds_len {n : Int} {val : List W64} {rel : List (List W64)} {k : Int} (h : rndsE n val rel k = 0) : (rnds n val rel k).length = n.toNat := by rw [rnds_ok h, psq_len]
theorem OwnS.nil0 {α : Type} {enc : α → Value} {t : TypeId} {w w' : World} : OwnS enc t w w' (.slice none 0 0) ([] : List α) := ⟨none, 0, [], rfl, fun _ => ⟨rfl, rfl⟩, rfl, fun _ e => by cases e⟩
theorem OwnS.one {α : Type} {enc : α → Value} {t : TypeId} {w0 w : World} {h : Hl} {Y : List (Nat × Obj)} (s : St w0 [] w h Y) (j : Nat) {b : Nat} {xs : List α} {m : Nat} (hj : h[j]? = some (some b, ob enc t xs [])) (hm : m = xs.length) : OwnS enc t w0 w (.slice (some ⟨b, 0, none⟩) m m) xs :=
  OwnS.mk s j (q := some b) hj hm (fun e => by cases e) (by rw [hm]; simp)
end Go.Proofs.Wit
