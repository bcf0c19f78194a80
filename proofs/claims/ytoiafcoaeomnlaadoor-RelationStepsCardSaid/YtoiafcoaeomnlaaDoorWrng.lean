/- Laws of a calculus of walks, proved for any program: no condition beyond those that each theorem states. -/
import Derived.Test.YtoiafcoaeomnlaaDoorWrul
import Derived.RangeFuncRecord
namespace Go.Proofs.Wit
open Go Go.RowKit

theorem apartH_symm {p q : Option Nat × Obj} (h : apartH p q) : apartH q p := fun b hb hp => h b hp hb
theorem St.perm {w0 : World} {S : List Nat} {w : World} {h h' : Hl} {Y : List (Nat × Obj)} (s : St w0 S w h Y) (hp : h.Perm h') : St w0 S w h' Y :=
  ⟨s.ext, fun p hm => s.own p (hp.mem_iff.2 hm), (hp.pairwise_iff (fun {_ _} => apartH_symm)).1 s.apart, s.sys, s.ynd⟩
theorem St.permY {w0 : World} {S : List Nat} {w : World} {h : Hl} {Y Y' : List (Nat × Obj)} (s : St w0 S w h Y) (hp : Y.Perm Y') : St w0 S w h Y' :=
  ⟨s.ext, s.own, s.apart, fun p hm => s.sys p (hp.mem_iff.2 hm), (hp.map _).nodup_iff.1 s.ynd⟩
theorem St.subY {w0 : World} {S : List Nat} {w : World} {h : Hl} {Y Y' : List (Nat × Obj)} (s : St w0 S w h Y) (hp : Y'.Sublist Y) : St w0 S w h Y' :=
  ⟨s.ext, s.own, s.apart, fun p hm => s.sys p (hp.subset hm), (hp.map _).nodup s.ynd⟩
/-- a system object is turned -/
theorem St.turnY {w0 : World} {S : List Nat} {w : World} {h : Hl} {Y : List (Nat × Obj)} {L : Nat} {o o' : Obj} (s : St w0 S w h ((L, o) :: Y)) (ho : isSys o' = true) :
    St w0 S { w with heap := w.heap.setIfInBounds L o' } h ((L, o') :: Y) := by
  obtain ⟨h1, h2, h3⟩ := s.sys (L, o) (List.mem_cons_self ..)
  simp only at h1 h2 h3
  have hlt := (Array.getElem?_eq_some_iff.1 h2).1
  have hne : ∀ b, b ≠ L → (w.heap.setIfInBounds L o')[b]? = w.heap[b]? := fun b hb => by simp [Ne.symm hb]
  have hnd := s.ynd
  rw [List.map_cons, List.nodup_cons] at hnd
  refine ⟨⟨s.ext.os, s.ext.tape, s.ext.output, by simpa using s.ext.size, fun b hb hn => ?_⟩, fun p hp b hb => ?_, s.apart, fun p hp => ?_, by rw [List.map_cons, List.nodup_cons]; exact hnd⟩
  · rw [hne b (by omega)]; exact s.ext.block b hb hn
  · obtain ⟨q1, q2, q3⟩ := s.own p hp b hb
    refine ⟨?_, q2, q3⟩
    rw [hne b ?_]; exact q1
    rintro rfl
    rw [Option.some.inj (q1.symm.trans h2)] at q2
    rw [h3] at q2; cases q2
  · rcases List.mem_cons.1 hp with rfl | hp
    · exact ⟨h1, by simp [hlt], ho⟩
    · obtain ⟨q1, q2, q3⟩ := s.sys p (List.mem_cons_of_mem _ hp)
      refine ⟨q1, ?_, q3⟩
      rw [hne p.1 ?_]; exact q2
      intro e
      exact hnd.1 (e ▸ List.mem_map.2 ⟨p, hp, rfl⟩)
/-- a new system object -/
theorem St.newY {w0 : World} {S : List Nat} {w : World} {h : Hl} {Y : List (Nat × Obj)} (s : St w0 S w h Y) {o : Obj} (ho : isSys o = true) : St w0 S (w.alloc o) h ((w.heap.size, o) :: Y) := by
  have s' := s.later (ex_alloc w o)
  refine ⟨s'.ext, s'.own, s'.apart, fun p hp => ?_, ?_⟩
  · rcases List.mem_cons.1 hp with rfl | hp
    · exact ⟨s.ext.size, heap_alloc_new w o, ho⟩
    · exact s'.sys p hp
  · rw [List.map_cons, List.nodup_cons]
    refine ⟨fun hm => ?_, s.ynd⟩
    obtain ⟨p, hp, e⟩ := List.mem_map.1 hm
    have := (Array.getElem?_eq_some_iff.1 (s.sys p hp).2.1).1
    simp at e; omega

section
variable {P : Program} {f : FuncId} {R : Value → World → Prop} {w0 : World} {S : List Nat} {Y : List (Nat × Obj)} {n : Nat} {k k' : List Item} {l l' : Fl} {h h' : Hl}

/-! ### a round -/
theorem permMk {Ds : List Nat} {L : Nat} {o : Obj} {Y : List (Nat × Obj)} : (mkY Ds ++ (L, o) :: Y).Perm ((L, o) :: (mkY Ds ++ Y)) := List.perm_middle
theorem GoH.beginRound {L : Nat} {rec : Loop} (hr : rec.state = .ready) (hg : GoH P (some L) f R w0 S ((L, .loop { rec with state := .busy }) :: Y) n k l h) : GoH P (some L) f R w0 S ((L, .loop rec) :: Y) n (.beginRound :: k) l h := by
  intro t w Ds hF hS
  have hS1 := hS.permY permMk
  have hL := (hS1.sys (L, .loop rec) (List.mem_cons_self ..)).2.1
  simp only at hL
  have hrun : (Instr.beginRound L).run P w = .ok () { w with heap := w.heap.setIfInBounds L (.loop { rec with state := .busy }) } := by
    simp [Instr.beginRound, Instr.getLoop, getObj, setObj, Sem.run, hL, bind, Sem.bind, pure, hr]
  have hS2 := (hS1.turnY (o' := .loop { rec with state := .busy }) rfl).permY permMk.symm
  exact .step (fun cs => by rw [mkF_at, mkF_at]; exact stepR_beginRound rfl hrun) (hg t _ Ds hF hS2)
/-- the world behind a round -/
def endW (w : World) (L : Nat) (rec : Loop) (jump : Option Code) : World := { w with heap := w.heap.setIfInBounds L (.loop { rec with state := if jump.isNone then .ready else .done, pending := jump }) }
theorem endRound_run {L : Nat} {rec : Loop} {w : World} (hL : w.heap[L]? = some (.loop rec)) (jump : Option Code) : (Instr.endRound L jump).run P w = .ok (.bool jump.isNone) (endW w L rec jump) := by
  simp [Instr.endRound, Instr.getLoop, getObj, setObj, Sem.run, hL, bind, Sem.bind, pure, endW]
theorem gos_round {t : Array Value} {Ds : List Nat} {w : World} {L : Nat} {rec : Loop} (jump : Option Code) (hS : St w0 S w h (mkY Ds ++ (L, .loop rec) :: Y))
    (hst : ∀ (c : Frame) (cs : List Frame) v w', (Instr.endRound L jump).run P w = .ok v w' → step P (lone (mkF f (some L) t (Ds.map mark) k) (c :: cs) w) = .next (lone (c.finish v) cs w'))
    (hR : ∀ w', St w0 S w' h ((L, .loop { rec with state := if jump.isNone then .ready else .done, pending := jump }) :: Y) → R (.bool jump.isNone) w') : Gos P (some L) f R k t (Ds.map mark) w := by
  intro cs hcs
  cases cs with
  | nil => exact absurd rfl (hcs rfl)
  | cons c cs =>
    have hS1 := hS.permY permMk
    have hL := (hS1.sys (L, .loop rec) (List.mem_cons_self ..)).2.1
    have hr := endRound_run (P := P) hL jump
    have hS2 := hS1.turnY (o' := .loop { rec with state := if jump.isNone then .ready else .done, pending := jump }) rfl
    refine ⟨_, _, _, hR _ (hS2.subY (.cons_cons _ (List.sublist_append_right _ _))), .one (hst c cs _ _ hr), c, cs, rfl, rfl⟩
theorem GoH.roundEnd {L : Nat} {rec : Loop} (hR : ∀ w', St w0 S w' h ((L, .loop { rec with state := .ready, pending := none }) :: Y) → R (.bool true) w') : GoH P (some L) f R w0 S ((L, .loop rec) :: Y) n [] l h := fun t w Ds _ hS =>
  gos_round none hS (fun c cs v w' hr => by rw [mkF_at]; exact stepR_round_end rfl rfl hr) hR
theorem GoH.roundRet {L : Nat} {rec : Loop} (hR : ∀ w', St w0 S w' h ((L, .loop { rec with state := .done, pending := some .ret }) :: Y) → R (.bool false) w') : GoH P (some L) f R w0 S ((L, .loop rec) :: Y) n (.code .ret :: k) l h := fun t w Ds _ hS =>
  gos_round (some .ret) hS (fun c cs v w' hr => by rw [mkF_at]; exact stepR_round_ret rfl rfl hr) hR
theorem GoH.roundExit {L id : Nat} {rec : Loop} (hx : exitTo id k = none) (hR : ∀ w', St w0 S w' h ((L, .loop { rec with state := .done, pending := some (.exit id) }) :: Y) → R (.bool false) w') : GoH P (some L) f R w0 S ((L, .loop rec) :: Y) n (.code (.exit id) :: k) l h := fun t w Ds _ hS =>
  gos_round (some (.exit id)) hS (fun c cs v w' hr => by rw [mkF_at]; exact stepR_round_exit rfl rfl hx hr) hR

/-! ### an iterator's contract: it calls yield with args 0, args 1, .. in this order, till all have come or a round has said no -/
def IterC (P : Program) (w0 : World) (S : List Nat) (gf : FuncId) (lb : List Value) (args : List (List Value)) (cap : Hl) : Prop :=
  ∀ (Y : List (Nat × Obj)) (σ : Type) (Hc : σ → Hl) (I : Nat → σ → Prop) (X : σ → Prop) (Yx : σ → List (Nat × Obj)) (L : Nat),
    (∀ (i : Nat) (a : List Value), args[i]? = some a → ∀ s, I i s → ∀ (hi : Hl) (w : World) (Y1 : List (Nat × Obj)), St w0 S w (hi ++ Hc s) (Y1 ++ Y) →
      Rnd P L a.toArray w (fun v w' => (v = .bool true ∧ ∃ s', I (i + 1) s' ∧ St w0 S w' (hi ++ Hc s') (Y1 ++ Y)) ∨ (v = .bool false ∧ ∃ s', X s' ∧ St w0 S w' (hi ++ Hc s') (Y1 ++ Yx s')))) →
    ∀ s0 w, I 0 s0 → St w0 S w (cap ++ Hc s0) Y →
      Calls P gf ((Value.func (.yield L) #[] #[] :: lb).toArray) w fun e w' => ∃ v, e = .returned v ∧ ((∃ s, I args.length s ∧ St w0 S w' (Hc s) Y) ∨ (∃ s, X s ∧ St w0 S w' (Hc s) (Yx s)))

theorem round_frame (L f : Nat) (t : Array Value) (assign body : Code) : Frame.round L f t assign body .normal = mkF f (some L) t [] [.code assign, .beginRound, .code body] := rfl
def bindL : List Tmp → List Value → Fl → Fl
  | p :: ps, a :: az, l => bindL ps az ((p, a) :: l)
  | _, _, l => l
theorem frm_bind : ∀ {ps : List Tmp} {az : List Value} {t : Array Value} {l : Fl}, Frm n t l → (∀ p ∈ ps, Nat.blt p n = true) → Frm n ((ps.zip az).foldl (fun t (p : Tmp × Value) => t.setIfInBounds p.1 p.2) t) (bindL ps az l)
  | [], _, _, _, hF, _ => by simpa [bindL] using hF
  | p :: ps, [], _, _, hF, _ => by simpa [bindL] using hF
  | p :: ps, a :: az, t, l, hF, hp => by
    simp only [List.zip_cons_cons, List.foldl_cons, bindL]
    exact frm_bind (hF.put a (hp p (List.mem_cons_self ..))) (fun q hq => hp q (List.mem_cons_of_mem _ hq))

theorem args1 {α : Type} {xs : List α} {f : α → Value} {m : Nat} (hm : m = 1) : ∀ a ∈ xs.map (fun x => [f x]), a.length = m := fun a ha => by
  obtain ⟨_, _, rfl⟩ := List.mem_map.1 ha; exact hm.symm
/-- what a round must bring about -/
def RoundR {σ : Type} (w0 : World) (S : List Nat) (Hc : σ → Hl) (I : Nat → σ → Prop) (X : Code → σ → Prop) (L : Nat) (rec : Loop) (Y' : List (Nat × Obj)) (hi : Hl) (i : Nat) : Value → World → Prop := fun v w' =>
  (v = .bool true ∧ ∃ s', I (i + 1) s' ∧ St w0 S w' (Hc s' ++ hi) ((L, .loop { rec with state := .ready, pending := none }) :: Y')) ∨
  (v = .bool false ∧ ∃ c s', X c s' ∧ St w0 S w' (Hc s' ++ hi) ((L, .loop { rec with state := .done, pending := some c }) :: Y'))
theorem GoH.rEnd {σ : Type} {Hc : σ → Hl} {I : Nat → σ → Prop} {X : Code → σ → Prop} {L : Nat} {rec : Loop} {hi : Hl} {i : Nat} (s' : σ) (hI : I (i + 1) s') (hs : (Hc s' ++ hi).Sublist h) :
    GoH P (some L) f (RoundR w0 S Hc I X L rec Y hi i) w0 S ((L, .loop { rec with state := .busy }) :: Y) n [] l h :=
  .roundEnd (fun _ hS => .inl ⟨rfl, s', hI, hS.subH hs⟩)
theorem GoH.rRet {σ : Type} {Hc : σ → Hl} {I : Nat → σ → Prop} {X : Code → σ → Prop} {L : Nat} {rec : Loop} {hi : Hl} {i : Nat} (s' : σ) (hI : X .ret s') (hs : (Hc s' ++ hi).Sublist h) :
    GoH P (some L) f (RoundR w0 S Hc I X L rec Y hi i) w0 S ((L, .loop { rec with state := .busy }) :: Y) n (.code .ret :: k) l h :=
  .roundRet (fun _ hS => .inr ⟨rfl, .ret, s', hI, hS.subH hs⟩)
theorem GoH.rExit {σ : Type} {Hc : σ → Hl} {I : Nat → σ → Prop} {X : Code → σ → Prop} {L id : Nat} {rec : Loop} {hi : Hl} {i : Nat} (s' : σ) (hx : exitTo id k = none) (hI : X (.exit id) s') (hs : (Hc s' ++ hi).Sublist h) :
    GoH P (some L) f (RoundR w0 S Hc I X L rec Y hi i) w0 S ((L, .loop { rec with state := .busy }) :: Y) n (.code (.exit id) :: k) l h :=
  .roundExit hx (fun _ hS => .inr ⟨rfl, .exit id, s', hI, hS.subH hs⟩)
/-- **for .. := range g { .. }**, outermost -/
theorem GoH.rangeF {g : Operand} {ps : Array Tmp} {assign body : Code} {gf : FuncId} {lb : List Value} {args : List (List Value)} {cap : Hl} {σ : Type} (Hc : σ → Hl) (I : Nat → σ → Prop) (X : Code → σ → Prop) (s0 : σ)
    (hg : opd l g = some (.func (.func gf) #[] lb.toArray)) (hcf : ∀ args w, (callFunc gf args).run P w = .ok (.enter gf args) w) (it : IterC P w0 S gf lb args cap)
    (hps : ∀ a ∈ args, a.length = ps.size) (hpn : ps.toList.all (fun p => Nat.blt p n) = true) (h0 : I 0 s0) (hh : (cap ++ Hc s0).Sublist h)
    (hround : ∀ (L : Nat) (Y' : List (Nat × Obj)) (rec : Loop) (hi : Hl) (i : Nat) (a : List Value) (s : σ), args[i]? = some a → I i s → rec.state = .ready →
      GoH P (some L) f (RoundR w0 S Hc I X L rec Y' hi i) w0 S ((L, .loop rec) :: Y') n [.code assign, .beginRound, .code body] (bindL ps.toList a l) (Hc s ++ hi))
    (hdone : ∀ s, I args.length s → GoH P none f R w0 S Y n k l (Hc s)) (hstop : ∀ c s, X c s → GoH P none f R w0 S Y n (.code c :: k) l (Hc s)) :
    GoH P none f R w0 S Y n (.code (.rangeFunc g ps assign body) :: k) l h := by
  intro t w Ds hF hS cs hcs
  -- the two blocks of book-keeping
  obtain ⟨rec, hrec⟩ : ∃ rec : Loop, rec = { state := .ready, pending := none, fn := f, tmps := t, params := ps, assign, body, defers := w.heap.size } := ⟨_, rfl⟩
  have hS1 := (hS.newY (o := .deferred (some [])) rfl).newY (o := .loop rec) rfl
  rw [World.size_alloc] at hS1
  obtain ⟨w2, hw2⟩ : ∃ w2, (w.alloc (.deferred (some []))).alloc (.loop rec) = w2 := ⟨_, rfl⟩
  rw [hw2] at hS1
  have henter : (Instr.enterLoop f t ps assign body none).run P w = .ok (w.heap.size + 1, [mark w.heap.size]) w2 := by
    rw [← hw2, hrec]
    exact run_enterLoop_outer _ _ _ _ _
  have hinv : (invoke (.fn (.func gf) lb.toArray) #[Value.func (.yield (w.heap.size + 1)) #[] #[]]).run P w2 = .ok (.enter gf ((Value.func (.yield (w.heap.size + 1)) #[] #[] :: lb).toArray)) w2 := by
    simp only [invoke, hcf]
    congr 2
    simp
  have hres : (resolve (Act.eval ⟨t, Ds.map mark⟩) (rangeCall g (w.heap.size + 1)) 0).run P w2 = .ok { target := .fn (.func gf) lb.toArray, args := #[Value.func (.yield (w.heap.size + 1)) #[] #[]] } w2 := by
    have e1 := hF.opd hg (Ds.map mark)
    simp only [resolve, e1, Deferred.ofValue]
    simp [Act.eval]
  have hstep := stepR_rangeFunc (P := P) (b := mkF f none #[] [] []) (a := ⟨t, Ds.map mark⟩) (k := k) (cs := cs) (w := w) (ps := ps) (assign := assign) (body := body) (g := g) henter hres hinv
  -- the iterator's contract
  obtain ⟨Yr, hYr⟩ : ∃ Yr, (w.heap.size, (.deferred (some []) : Obj)) :: (mkY Ds ++ Y) = Yr := ⟨_, rfl⟩
  have hcall := it ((w.heap.size + 1, .loop rec) :: Yr) (σ × Option Code) (fun s => Hc s.1) (fun i s => I i s.1 ∧ s.2 = none) (fun s => ∃ c, s.2 = some c ∧ X c s.1)
    (fun s => (w.heap.size + 1, .loop { rec with state := .done, pending := s.2 }) :: Yr) (w.heap.size + 1) (by
      rintro i a ha ⟨s, c⟩ ⟨hI, hc⟩ hi W Y1 hSt
      simp only at hc hSt
      subst hc
      have hSt1 := (hSt.perm (List.perm_append_comm)).permY (List.perm_middle (l₁ := Y1) (a := (w.heap.size + 1, Obj.loop rec)) (l₂ := Yr))
      have hL := (hSt1.sys _ (List.mem_cons_self ..)).2.1
      simp only at hL
      have hlen := hps a (List.mem_of_getElem? ha)
      refine ⟨f, (ps.zip a.toArray).foldl (fun t (p : Tmp × Value) => t.setIfInBounds p.1 p.2) t, assign, body, ?_, fun c cs => ?_⟩
      · simp only [Instr.yield, Instr.getLoop, getObj, Sem.run, hL, bind, Sem.bind, pure]
        rw [hrec]
        simp [hlen]
      · have hg1 := hround (w.heap.size + 1) (Y1 ++ Yr) rec hi i a s ha hI (by rw [hrec])
        have hfr : Frm n ((ps.zip a.toArray).foldl (fun t (p : Tmp × Value) => t.setIfInBounds p.1 p.2) t) (bindL ps.toList a l) := by
          have := frm_bind (ps := ps.toList) (az := a) hF (List.all_eq_true.1 hpn)
          rw [← Array.foldl_toList, Array.toList_zip]; exact this
        obtain ⟨v, w', m, hR, hst, htg⟩ := hg1 _ W [] hfr (by simpa [mkY] using hSt1) (c :: cs) (by simp)
        obtain ⟨c', cs', hcc, rfl⟩ := htg
        cases hcc
        refine ⟨v, w', ?_, hst⟩
        rcases hR with ⟨hv, s', hI', hS'⟩ | ⟨hv, c2, s', hX, hS'⟩
        · refine .inl ⟨hv, (s', none), ⟨hI', rfl⟩, ?_⟩
          have e1 : ({ rec with state := .ready, pending := none } : Loop) = rec := by rw [hrec]
          rw [e1] at hS'
          exact (hS'.perm (List.perm_append_comm)).permY (List.perm_middle (l₁ := Y1) (a := (w.heap.size + 1, Obj.loop rec)) (l₂ := Yr)).symm
        · refine .inr ⟨hv, (s', some c2), ⟨c2, rfl, hX⟩, ?_⟩
          exact (hS'.perm (List.perm_append_comm)).permY (List.perm_middle (l₁ := Y1) (l₂ := Yr)).symm)
    (s0, none) w2 ⟨h0, rfl⟩ ((hYr ▸ hS1).subH hh)
  obtain ⟨e, w3, fr, ⟨v, rfl, hpost⟩, hcomes, hfn, hleave⟩ := hcall ((mkF f none #[] [] []).atR ⟨t, [mark w.heap.size] ++ Ds.map mark⟩ (.inRangeFunc (w.heap.size + 1) :: k) :: cs)
  have hback := step_leave_returned (c := (mkF f none #[] [] []).atR ⟨t, [mark w.heap.size] ++ Ds.map mark⟩ (.inRangeFunc (w.heap.size + 1) :: k)) (cs := cs) hleave
  rw [finish_atR_inRangeFunc] at hback
  have fin : ∀ (s : σ) (rc : Loop) (jump : Option Code), rc.state ≠ .busy → rc.pending = jump → St w0 S w3 (Hc s) ((w.heap.size + 1, .loop rc) :: Yr) →
      (∀ w4, St w0 S w4 (Hc s) (mkY (w.heap.size :: Ds) ++ Y) → Gos P none f R ((jump.map Item.code).toList ++ k) t ((w.heap.size :: Ds).map mark) w4) →
      ∃ v w' m, R v w' ∧ Steps P (lone (mkF f none t (Ds.map mark) (.code (.rangeFunc g ps assign body) :: k)) cs w) m ∧ Tgt P none f cs v w' m := by
    intro s rc jump hnb hj hS3 hgo
    have hL := (hS3.sys _ (List.mem_cons_self ..)).2.1
    simp only at hL
    have hend : (Instr.endLoop (w.heap.size + 1)).run P w3 = .ok jump { w3 with heap := w3.heap.setIfInBounds (w.heap.size + 1) (.loop { rc with state := .exhausted }) } := by
      simp [Instr.endLoop, Instr.getLoop, getObj, setObj, Sem.run, hL, bind, Sem.bind, pure, hj]
      exact fun hx => absurd hx hnb
    have hS4 := (hS3.turnY (o' := .loop { rc with state := .exhausted }) rfl).subY (List.sublist_cons_self ..)
    obtain ⟨v', w', m, hR, hst, htg⟩ := hgo _ (by rw [← hYr] at hS4; exact hS4) cs hcs
    refine ⟨v', w', m, hR, .head hstep (Steps.trans hcomes (.head hback (.head (stepR_endRangeFunc hend) ?_))), htg⟩
    exact hst
  rcases hpost with ⟨⟨s, c⟩, ⟨hI, hc⟩, hS3⟩ | ⟨⟨s, c⟩, ⟨c', hc, hX⟩, hS3⟩
  · exact fin s rec none (by rw [hrec]; simp) (by rw [hrec]) hS3 (fun w4 hS4 => hdone s hI t w4 (w.heap.size :: Ds) hF hS4)
  · simp only at hc; subst hc
    exact fin s _ (some c') (by simp) rfl hS3 (fun w4 hS4 => hstop c' s hX t w4 (w.heap.size :: Ds) hF hS4)

section
variable {ops : Array Oper} {i d : Nat} {rest : List Nat} {ty : TypeId} {pos : String} {aft : Array Edge} {gd : Option (Nat × Bool)}
/-- a call of yield, from the iterator's side -/
theorem GoH.yieldI {az : Array Operand} {ts : Array TypeId} {cal : Operand} {L : Nat} {a : List Value} (Hyes : Hl → Prop) (Hno : Hl → List (Nat × Obj) → Prop) (ho : ops[i]? = some ⟨some d, .call ⟨.value cal, az, ts⟩, ty, pos, aft, gd⟩) (hw : wantL ops l gd = true)
    (hc : opd l cal = some (.func (.yield L) #[] #[])) (hx : opds l az.toList = some a) (hd : Nat.blt d n = true)
    (hr : ∀ w Y1, St w0 S w h (Y1 ++ Y) → Rnd P L a.toArray w (fun v w' => (v = .bool true ∧ ∃ h', Hyes h' ∧ St w0 S w' h' (Y1 ++ Y)) ∨ (v = .bool false ∧ ∃ h' Y', Hno h' Y' ∧ St w0 S w' h' (Y1 ++ Y'))))
    (hyes : ∀ h', Hyes h' → GoH P none f R w0 S Y n (.inRegion ops rest :: k) ((d, .bool true) :: l) h')
    (hno : ∀ h' Y', Hno h' Y' → GoH P none f R w0 S Y' n (.inRegion ops rest :: k) ((d, .bool false) :: l) h') :
    GoH P none f R w0 S Y n (.inRegion ops (i :: rest) :: k) l h := by
  intro t w Ds hF hS
  refine Gos.yield ho (want_of hF hw) (not_defer rfl) ?_ (hr w (mkY Ds) hS) (fun v w2 hR => ?_)
  · have e1 := resolve_run (P := P) (ty := ty) (ts := ts) (Ds := Ds) (w := w) hF hc hx
    simp only [execOp, Sem.run_bind, e1, Result.andThen_ok, invoke, Array.empty_append]
  · rcases hR with ⟨rfl, h', hh, hS'⟩ | ⟨rfl, h', Y', hh, hS'⟩
    · exact hyes h' hh _ w2 Ds (hF.put _ hd) hS'
    · exact hno h' Y' hh _ w2 Ds (hF.put _ hd) hS'
end
/-- an iterator's contract out of its body -/
theorem IterC.of {gf : FuncId} {lb : List Value} {args : List (List Value)} {cap : Hl} {c : Code} {fn : Func} (hf : P.funcs[gf]? = some fn) (hb : fn.body = some c) (hn : Nat.ble (lb.length + 1) fn.ntmps = true)
    (hgo : ∀ (Y : List (Nat × Obj)) (σ : Type) (Hc : σ → Hl) (I : Nat → σ → Prop) (X : σ → Prop) (Yx : σ → List (Nat × Obj)) (L : Nat),
      (∀ (i : Nat) (a : List Value), args[i]? = some a → ∀ s, I i s → ∀ (hi : Hl) (w : World) (Y1 : List (Nat × Obj)), St w0 S w (hi ++ Hc s) (Y1 ++ Y) →
        Rnd P L a.toArray w (fun v w' => (v = .bool true ∧ ∃ s', I (i + 1) s' ∧ St w0 S w' (hi ++ Hc s') (Y1 ++ Y)) ∨ (v = .bool false ∧ ∃ s', X s' ∧ St w0 S w' (hi ++ Hc s') (Y1 ++ Yx s')))) →
      ∀ s0, I 0 s0 → GoH P none gf (fun _ w' => (∃ s, I args.length s ∧ St w0 S w' (Hc s) Y) ∨ (∃ s, X s ∧ St w0 S w' (Hc s) (Yx s))) w0 S Y fn.ntmps [.code c] (parL 0 (Value.func (.yield L) #[] #[] :: lb)) (cap ++ Hc s0)) :
    IterC P w0 S gf lb args cap := by
  intro Y σ Hc I X Yx L hy s0 w hI hS cs
  obtain ⟨v, w', m, hR, hst, fr, rfl, hfn, hl⟩ := hgo Y σ Hc I X Yx L hy s0 hI _ w [] (frm_enter (by simpa using Nat.le_of_ble_eq_true hn)) hS cs (by simp)
  refine ⟨.returned v, w', fr, ⟨v, rfl, hR⟩, ?_, hfn, hl⟩
  have henter : Frame.enter P gf (Value.func (.yield L) #[] #[] :: lb).toArray .normal = mkF gf none ((Value.func (.yield L) #[] #[] :: lb).toArray ++ Array.replicate (fn.ntmps - (Value.func (.yield L) #[] #[] :: lb).toArray.size) undef) [] [.code c] := by
    simp [Frame.enter, hf, hb, mkF]
  show Steps P _ _
  rw [henter]; exact hst
end
end Go.Proofs.Wit
