/- Laws of walks, for any program, under the conditions that each theorem states. -/
import Derived.Test.YthojdcaojjmoaaaDoorA01
import Derived.RangeFuncRecord
import Derived.Orders
namespace Go.Proofs.Wit
open Go Go.RowKit
theorem apartH_symm {p q : Option Nat × Obj} (h : apartH p q) : apartH q p := fun b hb hp => h b hp hb
theorem St.perm {w0 : World} {S : List Nat} {w : World} {h h' : Hl} {Y : List (Nat × Obj)} (s : St w0 S w h Y) (hp : h.Perm h') : St w0 S w h' Y :=
  ⟨s.ext, fun p hm => s.own p (hp.mem_iff.2 hm), (hp.pairwise_iff (fun {_ _} => apartH_symm)).1 s.apart, s.sys, s.ynd⟩
theorem St.permY {w0 : World} {S : List Nat} {w : World} {h : Hl} {Y Y' : List (Nat × Obj)} (s : St w0 S w h Y) (hp : Y.Perm Y') : St w0 S w h Y' :=
  ⟨s.ext, s.own, s.apart, fun p hm => s.sys p (hp.mem_iff.2 hm), (hp.map _).nodup_iff.1 s.ynd⟩
theorem St.subY {w0 : World} {S : List Nat} {w : World} {h : Hl} {Y Y' : List (Nat × Obj)} (s : St w0 S w h Y) (hp : Y'.Sublist Y) : St w0 S w h Y' :=
  ⟨s.ext, s.own, s.apart, fun p hm => s.sys p (hp.subset hm), (hp.map _).nodup s.ynd⟩
/-- a system object is turned -/
theorem St.turnY {w0 : World} {S : List Nat} {w : World} {h : Hl} {Y : List (Nat × Obj)} {L : Nat} {o o' : Obj} (s : St w0 S w h ((L, o) :: Y)) (ho : isSys o' = true) :
    St w0 S { w with heap := w.heap.setIfInBounds L o' } h ((L, o') :: Y) := by
  obtain ⟨h1, h2, h3⟩ := s.sys (L, o) (List.mem_cons_self ..)
  simp only at h1 h2 h3
  have hlt := (Array.getElem?_eq_some_iff.1 h2).1
  have hne : ∀ b, b ≠ L → (w.heap.setIfInBounds L o')[b]? = w.heap[b]? := fun b hb => by simp [Ne.symm hb]
  have hnd := s.ynd
  rw [List.map_cons, List.nodup_cons] at hnd
  refine ⟨⟨s.ext.os, s.ext.tape, s.ext.output, by simpa using s.ext.size, fun b hb hn => ?_⟩, fun p hp b hb => ?_, s.apart, fun p hp => ?_, by rw [List.map_cons, List.nodup_cons]; exact hnd⟩
  · rw [hne b (by omega)]; exact s.ext.block b hb hn
  · obtain ⟨q1, q2, q3⟩ := s.own p hp b hb
    refine ⟨?_, q2, q3⟩
    rw [hne b ?_]; exact q1
    rintro rfl
    rw [Option.some.inj (q1.symm.trans h2)] at q2
    rw [h3] at q2; cases q2
  · rcases List.mem_cons.1 hp with rfl | hp
    · exact ⟨h1, by simp [hlt], ho⟩
    · obtain ⟨q1, q2, q3⟩ := s.sys p (List.mem_cons_of_mem _ hp)
      refine ⟨q1, ?_, q3⟩
      rw [hne p.1 ?_]; exact q2
      intro e
      exact hnd.1 (e ▸ List.mem_map.2 ⟨p, hp, rfl⟩)
/-- a new system object -/
theorem St.newY {w0 : World} {S : List Nat} {w : World} {h : Hl} {Y : List (Nat × Obj)} (s : St w0 S w h Y) {o : Obj} (ho : isSys o = true) : St w0 S (w.alloc o) h ((w.heap.size, o) :: Y) := by
  have s' := s.later (ex_alloc w o)
  refine ⟨s'.ext, s'.own, s'.apart, fun p hp => ?_, ?_⟩
  · rcases List.mem_cons.1 hp with rfl | hp
    · exact ⟨s.ext.size, heap_alloc_new w o, ho⟩
    · exact s'.sys p hp
  · rw [List.map_cons, List.nodup_cons]
    refine ⟨fun hm => ?_, s.ynd⟩
    obtain ⟨p, hp, e⟩ := List.mem_map.1 hm
    have := (Array.getElem?_eq_some_iff.1 (s.sys p hp).2.1).1
    simp at e; omega

section
variable {P : Program} {f : FuncId} {R : Value → World → Prop} {w0 : World} {S : List Nat} {Y : List (Nat × Obj)} {n : Nat} {k k' : List Item} {l l' : Fl} {h h' : Hl}
/-! ### a round -/
theorem permMk {Ds : List Nat} {L : Nat} {o : Obj} {Y : List (Nat × Obj)} : (mkY Ds ++ (L, o) :: Y).Perm ((L, o) :: (mkY Ds ++ Y)) := List.perm_middle
theorem GoH.beginRound {L : Nat} {rec : Loop} (hr : rec.state = .ready) (hg : GoH P (some L) f R w0 S ((L, .loop { rec with state := .busy }) :: Y) n k l h) : GoH P (some L) f R w0 S ((L, .loop rec) :: Y) n (.beginRound :: k) l h := by
  intro t w Ds hF hS
  have hS1 := hS.permY permMk
  have hL := (hS1.sys (L, .loop rec) (List.mem_cons_self ..)).2.1
  simp only at hL
  have hrun : (Instr.beginRound L).run P w = .ok () { w with heap := w.heap.setIfInBounds L (.loop { rec with state := .busy }) } := by
    simp [Instr.beginRound, Instr.getLoop, getObj, setObj, Sem.run, hL, bind, Sem.bind, pure, hr]
  have hS2 := (hS1.turnY (o' := .loop { rec with state := .busy }) rfl).permY permMk.symm
  exact .step (fun cs => by rw [mkF_at, mkF_at]; exact stepR_beginRound rfl hrun) (hg t _ Ds hF hS2)
/-- the world behind a round -/
def endW (w : World) (L : Nat) (rec : Loop) (jump : Option Code) : World := { w with heap := w.heap.setIfInBounds L (.loop { rec with state := if jump.isNone then .ready else .done, pending := jump }) }
theorem endRound_run {L : Nat} {rec : Loop} {w : World} (hL : w.heap[L]? = some (.loop rec)) (jump : Option Code) : (Instr.endRound L jump).run P w = .ok (.bool jump.isNone) (endW w L rec jump) := by
  simp [Instr.endRound, Instr.getLoop, getObj, setObj, Sem.run, hL, bind, Sem.bind, pure, endW]
theorem gos_round {t : Array Value} {Ds : List Nat} {w : World} {L : Nat} {rec : Loop} (jump : Option Code) (hS : St w0 S w h (mkY Ds ++ (L, .loop rec) :: Y))
    (hst : ∀ (c : Frame) (cs : List Frame) v w', (Instr.endRound L jump).run P w = .ok v w' → step P (lone (mkF f (some L) t (Ds.map mark) k) (c :: cs) w) = .next (lone (c.finish v) cs w'))
    (hR : ∀ w', St w0 S w' h ((L, .loop { rec with state := if jump.isNone then .ready else .done, pending := jump }) :: Y) → R (.bool jump.isNone) w') : Gos P (some L) f R k t (Ds.map mark) w := by
  intro cs hcs
  cases cs with
  | nil => exact absurd rfl (hcs rfl)
  | cons c cs =>
    have hS1 := hS.permY permMk
    have hL := (hS1.sys (L, .loop rec) (List.mem_cons_self ..)).2.1
    have hr := endRound_run (P := P) hL jump
    have hS2 := hS1.turnY (o' := .loop { rec with state := if jump.isNone then .ready else .done, pending := jump }) rfl
    refine ⟨_, _, _, hR _ (hS2.subY (.cons_cons _ (List.sublist_append_right _ _))), .one (hst c cs _ _ hr), c, cs, rfl, rfl⟩
theorem GoH.roundEnd {L : Nat} {rec : Loop} (hR : ∀ w', St w0 S w' h ((L, .loop { rec with state := .ready, pending := none }) :: Y) → R (.bool true) w') : GoH P (some L) f R w0 S ((L, .loop rec) :: Y) n [] l h := fun t w Ds _ hS =>
  gos_round none hS (fun c cs v w' hr => by rw [mkF_at]; exact stepR_round_end rfl rfl hr) hR
theorem GoH.roundRet {L : Nat} {rec : Loop} (hR : ∀ w', St w0 S w' h ((L, .loop { rec with state := .done, pending := some .ret }) :: Y) → R (.bool false) w') : GoH P (some L) f R w0 S ((L, .loop rec) :: Y) n (.code .ret :: k) l h := fun t w Ds _ hS =>
  gos_round (some .ret) hS (fun c cs v w' hr => by rw [mkF_at]; exact stepR_round_ret rfl rfl hr) hR
theorem GoH.roundExit {L id : Nat} {rec : Loop} (hx : exitTo id k = none) (hR : ∀ w', St w0 S w' h ((L, .loop { rec with state := .done, pending := some (.exit id) }) :: Y) → R (.bool false) w') : GoH P (some L) f R w0 S ((L, .loop rec) :: Y) n (.code (.exit id) :: k) l h := fun t w Ds _ hS =>
  gos_round (some (.exit id)) hS (fun c cs v w' hr => by rw [mkF_at]; exact stepR_round_exit rfl rfl hx hr) hR

/-! ### an iterator's contract: it calls yield with args 0, args 1, .. in this order, till all have come or a round has said no -/
def IterC (P : Program) (w0 : World) (S : List Nat) (gf : FuncId) (lb : List Value) (args : List (List Value)) (cap : Hl) : Prop :=
  ∀ (Y : List (Nat × Obj)) (σ : Type) (Hc : σ → Hl) (I : Nat → σ → Prop) (X : σ → Prop) (Yx : σ → List (Nat × Obj)) (L : Nat),
    (∀ (i : Nat) (a : List Value), args[i]? = some a → ∀ s, I i s → ∀ (hi : Hl) (w : World) (Y1 : List (Nat × Obj)), St w0 S w (hi ++ Hc s) (Y1 ++ Y) →
      Rnd P L a.toArray w (fun v w' => (v = .bool true ∧ ∃ s', I (i + 1) s' ∧ St w0 S w' (hi ++ Hc s') (Y1 ++ Y)) ∨ (v = .bool false ∧ ∃ s', X s' ∧ St w0 S w' (hi ++ Hc s') (Y1 ++ Yx s')))) →
    ∀ s0 w, I 0 s0 → St w0 S w (cap ++ Hc s0) Y →
      Calls P gf ((Value.func (.yield L) #[] #[] :: lb).toArray) w fun e w' => ∃ v, e = .returned v ∧ ((∃ s, I args.length s ∧ St w0 S w' (Hc s) Y) ∨ (∃ s, X s ∧ St w0 S w' (Hc s) (Yx s)))

def bindL : List Tmp → List Value → Fl → Fl
  | p :: ps, a :: az, l => bindL ps az ((p, a) :: l)
  | _, _, l => l
theorem frm_bind : ∀ {ps : List Tmp} {az : List Value} {t : Array Value} {l : Fl}, Frm n t l → (∀ p ∈ ps, Nat.blt p n = true) → Frm n ((ps.zip az).foldl (fun t (p : Tmp × Value) => t.setIfInBounds p.1 p.2) t) (bindL ps az l)
  | [], _, _, _, hF, _ => by simpa [bindL] using hF
  | p :: ps, [], _, _, hF, _ => by simpa [bindL] using hF
  | p :: ps, a :: az, t, l, hF, hp => by
    simp only [List.zip_cons_cons, List.foldl_cons, bindL]
    exact frm_bind (hF.put a (hp p (List.mem_cons_self ..))) (fun q hq => hp q (List.mem_cons_of_mem _ hq))

theorem args1 {α : Type} {xs : List α} {f : α → Value} {m : Nat} (hm : m = 1) : ∀ a ∈ xs.map (fun x => [f x]), a.length = m := fun a ha => by
  obtain ⟨_, _, rfl⟩ := List.mem_map.1 ha; exact hm.symm
/-- what a round must bring about -/
def RoundR {σ : Type} (w0 : World) (S : List Nat) (Hc : σ → Hl) (I : Nat → σ → Prop) (X : Code → σ → Prop) (L : Nat) (rec : Loop) (Y' : List (Nat × Obj)) (hi : Hl) (i : Nat) : Value → World → Prop := fun v w' =>
  (v = .bool true ∧ ∃ s', I (i + 1) s' ∧ St w0 S w' (Hc s' ++ hi) ((L, .loop { rec with state := .ready, pending := none }) :: Y')) ∨
  (v = .bool false ∧ ∃ c s', X c s' ∧ St w0 S w' (Hc s' ++ hi) ((L, .loop { rec with state := .done, pending := some c }) :: Y'))
theorem GoH.rEnd {σ : Type} {Hc : σ → Hl} {I : Nat → σ → Prop} {X : Code → σ → Prop} {L : Nat} {rec : Loop} {hi : Hl} {i : Nat} (s' : σ) (hI : I (i + 1) s') (hs : (Hc s' ++ hi).Sublist h) :
    GoH P (some L) f (RoundR w0 S Hc I X L rec Y hi i) w0 S ((L, .loop { rec with state := .busy }) :: Y) n [] l h :=
  .roundEnd (fun _ hS => .inl ⟨rfl, s', hI, hS.subH hs⟩)
theorem GoH.rRet {σ : Type} {Hc : σ → Hl} {I : Nat → σ → Prop} {X : Code → σ → Prop} {L : Nat} {rec : Loop} {hi : Hl} {i : Nat} (s' : σ) (hI : X .ret s') (hs : (Hc s' ++ hi).Sublist h) :
    GoH P (some L) f (RoundR w0 S Hc I X L rec Y hi i) w0 S ((L, .loop { rec with state := .busy }) :: Y) n (.code .ret :: k) l h :=
  .roundRet (fun _ hS => .inr ⟨rfl, .ret, s', hI, hS.subH hs⟩)
theorem GoH.rExit {σ : Type} {Hc : σ → Hl} {I : Nat → σ → Prop} {X : Code → σ → Prop} {L id : Nat} {rec : Loop} {hi : Hl} {i : Nat} (s' : σ) (hx : exitTo id k = none) (hI : X (.exit id) s') (hs : (Hc s' ++ hi).Sublist h) :
    GoH P (some L) f (RoundR w0 S Hc I X L rec Y hi i) w0 S ((L, .loop { rec with state := .busy }) :: Y) n (.code (.exit id) :: k) l h :=
  .roundExit hx (fun _ hS => .inr ⟨rfl, .exit id, s', hI, hS.subH hs⟩)
/-- **for .. := range g { .. }**, outermost -/
theorem GoH.rangeF {g : Operand} {ps : Array Tmp} {assign body : Code} {gf : FuncId} {lb : List Value} {args : List (List Value)} {cap : Hl} {σ : Type} (Hc : σ → Hl) (I : Nat → σ → Prop) (X : Code → σ → Prop) (s0 : σ)
    (hg : opd l g = some (.func (.func gf) #[] lb.toArray)) (hcf : ∀ args w, (callFunc gf args).run P w = .ok (.enter gf args) w) (it : IterC P w0 S gf lb args cap)
    (hps : ∀ a ∈ args, a.length = ps.size) (hpn : ps.toList.all (fun p => Nat.blt p n) = true) (h0 : I 0 s0) (hh : (cap ++ Hc s0).Sublist h)
    (hround : ∀ (L : Nat) (Y' : List (Nat × Obj)) (rec : Loop) (hi : Hl) (i : Nat) (a : List Value) (s : σ), args[i]? = some a → I i s → rec.state = .ready →
      GoH P (some L) f (RoundR w0 S Hc I X L rec Y' hi i) w0 S ((L, .loop rec) :: Y') n [.code assign, .beginRound, .code body] (bindL ps.toList a l) (Hc s ++ hi))
    (hdone : ∀ s, I args.length s → GoH P none f R w0 S Y n k l (Hc s)) (hstop : ∀ c s, X c s → GoH P none f R w0 S Y n (.code c :: k) l (Hc s)) :
    GoH P none f R w0 S Y n (.code (.rangeFunc g ps assign body) :: k) l h := by
  intro t w Ds hF hS cs hcs
  -- the two blocks of book-keeping
  obtain ⟨rec, hrec⟩ : ∃ rec : Loop, rec = { state := .ready, pending := none, fn := f, tmps := t, params := ps, assign, body, defers := w.heap.size } := ⟨_, rfl⟩
  have hS1 := (hS.newY (o := .deferred (some [])) rfl).newY (o := .loop rec) rfl
  rw [World.size_alloc] at hS1
  obtain ⟨w2, hw2⟩ : ∃ w2, (w.alloc (.deferred (some []))).alloc (.loop rec) = w2 := ⟨_, rfl⟩
  rw [hw2] at hS1
  have henter : (Instr.enterLoop f t ps assign body none).run P w = .ok (w.heap.size + 1, [mark w.heap.size]) w2 := by
    rw [← hw2, hrec]
    exact run_enterLoop_outer _ _ _ _ _
  have hinv : (invoke (.fn (.func gf) lb.toArray) #[Value.func (.yield (w.heap.size + 1)) #[] #[]]).run P w2 = .ok (.enter gf ((Value.func (.yield (w.heap.size + 1)) #[] #[] :: lb).toArray)) w2 := by
    simp only [invoke, hcf]
    congr 2
    simp
  have hres : (resolve (Act.eval ⟨t, Ds.map mark⟩) (rangeCall g (w.heap.size + 1)) 0).run P w2 = .ok { target := .fn (.func gf) lb.toArray, args := #[Value.func (.yield (w.heap.size + 1)) #[] #[]] } w2 := by
    have e1 := hF.opd hg (Ds.map mark)
    simp only [resolve, e1, Deferred.ofValue]
    simp [Act.eval]
  have hstep := stepR_rangeFunc (P := P) (b := mkF f none #[] [] []) (a := ⟨t, Ds.map mark⟩) (k := k) (cs := cs) (w := w) (ps := ps) (assign := assign) (body := body) (g := g) henter hres hinv
  -- the iterator's contract
  obtain ⟨Yr, hYr⟩ : ∃ Yr, (w.heap.size, (.deferred (some []) : Obj)) :: (mkY Ds ++ Y) = Yr := ⟨_, rfl⟩
  have hcall := it ((w.heap.size + 1, .loop rec) :: Yr) (σ × Option Code) (fun s => Hc s.1) (fun i s => I i s.1 ∧ s.2 = none) (fun s => ∃ c, s.2 = some c ∧ X c s.1)
    (fun s => (w.heap.size + 1, .loop { rec with state := .done, pending := s.2 }) :: Yr) (w.heap.size + 1) (by
      rintro i a ha ⟨s, c⟩ ⟨hI, hc⟩ hi W Y1 hSt
      simp only at hc hSt
      subst hc
      have hSt1 := (hSt.perm (List.perm_append_comm)).permY (List.perm_middle (l₁ := Y1) (a := (w.heap.size + 1, Obj.loop rec)) (l₂ := Yr))
      have hL := (hSt1.sys _ (List.mem_cons_self ..)).2.1
      simp only at hL
      have hlen := hps a (List.mem_of_getElem? ha)
      refine ⟨f, (ps.zip a.toArray).foldl (fun t (p : Tmp × Value) => t.setIfInBounds p.1 p.2) t, assign, body, ?_, fun c cs => ?_⟩
      · simp only [Instr.yield, Instr.getLoop, getObj, Sem.run, hL, bind, Sem.bind, pure]
        rw [hrec]
        simp [hlen]
      · have hg1 := hround (w.heap.size + 1) (Y1 ++ Yr) rec hi i a s ha hI (by rw [hrec])
        have hfr : Frm n ((ps.zip a.toArray).foldl (fun t (p : Tmp × Value) => t.setIfInBounds p.1 p.2) t) (bindL ps.toList a l) := by
          have := frm_bind (ps := ps.toList) (az := a) hF (List.all_eq_true.1 hpn)
          rw [← Array.foldl_toList, Array.toList_zip]; exact this
        obtain ⟨v, w', m, hR, hst, htg⟩ := hg1 _ W [] hfr (by simpa [mkY] using hSt1) (c :: cs) (by simp)
        obtain ⟨c', cs', hcc, rfl⟩ := htg
        cases hcc
        refine ⟨v, w', ?_, hst⟩
        rcases hR with ⟨hv, s', hI', hS'⟩ | ⟨hv, c2, s', hX, hS'⟩
        · refine .inl ⟨hv, (s', none), ⟨hI', rfl⟩, ?_⟩
          have e1 : ({ rec with state := .ready, pending := none } : Loop) = rec := by rw [hrec]
          rw [e1] at hS'
          exact (hS'.perm (List.perm_append_comm)).permY (List.perm_middle (l₁ := Y1) (a := (w.heap.size + 1, Obj.loop rec)) (l₂ := Yr)).symm
        · refine .inr ⟨hv, (s', some c2), ⟨c2, rfl, hX⟩, ?_⟩
          exact (hS'.perm (List.perm_append_comm)).permY (List.perm_middle (l₁ := Y1) (l₂ := Yr)).symm)
    (s0, none) w2 ⟨h0, rfl⟩ ((hYr ▸ hS1).subH hh)
  obtain ⟨e, w3, fr, ⟨v, rfl, hpost⟩, hcomes, hfn, hleave⟩ := hcall ((mkF f none #[] [] []).atR ⟨t, [mark w.heap.size] ++ Ds.map mark⟩ (.inRangeFunc (w.heap.size + 1) :: k) :: cs)
  have hback := step_leave_returned (c := (mkF f none #[] [] []).atR ⟨t, [mark w.heap.size] ++ Ds.map mark⟩ (.inRangeFunc (w.heap.size + 1) :: k)) (cs := cs) hleave
  rw [finish_atR_inRangeFunc] at hback
  have fin : ∀ (s : σ) (rc : Loop) (jump : Option Code), rc.state ≠ .busy → rc.pending = jump → St w0 S w3 (Hc s) ((w.heap.size + 1, .loop rc) :: Yr) →
      (∀ w4, St w0 S w4 (Hc s) (mkY (w.heap.size :: Ds) ++ Y) → Gos P none f R ((jump.map Item.code).toList ++ k) t ((w.heap.size :: Ds).map mark) w4) →
      ∃ v w' m, R v w' ∧ Steps P (lone (mkF f none t (Ds.map mark) (.code (.rangeFunc g ps assign body) :: k)) cs w) m ∧ Tgt P none f cs v w' m := by
    intro s rc jump hnb hj hS3 hgo
    have hL := (hS3.sys _ (List.mem_cons_self ..)).2.1
    simp only at hL
    have hend : (Instr.endLoop (w.heap.size + 1)).run P w3 = .ok jump { w3 with heap := w3.heap.setIfInBounds (w.heap.size + 1) (.loop { rc with state := .exhausted }) } := by
      simp [Instr.endLoop, Instr.getLoop, getObj, setObj, Sem.run, hL, bind, Sem.bind, pure, hj]
      exact fun hx => absurd hx hnb
    have hS4 := (hS3.turnY (o' := .loop { rc with state := .exhausted }) rfl).subY (List.sublist_cons_self ..)
    obtain ⟨v', w', m, hR, hst, htg⟩ := hgo _ (by rw [← hYr] at hS4; exact hS4) cs hcs
    refine ⟨v', w', m, hR, .head hstep (Steps.trans hcomes (.head hback (.head (stepR_endRangeFunc hend) ?_))), htg⟩
    exact hst
  rcases hpost with ⟨⟨s, c⟩, ⟨hI, hc⟩, hS3⟩ | ⟨⟨s, c⟩, ⟨c', hc, hX⟩, hS3⟩
  · exact fin s rec none (by rw [hrec]; simp) (by rw [hrec]) hS3 (fun w4 hS4 => hdone s hI t w4 (w.heap.size :: Ds) hF hS4)
  · simp only at hc; subst hc
    exact fin s _ (some c') (by simp) rfl hS3 (fun w4 hS4 => hstop c' s hX t w4 (w.heap.size :: Ds) hF hS4)

section
variable {ops : Array Oper} {i d : Nat} {rest : List Nat} {ty : TypeId} {pos : String} {aft : Array Edge} {gd : Option (Nat × Bool)}
/-- a call of yield, from the iterator's side -/
theorem GoH.yieldI {az : Array Operand} {ts : Array TypeId} {cal : Operand} {L : Nat} {a : List Value} (Hyes : Hl → Prop) (Hno : Hl → List (Nat × Obj) → Prop) (ho : ops[i]? = some ⟨some d, .call ⟨.value cal, az, ts⟩, ty, pos, aft, gd⟩) (hw : wantL ops l gd = true)
    (hc : opd l cal = some (.func (.yield L) #[] #[])) (hx : opds l az.toList = some a) (hd : Nat.blt d n = true)
    (hr : ∀ w Y1, St w0 S w h (Y1 ++ Y) → Rnd P L a.toArray w (fun v w' => (v = .bool true ∧ ∃ h', Hyes h' ∧ St w0 S w' h' (Y1 ++ Y)) ∨ (v = .bool false ∧ ∃ h' Y', Hno h' Y' ∧ St w0 S w' h' (Y1 ++ Y'))))
    (hyes : ∀ h', Hyes h' → GoH P none f R w0 S Y n (.inRegion ops rest :: k) ((d, .bool true) :: l) h')
    (hno : ∀ h' Y', Hno h' Y' → GoH P none f R w0 S Y' n (.inRegion ops rest :: k) ((d, .bool false) :: l) h') :
    GoH P none f R w0 S Y n (.inRegion ops (i :: rest) :: k) l h := by
  intro t w Ds hF hS
  refine Gos.yield ho (want_of hF hw) (not_defer rfl) ?_ (hr w (mkY Ds) hS) (fun v w2 hR => ?_)
  · have e1 := resolve_run (P := P) (ty := ty) (ts := ts) (Ds := Ds) (w := w) hF hc hx
    simp only [execOp, Sem.run_bind, e1, Result.andThen_ok, invoke, Array.empty_append]
  · rcases hR with ⟨rfl, h', hh, hS'⟩ | ⟨rfl, h', Y', hh, hS'⟩
    · exact hyes h' hh _ w2 Ds (hF.put _ hd) hS'
    · exact hno h' Y' hh _ w2 Ds (hF.put _ hd) hS'
end
/-- an iterator's contract out of its body -/
theorem IterC.of {gf : FuncId} {lb : List Value} {args : List (List Value)} {cap : Hl} {c : Code} {fn : Func} (hf : P.funcs[gf]? = some fn) (hb : fn.body = some c) (hn : Nat.ble (lb.length + 1) fn.ntmps = true)
    (hgo : ∀ (Y : List (Nat × Obj)) (σ : Type) (Hc : σ → Hl) (I : Nat → σ → Prop) (X : σ → Prop) (Yx : σ → List (Nat × Obj)) (L : Nat),
      (∀ (i : Nat) (a : List Value), args[i]? = some a → ∀ s, I i s → ∀ (hi : Hl) (w : World) (Y1 : List (Nat × Obj)), St w0 S w (hi ++ Hc s) (Y1 ++ Y) →
        Rnd P L a.toArray w (fun v w' => (v = .bool true ∧ ∃ s', I (i + 1) s' ∧ St w0 S w' (hi ++ Hc s') (Y1 ++ Y)) ∨ (v = .bool false ∧ ∃ s', X s' ∧ St w0 S w' (hi ++ Hc s') (Y1 ++ Yx s')))) →
      ∀ s0, I 0 s0 → GoH P none gf (fun _ w' => (∃ s, I args.length s ∧ St w0 S w' (Hc s) Y) ∨ (∃ s, X s ∧ St w0 S w' (Hc s) (Yx s))) w0 S Y fn.ntmps [.code c] (parL 0 (Value.func (.yield L) #[] #[] :: lb)) (cap ++ Hc s0)) :
    IterC P w0 S gf lb args cap := by
  intro Y σ Hc I X Yx L hy s0 w hI hS cs
  obtain ⟨v, w', m, hR, hst, fr, rfl, hfn, hl⟩ := hgo Y σ Hc I X Yx L hy s0 hI _ w [] (frm_enter (by simpa using Nat.le_of_ble_eq_true hn)) hS cs (by simp)
  refine ⟨.returned v, w', fr, ⟨v, rfl, hR⟩, ?_, hfn, hl⟩
  have henter : Frame.enter P gf (Value.func (.yield L) #[] #[] :: lb).toArray .normal = mkF gf none ((Value.func (.yield L) #[] #[] :: lb).toArray ++ Array.replicate (fn.ntmps - (Value.func (.yield L) #[] #[] :: lb).toArray.size) undef) [] [.code c] := by
    simp [Frame.enter, hf, hb, mkF]
  show Steps P _ _
  rw [henter]; exact hst
end
end Go.Proofs.Wit
namespace Go.Proofs.Wit
open Go Go.RowKit
def dirs (ops : Array Oper) (i : Nat) : List Nat := match ops[i]? with
  | some o => (o.after.toList.filter (Region.binds .any)).map (·.on)
  | none => []
def dstOf (ops : Array Oper) (i : Nat) : Option Nat := (ops[i]?).bind (·.dst)
def notSel : Op → Bool
  | .select .. => false
  | _ => true
/-- slots that an operation looks at, its guard's among them -/
def eyes (ops : Array Oper) (o : Oper) : List Nat :=
  (match o.guard with | none => [] | some (j, _) => (dstOf ops j).toList) ++ o.op.operands.toList.filterMap (fun | .tmp s => some s | _ => none)
def drawOk (ops : Array Oper) (_l : Fl) (m : Nat) : Bool :=
  (Nat.beq ops.size m || (Nat.beq ops.size (m + 1) && (List.range m).all (fun i => (dirs ops m).contains i))) &&
  (List.range ops.size).all (fun i => (dirs ops i).all (fun j => Nat.blt j i)) &&
  (List.range m).all (fun i => match ops[i]? with
    | none => false
    | some o => notSel o.op && match o.dst with
      | none => false
      | some d => (List.range m).all (fun j => Nat.beq j i || !(dstOf ops j == some d)) &&
        (eyes ops o).all (fun s => (List.range m).all (fun j => !(dstOf ops j == some s) || (dirs ops i).contains j)))

section
variable {P : Program} {r : Option Nat} {f : FuncId} {R : Value → World → Prop} {w0 : World} {S : List Nat} {Y : List (Nat × Obj)} {n : Nat} {k : List Item} {l : Fl} {h : Hl} {ops : Array Oper}
/-- what operation i makes of a frame -/
def Outc (P : Program) (w0 : World) (S : List Nat) (n : Nat) (h : Hl) (ops : Array Oper) (i : Nat) (t : Array Value) (d : Nat) (v : Value) : Prop :=
  ∃ o, ops[i]? = some o ∧ o.dst = some d ∧ d < n ∧ isDefer o.op = false ∧
    ((Region.wanted o (yielded ops t) = true ∧ ∀ (w : World) (Ds : List Nat) (Y' : List (Nat × Obj)), St w0 S w h Y' → (execOp (Act.eval ⟨t, Ds.map mark⟩) o).run P w = .ok (.value v) w ∨
      ∃ gf args, (execOp (Act.eval ⟨t, Ds.map mark⟩) o).run P w = .ok (.enter gf args) w ∧ Calls P gf args w fun e w' => ∃ u, e = .returned u ∧ (Ex [] w w' ∧ u = v)) ∨ (Region.wanted o (yielded ops t) = false ∧ v = undef))
def RdS (P : Program) (w0 : World) (S : List Nat) (n : Nat) (h : Hl) (ops : Array Oper) (F : Array Value → Prop) : Nat → Nat → Array Value → Prop
  | _, 0, t => F t
  | i, m + 1, t => ∃ d v, Outc P w0 S n h ops i t d v ∧ RdS P w0 S n h ops F (i + 1) m (t.setIfInBounds d v)
/-- the reads of a region that draws its order, taken in the order of the text -/
def RdGo (P : Program) (r : Option Nat) (f : FuncId) (R : Value → World → Prop) (w0 : World) (S : List Nat) (Y : List (Nat × Obj)) (n : Nat) (k : List Item) (ops : Array Oper) (i m : Nat) (l : Fl) (h : Hl) : Prop :=
  ∀ t, Frm n t l → RdS P w0 S n h ops (fun t' => ∀ w Ds, St w0 S w h (mkY Ds ++ Y) → Gos P r f R (.inRegion ops (List.range' (i + m) (ops.size - (i + m))) :: k) t' (Ds.map mark) w) i m t
theorem RdGo.nil {i : Nat} (hg : GoH P r f R w0 S Y n (.inRegion ops (List.range' i (ops.size - i)) :: k) l h) : RdGo P r f R w0 S Y n k ops i 0 l h := fun t hF w Ds hS => hg t w Ds hF hS
theorem RdGo.v {i m d : Nat} {v : Value} (hv : Vop P w0 S n h ops i l d v) (hg : RdGo P r f R w0 S Y n k ops (i + 1) m ((d, v) :: l) h) : RdGo P r f R w0 S Y n k ops i (m + 1) l h := by
  intro t hF
  obtain ⟨o, ho, hw, hdst, hnd, hd, hr⟩ := hv
  refine ⟨d, v, ⟨o, ho, hdst, by simpa [Nat.blt_eq] using hd, hnd, .inl ⟨want_of hF hw, fun w Ds Y' hS => ?_⟩⟩, ?_⟩
  · obtain ⟨nx, h1, rfl⟩ := hr t w Ds Y' hF hS; exact .inl h1
  · have := hg _ (hF.put v hd)
    rw [show i + (m + 1) = i + 1 + m from by omega]; exact this
theorem RdGo.callP {i m d : Nat} {v : Value} {ty : TypeId} {pos : String} {aft : Array Edge} {g : Option (Nat × Bool)} {az : Array Operand} {ts : Array TypeId} {cal : Operand} {gf : FuncId} {vs : List Value} (ho : ops[i]? = some ⟨some d, .call ⟨.value cal, az, ts⟩, ty, pos, aft, g⟩) (hw : wantL ops l g = true)
    (hc : opd l cal = some (.func (.func gf) #[] #[])) (hx : opds l az.toList = some vs) (hd : Nat.blt d n = true) (hcf : ∀ args w, (callFunc gf args).run P w = .ok (.enter gf args) w)
    (hcall : ∀ w Y', St w0 S w h Y' → Cn P gf vs w (fun u _ => u = v)) (hg : RdGo P r f R w0 S Y n k ops (i + 1) m ((d, v) :: l) h) : RdGo P r f R w0 S Y n k ops i (m + 1) l h := by
  intro t hF
  refine ⟨d, v, ⟨_, ho, rfl, by simpa [Nat.blt_eq] using hd, rfl, .inl ⟨want_of hF hw, fun w Ds Y' hS => .inr ⟨gf, vs.toArray, ?_, hcall w Y' hS⟩⟩⟩, ?_⟩
  · have e1 := resolve_run (P := P) (ty := ty) (ts := ts) (Ds := Ds) (w := w) hF hc hx
    simp only [execOp, Sem.run_bind, e1, Result.andThen_ok, invoke, hcf]
    simp
  · have := hg _ (hF.put v hd)
    rw [show i + (m + 1) = i + 1 + m from by omega]; exact this
/-- the frames, in the order of the text -/
def tsq (D : Nat → Nat) (V : Nat → Value) (t : Array Value) : Nat → Array Value
  | 0 => t
  | j + 1 => (tsq D V t j).setIfInBounds (D j) (V j)
theorem tsq_shift (D : Nat → Nat) (V : Nat → Value) (t : Array Value) : ∀ j, tsq D V t (j + 1) = tsq (fun j => D (j + 1)) (fun j => V (j + 1)) (t.setIfInBounds (D 0) (V 0)) j
  | 0 => rfl
  | j + 1 => by rw [tsq, tsq_shift D V t j]; rfl
theorem RdS.seq {F : Array Value → Prop} : ∀ {m i : Nat} {t : Array Value}, RdS P w0 S n h ops F i m t → ∃ (D : Nat → Nat) (V : Nat → Value), (∀ j, j < m → Outc P w0 S n h ops (i + j) (tsq D V t j) (D j) (V j)) ∧ F (tsq D V t m)
  | 0, _, t, hF => ⟨fun _ => 0, fun _ => undef, fun j hj => by omega, hF⟩
  | m + 1, i, t, ⟨d, v, ho, hr⟩ => by
    obtain ⟨D, V, h1, h2⟩ := RdS.seq hr
    refine ⟨fun j => match j with | 0 => d | j + 1 => D j, fun j => match j with | 0 => v | j + 1 => V j, fun j hj => ?_, ?_⟩
    · cases j with
      | zero => exact ho
      | succ j =>
        have := h1 j (by omega)
        rw [show i + (j + 1) = i + 1 + j from by omega, tsq_shift]
        exact this
    · rw [tsq_shift]; exact h2
theorem tsq_size {D : Nat → Nat} {V : Nat → Value} {t : Array Value} : ∀ j, (tsq D V t j).size = t.size
  | 0 => rfl
  | j + 1 => by simp [tsq, tsq_size j]
theorem getD_set {t : Array Value} {d s : Nat} {v : Value} (hd : d < t.size) : (t.setIfInBounds d v).getD s undef = if d = s then v else t.getD s undef := by
  rw [Array.getD_eq_getD_getElem?, Array.getD_eq_getD_getElem?, Array.getElem?_setIfInBounds]
  split
  · simp
  · rfl
theorem tsq_get {D : Nat → Nat} {V : Nat → Value} {t : Array Value} {m : Nat} (hd : ∀ j, j < m → D j < t.size) (hinj : ∀ i j, i < m → j < m → D i = D j → i = j) : ∀ q, q ≤ m →
    (∀ j, j < q → (tsq D V t q).getD (D j) undef = V j) ∧ (∀ s, (∀ j, j < q → D j ≠ s) → (tsq D V t q).getD s undef = t.getD s undef)
  | 0, _ => ⟨fun j hj => by omega, fun _ _ => rfl⟩
  | q + 1, hq => by
    obtain ⟨h1, h2⟩ := tsq_get hd hinj q (by omega)
    have hs : D q < (tsq D V t q).size := by rw [tsq_size]; exact hd q (by omega)
    refine ⟨fun j hj => ?_, fun s hs' => ?_⟩
    · rw [tsq, getD_set hs]
      split
      · rename_i e; rw [hinj q j (by omega) (by omega) e]
      · rename_i e
        refine h1 j ?_
        rcases Nat.lt_or_ge j q with hl | hl
        · exact hl
        · exact absurd (by rw [show j = q from by omega]) e
    · rw [tsq, getD_set hs, if_neg (hs' q (by omega))]
      exact h2 s (fun j hj => hs' j (by omega))

theorem opt_of_getD {t t' : Array Value} (hs : t.size = t'.size) {s : Nat} (h : t.getD s undef = t'.getD s undef) : t[s]? = t'[s]? := by
  rw [Array.getD_eq_getD_getElem?, Array.getD_eq_getD_getElem?] at h
  rcases Nat.lt_or_ge s t.size with hl | hl
  · rw [Array.getElem?_eq_getElem hl, Array.getElem?_eq_getElem (hs ▸ hl)] at h ⊢
    simpa using h
  · rw [Array.getElem?_eq_none hl, Array.getElem?_eq_none (hs ▸ hl)]
theorem Outc.congr {i d : Nat} {v : Value} {t t' : Array Value} (ho : Outc P w0 S n h ops i t d v) (hsel : ∀ o, ops[i]? = some o → notSel o.op = true) (hs : t'.size = t.size)
    (he : ∀ o, ops[i]? = some o → ∀ s ∈ eyes ops o, t'.getD s undef = t.getD s undef) : Outc P w0 S n h ops i t' d v := by
  obtain ⟨o, h1, h2, h3, h4, h5⟩ := ho
  have hw : Region.wanted o (yielded ops t') = Region.wanted o (yielded ops t) := by
    unfold Region.wanted
    cases hg : o.guard with
    | none => rfl
    | some p =>
      obtain ⟨j, want⟩ := p
      have : yielded ops t' j = yielded ops t j := by
        unfold yielded
        cases hd : (ops[j]?).bind (·.dst) with
        | none => rfl
        | some dj =>
          simp only [Option.bind_some]
          rw [opt_of_getD hs (he o h1 dj (by simp [eyes, hg, dstOf, hd]))]
      simp only [this]
  refine ⟨o, h1, h2, h3, h4, ?_⟩
  rcases h5 with ⟨a, b⟩ | ⟨a, b⟩
  · refine .inl ⟨hw.trans a, fun w Ds Y' hS => ?_⟩
    rw [execOp_congr (ρ' := Act.eval ⟨t, Ds.map mark⟩) o (fun cs bb e => by have := hsel o h1; rw [e] at this; cases this) (fun x hx => ?_)]
    · exact b w Ds Y' hS
    · cases x with
      | tmp s => exact he o h1 s (by
          simp only [eyes, List.mem_append]
          exact .inr (List.mem_filterMap.2 ⟨.tmp s, by simpa using hx, rfl⟩))
      | const v => rfl
      | global g => rfl
      | func g => rfl
  · exact .inr ⟨hw.trans a, b⟩
theorem Outc.go {i d : Nat} {v : Value} {t : Array Value} {rest : List Nat} {w : World} {Ds : List Nat} (ho : Outc P w0 S n h ops i t d v) (hS : St w0 S w h (mkY Ds ++ Y))
    (hk : ∀ w', St w0 S w' h (mkY Ds ++ Y) → Gos P r f R (.inRegion ops rest :: k) (t.setIfInBounds d v) (Ds.map mark) w') : Gos P r f R (.inRegion ops (i :: rest) :: k) t (Ds.map mark) w := by
  obtain ⟨o, h1, h2, h3, h4, h5⟩ := ho
  rcases h5 with ⟨a, b⟩ | ⟨a, rfl⟩
  · rcases b w Ds _ hS with hb | ⟨gf, args, hb, hcall⟩
    · refine Gos.op h1 a (not_defer h4) hb (.inl rfl) ?_
      rw [h2]; exact hk w hS
    · refine Gos.call h1 a (not_defer h4) hb hcall (fun u w2 hu => ?_)
      obtain ⟨he, rfl⟩ := hu
      rw [h2]; exact hk w2 (hS.later he)
  · refine Gos.opSkip h1 a ?_
    rw [h2]; exact hk w hS
/-- the checks, as facts -/
structure DrawFacts (ops : Array Oper) (m : Nat) : Prop where
  size : ops.size = m ∨ (ops.size = m + 1 ∧ ∀ i, i < m → i ∈ dirs ops m)
  lt : ∀ i, i < ops.size → ∀ j ∈ dirs ops i, j < i
  sel : ∀ i, i < m → ∀ o, ops[i]? = some o → notSel o.op = true
  inj : ∀ i j d, i < m → j < m → dstOf ops i = some d → dstOf ops j = some d → i = j
  eye : ∀ i, i < m → ∀ o, ops[i]? = some o → ∀ s ∈ eyes ops o, ∀ j, j < m → dstOf ops j = some s → j ∈ dirs ops i
theorem mem_dirs {i : Nat} {o : Oper} (ho : ops[i]? = some o) {j : Nat} : j ∈ dirs ops i ↔ ∃ e ∈ o.after, Region.binds .any e = true ∧ e.on = j := by
  simp only [dirs, ho, List.mem_map, List.mem_filter, Array.mem_toList_iff]
  constructor
  · rintro ⟨e, ⟨h1, h2⟩, h3⟩; exact ⟨e, h1, h2, h3⟩
  · rintro ⟨e, h1, h2, h3⟩; exact ⟨e, ⟨h1, h2⟩, h3⟩
theorem getD_listed {listed : Array Bool} {i j : Nat} (hi : i < listed.size) : (listed.setIfInBounds i true).getD j false = if i = j then true else listed.getD j false := by
  rw [Array.getD_eq_getD_getElem?, Array.getD_eq_getD_getElem?, Array.getElem?_setIfInBounds]
  split
  · simp
  · rfl
theorem getD_tf {listed : Array Bool} {j : Nat} (hj : j < listed.size) : listed.getD j true = listed.getD j false := by
  simp [Array.getD_eq_getD_getElem?, hj]
theorem count_set {listed : Array Bool} {N i : Nat} (hs : listed.size = N) (hi : i < N) (hu : listed.getD i false = false) :
    (List.range N).countP (fun j => !(listed.setIfInBounds i true).getD j false) + 1 ≤ (List.range N).countP (fun j => !listed.getD j false) := by
  have h1 : ∀ M, M ≤ N → (List.range M).countP (fun j => !(listed.setIfInBounds i true).getD j false) + (if i < M then 1 else 0) = (List.range M).countP (fun j => !listed.getD j false) := by
    intro M
    induction M with
    | zero => simp
    | succ M ih =>
      intro hM
      have := ih (by omega)
      rw [List.range_succ, List.countP_append, List.countP_append, ← this]
      simp only [List.countP_cons, List.countP_nil, getD_listed (hs ▸ hi)]
      by_cases e : i = M
      · subst e; simp [hu]
      · have e1 : (if i = M then true else listed.getD M false) = listed.getD M false := if_neg e
        have e2 : (if i < M + 1 then 1 else 0) = (if i < M then 1 else 0) := by
          by_cases hlt : i < M
          · rw [if_pos hlt, if_pos (by omega)]
          · rw [if_neg hlt, if_neg (by omega)]
        rw [e1, e2]; omega
  have := h1 N (Nat.le_refl _)
  rw [if_pos hi] at this
  omega
theorem draw_core {m : Nat} (hf : DrawFacts ops m) {D : Nat → Nat} {V : Nat → Value} {t0 : Array Value} (ht0 : t0.size = n)
    (hout : ∀ j, j < m → Outc P w0 S n h ops j (tsq D V t0 j) (D j) (V j)) (hF : ∀ w Ds, St w0 S w h (mkY Ds ++ Y) → Gos P r f R (.inRegion ops (List.range' m (ops.size - m)) :: k) (tsq D V t0 m) (Ds.map mark) w) :
    ∀ (fuel τ : Nat) (listed : Array Bool) (t : Array Value), listed.size = ops.size → (∀ j, listed.getD j false = true → ∀ e ∈ dirs ops j, listed.getD e false = true) → (m < ops.size → listed.getD m false = false) → t.size = n →
      (∀ j, j < m → listed.getD j false = true → t.getD (D j) undef = V j) → (∀ s, (∀ j, j < m → listed.getD j false = true → D j ≠ s) → t.getD s undef = t0.getD s undef) →
      (List.range ops.size).countP (fun j => !listed.getD j false) ≤ fuel → ∀ w Ds, St w0 S w h (mkY Ds ++ Y) → Gos P r f R (.inRegion ops (Region.linearise.go .any ops fuel τ listed []) :: k) t (Ds.map mark) w := by
  have hDst : ∀ j, j < m → dstOf ops j = some (D j) := fun j hj => by
    obtain ⟨o, h1, h2, _⟩ := hout j hj
    simp [dstOf, h1, h2]
  have hDlt : ∀ j, j < m → D j < t0.size := fun j hj => by
    obtain ⟨o, _, _, h3, _⟩ := hout j hj; omega
  have hDinj : ∀ i j, i < m → j < m → D i = D j → i = j := fun i j hi hj e => hf.inj i j (D i) hi hj (hDst i hi) (by rw [hDst j hj, e])
  have hmN : m ≤ ops.size := by rcases hf.size with e | e <;> omega
  -- all reads done: the frame is the one of the text's order
  have hall : ∀ (listed : Array Bool) (t : Array Value), t.size = n → (∀ j, j < m → listed.getD j false = true) → (∀ j, j < m → listed.getD j false = true → t.getD (D j) undef = V j) → (∀ s, (∀ j, j < m → listed.getD j false = true → D j ≠ s) → t.getD s undef = t0.getD s undef) → t = tsq D V t0 m := by
    intro listed t hts hl h1 h2
    obtain ⟨g1, g2⟩ := tsq_get hDlt hDinj m (Nat.le_refl _)
    refine Array.ext_getElem? (fun s => opt_of_getD (by rw [hts, tsq_size, ht0]) ?_)
    by_cases hs : ∃ j, j < m ∧ D j = s
    · obtain ⟨j, hj, rfl⟩ := hs
      rw [h1 j hj (hl j hj), g1 j hj]
    · rw [h2 s (fun j hj _ e => hs ⟨j, hj, e⟩), g2 s (fun j hj e => hs ⟨j, hj, e⟩)]
  intro fuel
  induction fuel with
  | zero =>
    intro τ listed t hls hcl hm hts h1 h2 hc w Ds hS
    have hl : ∀ j, j < ops.size → listed.getD j false = true := fun j hj => by
      have := List.countP_eq_zero.1 (Nat.le_zero.1 hc) j (by simpa using hj)
      simpa using this
    have hmm : m = ops.size := by
      rcases Nat.lt_or_ge m ops.size with hlt | hge
      · have := hl m hlt; rw [hm hlt] at this; cases this
      · omega
    rw [hall listed t hts (fun j hj => hl j (by omega)) h1 h2]
    have := hF w Ds hS
    rw [hmm, Nat.sub_self] at this
    rw [hmm]; exact this
  | succ fuel ih =>
    intro τ listed t hls hcl hm hts h1 h2 hc w Ds hS
    -- the least operation that is not listed is ready
    have hready : (∃ j, j < ops.size ∧ listed.getD j false = false) → Region.ready .any ops listed ≠ [] := by
      rintro ⟨j, hj, hu⟩
      have key : ∀ q, q < ops.size → listed.getD q false = false → Region.ready .any ops listed ≠ [] := by
        intro q
        induction q using Nat.strongRecOn with
        | _ q ihq =>
          intro hq hqu
          by_cases hb : ∃ e ∈ dirs ops q, listed.getD e false = false
          · obtain ⟨e, he, heu⟩ := hb
            have hlt := hf.lt q hq e he
            exact ihq e hlt (by omega) heu
          · obtain ⟨o, ho⟩ : ∃ o, ops[q]? = some o := ⟨ops[q], Array.getElem?_eq_getElem hq⟩
            have : q ∈ Region.ready .any ops listed := by
              rw [mem_ready]
              refine ⟨by rw [getD_tf (by omega)]; exact hqu, o, ho, fun e he hbd => ?_⟩
              cases hx : listed.getD e.on false with
              | true => rfl
              | false => exact absurd ⟨e.on, (mem_dirs ho).2 ⟨e, he, hbd, rfl⟩, hx⟩ hb
            exact List.ne_nil_of_mem this
      exact key j hj hu
    simp only [Region.linearise.go]
    change Gos P r f R (.inRegion ops (match (Region.ready .any ops listed)[τ % (Region.ready .any ops listed).length]? with
      | some i => Region.linearise.go .any ops fuel (τ / (Region.ready .any ops listed).length) (listed.setIfInBounds i true) [i]
      | none => [].reverse) :: k) t (Ds.map mark) w
    cases hi : (Region.ready .any ops listed)[τ % (Region.ready .any ops listed).length]? with
    | none =>
      have hnil : Region.ready .any ops listed = [] := by
        cases hr : Region.ready .any ops listed with
        | nil => rfl
        | cons x xs =>
          rw [hr] at hi
          have hlt : τ % (x :: xs).length < (x :: xs).length := Nat.mod_lt _ (by simp)
          rw [List.getElem?_eq_getElem hlt] at hi; cases hi
      have hl : ∀ j, j < ops.size → listed.getD j false = true := fun j hj => by
        cases hx : listed.getD j false with
        | true => rfl
        | false => exact absurd hnil (hready ⟨j, hj, hx⟩)
      have hmm : m = ops.size := by
        rcases Nat.lt_or_ge m ops.size with hlt | hge
        · have := hl m hlt; rw [hm hlt] at this; cases this
        · omega
      rw [hall listed t hts (fun j hj => hl j (by omega)) h1 h2]
      have := hF w Ds hS
      rw [hmm, Nat.sub_self] at this
      rw [hmm]; exact this
    | some i =>
      have hmem := List.mem_of_getElem? hi
      rw [mem_ready] at hmem
      obtain ⟨hu, o, ho, hdep⟩ := hmem
      have hiN : i < ops.size := (Array.getElem?_eq_some_iff.1 ho).1
      rw [getD_tf (by omega)] at hu
      simp only []
      rw [linearise_go_acc, List.reverse_singleton, List.singleton_append]
      have hdl : ∀ e ∈ dirs ops i, listed.getD e false = true := fun e he => by
        obtain ⟨e', he', hb, rfl⟩ := (mem_dirs ho).1 he
        exact hdep e' he' hb
      have hcl' : ∀ j, (listed.setIfInBounds i true).getD j false = true → ∀ e ∈ dirs ops j, (listed.setIfInBounds i true).getD e false = true := by
        intro j hj e he
        rw [getD_listed (by omega)] at hj ⊢
        split
        · rfl
        · split at hj
          · rename_i hij; subst hij; exact hdl e he
          · exact hcl j hj e he
      have hcnt := count_set (listed := listed) hls hiN hu
      by_cases him : i < m
      · -- a read
        have hgo := hout i him
        have heq : Outc P w0 S n h ops i t (D i) (V i) := by
          refine hgo.congr (hf.sel i him) (by rw [hts, tsq_size, ht0]) (fun o' ho' s hs => ?_)
          obtain ⟨g1, g2⟩ := tsq_get hDlt hDinj i (by omega)
          by_cases hx : ∃ j, j < m ∧ D j = s
          · obtain ⟨j, hj, rfl⟩ := hx
            have hjd := hf.eye i him o' ho' (D j) hs j hj (hDst j hj)
            rw [h1 j hj (hdl j hjd), g1 j (hf.lt i hiN j hjd)]
          · rw [h2 s (fun j hj _ e => hx ⟨j, hj, e⟩), g2 s (fun j hj e => hx ⟨j, by omega, e⟩)]
        refine heq.go hS (fun w hS => ?_)
        have hDi : D i < t.size := by rw [hts, ← ht0]; exact hDlt i him
        refine ih _ _ _ (by simpa using hls) hcl' (fun hlt => ?_) (by simpa using hts) (fun j hj hlj => ?_) (fun s hs => ?_) (by omega) w Ds hS
        · rw [getD_listed (by omega), if_neg (by omega)]; exact hm hlt
        · rw [getD_set hDi]
          split
          · rename_i e; rw [hDinj i j him hj e]
          · rename_i e
            rw [getD_listed (by omega)] at hlj
            split at hlj
            · rename_i e2; subst e2; exact absurd rfl e
            · exact h1 j hj hlj
        · rw [getD_set hDi, if_neg (hs i him (by rw [getD_listed (by omega), if_pos rfl]))]
          refine h2 s (fun j hj hlj => hs j hj ?_)
          rw [getD_listed (by omega)]; split
          · rfl
          · exact hlj
      · -- the last operation
        have hsz : ops.size = m + 1 ∧ ∀ i, i < m → i ∈ dirs ops m := by
          rcases hf.size with e | e
          · omega
          · exact e
        have him' : i = m := by omega
        subst him'
        have hl : ∀ j, j < i → listed.getD j false = true := fun j hj => hdl j (hsz.2 j hj)
        have hnil : Region.linearise.go .any ops fuel (τ / (Region.ready .any ops listed).length) (listed.setIfInBounds i true) [] = [] := by
          have hr0 : Region.ready .any ops (listed.setIfInBounds i true) = [] := by
            rw [List.eq_nil_iff_forall_not_mem]
            intro j hj
            rw [mem_ready] at hj
            obtain ⟨a, o', ho', _⟩ := hj
            have hjN : j < ops.size := (Array.getElem?_eq_some_iff.1 ho').1
            rw [getD_tf (by simp; omega), getD_listed (by omega)] at a
            split at a
            · cases a
            · rw [hl j (by omega)] at a; cases a
          cases fuel with
          | zero => rfl
          | succ fuel =>
            simp only [Region.linearise.go]
            change (match (Region.ready .any ops (listed.setIfInBounds i true))[_ % (Region.ready .any ops (listed.setIfInBounds i true)).length]? with
              | some i => _
              | none => [].reverse) = []
            rw [hr0]; rfl
        rw [hnil, hall listed t hts hl h1 h2]
        have := hF w Ds hS
        rw [hsz.1, show i + 1 - i = 1 from by omega] at this
        exact this
theorem facts_of {m : Nat} (hc : drawOk ops l m = true) : DrawFacts ops m := by
  simp only [drawOk, Bool.and_eq_true, Bool.or_eq_true, Nat.beq_eq, List.all_eq_true, List.mem_range, Nat.blt_eq, List.contains_iff_mem] at hc
  obtain ⟨⟨hsz, hlt⟩, hr⟩ := hc
  have hat : ∀ i, i < m → ∃ o d, ops[i]? = some o ∧ o.dst = some d ∧ notSel o.op = true ∧ (∀ j, j < m → j = i ∨ dstOf ops j ≠ some d) ∧ (∀ s ∈ eyes ops o, ∀ j, j < m → dstOf ops j ≠ some s ∨ j ∈ dirs ops i) := by
    intro i hi
    have := hr i hi
    cases ho : ops[i]? with
    | none => simp [ho] at this
    | some o =>
      cases hd : o.dst with
      | none => simp [ho, hd] at this
      | some d =>
        simp only [ho, hd, Bool.and_eq_true, List.all_eq_true, List.mem_range, Bool.or_eq_true, Nat.beq_eq, Bool.not_eq_true', beq_eq_false_iff_ne, List.contains_iff_mem] at this
        exact ⟨o, d, rfl, hd, this.1, this.2.1, this.2.2⟩
  refine ⟨hsz, hlt, fun i hi o ho => ?_, fun i j d hi hj h1 h2 => ?_, fun i hi o ho s hs j hj hd => ?_⟩
  · obtain ⟨o', d, h1, _, h3, _⟩ := hat i hi
    rw [ho] at h1; cases h1; exact h3
  · obtain ⟨o, d', e1, e2, _, e5, _⟩ := hat i hi
    have : d' = d := by simp [dstOf, e1, e2] at h1; exact h1
    subst this
    rcases e5 j hj with e | e
    · exact e.symm
    · exact absurd h2 e
  · obtain ⟨o', d, e1, _, _, _, e6⟩ := hat i hi
    rw [ho] at e1; cases e1
    rcases e6 s hs j hj with e | e
    · exact absurd hd e
    · exact e
/-- **a region that draws its order: its first m operations only read; at most one operation stands behind them** -/
theorem GoH.draw {id : Nat} (m : Nat) (hmix : P.follows .mixedOrders = true) (hc : drawOk ops l m = true) (hg : RdGo P r f R w0 S Y n k ops 0 m l h) : GoH P r f R w0 S Y n (.code (.region id ops true) :: k) l h := by
  intro t w Ds hF hS
  have hf := facts_of hc
  refine .regionDraw (fun τ => ?_)
  obtain ⟨D, V, hout, hfin⟩ := (hg t hF).seq
  simp only [Nat.zero_add] at hout hfin
  simp only [Region.schedule, hmix, Bool.true_or, if_true, Region.linearise]
  refine draw_core hf hF.1 hout hfin ops.size τ _ t (by simp) (fun j hj => ?_) (fun _ => ?_) hF.1 (fun j _ hj => ?_) (fun s _ => rfl) ?_ _ Ds hS.drew
  · exfalso; simp [Array.getD_eq_getD_getElem?, Array.getElem?_replicate] at hj; split at hj <;> simp at hj
  · simp [Array.getD_eq_getD_getElem?, Array.getElem?_replicate]; split <;> simp
  · exfalso; simp [Array.getD_eq_getD_getElem?, Array.getElem?_replicate] at hj; split at hj <;> simp at hj
  · exact Nat.le_trans (List.countP_le_length) (by simp)

/-- all orders in which a region may be carried out -/
def readyL (ops : Array Oper) (listed : List Nat) : List Nat := (List.range ops.size).filter (fun i => !listed.contains i && (dirs ops i).all (fun e => listed.contains e))
theorem ready_eq {arr : Array Bool} {listed : List Nat} (hs : arr.size = ops.size) (h : ∀ j, arr.getD j false = listed.contains j) : Region.ready .any ops arr = readyL ops listed := by
  unfold Region.ready readyL
  refine List.filter_congr (fun i hi => ?_)
  have hi' : i < ops.size := by simpa using hi
  have e1 : arr.getD i true = listed.contains i := by rw [← h i]; simp [Array.getD_eq_getD_getElem?, hs, hi']
  rw [e1]
  congr 1
  have hg : ops[i]? = some ops[i] := Array.getElem?_eq_getElem hi'
  unfold dirs
  rw [hg]
  simp only [Option.map_some, Option.getD_some, ← Array.all_toList]
  rw [List.all_map, List.all_filter]
  congr 1
  funext e
  simp only [Function.comp, h]
end
end Go.Proofs.Wit
namespace Go.Proofs.Wit
/-! the points of a word -/
def pts (s : W64) : List Nat := (List.range 64).filter (fun i => s.getLsbD i)
def tz (s : W64) : Nat := (pts s).headD 64

theorem filter_range_succ (p : Nat → Bool) (n : Nat) : (List.range (n + 1)).filter p = (List.range n).filter p ++ (if p n then [n] else []) := by
  rw [List.range_succ, List.filter_append]; simp [List.filter_cons]
theorem filter_range_nil (p : Nat → Bool) (n : Nat) : (List.range n).filter p = [] ↔ ∀ j, j < n → p j = false := by
  simp [List.filter_eq_nil_iff]
theorem filter_tail (p : Nat → Bool) (q : Nat → Bool) (n : Nat) (hq : ∀ i, i < n → (q i = true ↔ p i = true ∧ ∃ j, j < i ∧ p j = true)) :
    (List.range n).filter q = ((List.range n).filter p).tail := by
  induction n with
  | zero => rfl
  | succ n ih =>
    rw [filter_range_succ, filter_range_succ, ih (fun i hi => hq i (by omega))]
    have hn := hq n (by omega)
    by_cases he : (List.range n).filter p = []
    · rw [he]
      have h0 : ¬ (∃ j, j < n ∧ p j = true) := by
        rintro ⟨j, hj, hp⟩; have := (filter_range_nil p n).1 he j hj; rw [hp] at this; cases this
      have hqn : q n = false := by
        cases hqq : q n with
        | false => rfl
        | true => exact absurd (hn.1 hqq).2 h0
      rw [hqn]; cases p n <;> rfl
    · rw [List.tail_append_of_ne_nil he]
      have h1 : ∃ j, j < n ∧ p j = true := by
        obtain ⟨x, hx⟩ := List.exists_mem_of_ne_nil _ he
        rw [List.mem_filter, List.mem_range] at hx
        exact ⟨x, hx.1, hx.2⟩
      have : q n = p n := by
        rw [Bool.eq_iff_iff, hn]; exact ⟨fun h => h.1, fun h => ⟨h, h1⟩⟩
      rw [this]
theorem filter_head (p : Nat → Bool) (n k : Nat) (hk : ((List.range n).filter p).head? = some k) : k < n ∧ p k = true ∧ ∀ j, j < k → p j = false := by
  induction n with
  | zero => simp at hk
  | succ n ih =>
    rw [filter_range_succ] at hk
    by_cases he : (List.range n).filter p = []
    · rw [he] at hk
      cases hp : p n with
      | false => simp [hp] at hk
      | true =>
        simp [hp] at hk
        subst hk
        exact ⟨by omega, hp, (filter_range_nil p n).1 he⟩
    · have hk' : ((List.range n).filter p).head? = some k := by
        cases hf : (List.range n).filter p with
        | nil => exact absurd hf he
        | cons a l => rw [hf] at hk; simpa using hk
      have := ih hk'
      exact ⟨by omega, this.2⟩

theorem lsb_sub_one (s : W64) (i : Nat) (hi : i < 64) : (s - 1#64).getLsbD i = !(s.getLsbD i ^^ decide (∃ j, j < i ∧ s.getLsbD j = true)) := by
  have e : s - 1#64 = ~~~(-s) := by
    apply BitVec.eq_of_toNat_eq
    rw [BitVec.toNat_not, BitVec.toNat_neg, BitVec.toNat_sub]
    have := s.isLt
    simp
    omega
  rw [e, BitVec.getLsbD_not, BitVec.getLsbD_neg]
  simp [hi]
theorem pts_ne {s : W64} (h : s ≠ 0#64) : pts s ≠ [] := by
  intro e
  apply h
  rw [pts, filter_range_nil] at e
  ext i hi
  have := e i hi
  rw [BitVec.getLsbD_eq_getElem hi] at this
  simpa using this
theorem pts_head {s : W64} (h : s ≠ 0#64) : (pts s).head? = some (tz s) := by
  have := pts_ne h
  unfold tz
  cases hb : pts s with
  | nil => exact absurd hb this
  | cons a l => rfl
theorem tz_spec {s : W64} (h : s ≠ 0#64) : tz s < 64 ∧ s.getLsbD (tz s) = true ∧ ∀ j, j < tz s → s.getLsbD j = false :=
  filter_head _ 64 _ (pts_head h)
theorem pts_next (s : W64) : pts (s &&& (s - 1#64)) = (pts s).tail := by
  unfold pts
  refine filter_tail (fun i => s.getLsbD i) _ 64 (fun i hi => ?_)
  rw [BitVec.getLsbD_and, lsb_sub_one s i hi]
  cases s.getLsbD i <;> simp
theorem pts_cons {s : W64} (h : s ≠ 0#64) : pts s = tz s :: pts (s &&& (s - 1#64)) := by
  rw [pts_next]
  have := pts_head h
  cases hb : pts s with
  | nil => rw [hb] at this; cases this
  | cons a l => rw [hb] at this; simp at this; simp [this]
theorem pts_zero : pts 0#64 = [] := by decide
theorem tz_lt {s : W64} (h : s ≠ 0#64) : tz s < 64 := (tz_spec h).1
theorem low_bit {s : W64} (h : s ≠ 0#64) : s &&& -s = 1#64 <<< tz s := by
  obtain ⟨h1, h2, h3⟩ := tz_spec h
  ext i hi
  rw [BitVec.getElem_and, ← BitVec.getLsbD_eq_getElem, ← BitVec.getLsbD_eq_getElem, ← BitVec.getLsbD_eq_getElem, BitVec.getLsbD_neg, BitVec.getLsbD_shiftLeft]
  by_cases e : i = tz s
  · subst e
    have hn : ¬ ∃ j, j < tz s ∧ s.getLsbD j = true := by
      rintro ⟨j, hj, hp⟩; rw [h3 j hj] at hp; cases hp
    simp [h2, h1, hn]
  · by_cases hlt : i < tz s
    · simp [h3 i hlt, hlt]
    · have hx : ∃ j, j < i ∧ s.getLsbD j = true := ⟨tz s, by omega, h2⟩
      have : (1#64).getLsbD (i - tz s) = false := by
        have : i - tz s ≠ 0 := by omega
        rw [BitVec.getLsbD_one]; simp [this]
      rw [this]; simp only [decide_eq_true hx]; cases s.getLsbD i <;> simp [hi]

def dbtab : List Int := [0, 1, 56, 2, 57, 49, 28, 3, 61, 58, 42, 50, 38, 29, 17, 4, 62, 47, 59, 36, 45, 43, 51, 22, 53, 39, 33, 30, 24, 18, 12, 5, 63, 55, 48, 27, 60, 41, 37, 16, 46, 35, 44, 21, 52, 32, 23, 11, 54, 26, 40, 15, 34, 20, 31, 10, 25, 14, 19, 9, 13, 8, 7, 6]
def dbix (s : W64) : W64 := ((s &&& -s) * 285870213051353865#64) >>> 58
theorem dbix_lt (s : W64) : (dbix s).toNat < 64 := by
  unfold dbix
  rw [BitVec.toNat_ushiftRight, Nat.shiftRight_eq_div_pow]
  have := ((s &&& -s) * 285870213051353865#64).isLt
  omega
theorem db_all : ∀ k : Nat, k < 64 → dbtab.getD ((((1#64 <<< k) * 285870213051353865#64) >>> 58).toNat) 0 = (k : Int) := by decide
theorem db_tz {s : W64} (h : s ≠ 0#64) : dbtab.getD (dbix s).toNat 0 = (tz s : Int) := by
  unfold dbix
  rw [low_bit h]
  exact db_all _ (tz_lt h)
end Go.Proofs.Wit
namespace Go.Proofs.Wit
open Go Go.RowKit
/-- a list of words, read -/
def SlU (w : World) (a : Option Addr) (xs : List W64) : Prop := Sl w a (xs.map U)
theorem SlU.ex0 {w0 w : World} {a : Option Addr} {xs : List W64} (h : SlU w0 a xs) {S : List Nat} (e : Ex S w0 w) (hS : ∀ b o, a = some ⟨b, o, none⟩ → b ∉ S := by simp) : SlU w a xs := Sl.ex h e hS
theorem SlU.at {w : World} {a : Option Addr} {xs : List W64} (h : SlU w a xs) (k : Nat) (hk : k < xs.length) : w.cell? (adr a k) = some (U (xs.getD k 0#64)) := by
  rw [Sl.cell h k (by simpa using hk)]
  simp [List.getD_eq_getElem?_getD, hk]
theorem SlU.nil (w : World) (a : Option Addr) : SlU w a [] := Sl.nil w a
theorem SlU.blk {w : World} {q : Option Nat} {xs : List W64} {sp : List Value} {e : TypeId} {fr : Nat × Nat} (hq : q = none → xs = []) (h : ∀ b, q = some b → w.heap[b]? = some (.cells (xs.map U ++ sp).toArray e fr)) : SlU w (q.map (fun b => ⟨b, 0, none⟩)) xs := by
  cases q with
  | none => rw [hq rfl]; exact .nil _ _
  | some b => exact Sl.blk (h b rfl)

/-! loops as folds over 0 .. n-1 -/
def upTo {σ : Type} (f : Nat → σ → σ) (s : σ) : Nat → σ
  | 0 => s
  | k + 1 => f k (upTo f s k)
/-- no element from the first n on -/
def anyTo (p : Nat → Bool) : Nat → Bool
  | 0 => false
  | k + 1 => anyTo p k || p k
theorem anyTo_iff {p : Nat → Bool} : ∀ {n : Nat}, anyTo p n = true ↔ ∃ k, k < n ∧ p k = true
  | 0 => by simp [anyTo]
  | n + 1 => by
    rw [anyTo, Bool.or_eq_true, anyTo_iff]
    constructor
    · rintro (⟨k, hk, hp⟩ | hp)
      · exact ⟨k, by omega, hp⟩
      · exact ⟨n, by omega, hp⟩
    · rintro ⟨k, hk, hp⟩
      by_cases e : k = n
      · subst e; exact .inr hp
      · exact .inl ⟨k, by omega, hp⟩
theorem anyTo_false {p : Nat → Bool} {n : Nat} : anyTo p n = false ↔ ∀ k, k < n → p k = false := by
  rw [← Bool.not_eq_true, anyTo_iff]
  constructor
  · intro h k hk; cases hp : p k with
    | false => rfl
    | true => exact absurd ⟨k, hk, hp⟩ h
  · rintro h ⟨k, hk, hp⟩; rw [h k hk] at hp; cases hp
theorem anyTo_at {p : Nat → Bool} {n k : Nat} (hk : k < n) (hp : p k = true) : anyTo p n = true := anyTo_iff.2 ⟨k, hk, hp⟩
theorem anyTo_succ {p : Nat → Bool} {k : Nat} (h : anyTo p k = false) (hp : p k = false) : anyTo p (k + 1) = false := by rw [anyTo, h, hp]; rfl

section
variable {P : Program} {r : Option Nat} {f : FuncId} {R : Value → World → Prop} {w0 : World} {S : List Nat} {Y : List (Nat × Obj)} {n : Nat} {k : List Item} {l : Fl} {h : Hl}
variable {ops : Array Oper} {i d : Nat} {rest : List Nat} {ty : TypeId} {pos : String} {aft : Array Edge} {g : Option (Nat × Bool)}
theorem idxA_run {t e : TypeId} {len : Nat} (hu : P.underlying t = some (.array len e)) (he : ∀ w, (sizeOf e).run P w = .ok 1 w) (b o : Nat) (kd : IntKind) (j : Nat) (hj : j < len) (w' : World) :
    (Instr.indexAt t (.pointer (some ⟨b, o, none⟩)) (.int kd j)).run P w' = .ok (.pointer (some ⟨b, o + j, none⟩)) w' := by
  simp only [Instr.indexAt, asIntOf, Sem.run_bind, Sem.run_pure, Result.andThen_ok, run_underlying hu, Instr.sureAddr]
  rw [if_pos ⟨by omega, by omega⟩]
  simp only [Sem.run_bind, he, Result.andThen_ok, Sem.run_pure, Addr.add, Nat.mul_one, Int.toNat_natCast]
  split
  · rename_i h0; rw [h0]; rfl
  · rfl
/-- the address of an element of an array -/
theorem Vop.idxA {t e : TypeId} {x y : Operand} {b o len : Nat} {kd : IntKind} {j : Int} (ho : ops[i]? = some ⟨some d, .indexAddr t x y, ty, pos, aft, g⟩) (hw : wantL ops l g = true)
    (hx : opd l x = some (.pointer (some ⟨b, o, none⟩))) (hy : opd l y = some (.int kd j)) (hd : Nat.blt d n = true) (hu : P.underlying t = some (.array len e)) (he : ∀ w, (sizeOf e).run P w = .ok 1 w)
    (j' : Nat) (hj : j = j') (hlt : j' < len) : Vop P w0 S n h ops i l d (.pointer (some ⟨b, o + j', none⟩)) := by
  subst hj
  exact .of ho hw rfl rfl hd (fun t w Ds _ hF _ => ⟨.value (.pointer (some ⟨b, o + j', none⟩)), by
    simp only [execOp, hF.opd hx, hF.opd hy, Sem.run_bind, idxA_run hu he b o kd j' hlt w]; rfl, rfl⟩)
end
/-- a block of elements of one cell each, behind them spare ones -/
abbrev ob {α : Type} (enc : α → Value) (e : TypeId) (xs : List α) (sp : List Value) : Obj := .cells (xs.map enc ++ sp).toArray e (0, 0)
section
variable {P : Program} {r : Option Nat} {f : FuncId} {R : Value → World → Prop} {w0 : World} {S : List Nat} {Y : List (Nat × Obj)} {n : Nat} {k : List Item} {l : Fl} {h : Hl}
variable {ops : Array Oper} {i d : Nat} {rest : List Nat} {ty : TypeId} {pos : String} {aft : Array Edge} {g : Option (Nat × Bool)}
theorem idxS_run {t e : TypeId} (hu : P.underlying t = some (.slice e)) {sz : Nat} (he : ∀ w, (sizeOf e).run P w = .ok sz w) (b o m cap : Nat) (kd : IntKind) (j : Nat) (hj : j < m) (w' : World) :
    (Instr.indexAt t (.slice (some ⟨b, o, none⟩) m cap) (.int kd j)).run P w' = .ok (.pointer (some ⟨b, o + j * sz, none⟩)) w' := by
  simp only [Instr.indexAt, asIntOf, Sem.run_bind, Sem.run_pure, Result.andThen_ok, run_underlying hu]
  rw [if_pos ⟨by omega, by omega⟩]
  simp only [Sem.run_bind, he, Result.andThen_ok, Sem.run_pure, Addr.add, Int.toNat_natCast]
  split
  · rename_i h0; rw [h0]; rfl
  · rfl
/-- the address of an element of a slice whose block is known -/
theorem Vop.idxS {t e : TypeId} {x y : Operand} {b o m cap : Nat} {kd : IntKind} {j : Int} (ho : ops[i]? = some ⟨some d, .indexAddr t x y, ty, pos, aft, g⟩) (hw : wantL ops l g = true)
    (hx : opd l x = some (.slice (some ⟨b, o, none⟩) m cap)) (hy : opd l y = some (.int kd j)) (hd : Nat.blt d n = true) (hu : P.underlying t = some (.slice e)) {sz : Nat} (he : ∀ w, (sizeOf e).run P w = .ok sz w)
    (j' : Nat) (hj : j = j' ∧ j' < m) : Vop P w0 S n h ops i l d (.pointer (some ⟨b, o + j' * sz, none⟩)) := by
  obtain ⟨rfl, hlt⟩ := hj
  exact .of ho hw rfl rfl hd (fun t w Ds _ hF _ => ⟨.value (.pointer (some ⟨b, o + j' * sz, none⟩)), by
    simp only [execOp, hF.opd hx, hF.opd hy, Sem.run_bind, idxS_run hu he b o m cap kd j' hlt w]; rfl, rfl⟩)
theorem ob_get {α : Type} {enc : α → Value} {xs : List α} {sp : List Value} {q : Nat} (hq : q < xs.length) : (xs.map enc ++ sp).toArray[0 + q * 1]? = some (enc xs[q]) := by
  rw [Nat.zero_add, Nat.mul_one]
  simp [List.getElem?_append, hq]
/-- an element of a block of one's own -/
theorem Vop.ldE {α : Type} (enc : α → Value) (dflt : α) {t : TypeId} {x : Operand} {b q : Nat} {xs : List α} {sp : List Value} {e : TypeId} (ho : ops[i]? = some ⟨some d, .load t x, ty, pos, aft, g⟩) (hw : wantL ops l g = true)
    (hx : opd l x = some (.pointer (some ⟨b, 0 + q * 1, none⟩))) (hd : Nat.blt d n = true) (ha : ∀ w, (isAgg t).run P w = .ok false w) (j : Nat) (hj : h[j]? = some (some b, ob enc e xs sp)) (hq : q < xs.length) :
    Vop P w0 S n h ops i l d (enc (xs.getD q dflt)) :=
  Vop.ldo ho hw hx hd ha j hj (by rw [ob_get hq]; simp [List.getD_eq_getElem?_getD, hq])
/-- a store into an element of a block of one's own -/
theorem GoH.stE {α : Type} (enc : α → Value) (v : α) {t : TypeId} {x y : Operand} {b q : Nat} {xs : List α} {sp : List Value} {e : TypeId} (ho : ops[i]? = some ⟨none, .store t x y, ty, pos, aft, g⟩) (hw : wantL ops l g = true)
    (hx : opd l x = some (.pointer (some ⟨b, 0 + q * 1, none⟩))) (hy : opd l y = some (enc v)) (hz : ∀ w, (sizeOf t).run P w = .ok 1 w) (hv : (enc v).oneCell' = true) (j : Nat) (hj : h[j]? = some (some b, ob enc e xs sp)) (hq : q < xs.length)
    (hk : GoH P r f R w0 S Y n (.inRegion ops rest :: k) l (h.set j (some b, ob enc e (xs.set q v) sp))) : GoH P r f R w0 S Y n (.inRegion ops (i :: rest) :: k) l h := by
  refine GoH.st ho hw hx hy hz hv j hj (by rw [Nat.blt_eq]; simp; omega) ?_
  have : ((xs.map enc ++ sp).toArray.setIfInBounds (0 + q * 1) (enc v)) = ((xs.set q v).map enc ++ sp).toArray := by
    rw [Nat.zero_add, Nat.mul_one, List.map_set]
    have hq2 : q < (xs.map enc).length := by simpa using hq
    simp [List.set_append_left _ _ hq2]
  rw [this]; exact hk
end
theorem St.fresh {w0 w : World} {h : Hl} {Y : List (Nat × Obj)} (s : St w0 [] w h Y) {j b : Nat} {o : Obj} (hj : h[j]? = some (some b, o)) : w0.heap.size ≤ b := by
  rcases (s.own _ (List.mem_of_getElem? hj) b rfl).2.2 with h1 | h1
  · exact h1
  · cases h1
section
variable {P : Program} {r : Option Nat} {f : FuncId} {R : Value → World → Prop} {w0 : World} {S : List Nat} {Y : List (Nat × Obj)} {n : Nat} {k : List Item} {l : Fl} {h : Hl}
variable {ops : Array Oper} {i d : Nat} {rest : List Nat} {ty : TypeId} {pos : String} {aft : Array Edge} {g : Option (Nat × Bool)}
/-- make([]T, m): m zero elements -/
theorem GoH.mkE {α : Type} (enc : α → Value) (z : α) {t e : TypeId} {x y : Operand} {kx ky : IntKind} {m : Nat} {inf : TypeInfo} (ho : ops[i]? = some ⟨some d, .makeSlice t x y, ty, pos, aft, g⟩) (hw : wantL ops l g = true) (hx : opd l x = some (.int kx m)) (hy : opd l y = some (.int ky m)) (hd : Nat.blt d n = true)
    (hu : P.underlying t = some (.slice e)) (hi : P.info? e = some inf) (hz : inf.zero = some (enc z)) (hz1 : (enc z).cells = #[enc z]) (hs : inf.size = 1) (hb : inf.bytes * m ≤ 281474976710656) (hm : m ≤ maxLen)
    (hk : ∀ b, GoH P r f R w0 S Y n (.inRegion ops rest :: k) ((d, .slice (some ⟨b, 0, none⟩) m m) :: l) ((some b, ob enc e (List.replicate m z) []) :: h)) : GoH P r f R w0 S Y n (.inRegion ops (i :: rest) :: k) l h :=
  .mks ho hw hx hy hd hu hi hz hz1 hs hb hm (fun b => by
    have := hk b
    simp only [ob, List.map_replicate] at this
    exact this)
/-- append(out, x ..) of elements of one cell -/
theorem GoH.appE {α : Type} (enc : α → Value) {t e : TypeId} {x y : Operand} {inf : TypeInfo} {z : Value} {q : Option Nat} {xs : List α} {sp : List Value} {cap : Nat} {bn m c : Nat} {news : List α} {spn : List Value} {en : TypeId}
    (ho : ops[i]? = some ⟨some d, .call ⟨.builtin .append, #[x, y], #[t, t]⟩, ty, pos, aft, g⟩) (hw : wantL ops l g = true) (hx : opd l x = some (osv q xs.length cap)) (hy : opd l y = some (.slice (some ⟨bn, 0, none⟩) m c)) (hd : Nat.blt d n = true)
    (hu : P.underlying t = some (.slice e)) (hi : P.info? e = some inf) (hz : inf.zero = some z) (hsz : inf.size = 1) (hz1 : z.cells.size = 1)
    (hq : q = none → xs.length = 0 ∧ cap = 0) (j : Nat) (hj : h[j]? = some (q, ob enc e xs sp)) (jn : Nat) (hjn : h[jn]? = some (some bn, ob enc en news spn))
    (hcap : (xs.map enc ++ sp).length = cap) (hl : news.length = m) (hm0 : 0 < m) (h1 : ∀ u, (enc u).oneCell' = true) (hmx : xs.length + m ≤ maxLen) (hbytes : (xs.length + m) * inf.bytes ≤ 140737488355328)
    (hk : ∀ b' sp' cap', ((xs ++ news).map enc ++ sp').length = cap' → GoH P r f R w0 S Y n (.inRegion ops rest :: k) ((d, osv (some b') (xs ++ news).length cap') :: l) (h.set j (some b', ob enc e (xs ++ news) sp'))) : GoH P r f R w0 S Y n (.inRegion ops (i :: rest) :: k) l h := by
  refine .app 1 ho hw hx hy hd hu hi hz hsz hz1 hq j hj jn hjn (by simp) (by rw [hcap, Nat.mul_one]) (by simp [hl]) hm0 (fun u hu => ?_) hmx hbytes (fun b' sp' cap' hlen => ?_)
  · obtain ⟨a, _, rfl⟩ := List.mem_map.1 hu; exact h1 a
  · have e1 : xs.map enc ++ news.map enc = (xs ++ news).map enc := by simp
    have e2 : xs.length + m = (xs ++ news).length := by simp [hl]
    rw [e1, e2]
    exact hk b' sp' cap' (by rw [← e1, hlen, Nat.mul_one])
end
section
variable {P : Program} {r : Option Nat} {f : FuncId} {R : Value → World → Prop} {w0 : World} {S : List Nat} {Y : List (Nat × Obj)} {n : Nat} {k : List Item} {l : Fl} {h : Hl}
variable {ops : Array Oper} {i d : Nat} {rest : List Nat} {ty : TypeId} {pos : String} {aft : Array Edge} {g : Option (Nat × Bool)}
/-- append(out, xs...), xs read -/
theorem GoH.appS {α : Type} (enc : α → Value) {t e : TypeId} {x y : Operand} {inf : TypeInfo} {z : Value} {q : Option Nat} {xs : List α} {sp : List Value} {cap : Nat} {an : Option Addr} {m c : Nat} (news : List α)
    (ho : ops[i]? = some ⟨some d, .call ⟨.builtin .append, #[x, y], #[t, t]⟩, ty, pos, aft, g⟩) (hw : wantL ops l g = true) (hx : opd l x = some (osv q xs.length cap)) (hy : opd l y = some (.slice an m c)) (hd : Nat.blt d n = true)
    (hu : P.underlying t = some (.slice e)) (hi : P.info? e = some inf) (hz : inf.zero = some z) (hsz : inf.size = 1) (hz1 : z.cells.size = 1)
    (hq : q = none → xs.length = 0 ∧ cap = 0) (j : Nat) (hj : h[j]? = some (q, ob enc e xs sp)) (hsl : ∀ w Y', St w0 S w h Y' → Sl w an (news.map enc))
    (hcap : (xs.map enc ++ sp).length = cap) (hl : m = news.length) (hm0 : 0 < m) (h1 : ∀ u, (enc u).oneCell' = true) (hmx : xs.length + m ≤ maxLen) (hbytes : (xs.length + m) * inf.bytes ≤ 140737488355328)
    (hk : ∀ b' sp' cap', ((xs ++ news).map enc ++ sp').length = cap' → GoH P r f R w0 S Y n (.inRegion ops rest :: k) ((d, osv (some b') (xs ++ news).length cap') :: l) (h.set j (some b', ob enc e (xs ++ news) sp'))) : GoH P r f R w0 S Y n (.inRegion ops (i :: rest) :: k) l h :=
  .mem ho hw rfl rfl hd (fun t' w Ds Y' hF hS => by
    have hs := hsl w Y' hS
    obtain ⟨bn, o, rfl, _⟩ := hs.isSome (by simp; omega)
    have hnews : ∀ j u, (news.map enc)[j]? = some u → w.cell? ((⟨bn, o, none⟩ : Addr).add j) = some u := by
      intro j u hv
      have hjl := (List.getElem?_eq_some_iff.1 hv).1
      have e1 : (⟨bn, o, none⟩ : Addr).add j = adr (some ⟨bn, o, none⟩) j := by
        unfold Addr.add adr; split
        · rename_i h0; rw [h0]; rfl
        · rfl
      rw [e1, hs.cell j hjl]
      rw [List.getD_eq_getElem?_getD, hv]; rfl
    subst hl
    obtain ⟨b', sp', cap', w', hrun, hlen, hS'⟩ := app_run hu hi hz hsz hz1 hS (xs := xs.map enc) (nx := xs.length) (by simp) (by rw [hcap, Nat.mul_one]) hq hj (c := c) (m := news.length) (news := news.map enc) (by simp) hm0 hnews (fun u hu => by obtain ⟨a, _, rfl⟩ := List.mem_map.1 hu; exact h1 a) hmx hbytes ty
    have e2 : xs.map enc ++ news.map enc = (xs ++ news).map enc := by simp
    have e3 : xs.length + news.length = (xs ++ news).length := by simp
    rw [e2] at hlen hS'
    rw [e3] at hrun
    refine ⟨_, w', _, ?_, hS', hk b' sp' cap' (by rw [hlen, Nat.mul_one])⟩
    have e1 : (#[x, y] : Array Operand).map (Act.eval ⟨t', Ds.map mark⟩) = #[osv q xs.length cap, .slice (some ⟨bn, o, none⟩) news.length c] := by simp [hF.opd hx, hF.opd hy]
    simp only [execOp, resolve, e1, Sem.run_bind, Sem.run_pure, Result.andThen_ok, invoke, builtin, hrun])
/-- nothing is appended -/
theorem blt_app0 {t e : TypeId} {inf : TypeInfo} (hu : P.underlying t = some (.slice e)) (hi : P.info? e = some inf) {a b : Option Addr} {m cap c : Nat} (hm : m ≤ cap) : Blt P .append #[t, t] ty [.slice a m cap, .slice b 0 c] (.slice a m cap) := by
  intro cs w
  have hf : (Builtin.firstCells inf.size 0 (.slice b 0 c)).run P w = .ok #[] w := by
    cases b <;> simp [Builtin.firstCells, loadCells, loadCellsFrom]
  have hin : P.underlying t ≠ some (.int .i64) := by rw [hu]; simp
  simp only [builtin, Builtin.append_]
  cases a <;> simp [run_underlying hu, sizeOf, typeInfo, hi, Builtin.lenOf, hm, hf, storeCells]
/-- []T{}: a new block without elements -/
theorem GoH.bs0 {α : Type} (enc : α → Value) {t e : TypeId} {inf : TypeInfo} (ho : ops[i]? = some ⟨some d, .buildSlice t 0 #[], ty, pos, aft, g⟩) (hw : wantL ops l g = true) (hd : Nat.blt d n = true)
    (hu : P.underlying t = some (.slice e)) (hi : P.info? e = some inf)
    (hk : ∀ b, GoH P r f R w0 S Y n (.inRegion ops rest :: k) ((d, osv (some b) ([] : List α).length 0) :: l) ((some b, ob enc e [] []) :: h)) : GoH P r f R w0 S Y n (.inRegion ops (i :: rest) :: k) l h :=
  .mem ho hw rfl rfl hd (fun t' w Ds _ hF hS => ⟨.slice (some ⟨w.heap.size, 0, none⟩) 0 0, w.alloc (.cells #[] e), _, by
    simp [execOp, Instr.buildSlice, run_underlying hu, sizeOf, typeInfo, hi, Instr.fill, newRow]
    rw [show Array.range 0 = #[] from by decide]; simp, hS.alloc rfl, hk _⟩)
theorem bSlNil {t e : TypeId} (hu : P.underlying t = some (.slice e)) {a : Option Addr} {m c m' c' : Nat} : Bin P .eql t (.slice a m c) (.slice none m' c') (.bool a.isNone) := by
  intro x y w
  have h0 : eqGuard .eql t x y (.slice a m c) (.slice none m' c') = pure () := by unfold eqGuard; rfl
  rw [h0]
  have h1 : ∀ dd, (Op.equalIn (dd + 1) t (.slice a m c) (.slice none m' c')).run P w = .ok a.isNone w := by
    intro dd
    simp only [Op.equalIn, Sem.run_bind, run_underlying hu, Result.andThen_ok]
    cases a <;> rfl
  show (do pure (Value.bool (← Op.equal t (.slice a m c) (.slice none m' c'))) : Sem Value).run P w = _
  rw [Sem.run_bind, show (Op.equal t (.slice a m c) (.slice none m' c')).run P w = _ from h1 9999]; rfl
end
/-- the table of math/bits, as it lies in block 0 -/
def TabAt (g : Nat) (w : World) : Prop := g < w.heap.size ∧ ∀ i : Nat, i < 64 → w.cell? ⟨g, i, none⟩ = some (.int .u8 (dbtab.getD i 0))
theorem TabAt.ex {g : Nat} {w0 w : World} {S : List Nat} (h : TabAt g w0) (e : Ex S w0 w) (hS : g ∉ S := by simp) : TabAt g w :=
  ⟨Nat.lt_of_lt_of_le h.1 e.size, fun i hi => by rw [← h.2 i hi]; exact World.cell?_of_block (e.block g h.1 hS)⟩
theorem pts_drop {s0 s : W64} {i : Nat} (h : (pts s0).drop i = pts s) (hs : s ≠ 0#64) : (pts s0)[i]? = some (tz s) ∧ (pts s0).drop (i + 1) = pts (s &&& (s - 1#64)) := by
  rw [pts_cons hs] at h
  refine ⟨?_, ?_⟩
  · have := congrArg (fun l => l[0]?) h
    simpa using this
  · rw [← List.drop_drop, h]; rfl
theorem and_sub_lt {s : W64} (hs : s ≠ 0#64) : (s &&& (s - 1#64)).toNat < s.toNat := by
  have h1 : (s &&& (s - 1#64)).toNat ≤ (s - 1#64).toNat := by rw [BitVec.toNat_and]; exact Nat.and_le_right
  have h2 : s.toNat ≠ 0 := fun e => hs (BitVec.eq_of_toNat_eq (by simpa using e))
  have h3 : (s - 1#64).toNat < s.toNat := by rw [BitVec.toNat_sub]; have := s.isLt; simp; omega
  omega
end Go.Proofs.Wit
namespace Go.Proofs.Wit
open Go Go.RowKit
/-! plain facts on relations as lists of words -/
def allW (n : Nat) : W64 := if 64 ≤ n then 18446744073709551615#64 else (1#64 <<< n) - 1#64
def badW (n : Nat) (xs : List W64) (k : Nat) : Bool := xs.getD k 0#64 &&& ~~~ (allW n) != 0#64
def checkR (n : Int) (xs : List W64) : Int :=
  if n < 0 ∨ 64 < n then 2 else if (xs.length : Int) ≠ n then 3 else if anyTo (badW n.toNat xs) xs.length then 1 else 0
theorem mem_pts {s : W64} {i : Nat} : i ∈ pts s ↔ i < 64 ∧ s.getLsbD i = true := by simp [pts]
theorem allOnes_eq : (18446744073709551615#64 : W64) = BitVec.allOnes 64 := by decide
theorem allW_bit {n i : Nat} (hn : n ≤ 64) (hi : i < 64) : (allW n).getLsbD i = decide (i < n) := by
  unfold allW
  split
  · rw [allOnes_eq, BitVec.getLsbD_allOnes]; simp; omega
  · rename_i h
    have e1 : ((1#64 <<< n) - 1#64).toNat = 2 ^ n - 1 := by
      have hp : 2 ^ n < 2 ^ 64 := Nat.pow_lt_pow_right (by decide) (by omega)
      have h1 : 0 < 2 ^ n := Nat.pow_pos (by decide)
      rw [BitVec.toNat_sub, BitVec.toNat_shiftLeft, Nat.shiftLeft_eq]
      simp only [BitVec.toNat_ofNat]
      rw [show 1 % 2 ^ 64 = 1 from by decide, Nat.one_mul, Nat.mod_eq_of_lt hp]
      omega
    rw [BitVec.getLsbD, e1, Nat.testBit_two_pow_sub_one]
theorem bit_lt {s : W64} {i : Nat} (h : s.getLsbD i = true) : i < 64 := by
  rcases Nat.lt_or_ge i 64 with h1 | h1
  · exact h1
  · rw [BitVec.getLsbD_of_ge _ _ h1] at h; cases h
theorem eq_of_bits {s t : W64} (h : ∀ i, i < 64 → s.getLsbD i = t.getLsbD i) : s = t := BitVec.eq_of_getLsbD_eq (fun i hi => h i hi)
theorem andNot_zero {s t : W64} : s &&& ~~~t = 0#64 ↔ ∀ i, s.getLsbD i = true → t.getLsbD i = true := by
  constructor
  · intro h i hi
    have h1 := congrArg (fun x => BitVec.getLsbD x i) h
    have hl := bit_lt hi
    simp only [BitVec.getLsbD_and, BitVec.getLsbD_not, hi, hl] at h1
    simpa using h1
  · intro h
    refine eq_of_bits (fun i hi => ?_)
    rw [BitVec.getLsbD_and, BitVec.getLsbD_not]
    cases hs : s.getLsbD i with
    | false => simp
    | true => simp [hi, h i hs]
/-- v is a successor of w -/
def Rl (r : List W64) (w v : Nat) : Prop := (r.getD w 0#64).getLsbD v = true
/-- a valid relation -/
structure Val (r : List W64) : Prop where
  len : r.length ≤ 64
  lt : ∀ w v, Rl r w v → v < r.length
theorem Rl.dom {r : List W64} {w v : Nat} (h : Rl r w v) : w < r.length := by
  rcases Nat.lt_or_ge w r.length with h1 | h1
  · exact h1
  · unfold Rl at h; simp [List.getD_eq_getElem?_getD, List.getElem?_eq_none h1] at h
theorem badW_iff {n : Nat} {xs : List W64} {k : Nat} (hn : n ≤ 64) : badW n xs k = false ↔ ∀ i, (xs.getD k 0#64).getLsbD i = true → i < n := by
  unfold badW
  rw [bne_eq_false_iff_eq, andNot_zero]
  constructor
  · intro h i hi; have := h i hi; rw [allW_bit hn (bit_lt hi)] at this; simpa using this
  · intro h i hi; rw [allW_bit hn (bit_lt hi)]; simpa using h i hi
theorem check_zero {r : List W64} : checkR r.length r = 0 ↔ Val r := by
  unfold checkR
  constructor
  · intro h
    split at h
    · cases h
    · rename_i h1
      have hn : r.length ≤ 64 := by omega
      simp only [ne_eq, not_true_eq_false, if_false, Int.toNat_natCast] at h
      split at h
      · cases h
      · rename_i h2
        have h2 : anyTo (badW r.length r) r.length = false := by simpa using h2
        refine ⟨hn, fun w v hwv => ?_⟩
        exact (badW_iff hn).1 (anyTo_false.1 h2 w hwv.dom) v hwv
  · intro hv
    rw [if_neg (by have := hv.len; omega), if_neg (by simp), Int.toNat_natCast, if_neg]
    rw [anyTo_false.2 (fun k hk => (badW_iff hv.len).2 (fun i hi => hv.lt k i hi))]; simp
theorem Val.pts {r : List W64} (h : Val r) (w : Nat) : ∀ i ∈ pts (r.getD w 0#64), i < r.length := fun i hi => h.lt w i (mem_pts.1 hi).2
/-- the union of the successors of the points of a set -/
def mapR (r : List W64) (s : W64) : W64 := (pts s).foldl (fun o w => o ||| r.getD w 0#64) 0#64
theorem foldl_or_bit (r : List W64) (v : Nat) : ∀ (l : List Nat) (o : W64), (l.foldl (fun o w => o ||| r.getD w 0#64) o).getLsbD v = (o.getLsbD v || l.any (fun w => (r.getD w 0#64).getLsbD v))
  | [], o => by simp
  | w :: l, o => by rw [List.foldl_cons, foldl_or_bit r v l, BitVec.getLsbD_or, List.any_cons, Bool.or_assoc]
theorem mapR_bit {r : List W64} {s : W64} {v : Nat} : (mapR r s).getLsbD v = true ↔ ∃ w, s.getLsbD w = true ∧ Rl r w v := by
  rw [mapR, foldl_or_bit]
  simp only [BitVec.getLsbD_zero, Bool.false_or, List.any_eq_true]
  constructor
  · rintro ⟨w, hw, h⟩; exact ⟨w, (mem_pts.1 hw).2, h⟩
  · rintro ⟨w, hw, h⟩; exact ⟨w, mem_pts.2 ⟨bit_lt hw, hw⟩, h⟩
/-- the first k elements turned -/
def flm (g : Nat → W64 → W64) (xs : List W64) (k : Nat) : List W64 := xs.mapIdx (fun i x => if i < k then g i x else x)
theorem flm_length {g : Nat → W64 → W64} {xs : List W64} {k : Nat} : (flm g xs k).length = xs.length := by simp [flm]
theorem flm_zero {g : Nat → W64 → W64} {xs : List W64} : flm g xs 0 = xs := by
  apply List.ext_getElem? ; intro i; simp [flm]
theorem flm_get {g : Nat → W64 → W64} {xs : List W64} {k i : Nat} (hi : i < xs.length) : (flm g xs k).getD i 0#64 = if i < k then g i (xs.getD i 0#64) else xs.getD i 0#64 := by
  simp [flm, List.getD_eq_getElem?_getD, hi]
theorem flm_succ {g : Nat → W64 → W64} {xs : List W64} {k : Nat} (hk : k < xs.length) : (flm g xs k).set k (g k (xs.getD k 0#64)) = flm g xs (k + 1) := by
  apply List.ext_getElem?
  intro i
  rw [List.getElem?_set]
  simp only [flm, List.getElem?_mapIdx]
  split
  · rename_i e; subst e; simp [hk, List.getD_eq_getElem?_getD]
  · rename_i e
    cases hx : xs[i]? with
    | none => rfl
    | some x =>
      simp only [Option.map_some]
      by_cases h1 : i < k
      · rw [if_pos h1, if_pos (by omega)]
      · rw [if_neg h1, if_neg (by omega)]
/-- the reversed pairs -/
def revS (w : Nat) (s : W64) (out : List W64) : List W64 := (pts s).foldl (fun out v => out.set v (out.getD v 0#64 ||| 1#64 <<< w)) out
def revR (r : List W64) : List W64 := upTo (fun w out => revS w (r.getD w 0#64) out) (List.replicate r.length 0#64) r.length
end Go.Proofs.Wit
namespace Go.Proofs.Wit
end Go.Proofs.Wit
namespace Go.Proofs.Wit
open Go Go.RowKit
/-- the same size, and contained -/
structure Le (r s : List W64) : Prop where
  len : r.length = s.length
  sub : ∀ u v, Rl r u v → Rl s u v
/-- a step that grows a relation; F says of a relation that the step leaves it -/
structure GoodS (g : List W64 → List W64) (F : List W64 → Prop) : Prop where
  val : ∀ {l}, Val l → Val (g l)
  infl : ∀ {l}, Val l → Le l (g l)
  mono : ∀ {l m}, Val l → Val m → Le l m → Le (g l) (g m)
  fix : ∀ {l}, Val l → (g l = l ↔ F l)
/-- out is the least valid relation above r with F -/
structure Least (F : List W64 → Prop) (r out : List W64) : Prop where
  val : Val out
  le : Le r out
  has : F out
  least : ∀ c, Val c → Le r c → F c → Le out c
def tranR (l : List W64) : Prop := ∀ u v x, Rl l u v → Rl l v x → Rl l u x
def euclR (l : List W64) : Prop := ∀ u v x, Rl l u v → Rl l u x → Rl l v x
theorem shift_one_bit {w v : Nat} (hw : w < 64) : (1#64 <<< w).getLsbD v = true ↔ v = w := by
  rw [BitVec.getLsbD_shiftLeft, BitVec.getLsbD_one]
  simp only [Bool.and_eq_true, Bool.not_eq_true', decide_eq_true_eq, decide_eq_false_iff_not]
  omega
end Go.Proofs.Wit
namespace Go.Proofs.Wit
end Go.Proofs.Wit
namespace Go.Proofs.Wit
open Go Go.RowKit
/-! calls that turn one block of the caller's -/
/-- a callee that turns the block q at most -/
def CnT (P : Program) (gf : FuncId) (args : List Value) (w : World) (q : Option Nat) (Rc : Value → World → Prop) : Prop :=
  Calls P gf args.toArray w fun e w' => ∃ v, e = .returned v ∧ Ex q.toList w w' ∧ Rc v w'
section
variable {w0 w w' : World} {S : List Nat} {h : Hl} {Y : List (Nat × Obj)}
variable {P : Program} {f : FuncId} {R : Value → World → Prop} {r : Option Nat} {n : Nat} {k : List Item} {l : Fl} {fn : Func}
variable {ops : Array Oper} {i d : Nat} {rest : List Nat} {ty : TypeId} {pos : String} {aft : Array Edge} {g : Option (Nat × Bool)}
end
end Go.Proofs.Wit
namespace Go.Proofs.Wit
open Go Go.RowKit
section
variable {P : Program} {r : Option Nat} {f : FuncId} {R : Value → World → Prop} {w0 : World} {S : List Nat} {Y : List (Nat × Obj)} {n : Nat} {k : List Item} {l : Fl} {h : Hl}
variable {ops : Array Oper} {i d : Nat} {rest : List Nat} {ty : TypeId} {pos : String} {aft : Array Edge} {g : Option (Nat × Bool)}
end
end Go.Proofs.Wit
namespace Go.Proofs.Wit
open Go Go.RowKit
/-- a nil slice's entry -/
theorem GoH.addNone {P : Program} {r : Option Nat} {f : FuncId} {R : Value → World → Prop} {w0 : World} {S : List Nat} {Y : List (Nat × Obj)} {n : Nat} {k : List Item} {l : Fl} {h : Hl} (o : Obj)
    (hg : GoH P r f R w0 S Y n k l ((none, o) :: h)) : GoH P r f R w0 S Y n k l h := fun t w Ds hF hS => hg t w Ds hF (hS.none o)
end Go.Proofs.Wit
namespace Go.Proofs.Wit
open Go Go.RowKit
section
variable {P : Program} {r : Option Nat} {f : FuncId} {R : Value → World → Prop} {w0 : World} {S : List Nat} {Y : List (Nat × Obj)} {n : Nat} {k : List Item} {l : Fl} {h : Hl}
variable {ops : Array Oper} {i d : Nat} {rest : List Nat} {ty : TypeId} {pos : String} {aft : Array Edge} {g : Option (Nat × Bool)}
end
section
variable {P : Program} {t : TypeId} {a b : Int} {x y : W64} {v : Bool}
theorem bEqV {k : IntKind} (e : (a == b) = v) : Bin P .eql t (.int k a) (.int k b) (.bool v) := e ▸ bEq
theorem bNeV {k : IntKind} (e : (a != b) = v) : Bin P .neq t (.int k a) (.int k b) (.bool v) := e ▸ bNe
theorem bLtV {k : IntKind} (e : decide (a < b) = v) : Bin P .lss t (.int k a) (.int k b) (.bool v) := e ▸ bLt
theorem bGtV {k : IntKind} (e : decide (a > b) = v) : Bin P .gtr t (.int k a) (.int k b) (.bool v) := e ▸ bGt
end
end Go.Proofs.Wit
namespace Go.Proofs.Wit
open Go Go.RowKit
/-! plain facts on shortest paths -/
/-- the points from which k steps lead to a point of t -/
def near (r : List W64) (t : W64) : Nat → W64
  | 0 => t
  | k + 1 => mapR (revR r) (near r t k)
structure Short (r : List W64) (f t : W64) (k : Nat) : Prop where
  one : 1 ≤ k
  ne : f &&& near r t k ≠ 0#64
  least : ∀ j, 1 ≤ j → j < k → f &&& near r t j = 0#64
section
variable {r : List W64} {t : W64}
end
theorem countP_lt {α : Type} {p q : α → Bool} : ∀ {l : List α}, (∀ x ∈ l, p x = true → q x = true) → (∃ x ∈ l, q x = true ∧ p x = false) → l.countP p < l.countP q
  | [], _, ⟨_, h, _⟩ => by cases h
  | a :: l, h, ⟨x, hx, h1, h2⟩ => by
    have hle : l.countP p ≤ l.countP q := List.countP_mono_left (fun y hy => h y (List.mem_cons_of_mem _ hy))
    rw [List.countP_cons, List.countP_cons]
    rcases List.mem_cons.1 hx with rfl | hx
    · rw [h1, h2]; simp; omega
    · have := countP_lt (fun y hy => h y (List.mem_cons_of_mem _ hy)) ⟨x, hx, h1, h2⟩
      have h3 := h a (List.mem_cons_self ..)
      cases hp : p a with
      | false => simp; split <;> omega
      | true => rw [h3 hp]; omega
end Go.Proofs.Wit
namespace Go.Proofs.Wit
open Go Go.RowKit
/-! blocks of a callee's, many at once; lists of lists; models -/
/-- blocks that are new since w, as they lie in w' -/
structure NewH (w w' : World) (H : Hl) : Prop where
  own : ∀ p ∈ H, ∀ b, p.1 = some b → w'.heap[b]? = some p.2 ∧ isSys p.2 = false ∧ w.heap.size ≤ b
  apart : H.Pairwise apartH
theorem NewH.of {w w' : World} {h : Hl} {Y : List (Nat × Obj)} (s : St w [] w' h Y) : NewH w w' h :=
  ⟨fun p hp b hb => by
    obtain ⟨h1, h2, h3⟩ := s.own p hp b hb
    exact ⟨h1, h2, h3.resolve_right (by simp)⟩, s.apart⟩
theorem NewH.sub {w w' : World} {H H' : Hl} (g : NewH w w' H) (hs : H'.Sublist H) : NewH w w' H' := ⟨fun p hp => g.own p (hs.subset hp), g.apart.sublist hs⟩
theorem St.gainL {w0 w w' : World} {S : List Nat} {h : Hl} {Y : List (Nat × Obj)} (s : St w0 S w h Y) (e : Ex [] w w') {H : Hl} (g : NewH w w' H) : St w0 S w' (H ++ h) Y := by
  have s' := s.later e
  refine ⟨s'.ext, fun p hp b hb => ?_, List.pairwise_append.2 ⟨g.apart, s.apart, fun p hp q hq b hb hqb => ?_⟩, s'.sys, s'.ynd⟩
  · rcases List.mem_append.1 hp with hp | hp
    · obtain ⟨h1, h2, h3⟩ := g.own p hp b hb
      exact ⟨h1, h2, .inl (Nat.le_trans s.ext.size h3)⟩
    · exact s'.own p hp b hb
  · have h1 := (g.own p hp b hb).2.2
    have h2 := (Array.getElem?_eq_some_iff.1 (s.own q hq b hqb).1).1
    omega
theorem St.pickT {w0 w : World} {S : List Nat} {pre pre' HR : Hl} {Y : List (Nat × Obj)} (s : St w0 S w (pre ++ HR) Y) (is : List Nat) (hn : is.Nodup) (e : is.map (fun i => pre[i]?) = pre'.map some) : St w0 S w (pre' ++ HR) Y := by
  have hlen : is.length = pre'.length := by have := congrArg List.length e; simpa using this
  have hat : ∀ j (hj : j < pre'.length), ∃ i, is[j]? = some i ∧ pre[i]? = some pre'[j] := fun j hj => by
    have h1 := congrArg (fun l => l[j]?) e
    have hj2 : j < is.length := by omega
    simp only [List.getElem?_map, List.getElem?_eq_getElem hj, List.getElem?_eq_getElem hj2, Option.map_some, Option.some.injEq] at h1
    exact ⟨is[j], List.getElem?_eq_getElem hj2, h1⟩
  have hmem : ∀ p ∈ pre', p ∈ pre := fun p hp => by
    obtain ⟨j, hj, rfl⟩ := List.mem_iff_getElem.1 hp
    obtain ⟨i, _, h2⟩ := hat j hj
    exact List.mem_of_getElem? h2
  have hap := List.pairwise_append.1 s.apart
  refine ⟨s.ext, fun p hp => ?_, List.pairwise_append.2 ⟨?_, hap.2.1, fun p hp q hq => hap.2.2 p (hmem p hp) q hq⟩, s.sys, s.ynd⟩
  · rcases List.mem_append.1 hp with hp | hp
    · exact s.own p (List.mem_append_left _ (hmem p hp))
    · exact s.own p (List.mem_append_right _ hp)
  · rw [List.pairwise_iff_getElem]
    intro j j' hj hj' hlt
    obtain ⟨i, h1, h2⟩ := hat j hj
    obtain ⟨i', h1', h2'⟩ := hat j' hj'
    have hne : i ≠ i' := by
      rintro rfl
      obtain ⟨a1, a2⟩ := List.getElem?_eq_some_iff.1 h1
      obtain ⟨b1, b2⟩ := List.getElem?_eq_some_iff.1 h1'
      have := (List.nodup_iff_pairwise_ne.1 hn)
      exact absurd (a2.trans b2.symm) (List.pairwise_iff_getElem.1 this j j' a1 b1 hlt)
    obtain ⟨a1, a2⟩ := List.getElem?_eq_some_iff.1 h2
    obtain ⟨b1, b2⟩ := List.getElem?_eq_some_iff.1 h2'
    rw [← a2, ← b2]
    rcases Nat.lt_or_gt_of_ne hne with hx | hx
    · exact List.pairwise_iff_getElem.1 hap.1 i i' a1 b1 hx
    · exact apartH_symm (List.pairwise_iff_getElem.1 hap.1 i' i b1 a1 hx)
/-- other blocks of what is known, in another order -/
theorem GoH.pickT {P : Program} {r : Option Nat} {f : FuncId} {R : Value → World → Prop} {w0 : World} {S : List Nat} {Y : List (Nat × Obj)} {n : Nat} {k : List Item} {l : Fl} {pre pre' : Hl} (HR : Hl) (is : List Nat) (hn : is.Nodup) (e : is.map (fun i => pre[i]?) = pre'.map some)
    (hg : GoH P r f R w0 S Y n k l (pre' ++ HR)) : GoH P r f R w0 S Y n k l (pre ++ HR) := fun t w Ds hF hS => hg t w Ds hF (hS.pickT is hn e)
theorem GoH.pick {P : Program} {r : Option Nat} {f : FuncId} {R : Value → World → Prop} {w0 : World} {S : List Nat} {Y : List (Nat × Obj)} {n : Nat} {k : List Item} {l : Fl} {pre pre' : Hl} (is : List Nat) (hn : is.Nodup) (e : is.map (fun i => pre[i]?) = pre'.map some)
    (hg : GoH P r f R w0 S Y n k l pre') : GoH P r f R w0 S Y n k l pre := by
  have := GoH.pickT (pre := pre) (pre' := pre') [] is hn e (by rw [List.append_nil]; exact hg)
  rwa [List.append_nil] at this
/-- a list that lies in one of the blocks of H -/
def InS {α : Type} (enc : α → Value) (H : Hl) (a : Option Addr) (xs : List α) : Prop :=
  xs = [] ∨ ∃ b e sp, a = some ⟨b, 0, none⟩ ∧ (some b, ob enc e xs sp) ∈ H
theorem InS.sl {α : Type} {enc : α → Value} {w0 w : World} {S : List Nat} {h : Hl} {Y : List (Nat × Obj)} {a : Option Addr} {xs : List α} (g : InS enc h a xs) (s : St w0 S w h Y) : Sl w a (xs.map enc) := by
  rcases g with rfl | ⟨b, e, sp, rfl, hm⟩
  · exact Sl.nil _ _
  · exact Sl.blk (s.own _ hm b rfl).1
theorem InS.at {α : Type} {enc : α → Value} {H : Hl} {q : Option Nat} {xs : List α} {e : TypeId} {sp : List Value} (hq : q = none → xs.length = 0) (hm : (q, ob enc e xs sp) ∈ H) : InS enc H (q.map (fun b => ⟨b, 0, none⟩)) xs := by
  cases q with
  | none => exact .inl (List.eq_nil_of_length_eq_zero (hq rfl))
  | some b => exact .inr ⟨b, e, sp, rfl, hm⟩
/-- a list of words as an element of a list: where it lies, its capacity, its words -/
structure Row where
  a : Option Addr
  cap : Nat
  xs : List W64
def Row.v (r : Row) : Value := .slice r.a r.xs.length r.cap
/-- a list of words in memory -/
structure Row.At (r : Row) (w : World) : Prop where
  at_ : SlU w r.a r.xs
  len : r.xs.length ≤ maxLen
  cap : r.xs.length ≤ r.cap
/-- a model: its three fields, and where its lists lie -/
structure MV where
  n : Int
  ra : Option Addr
  rc : Nat
  rows : List Row
  va : Option Addr
  vc : Nat
  val : List W64
abbrev MV.cs (m : MV) : Array Value := #[.int .i64 m.n, .slice m.va m.val.length m.vc, .slice m.ra m.rows.length m.rc]
def MV.v (m : MV) : Value := .agg #[.int .i64 m.n, .slice m.va m.val.length m.vc, .slice m.ra m.rows.length m.rc]
def MV.rel (m : MV) : List (List W64) := m.rows.map Row.xs
def SlR (w : World) (a : Option Addr) (rs : List Row) : Prop := Sl w a (rs.map Row.v)
structure MV.At (m : MV) (w : World) : Prop where
  rel : SlR w m.ra m.rows
  row : ∀ r ∈ m.rows, r.At w
  val : SlU w m.va m.val
  lr : m.rows.length ≤ maxLen
  lv : m.val.length ≤ maxLen
  cr : m.rows.length ≤ m.rc
  cv : m.val.length ≤ m.vc
theorem SlR.ex0 {w0 w : World} {a : Option Addr} {xs : List Row} (h : SlR w0 a xs) {S : List Nat} (e : Ex S w0 w) (hS : ∀ b o, a = some ⟨b, o, none⟩ → b ∉ S := by simp) : SlR w a xs := Sl.ex h e hS
theorem Sl.at {α : Type} {enc : α → Value} {w : World} {a : Option Addr} {xs : List α} (h : Sl w a (xs.map enc)) (k : Nat) (hk : k < xs.length) : w.cell? (adr a k) = some (enc xs[k]) := by
  rw [Sl.cell h k (by simpa using hk)]
  simp [List.getD_eq_getElem?_getD, hk]
theorem Ex.keep {w w' : World} (e : Ex [] w w') {b : Nat} {o : Obj} (h : w.heap[b]? = some o) : w'.heap[b]? = some o := by
  rw [e.block b (Array.getElem?_eq_some_iff.1 h).1 (by simp)]; exact h
theorem Ex.cell {w w' : World} (e : Ex [] w w') {b j : Nat} {cs : Array Value} {t : TypeId} {fr : Nat × Nat} {v : Value} (h : w.heap[b]? = some (.cells cs t fr)) (hv : cs[j]? = some v) : w'.cell? ⟨b, j, none⟩ = some v := by
  rw [cell_of_row w' b j cs t fr (e.keep h), hv]
/-- ints -/
abbrev I64 : Int → Value := Value.int .i64
def SlI (w : World) (a : Option Addr) (xs : List Int) : Prop := Sl w a (xs.map I64)
theorem SlI.ex0 {w0 w : World} {a : Option Addr} {xs : List Int} (h : SlI w0 a xs) {S : List Nat} (e : Ex S w0 w) (hS : ∀ b o, a = some ⟨b, o, none⟩ → b ∉ S := by simp) : SlI w a xs := Sl.ex h e hS
theorem SlI.at {w : World} {a : Option Addr} {xs : List Int} (h : SlI w a xs) (k : Nat) (hk : k < xs.length) : w.cell? (adr a k) = some (.int .i64 xs[k]) := Sl.at h k hk
/-- a list in a block of one's own, or nil -/
def OwnS {α : Type} (enc : α → Value) (e : TypeId) (w w' : World) (v : Value) (xs : List α) : Prop :=
  ∃ q cap sp, v = osv q xs.length cap ∧ (q = none → xs.length = 0 ∧ cap = 0) ∧ (xs.map enc ++ sp).length = cap ∧ ∀ b, q = some b → w.heap.size ≤ b ∧ w'.heap[b]? = some (ob enc e xs sp)
theorem gainS {α : Type} {enc : α → Value} {t : TypeId} {w0 w w' : World} {S : List Nat} {h : Hl} {Y : List (Nat × Obj)} (s : St w0 S w h Y) (e : Ex [] w w') {v : Value} {xs : List α} (ho : OwnS enc t w w' v xs) :
    ∃ q cap sp, v = osv q xs.length cap ∧ (q = none → xs.length = 0 ∧ cap = 0) ∧ (xs.map enc ++ sp).length = cap ∧ St w0 S w' ((q, ob enc t xs sp) :: h) Y := by
  obtain ⟨q, cap, sp, h1, h2, h3, h4⟩ := ho
  refine ⟨q, cap, sp, h1, h2, h3, ?_⟩
  cases q with
  | none => exact (s.later e).none _
  | some b => exact s.gain e (h4 b rfl).2 rfl (h4 b rfl).1
theorem OwnS.mk {α : Type} {enc : α → Value} {t : TypeId} {w0 w : World} {h : Hl} {Y : List (Nat × Obj)} (s : St w0 [] w h Y) (j : Nat) {q : Option Nat} {xs : List α} {sp : List Value} {cap m : Nat} (hj : h[j]? = some (q, ob enc t xs sp)) (hm : m = xs.length)
    (hq : q = none → xs.length = 0 ∧ cap = 0) (hcap : (xs.map enc ++ sp).length = cap) : OwnS enc t w0 w (osv q m cap) xs := by
  subst hm
  refine ⟨q, cap, sp, rfl, hq, hcap, fun b hb => ?_⟩
  subst hb
  exact ⟨s.fresh hj, s.get hj⟩
theorem sliAt {w0 w : World} {S : List Nat} {h : Hl} {Y : List (Nat × Obj)} (s : St w0 S w h Y) (j : Nat) {q : Option Nat} {xs : List Int} {e : TypeId} {sp : List Value} (hj : h[j]? = some (q, ob I64 e xs sp)) (hq : q = none → xs.length = 0) : SlI w (q.map (fun b => ⟨b, 0, none⟩)) xs := by
  cases q with
  | none => rw [List.eq_nil_of_length_eq_zero (hq rfl)]; exact Sl.nil _ _
  | some b => exact Sl.blk (s.get hj)
theorem SlR.at {w : World} {a : Option Addr} {xs : List Row} (h : SlR w a xs) (k : Nat) (hk : k < xs.length) : w.cell? (adr a k) = some xs[k].v := by
  rw [Sl.cell h k (by simpa using hk)]
  simp [List.getD_eq_getElem?_getD, hk]
theorem Row.At.ex0 {w0 w : World} {r : Row} (h : r.At w0) (e : Ex [] w0 w) : r.At w := ⟨h.at_.ex0 e, h.len, h.cap⟩
theorem MV.At.ex0 {w0 w : World} {m : MV} (h : m.At w0) (e : Ex [] w0 w) : m.At w := ⟨h.rel.ex0 e, fun r hr => (h.row r hr).ex0 e, h.val.ex0 e, h.lr, h.lv, h.cr, h.cv⟩
/-- a model that lies in the blocks of H -/
structure MV.In (m : MV) (H : Hl) : Prop where
  rel : InS Row.v H m.ra m.rows
  row : ∀ r ∈ m.rows, InS U H r.a r.xs ∧ r.xs.length ≤ maxLen ∧ r.xs.length ≤ r.cap
  val : InS U H m.va m.val
  lr : m.rows.length ≤ maxLen
  lv : m.val.length ≤ maxLen
  cr : m.rows.length ≤ m.rc
  cv : m.val.length ≤ m.vc
theorem MV.In.at {m : MV} {w0 w : World} {S : List Nat} {h : Hl} {Y : List (Nat × Obj)} (g : m.In h) (s : St w0 S w h Y) : m.At w :=
  ⟨g.rel.sl s, fun r hr => ⟨(g.row r hr).1.sl s, (g.row r hr).2.1, (g.row r hr).2.2⟩, g.val.sl s, g.lr, g.lv, g.cr, g.cv⟩
end Go.Proofs.Wit
namespace Go.Proofs.Wit
open Go Go.RowKit
/-- Box and Diamond, by their points -/
def diaU (r : List W64) (s : W64) (n : Nat) : W64 := upTo (fun w out => if (r.getD w 0#64 &&& s != 0#64) = true then out ||| 1#64 <<< w else out) 0#64 n
def boxU (r : List W64) (s : W64) (n : Nat) : W64 := upTo (fun w out => if (r.getD w 0#64 &&& ~~~s == 0#64) = true then out ||| 1#64 <<< w else out) 0#64 n
theorem upTo_ones {p : Nat → Bool} {n v : Nat} (hn : n ≤ 64) : (upTo (fun w (out : W64) => if p w = true then out ||| 1#64 <<< w else out) 0#64 n).getLsbD v = true ↔ v < n ∧ p v = true := by
  induction n with
  | zero => rw [upTo]; simp
  | succ n ih =>
    rw [upTo]
    by_cases h : p n = true
    · rw [if_pos h, BitVec.getLsbD_or, Bool.or_eq_true, ih (by omega), shift_one_bit (by omega)]
      constructor
      · rintro (⟨h1, h2⟩ | rfl)
        · exact ⟨by omega, h2⟩
        · exact ⟨by omega, h⟩
      · rintro ⟨h1, h2⟩
        by_cases e : v = n
        · exact .inr e
        · exact .inl ⟨by omega, h2⟩
    · rw [if_neg h, ih (by omega)]
      constructor
      · rintro ⟨h1, h2⟩; exact ⟨by omega, h2⟩
      · rintro ⟨h1, h2⟩
        refine ⟨?_, h2⟩
        rcases Nat.lt_succ_iff_lt_or_eq.1 h1 with h3 | rfl
        · exact h3
        · exact absurd h2 h
theorem boxU_bit {r : List W64} {s : W64} {v : Nat} (hv : Val r) : (boxU r s r.length).getLsbD v = true ↔ v < r.length ∧ ∀ u, Rl r v u → s.getLsbD u = true := by
  rw [boxU, upTo_ones hv.len, beq_iff_eq, andNot_zero]; rfl
theorem ne_zero_iff {s : W64} : s ≠ 0#64 ↔ ∃ i, s.getLsbD i = true := by
  constructor
  · intro h; exact ⟨tz s, (tz_spec h).2.1⟩
  · rintro ⟨i, hi⟩ rfl; simp at hi
theorem diaU_bit {r : List W64} {s : W64} {v : Nat} (hv : Val r) : (diaU r s r.length).getLsbD v = true ↔ ∃ u, Rl r v u ∧ s.getLsbD u = true := by
  rw [diaU, upTo_ones hv.len, bne_iff_ne, ne_zero_iff]
  simp only [BitVec.getLsbD_and, Bool.and_eq_true]
  constructor
  · rintro ⟨_, u, h1, h2⟩; exact ⟨u, h1, h2⟩
  · rintro ⟨u, h1, h2⟩; exact ⟨h1.dom, u, h1, h2⟩
theorem dia_eq {r : List W64} {s : W64} (hv : Val r) : allW r.length &&& ~~~ (boxU r (~~~s) r.length) = diaU r s r.length := by
  refine eq_of_bits (fun i hi => ?_)
  rw [Bool.eq_iff_iff, diaU_bit hv, BitVec.getLsbD_and, allW_bit hv.len hi, BitVec.getLsbD_not, Bool.and_eq_true, Bool.and_eq_true, decide_eq_true_eq, decide_eq_true_eq, Bool.not_eq_true', ← Bool.not_eq_true, boxU_bit hv]
  constructor
  · rintro ⟨h1, _, h2⟩
    apply Classical.byContradiction
    intro hn
    refine h2 ⟨h1, fun u hu => ?_⟩
    rw [BitVec.getLsbD_not, decide_eq_true (bit_lt hu), Bool.true_and, Bool.not_eq_true', ← Bool.not_eq_true]
    exact fun h3 => hn ⟨u, hu, h3⟩
  · rintro ⟨u, h1, h2⟩
    refine ⟨h1.dom, hi, fun h3 => ?_⟩
    have := h3.2 u h1
    rw [BitVec.getLsbD_not, h2] at this
    simp at this
end Go.Proofs.Wit
namespace Go.Proofs.Wit
/-- the reference's step at a pair -/
def pairAt (e : Bool) (w u : Nat) : Nat := if e = true then u else w
def pairSrc (e : Bool) (w u : Nat) : Nat := if e = true then w else u
def clG (e : Bool) (w u : Nat) (l : List W64) : Prop := Rl l w u → ∀ x, Rl l (pairSrc e w u) x → Rl l (pairAt e w u) x
def allG (e : Bool) (l : List W64) : Prop := if e = true then euclR l else tranR l
/-- what is known of the list in a pass of the reference -/
structure Pass (e : Bool) (r o0 out : List W64) (again : Bool) (k j : Nat) : Prop where
  val : Val out
  le : Le r out
  min : ∀ c, Val c → Le r c → allG e c → Le out c
  up : Le o0 out
  yes : again = true → o0 ≠ out
  no : again = false → out = o0 ∧ ∀ w u, (w < k ∨ (w = k ∧ u < j)) → clG e w u out
end Go.Proofs.Wit
namespace Go.Proofs.Wit
end Go.Proofs.Wit
namespace Go.Proofs.Wit
open Go Go.RowKit
/-! models and logics, plainly -/
def outB (n : Nat) (l : List W64) : Bool := l.any (fun s => s &&& ~~~ allW n != 0#64)
def checkM (n : Int) (val : List W64) (rel : List (List W64)) : Int :=
  if n < 1 ∨ 64 < n then 2 else if 4 < rel.length ∨ 8 < val.length then 8 else if rel.any (fun r => (r.length : Int) != n) then 3 else if outB n.toNat val || rel.any (outB n.toNat) then 2 else 0
theorem outB_false {n : Nat} {l : List W64} : outB n l = false ↔ ∀ s ∈ l, s &&& ~~~ allW n = 0#64 := by
  simp [outB]
/-- a model that Check lets pass -/
structure ValM (n : Int) (val : List W64) (rel : List (List W64)) : Prop where
  n1 : 1 ≤ n
  n64 : n ≤ 64
  agents : rel.length ≤ 4
  facts : val.length ≤ 8
  len : ∀ r ∈ rel, (r.length : Int) = n
  rels : ∀ r ∈ rel, Val r
  out : outB n.toNat val = false
theorem checkM_zero {n : Int} {val : List W64} {rel : List (List W64)} : checkM n val rel = 0 ↔ ValM n val rel := by
  unfold checkM
  constructor
  · intro h
    split at h
    · cases h
    split at h
    · cases h
    split at h
    · cases h
    split at h
    · cases h
    rename_i h1 h2 h3 h4
    simp only [Bool.not_eq_true, List.any_eq_false, bne_iff_ne, ne_eq, Decidable.not_not, Bool.or_eq_false_iff] at h3 h4
    have hlen : ∀ r ∈ rel, (r.length : Int) = n := fun r hr => h3 r hr
    refine ⟨by omega, by omega, by omega, by omega, hlen, fun r hr => ?_, h4.1⟩
    have e := hlen r hr
    have h5 := h4.2 r hr
    have h5 : outB n.toNat r = false := by simpa using h5
    rw [outB_false] at h5
    refine ⟨by omega, fun u v hv => ?_⟩
    have hd := hv.dom
    have h6 := andNot_zero.1 (h5 (r.getD u 0#64) (by simp [List.getD_eq_getElem?_getD, hd])) v hv
    rw [allW_bit (by omega) (bit_lt h6)] at h6
    have := of_decide_eq_true h6
    omega
  · intro h
    rw [if_neg (by have := h.n1; have := h.n64; omega), if_neg (by have := h.agents; have := h.facts; omega), if_neg ?_, if_neg ?_]
    · rw [Bool.or_eq_true, not_or]
      refine ⟨by rw [h.out]; simp, ?_⟩
      rw [Bool.not_eq_true, List.any_eq_false]
      intro r hr
      rw [Bool.not_eq_true, outB_false]
      intro s hs
      obtain ⟨i, hi, rfl⟩ := List.mem_iff_getElem.1 hs
      have e := h.len r hr
      have hv := h.rels r hr
      refine andNot_zero.2 (fun j hj => ?_)
      have h1 : Rl r i j := by unfold Rl; simpa [List.getD_eq_getElem?_getD, hi] using hj
      rw [allW_bit (by have := h.n64; omega) (bit_lt hj)]
      have := hv.lt _ _ h1
      exact decide_eq_true (by omega)
    · rw [Bool.not_eq_true, List.any_eq_false]
      intro r hr
      have := h.len r hr
      simpa using this
end Go.Proofs.Wit
namespace Go.Proofs.Wit
open Go Go.RowKit
end Go.Proofs.Wit
namespace Go.Proofs.Wit
open Go Go.RowKit
end Go.Proofs.Wit
namespace Go.Proofs.Wit
open Go Go.RowKit
end Go.Proofs.Wit
