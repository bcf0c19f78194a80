/- Contracts of functions of the program: what each call returns and that nothing else of memory is turned, under the conditions that each theorem states. -/
import Derived.Test.YtbjopkllkoomkaaDoorT7
import Derived.Test.YtbjopkllkoomkaaDoorWB
namespace Go.Proofs.YtbjopkllkoomkaaDoor
open Go.RowKit Go.Proofs.Wit

/-- a step function turns the list that it is given, by g -/
def StepC (gf : FuncId) (g : List W64 → List W64) : Prop :=
  ∀ (q : Option Nat) (cap : Nat) (xs : List W64) (sp : List Value) (w : World), Tab w → (∀ b, q = some b → gTab ≠ b) → Val xs → (q = none → xs.length = 0 ∧ cap = 0) → (∀ b, q = some b → w.heap[b]? = some (ob U 28 xs sp)) →
    CnT Tryd.prog gf [osv q xs.length cap] w q (fun _ w' => ∀ b, q = some b → w'.heap[b]? = some (ob U 28 (g xs) sp))

theorem reflexive1_c : StepC 94 (fun l => upTo reflS l l.length) := by
  intro q cap xs sp w hT hg hv hq hh
  have hTx : ∀ {w'}, Ex q.toList w w' → Tab w' := fun e => hT.ex e (by intro hm; simp at hm; exact hg _ hm rfl)
  have hlen := hv.len
  refine CnT.of Tryd.func94 rfl rfl (o := ob U 28 xs sp) rfl hh ?_
  refine GoH.seq ?_
  refine GoH.region ?_
  refine GoH.v (Vop.mv rfl rfl rfl rfl) ?_
  refine GoH.v (Vop.blt rfl rfl rfl (blt_len_slice Tryd.underlying22) rfl) ?_
  refine GoH.v (Vop.mv rfl rfl rfl rfl) ?_
  refine GoH.regionEnd ?_
  refine GoH.block ?_
  refine GoH.loop (σ := Nat) (fun k => [(0, osv q xs.length cap), (4, .int .i64 xs.length), (5, .int .i64 k)]) (fun k => [(q, ob U 28 (upTo reflS xs k) sp)])
    (fun k => k ≤ xs.length) (fun k => xs.length - k) 0 (Nat.zero_le _) ⟨rfl, rfl, rfl, trivial⟩ (List.Sublist.refl _) (fun k hk IH => ?_)
  -- heap: q
  refine GoH.seq ?_
  refine GoH.region ?_
  refine GoH.v (Vop.bin rfl rfl rfl rfl bLt rfl) ?_
  refine GoH.regionEnd ?_
  refine GoH.seq ?_
  refine GoH.cond rfl (fun hc => ?_) (fun hc => ?_)
  · -- yes
    have hlt : k < xs.length := by simpa using hc
    have hlt2 : k < (upTo reflS xs k).length := by rw [upTo_inv (fun _ (l : List W64) => l.length = xs.length) rfl (fun k a _ h => by rw [reflS, List.length_set]; exact h)]; exact hlt
    obtain ⟨bq, rfl⟩ : ∃ bq, q = some bq := by
      cases q with
      | none => have := (hq rfl).1; omega
      | some bq => exact ⟨bq, rfl⟩
    refine GoH.skip ?_
    refine GoH.seq ?_
    refine GoH.block ?_
    refine GoH.seq ?_
    refine GoH.region ?_
    refine GoH.v (Vop.mv rfl rfl rfl rfl) ?_
    refine GoH.v (Vop.asg rfl rfl rfl rfl) ?_
    refine GoH.regionEnd ?_
    refine GoH.draw 8 mixed rfl ?_
    refine RdGo.v (Vop.mv rfl rfl rfl rfl) ?_
    refine RdGo.v (Vop.mv rfl rfl rfl rfl) ?_
    refine RdGo.v (Vop.idxS rfl rfl rfl rfl rfl Tryd.underlying22 Tryd.sizeOf28 (k) ⟨rfl, hlt⟩) ?_
    refine RdGo.v (Vop.ldE U 0#64 rfl rfl rfl rfl Tryd.isAgg28 0 rfl hlt2) ?_
    refine RdGo.v (Vop.mv rfl rfl rfl rfl) ?_
    refine RdGo.v (Vop.bin (a := U 1#64) rfl rfl rfl rfl (bShl _ rfl) rfl) ?_
    refine RdGo.v (Vop.bin rfl rfl rfl rfl bOr rfl) ?_
    refine RdGo.v (Vop.idxS rfl rfl rfl rfl rfl Tryd.underlying22 Tryd.sizeOf28 (k) ⟨rfl, hlt⟩) ?_
    refine RdGo.nil ?_
    refine GoH.stE U _ rfl rfl rfl rfl Tryd.sizeOf28 rfl 0 rfl hlt2 ?_
    refine GoH.regionEnd ?_
    refine GoH.inBlock ?_
    refine GoH.region ?_
    refine GoH.v (Vop.bin rfl rfl rfl rfl (bAdd (by omega)) rfl) ?_
    refine GoH.v (Vop.mv rfl rfl rfl rfl) ?_
    refine GoH.regionEnd ?_
    exact IH (k + 1) _ _ hlt (by omega) ⟨rfl, rfl, rfl, trivial⟩ (List.Sublist.refl _)
  · -- no
    have hge : ¬ k < xs.length := by simpa using hc
    obtain rfl : k = xs.length := by omega
    refine GoH.exit rfl ?_
    refine GoH.fin Tryd.f94 Tryd.func94 rfl (fun w' hS => ?_)
    exact ⟨hS.ext, fun b hb => by subst hb; exact hS.get (j := 0) rfl⟩

theorem transitive1_c : StepC 95 (fun l => upTo tranS l l.length) := by
  intro q cap xs sp w hT hg hv hq hh
  have hTx : ∀ {w'}, Ex q.toList w w' → Tab w' := fun e => hT.ex e (by intro hm; simp at hm; exact hg _ hm rfl)
  have hlen := hv.len
  have hln : ∀ k, (upTo tranS xs k).length = xs.length := fun k => upTo_inv (n := k) (fun _ (l : List W64) => l.length = xs.length) rfl (fun k a _ h => by rw [tranS, List.length_set]; exact h)
  have hvk : ∀ k, Val (upTo tranS xs k) := fun k => (GoodS.upTo tranS_good k).val hv
  refine CnT.of Tryd.func95 rfl rfl (o := ob U 28 xs sp) rfl hh ?_
  refine GoH.seq ?_
  refine GoH.region ?_
  refine GoH.v (Vop.mv rfl rfl rfl rfl) ?_
  refine GoH.v (Vop.blt rfl rfl rfl (blt_len_slice Tryd.underlying22) rfl) ?_
  refine GoH.v (Vop.mv rfl rfl rfl rfl) ?_
  refine GoH.regionEnd ?_
  refine GoH.block ?_
  refine GoH.loop (σ := Nat) (fun k => [(0, osv q xs.length cap), (4, .int .i64 xs.length), (5, .int .i64 k)]) (fun k => [(q, ob U 28 (upTo tranS xs k) sp)])
    (fun k => k ≤ xs.length) (fun k => xs.length - k) 0 (Nat.zero_le _) ⟨rfl, rfl, rfl, trivial⟩ (List.Sublist.refl _) (fun k hk IH => ?_)
  -- heap: q
  refine GoH.seq ?_
  refine GoH.region ?_
  refine GoH.v (Vop.bin rfl rfl rfl rfl bLt rfl) ?_
  refine GoH.regionEnd ?_
  refine GoH.seq ?_
  refine GoH.cond rfl (fun hc => ?_) (fun hc => ?_)
  · -- yes
    have hlt : k < xs.length := by simpa using hc
    have hlt2 : k < (upTo tranS xs k).length := by rw [hln]; exact hlt
    obtain ⟨bq, rfl⟩ : ∃ bq, q = some bq := by
      cases q with
      | none => have := (hq rfl).1; omega
      | some bq => exact ⟨bq, rfl⟩
    refine GoH.skip ?_
    refine GoH.seq ?_
    refine GoH.block ?_
    refine GoH.seq ?_
    refine GoH.region ?_
    refine GoH.v (Vop.mv rfl rfl rfl rfl) ?_
    refine GoH.v (Vop.asg rfl rfl rfl rfl) ?_
    refine GoH.regionEnd ?_
    refine GoH.draw 12 mixed rfl ?_
    refine RdGo.v (Vop.mv rfl rfl rfl rfl) ?_
    refine RdGo.v (Vop.mv rfl rfl rfl rfl) ?_
    refine RdGo.v (Vop.idxS rfl rfl rfl rfl rfl Tryd.underlying22 Tryd.sizeOf28 (k) ⟨rfl, hlt⟩) ?_
    refine RdGo.v (Vop.ldE U 0#64 rfl rfl rfl rfl Tryd.isAgg28 0 rfl hlt2) ?_
    refine RdGo.v (Vop.mv rfl rfl rfl rfl) ?_
    refine RdGo.v (Vop.mv rfl rfl rfl rfl) ?_
    refine RdGo.v (Vop.mv rfl rfl rfl rfl) ?_
    refine RdGo.v (Vop.idxS rfl rfl rfl rfl rfl Tryd.underlying22 Tryd.sizeOf28 (k) ⟨rfl, hlt⟩) ?_
    refine RdGo.v (Vop.ldE U 0#64 rfl rfl rfl rfl Tryd.isAgg28 0 rfl hlt2) ?_
    refine RdGo.callP rfl rfl rfl rfl rfl (fun _ _ => Tryd.call45 _ _) (fun w _ hS => (hln k ▸ mapped_c (some ⟨bq, 0, none⟩) cap (upTo tranS xs k) _ w (hTx hS.ext) (sluAt (q := some bq) (c := cap) hS 0 rfl (fun e => by cases e)) ((hvk k).pts k) : Cn Tryd.prog 45 [.slice (some ⟨bq, 0, none⟩) xs.length cap, U ((upTo tranS xs k).getD k 0#64)] w (fun v _ => v = U (mapR (upTo tranS xs k) ((upTo tranS xs k).getD k 0#64))))) ?_
    refine RdGo.v (Vop.bin rfl rfl rfl rfl bOr rfl) ?_
    refine RdGo.v (Vop.idxS rfl rfl rfl rfl rfl Tryd.underlying22 Tryd.sizeOf28 (k) ⟨rfl, hlt⟩) ?_
    refine RdGo.nil ?_
    refine GoH.stE U _ rfl rfl rfl rfl Tryd.sizeOf28 rfl 0 rfl hlt2 ?_
    refine GoH.regionEnd ?_
    refine GoH.inBlock ?_
    refine GoH.region ?_
    refine GoH.v (Vop.bin rfl rfl rfl rfl (bAdd (by omega)) rfl) ?_
    refine GoH.v (Vop.mv rfl rfl rfl rfl) ?_
    refine GoH.regionEnd ?_
    exact IH (k + 1) _ _ hlt (by omega) ⟨rfl, rfl, rfl, trivial⟩ (List.Sublist.refl _)
  · -- no
    have hge : ¬ k < xs.length := by simpa using hc
    obtain rfl : k = xs.length := by omega
    refine GoH.exit rfl ?_
    refine GoH.fin Tryd.f95 Tryd.func95 rfl (fun w' hS => ?_)
    exact ⟨hS.ext, fun b hb => by subst hb; exact hS.get (j := 0) rfl⟩

theorem euclidean1_c : StepC 96 (fun l => upTo eucS l l.length) := by
  intro q cap xs sp w hT hg hv hq hh
  have hTx : ∀ {w'}, Ex q.toList w w' → Tab w' := fun e => hT.ex e (by intro hm; simp at hm; exact hg _ hm rfl)
  have hlen := hv.len
  have hln : ∀ k, (upTo eucS xs k).length = xs.length := fun k => upTo_inv (n := k) (fun _ (l : List W64) => l.length = xs.length) rfl (fun k a _ h => by rw [eucS, eucT_length]; exact h)
  have hvk : ∀ k, Val (upTo eucS xs k) := fun k => (GoodS.upTo eucS_good k).val hv
  refine CnT.of Tryd.func96 rfl rfl (o := ob U 28 xs sp) rfl hh ?_
  refine GoH.seq ?_
  refine GoH.region ?_
  refine GoH.bx rfl rfl rfl rfl (fun b1 => ?_)
  refine GoH.regionEnd ?_
  refine GoH.seq ?_
  refine GoH.region ?_
  refine GoH.v (Vop.ldo rfl rfl rfl rfl Tryd.isAgg22 0 rfl rfl) ?_
  refine GoH.v (Vop.blt rfl rfl rfl (blt_len_slice Tryd.underlying22) rfl) ?_
  refine GoH.v (Vop.mv rfl rfl rfl rfl) ?_
  refine GoH.regionEnd ?_
  refine GoH.block ?_
  refine GoH.loop (σ := Nat) (fun k => [(1, .pointer (some ⟨b1, 0, none⟩)), (6, .int .i64 xs.length), (7, .int .i64 k)]) (fun k => [(some b1, .cells #[osv q xs.length cap] 22 (0, 0)), (q, ob U 28 (upTo eucS xs k) sp)])
    (fun k => k ≤ xs.length) (fun k => xs.length - k) 0 (Nat.zero_le _) ⟨rfl, rfl, rfl, trivial⟩ (List.Sublist.refl _) (fun k hk IH => ?_)
  -- heap: b1 q
  -- ptr: 1=b1
  refine GoH.seq ?_
  refine GoH.region ?_
  refine GoH.v (Vop.bin rfl rfl rfl rfl bLt rfl) ?_
  refine GoH.regionEnd ?_
  refine GoH.seq ?_
  refine GoH.cond rfl (fun hc => ?_) (fun hc => ?_)
  · -- yes
    have hlt : k < xs.length := by simpa using hc
    have hlt2 : k < (upTo eucS xs k).length := by rw [hln]; exact hlt
    obtain ⟨bq, rfl⟩ : ∃ bq, q = some bq := by
      cases q with
      | none => have := (hq rfl).1; omega
      | some bq => exact ⟨bq, rfl⟩
    refine GoH.skip ?_
    refine GoH.seq ?_
    refine GoH.block ?_
    refine GoH.seq ?_
    refine GoH.region ?_
    refine GoH.v (Vop.mv rfl rfl rfl rfl) ?_
    refine GoH.v (Vop.asg rfl rfl rfl rfl) ?_
    refine GoH.regionEnd ?_
    refine GoH.seq ?_
    refine GoH.region ?_
    refine GoH.v (Vop.ldo rfl rfl rfl rfl Tryd.isAgg22 0 rfl rfl) ?_
    refine GoH.v (Vop.mv rfl rfl rfl rfl) ?_
    refine GoH.v (Vop.idxS rfl rfl rfl rfl rfl Tryd.underlying22 Tryd.sizeOf28 (k) ⟨rfl, hlt⟩) ?_
    refine GoH.v (Vop.ldE U 0#64 rfl rfl rfl rfl Tryd.isAgg28 1 rfl hlt2) ?_
    refine GoH.alc rfl rfl rfl (fun _ => Tryd.zeroValue28 _) (fun b3 => ?_)
    refine GoH.st rfl rfl rfl rfl Tryd.sizeOf28 rfl 0 rfl rfl ?_
    refine GoH.regionEnd ?_
    refine GoH.seq ?_
    refine GoH.region ?_
    refine GoH.v (Vop.ldo rfl rfl rfl rfl Tryd.isAgg28 0 rfl rfl) ?_
    refine GoH.callM _ rfl rfl rfl rfl rfl (fun _ _ => Tryd.call46 _ _) (fun w _ hS => points_c _ w) ?_
    rintro v w1 w2 Y' hS he ⟨bp, rfl, hb, hh⟩
    refine ⟨_, hS.gain he hh rfl hb, ?_⟩
    -- heap: bp b3 b1 q
    refine GoH.regionEnd ?_
    refine GoH.block ?_
    refine GoH.rangeF (σ := List W64) (cap := [(some bp, .cells #[U ((upTo eucS xs k).getD k 0#64)] 28 (0, 0))]) (fun o => [(some b3, .cells #[U ((upTo eucS xs k).getD k 0#64)] 28 (0, 0)), (some b1, .cells #[osv (some bq) xs.length cap] 22 (0, 0)), (some bq, ob U 28 o sp)])
      (fun i o => o = eucT ((upTo eucS xs k).getD k 0#64) (upTo eucS xs k) ((pts ((upTo eucS xs k).getD k 0#64)).take i)) (fun _ _ => False) (upTo eucS xs k)
      rfl (fun _ _ => Tryd.call70 _ _) (points1_it w _ hT (by intro hm; simp at hm; exact hg _ (congrArg some hm.symm) rfl) _ bp) (args1 rfl) rfl rfl (List.Sublist.refl _) ?_ ?_ ?_
    -- heap: b3 b1 q
    · -- a round
      intro L Y' rec hi' i az o haz hI hrec
      rw [List.getElem?_map] at haz
      obtain ⟨x, hx, rfl⟩ := Option.map_eq_some_iff.1 haz
      have hxr : x < xs.length := hln k ▸ (hvk k).pts k x (List.mem_of_getElem? hx)
      have hol2 : o.length = xs.length := by rw [hI, eucT_length]; exact hln k
      have hxo : x < o.length := by omega
      refine GoH.region ?_
      refine GoH.v (Vop.asg rfl rfl rfl rfl) ?_
      refine GoH.regionEnd ?_
      refine GoH.beginRound hrec ?_
      refine GoH.block ?_
      refine GoH.draw 7 mixed rfl ?_
      refine RdGo.v (Vop.ldo rfl rfl rfl rfl Tryd.isAgg22 1 rfl rfl) ?_
      refine RdGo.v (Vop.mv rfl rfl rfl rfl) ?_
      refine RdGo.v (Vop.idxS rfl rfl rfl rfl rfl Tryd.underlying22 Tryd.sizeOf28 (x) ⟨rfl, hxr⟩) ?_
      refine RdGo.v (Vop.ldE U 0#64 rfl rfl rfl rfl Tryd.isAgg28 2 rfl hxo) ?_
      refine RdGo.v (Vop.ldo rfl rfl rfl rfl Tryd.isAgg28 0 rfl rfl) ?_
      refine RdGo.v (Vop.bin rfl rfl rfl rfl bOr rfl) ?_
      refine RdGo.v (Vop.idxS rfl rfl rfl rfl rfl Tryd.underlying22 Tryd.sizeOf28 (x) ⟨rfl, hxr⟩) ?_
      refine RdGo.nil ?_
      refine GoH.stE U _ rfl rfl rfl rfl Tryd.sizeOf28 rfl 2 rfl hxo ?_
      refine GoH.regionEnd ?_
      refine GoH.inBlock ?_
      exact GoH.rEnd (o.set x (o.getD x 0#64 ||| (upTo eucS xs k).getD k 0#64)) (by obtain ⟨h1, h2⟩ := List.getElem?_eq_some_iff.1 hx; rw [List.take_succ_eq_append_getElem h1, eucT, List.foldl_append, h2, hI]; rfl) (List.Sublist.refl _)
    · -- all have come
      intro o hI
      refine GoH.inBlock ?_
      refine GoH.inBlock ?_
      refine GoH.region ?_
      refine GoH.v (Vop.bin rfl rfl rfl rfl (bAdd (by omega)) rfl) ?_
      refine GoH.v (Vop.mv rfl rfl rfl rfl) ?_
      refine GoH.regionEnd ?_
      exact IH (k + 1) _ _ hlt (by omega) ⟨rfl, rfl, rfl, trivial⟩ (by rw [List.length_map, List.take_length] at hI; rw [hI]; exact .cons _ (List.Sublist.refl _))
    · -- stopped
      intro c s h; exact h.elim
  · -- no
    have hge : ¬ k < xs.length := by simpa using hc
    obtain rfl : k = xs.length := by omega
    refine GoH.exit rfl ?_
    refine GoH.fin Tryd.f96 Tryd.func96 rfl (fun w' hS => ?_)
    exact ⟨hS.ext, fun b hb => by subst hb; exact hS.get (j := 1) rfl⟩

/-- what grow gives: an owned list with the code of the relation, or the least relation that the step leaves -/
def Grown (F : List W64 → Prop) (r : List W64) (p : List W64 × Int) : Prop :=
  if checkR r.length r ≠ 0 then p = ([], checkR r.length r) else p.2 = 0 ∧ Least F r p.1
theorem grow_c {gf : FuncId} {g : List W64 → List W64} {F : List W64 → Prop} (hst : StepC gf g) (hg : GoodS g F) (hcf : ∀ args w, (callFunc gf args).run Tryd.prog w = .ok (.enter gf args) w)
    (a : Option Addr) (ca : Nat) (r : List W64) (w : World) (hT : Tab w) (ha : SlU w a r) (hl : r.length ≤ maxLen) (hca : r.length ≤ ca) :
    Cn Tryd.prog 93 [.slice a r.length ca, .func (.func gf) #[] #[]] w (fun v w' => ∃ p, OwnE w w' v p ∧ Grown F r p) := by
  refine Cn.of Tryd.func93 rfl rfl ?_
  refine GoH.seq ?_
  refine GoH.region ?_
  refine GoH.v (Vop.asg rfl rfl rfl rfl) ?_
  refine GoH.v (Vop.asg rfl rfl rfl rfl) ?_
  refine GoH.regionEnd ?_
  refine GoH.seq ?_
  refine GoH.seq ?_
  refine GoH.region ?_
  refine GoH.v (Vop.mv rfl rfl rfl rfl) ?_
  refine GoH.v (Vop.blt rfl rfl rfl (blt_len_slice Tryd.underlying22) rfl) ?_
  refine GoH.v (Vop.mv rfl rfl rfl rfl) ?_
  refine GoH.callP rfl rfl rfl rfl rfl (fun _ _ => Tryd.call30 _ _) (fun w _ hS => check_c _ a ca r w (ha.ex0 hS.ext) hl) ?_
  refine GoH.v (Vop.asg rfl rfl rfl rfl) ?_
  refine GoH.regionEnd ?_
  refine GoH.seq ?_
  refine GoH.region ?_
  refine GoH.v (Vop.mv rfl rfl rfl rfl) ?_
  refine GoH.v (Vop.bin rfl rfl rfl rfl bNe rfl) ?_
  refine GoH.regionEnd ?_
  refine GoH.cond rfl (fun hc => ?_) (fun hc => ?_)
  · -- yes
    have h1 : checkR r.length r ≠ 0 := by simpa using hc
    refine GoH.seq ?_
    refine GoH.region ?_
    refine GoH.v (Vop.mv rfl rfl rfl rfl) ?_
    refine GoH.v (Vop.asg rfl rfl rfl rfl) ?_
    refine GoH.v (Vop.asg rfl rfl rfl rfl) ?_
    refine GoH.regionEnd ?_
    refine GoH.ret Tryd.f93 Tryd.func93 rfl (fun w' hS => ?_)
    exact ⟨hS.ext, ([], checkR r.length r), ⟨_, rfl, own_nil _ _⟩, by rw [Grown, if_pos h1]⟩
  · -- no
    have h1 : ¬ checkR r.length r ≠ 0 := by simpa using hc
    have hv := check_zero.1 (by simpa using h1)
    have hlen := hv.len
    refine GoH.skip ?_
    refine GoH.seq ?_
    refine GoH.region ?_
    refine GoH.v (Vop.mv rfl rfl rfl rfl) ?_
    refine GoH.callM _ rfl rfl rfl rfl rfl (fun _ _ => Tryd.call40 _ _) (fun w _ hS => clone_c a ca r w (ha.ex0 hS.ext) (by omega) hca) ?_
    rintro v w1 w2 Y' hS he ho
    obtain ⟨q, cap, sp, rfl, hq, hcap, hS'⟩ := gainO hS he ho
    refine ⟨_, hS', ?_⟩
    -- heap: q
    refine GoH.v (Vop.asg rfl rfl rfl rfl) ?_
    refine GoH.regionEnd ?_
    refine GoH.block ?_
    refine GoH.loop (σ := List W64) (fun _ => [(1, .func (.func gf) #[] #[]), (7, osv q r.length cap)]) (fun out => [(q, ob U 28 out sp)])
      (fun out => Val out ∧ Le r out ∧ ∀ c, Val c → Le r c → F c → Le out c) room r ⟨hv, .refl _, fun c _ h _ => h⟩ ⟨rfl, rfl, trivial⟩ (List.Sublist.refl _) (fun out hI IH => ?_)
    obtain ⟨hvo, hle, hmin⟩ := hI
    have hol := hle.len
    have hq2 : q = none → out.length = 0 ∧ cap = 0 := hol ▸ hq
    have hoc : out.length ≤ cap := by have := hcap; simp at this; omega
    -- heap: q
    refine GoH.block ?_
    refine GoH.seq ?_
    refine GoH.region ?_
    refine GoH.v (Vop.mv rfl rfl rfl rfl) ?_
    refine GoH.callM _ rfl rfl rfl rfl rfl (fun _ _ => Tryd.call40 _ _) (fun w _ hS => (hol ▸ clone_c (q.map (fun b => ⟨b, 0, none⟩)) cap out w (sluAt hS 0 rfl hq2) (by omega) hoc)) ?_
    rintro v w1 w2 Y' hS he ho
    obtain ⟨q2, cap2, sp2, rfl, hq3, hcap2, hS'⟩ := gainO hS he ho
    refine ⟨_, hS', ?_⟩
    -- heap: q2 q
    refine GoH.v (Vop.asg rfl rfl rfl rfl) ?_
    refine GoH.regionEnd ?_
    refine GoH.seq ?_
    refine GoH.region ?_
    refine GoH.v (Vop.mv rfl rfl rfl rfl) ?_
    refine GoH.v (Vop.mv rfl rfl rfl rfl) ?_
    refine GoH.callT (ob U 28 (g out) sp) 1 rfl rfl rfl rfl rfl rfl rfl hcf (fun w Y' hS => by rw [hol]; exact hst q cap out sp w (hT.ex hS.ext) (fun b hb => by subst hb; exact Nat.ne_of_lt (Nat.lt_of_lt_of_le hT.1 (hS.fresh (j := 1) rfl))) hvo hq2 (fun b hb => by subst hb; exact hS.get (j := 1) rfl)) (fun v => ?_)
    refine GoH.regionEnd ?_
    refine GoH.seq ?_
    refine GoH.region ?_
    refine GoH.v (Vop.mv rfl rfl rfl rfl) ?_
    refine GoH.v (Vop.mv rfl rfl rfl rfl) ?_
    refine GoH.callP rfl rfl rfl rfl rfl (fun _ _ => Tryd.call43 _ _) (fun w _ hS => (show Cn Tryd.prog 43 [osv q2 out.length cap2, osv q r.length cap] w (fun v _ => v = .bool (out == g out)) from by rw [hol.trans (hg.infl hvo).len]; exact equal_c (q2.map (fun b => ⟨b, 0, none⟩)) cap2 out (q.map (fun b => ⟨b, 0, none⟩)) cap (g out) w (sluAt hS 0 rfl hq3) (sluAt hS 1 rfl (by rw [← (hg.infl hvo).len]; exact hq2)) (by omega))) ?_
    refine GoH.regionEnd ?_
    refine GoH.cond rfl (fun hc => ?_) (fun hc => ?_)
    · -- yes
      have h2 : out = g out := by simpa using hc
      refine GoH.seq ?_
      refine GoH.region ?_
      refine GoH.v (Vop.mv rfl rfl rfl rfl) ?_
      refine GoH.v (Vop.asg rfl rfl rfl rfl) ?_
      refine GoH.v (Vop.asg rfl rfl rfl rfl) ?_
      refine GoH.regionEnd ?_
      refine GoH.ret Tryd.f93 Tryd.func93 rfl (fun w' hS => ?_)
      exact ⟨hS.ext, (out, 0), ⟨_, rfl, ownAt (sp := sp) (xs := out) hS 1 (congrArg (fun z => some (q, ob U 28 z sp)) h2.symm) (by rw [hol]) hq2 (by rw [← hcap]; simp [hol])⟩, by rw [Grown, if_neg h1]; exact ⟨rfl, hvo, hle, (hg.fix hvo).1 h2.symm, hmin⟩⟩
    · -- no
      have h2 : out ≠ g out := by simpa using hc
      refine GoH.skip ?_
      refine GoH.inBlock ?_
      exact IH (g out) _ _ ⟨hg.val hvo, hle.trans (hg.infl hvo), fun c h3 h4 h5 => by
      have := hg.mono hvo h3 (hmin c h3 h4 h5)
      rwa [(hg.fix h3).2 h5] at this⟩ ((hg.infl hvo).room_lt h2) ⟨rfl, rfl, trivial⟩ (.cons _ (List.Sublist.refl _))

theorem reflexive_c (a : Option Addr) (ca : Nat) (r : List W64) (w : World) (hT : Tab w) (ha : SlU w a r) (hl : r.length ≤ maxLen) (hca : r.length ≤ ca) :
    Cn Tryd.prog 65 [.slice a r.length ca] w (fun v w' => ∃ p, OwnE w w' v p ∧ Grown reflR r p) := by
  refine Cn.of Tryd.func65 rfl rfl ?_
  refine GoH.seq ?_
  refine GoH.region ?_
  refine GoH.v (Vop.asg rfl rfl rfl rfl) ?_
  refine GoH.v (Vop.asg rfl rfl rfl rfl) ?_
  refine GoH.regionEnd ?_
  refine GoH.seq ?_
  refine GoH.region ?_
  refine GoH.v (Vop.mv rfl rfl rfl rfl) ?_
  refine GoH.callM _ rfl rfl rfl rfl rfl (fun _ _ => Tryd.call93 _ _) (fun w _ hS => grow_c reflexive1_c refl_good (fun _ _ => Tryd.call94 _ _) a ca r w (hT.ex hS.ext) (ha.ex0 hS.ext) hl hca) ?_
  rintro v w1 w2 Y' hS he ⟨⟨out, e⟩, ⟨sv, rfl, ho⟩, hg⟩
  obtain ⟨q, cap, sp, rfl, hq, hcap, hS'⟩ := gainO hS he ho
  refine ⟨_, hS', ?_⟩
  -- heap: q
  refine GoH.v (Vop.ext rfl rfl rfl rfl rfl) ?_
  refine GoH.v (Vop.ext rfl rfl rfl rfl rfl) ?_
  refine GoH.v (Vop.asg rfl rfl rfl rfl) ?_
  refine GoH.v (Vop.asg rfl rfl rfl rfl) ?_
  refine GoH.regionEnd ?_
  refine GoH.ret Tryd.f65 Tryd.func65 rfl (fun w' hS => ?_)
  exact ⟨hS.ext, (out, e), ⟨_, rfl, ownAt hS 0 rfl rfl hq hcap⟩, hg⟩

theorem transitive_c (a : Option Addr) (ca : Nat) (r : List W64) (w : World) (hT : Tab w) (ha : SlU w a r) (hl : r.length ≤ maxLen) (hca : r.length ≤ ca) :
    Cn Tryd.prog 66 [.slice a r.length ca] w (fun v w' => ∃ p, OwnE w w' v p ∧ Grown tranR r p) := by
  refine Cn.of Tryd.func66 rfl rfl ?_
  refine GoH.seq ?_
  refine GoH.region ?_
  refine GoH.v (Vop.asg rfl rfl rfl rfl) ?_
  refine GoH.v (Vop.asg rfl rfl rfl rfl) ?_
  refine GoH.regionEnd ?_
  refine GoH.seq ?_
  refine GoH.region ?_
  refine GoH.v (Vop.mv rfl rfl rfl rfl) ?_
  refine GoH.callM _ rfl rfl rfl rfl rfl (fun _ _ => Tryd.call93 _ _) (fun w _ hS => grow_c transitive1_c tran_good (fun _ _ => Tryd.call95 _ _) a ca r w (hT.ex hS.ext) (ha.ex0 hS.ext) hl hca) ?_
  rintro v w1 w2 Y' hS he ⟨⟨out, e⟩, ⟨sv, rfl, ho⟩, hg⟩
  obtain ⟨q, cap, sp, rfl, hq, hcap, hS'⟩ := gainO hS he ho
  refine ⟨_, hS', ?_⟩
  -- heap: q
  refine GoH.v (Vop.ext rfl rfl rfl rfl rfl) ?_
  refine GoH.v (Vop.ext rfl rfl rfl rfl rfl) ?_
  refine GoH.v (Vop.asg rfl rfl rfl rfl) ?_
  refine GoH.v (Vop.asg rfl rfl rfl rfl) ?_
  refine GoH.regionEnd ?_
  refine GoH.ret Tryd.f66 Tryd.func66 rfl (fun w' hS => ?_)
  exact ⟨hS.ext, (out, e), ⟨_, rfl, ownAt hS 0 rfl rfl hq hcap⟩, hg⟩

theorem euclidean_c (a : Option Addr) (ca : Nat) (r : List W64) (w : World) (hT : Tab w) (ha : SlU w a r) (hl : r.length ≤ maxLen) (hca : r.length ≤ ca) :
    Cn Tryd.prog 67 [.slice a r.length ca] w (fun v w' => ∃ p, OwnE w w' v p ∧ Grown euclR r p) := by
  refine Cn.of Tryd.func67 rfl rfl ?_
  refine GoH.seq ?_
  refine GoH.region ?_
  refine GoH.v (Vop.asg rfl rfl rfl rfl) ?_
  refine GoH.v (Vop.asg rfl rfl rfl rfl) ?_
  refine GoH.regionEnd ?_
  refine GoH.seq ?_
  refine GoH.region ?_
  refine GoH.v (Vop.mv rfl rfl rfl rfl) ?_
  refine GoH.callM _ rfl rfl rfl rfl rfl (fun _ _ => Tryd.call93 _ _) (fun w _ hS => grow_c euclidean1_c eucl_good (fun _ _ => Tryd.call96 _ _) a ca r w (hT.ex hS.ext) (ha.ex0 hS.ext) hl hca) ?_
  rintro v w1 w2 Y' hS he ⟨⟨out, e⟩, ⟨sv, rfl, ho⟩, hg⟩
  obtain ⟨q, cap, sp, rfl, hq, hcap, hS'⟩ := gainO hS he ho
  refine ⟨_, hS', ?_⟩
  -- heap: q
  refine GoH.v (Vop.ext rfl rfl rfl rfl rfl) ?_
  refine GoH.v (Vop.ext rfl rfl rfl rfl rfl) ?_
  refine GoH.v (Vop.asg rfl rfl rfl rfl) ?_
  refine GoH.v (Vop.asg rfl rfl rfl rfl) ?_
  refine GoH.regionEnd ?_
  refine GoH.ret Tryd.f67 Tryd.func67 rfl (fun w' hS => ?_)
  exact ⟨hS.ext, (out, e), ⟨_, rfl, ownAt hS 0 rfl rfl hq hcap⟩, hg⟩
end Go.Proofs.YtbjopkllkoomkaaDoor
