/- Contracts of functions of the program: what each call returns and that nothing else of memory is turned, under the conditions that each theorem states. -/
import Derived.Test.YtbjopkllkoomkaaDoorT4
namespace Go.Proofs.YtbjopkllkoomkaaDoor
open Go.RowKit Go.Proofs.Wit

theorem points_c (s : W64) (w : World) : Cn Tryd.prog 46 [U s] w (fun v w' => ∃ b, v = .func (.func 70) #[] #[.pointer (some ⟨b, 0, none⟩)] ∧ w.heap.size ≤ b ∧ w'.heap[b]? = some (.cells #[U s] 28 (0, 0))) := by
  refine Cn.of Tryd.func46 rfl rfl ?_
  refine GoH.seq ?_
  refine GoH.region ?_
  refine GoH.bx rfl rfl rfl rfl (fun b1 => ?_)
  refine GoH.v (Vop.asg rfl rfl rfl rfl) ?_
  refine GoH.regionEnd ?_
  refine GoH.seq ?_
  refine GoH.region ?_
  refine GoH.v (Vop.mkFunc rfl rfl rfl rfl rfl) ?_
  refine GoH.v (Vop.asg rfl rfl rfl rfl) ?_
  refine GoH.regionEnd ?_
  refine GoH.ret Tryd.f46 Tryd.func46 rfl (fun w' hS => ?_)
  exact ⟨hS.ext, b1, rfl, hS.fresh (j := 0) rfl, hS.get (j := 0) rfl⟩

theorem mapped_c (a : Option Addr) (ca : Nat) (r : List W64) (s : W64) (w : World) (hT : Tab w) (ha : SlU w a r) (hv : ∀ i ∈ pts s, i < r.length) :
    Cn Tryd.prog 45 [.slice a r.length ca, U s] w (fun v _ => v = U (mapR r s)) := by
  refine Cn.of Tryd.func45 rfl rfl ?_
  refine GoH.seq ?_
  refine GoH.region ?_
  refine GoH.bx rfl rfl rfl rfl (fun b2 => ?_)
  refine GoH.v (Vop.asg (v := U 0#64) rfl rfl rfl rfl) ?_
  refine GoH.regionEnd ?_
  refine GoH.seq ?_
  refine GoH.region ?_
  refine GoH.alc rfl rfl rfl (fun _ => Tryd.zeroValue28 _) (fun b5 => ?_)
  refine GoH.st (v := U 0#64) rfl rfl rfl rfl Tryd.sizeOf28 rfl 0 rfl rfl ?_
  refine GoH.regionEnd ?_
  refine GoH.seq ?_
  refine GoH.seq ?_
  refine GoH.region ?_
  refine GoH.v (Vop.mv rfl rfl rfl rfl) ?_
  refine GoH.callM _ rfl rfl rfl rfl rfl (fun _ _ => Tryd.call46 _ _) (fun w _ hS => points_c s w) ?_
  rintro v w1 w2 Y' hS he ⟨bp, rfl, hb, hh⟩
  refine ⟨_, hS.gain he hh rfl hb, ?_⟩
  -- heap: bp b5 b2
  refine GoH.regionEnd ?_
  refine GoH.block ?_
  refine GoH.rangeF (σ := W64) (cap := [(some bp, .cells #[U s] 28 (0, 0))]) (fun acc => [(some b5, .cells #[U acc] 28 (0, 0)), (some b2, .cells #[.slice a r.length ca] 22 (0, 0))]) (fun i acc => acc = ((pts s).take i).foldl (fun o w => o ||| r.getD w 0#64) 0#64) (fun _ _ => False) 0#64
    rfl (fun _ _ => Tryd.call70 _ _) (points1_it w [] hT (by simp) s bp) (args1 rfl) rfl rfl (List.Sublist.refl _) ?_ ?_ ?_
  -- heap: b5 b2
  · -- a round
    intro L Y' rec hi i az acc haz hI hrec
    rw [List.getElem?_map] at haz
    obtain ⟨x, hx, rfl⟩ := Option.map_eq_some_iff.1 haz
    have hxr : x < r.length := hv x (List.mem_of_getElem? hx)
    refine GoH.region ?_
    refine GoH.v (Vop.asg rfl rfl rfl rfl) ?_
    refine GoH.regionEnd ?_
    refine GoH.beginRound hrec ?_
    refine GoH.block ?_
    refine GoH.draw 6 mixed rfl ?_
    refine RdGo.v (Vop.ldo rfl rfl rfl rfl Tryd.isAgg28 0 rfl rfl) ?_
    refine RdGo.v (Vop.ldo rfl rfl rfl rfl Tryd.isAgg22 1 rfl rfl) ?_
    refine RdGo.v (Vop.mv rfl rfl rfl rfl) ?_
    refine RdGo.v (Vop.idx rfl rfl rfl rfl rfl Tryd.underlying22 Tryd.sizeOf28 ⟨_, ha⟩ (by simp) (x) ⟨rfl, by simpa using hxr⟩) ?_
    refine RdGo.v (Vop.ld rfl rfl rfl rfl Tryd.isAgg28 (fun w _ hS => (SlU.ex0 ha hS.ext).at (x) hxr)) ?_
    refine RdGo.v (Vop.bin rfl rfl rfl rfl bOr rfl) ?_
    refine RdGo.nil ?_
    refine GoH.st rfl rfl rfl rfl Tryd.sizeOf28 rfl 0 rfl rfl ?_
    refine GoH.regionEnd ?_
    refine GoH.inBlock ?_
    exact GoH.rEnd (acc ||| r.getD x 0#64) (by obtain ⟨h1, h2⟩ := List.getElem?_eq_some_iff.1 hx; rw [List.take_succ_eq_append_getElem h1, List.foldl_append, ← hI, h2]; rfl) (List.Sublist.refl _)
  · -- all have come
    intro acc hI
    refine GoH.inBlock ?_
    refine GoH.seq ?_
    refine GoH.region ?_
    refine GoH.v (Vop.ldo rfl rfl rfl rfl Tryd.isAgg28 0 rfl rfl) ?_
    refine GoH.v (Vop.asg rfl rfl rfl rfl) ?_
    refine GoH.regionEnd ?_
    refine GoH.ret Tryd.f45 Tryd.func45 rfl (fun w' hS => ?_)
    exact ⟨hS.ext, by rw [hI, mapR, List.length_map, List.take_length]; rfl⟩
  · -- stopped
    intro c s h; exact h.elim
