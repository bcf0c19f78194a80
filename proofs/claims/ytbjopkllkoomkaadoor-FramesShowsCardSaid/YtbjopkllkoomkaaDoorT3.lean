/- Contracts of functions of the program: what each call returns and that nothing else of memory is turned, under the conditions that each theorem states. -/
import Derived.Test.YtbjopkllkoomkaaDoorWB
import Derived.Test.YtbjopkllkoomkaaDoorProg
namespace Go.Proofs.YtbjopkllkoomkaaDoor
open Go.RowKit Go.Proofs.Wit
/-- the library's table of bit positions -/
abbrev gTab : Nat := 0
abbrev Tab := TabAt gTab
theorem mixed : Tryd.prog.follows .mixedOrders = true := by kernel_rfl

theorem infoU : (Tryd.prog.info? 28).map (fun i => (i.zero, i.size, i.bytes)) = some (some (U 0#64), 1, 8) := by kernel_rfl
theorem infoI : (Tryd.prog.info? 3).map (fun i => (i.zero, i.size, i.bytes)) = some (some (.int .i64 0), 1, 8) := by kernel_rfl
theorem tz_c (s : W64) (w : World) (hT : Tab w) (hs : s ≠ 0#64) : Cn Tryd.prog 71 [U s] w (fun v _ => v = .int .i64 (tz s)) := by
  have h1 := tz_lt hs
  refine Cn.of Tryd.func71 rfl rfl ?_
  refine GoH.seq ?_
  refine GoH.region ?_
  refine GoH.v (Vop.asg rfl rfl rfl rfl) ?_
  refine GoH.regionEnd ?_
  refine GoH.seq ?_
  refine GoH.seq ?_
  refine GoH.region ?_
  refine GoH.v (Vop.mv rfl rfl rfl rfl) ?_
  refine GoH.v (Vop.bin (b := U 0#64) rfl rfl rfl rfl bEqU rfl) ?_
  refine GoH.regionEnd ?_
  refine GoH.cond rfl (fun hc => ?_) (fun hc => ?_)
  · -- yes
    exact absurd (by simpa using hc) hs
  · -- no
    refine GoH.skip ?_
    refine GoH.seq ?_
    refine GoH.region ?_
    refine GoH.v (Vop.mv rfl rfl rfl rfl) ?_
    refine GoH.v (Vop.mv rfl rfl rfl rfl) ?_
    refine GoH.v (Vop.un rfl rfl rfl uNegU rfl) ?_
    refine GoH.v (Vop.bin rfl rfl rfl rfl bAnd rfl) ?_
    refine GoH.v (Vop.bin (b := U 285870213051353865#64) rfl rfl rfl rfl bMulU rfl) ?_
    refine GoH.v (Vop.bin rfl rfl rfl rfl (bShr 58 rfl) rfl) ?_
    refine GoH.v (Vop.idxA rfl rfl rfl rfl rfl Tryd.underlying117 Tryd.sizeOf5 (dbix s).toNat rfl (dbix_lt s)) ?_
    refine GoH.v (Vop.ld rfl rfl rfl rfl Tryd.isAgg5 (fun w _ hS => (by rw [Nat.zero_add, (hT.ex hS.ext).2 _ (dbix_lt s), db_tz hs]))) ?_
    refine GoH.v (Vop.conv rfl rfl rfl (cInt (a := (tz s : Int)) (k := .i64) Tryd.underlying5 Tryd.underlying3 (IntWalk.i64_in _ (by omega))) rfl) ?_
    refine GoH.v (Vop.asg rfl rfl rfl rfl) ?_
    refine GoH.regionEnd ?_
    refine GoH.ret Tryd.f71 Tryd.func71 rfl (fun w' hS => ?_)
    exact ⟨hS.ext, rfl⟩

theorem points1_it (w0 : World) (S : List Nat) (hT : Tab w0) (h0 : 0 ∉ S) (s0 : W64) (b : Nat) :
    IterC Tryd.prog w0 S 70 [.pointer (some ⟨b, 0, none⟩)] ((pts s0).map (fun i : Nat => [Value.int .i64 (i : Int)])) [(some b, .cells #[U s0] 28 (0, 0))] := by
  refine IterC.of Tryd.func70 rfl rfl (fun Y σ Hc I X Yx L hy c0 hI0 => ?_)
  refine GoH.block ?_
  refine GoH.loop (σ := Nat × W64 × σ) (fun s => [(0, Value.func (.yield L) #[] #[]), (1, .pointer (some ⟨b, 0, none⟩))]) (fun s => (some b, .cells #[U s.2.1] 28 (0, 0)) :: Hc s.2.2)
    (fun s => (pts s0).drop s.1 = pts s.2.1 ∧ s.1 ≤ (pts s0).length ∧ I s.1 s.2.2) (fun s => s.2.1.toNat) (0, s0, c0) ⟨rfl, Nat.zero_le _, hI0⟩ ⟨rfl, rfl, trivial⟩ (List.Sublist.refl _) (fun s hs IH => ?_)
  obtain ⟨i, s, c⟩ := s
  obtain ⟨hb, hle, hI⟩ := hs
  dsimp only at hb hle hI
  refine GoH.seq ?_
  refine GoH.seq ?_
  refine GoH.region ?_
  refine GoH.v (Vop.ldo rfl rfl rfl rfl Tryd.isAgg28 0 rfl rfl) ?_
  refine GoH.v (Vop.bin (b := U 0#64) rfl rfl rfl rfl bNeU rfl) ?_
  refine GoH.regionEnd ?_
  refine GoH.cond rfl (fun hc => ?_) (fun hc => ?_)
  · -- yes
    have hs : s ≠ 0#64 := by simpa using hc
    refine GoH.skip ?_
    refine GoH.seq ?_
    refine GoH.block ?_
    refine GoH.seq ?_
    refine GoH.region ?_
    refine GoH.v (Vop.mv rfl rfl rfl rfl) ?_
    refine GoH.v (Vop.ldo rfl rfl rfl rfl Tryd.isAgg28 0 rfl rfl) ?_
    refine GoH.callP rfl rfl rfl rfl rfl (fun _ _ => Tryd.call71 _ _) (fun w _ hS => tz_c s w (hT.ex hS.ext h0) hs) ?_
    obtain ⟨ha, hd⟩ := pts_drop hb hs
    refine GoH.yieldI (fun h' => ∃ c', I (i + 1) c' ∧ h' = (some b, .cells #[U s] 28 (0, 0)) :: Hc c') (fun h' Y' => ∃ c', X c' ∧ h' = (some b, .cells #[U s] 28 (0, 0)) :: Hc c' ∧ Y' = Yx c') rfl rfl rfl rfl rfl
      (fun w Y1 hS => ?_) (fun h' hh => ?_) (fun h' Y' hh => ?_)
    · obtain ⟨fn, tm, as', bd, hyy, hrr⟩ := hy i [.int .i64 (tz s)] (by rw [List.getElem?_map, ha]; rfl) c hI [(some b, .cells #[U s] 28 (0, 0))] w Y1 hS
      refine ⟨fn, tm, as', bd, hyy, fun c2 cs => ?_⟩
      obtain ⟨v, w', hpost, hst⟩ := hrr c2 cs
      refine ⟨v, w', ?_, hst⟩
      rcases hpost with ⟨hv, c', hI', hS'⟩ | ⟨hv, c', hX', hS'⟩
      · exact .inl ⟨hv, _, ⟨c', hI', rfl⟩, hS'⟩
      · exact .inr ⟨hv, _, _, ⟨c', hX', rfl, rfl⟩, hS'⟩
    rotate_left
    · obtain ⟨c', hX', rfl, rfl⟩ := hh
      refine GoH.v (Vop.un rfl rfl rfl uNot rfl) ?_
      refine GoH.regionEnd (GoH.condT rfl (GoH.ret Tryd.f70 Tryd.func70 rfl (fun w' hS => .inr ⟨c', hX', hS.subH (List.sublist_cons_self ..)⟩)))
    obtain ⟨c', hI', rfl⟩ := hh
    have hlt := (List.getElem?_eq_some_iff.1 ha).1
    refine GoH.v (Vop.un rfl rfl rfl uNot rfl) ?_
    refine GoH.regionEnd ?_
    refine GoH.cond rfl (fun hc => ?_) (fun hc => ?_)
    · -- yes
      simp at hc
    · -- no
      refine GoH.skip ?_
      refine GoH.inBlock ?_
      refine GoH.region ?_
      refine GoH.v (Vop.ldo rfl rfl rfl rfl Tryd.isAgg28 0 rfl rfl) ?_
      refine GoH.v (Vop.ldo rfl rfl rfl rfl Tryd.isAgg28 0 rfl rfl) ?_
      refine GoH.v (Vop.bin (b := U 1#64) rfl rfl rfl rfl bSubU rfl) ?_
      refine GoH.v (Vop.bin rfl rfl rfl rfl bAnd rfl) ?_
      refine GoH.st rfl rfl rfl rfl Tryd.sizeOf28 rfl 0 rfl rfl ?_
      refine GoH.regionEnd ?_
      exact IH (i + 1, s &&& (s - 1#64), c') _ _ ⟨hd, hlt, hI'⟩ (and_sub_lt hs) ⟨rfl, rfl, trivial⟩ (List.Sublist.refl _)
  · -- no
    have hs : s = 0#64 := by simpa using hc
    subst hs
    refine GoH.exit rfl ?_
    refine GoH.fin Tryd.f70 Tryd.func70 rfl (fun w' hS => ?_)
    have hi : i = (pts s0).length := by
      rw [pts_zero] at hb
      have := List.drop_eq_nil_iff.1 hb
      omega
    subst hi
    exact .inl ⟨c, by simpa using hI, hS.subH (List.sublist_cons_self ..)⟩
