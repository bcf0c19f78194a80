/- Contracts of functions of the program: what each call returns and that nothing else of memory is turned, under the conditions that each theorem states. -/
import Derived.Test.YtpifbcbdbkbbjaaDoorB1
import Derived.Test.YtpifbcbdbkbbjaaDoorWD
import Derived.Test.YtpifbcbdbkbbjaaDoorWC
namespace Go.Proofs.YtpifbcbdbkbbjaaDoor
open Go.RowKit Go.Proofs.Wit
/-! sets of worlds, the blocks that they meet, facts -/
theorem members1_it (w0 : World) (S : List Nat) (hT : Tab w0) (h0 : 0 ∉ S) (s0 : W64) (b : Nat) :
    IterC Tryd.prog w0 S 64 [.pointer (some ⟨b, 0, none⟩)] ((pts s0).map (fun i : Nat => [Value.int .i64 (i : Int)])) [(some b, .cells #[U s0] 44 (0, 0))] := by
  refine IterC.of Tryd.func64 rfl rfl (fun Y σ Hc I X Yx L hy c0 hI0 => ?_)
  refine GoH.block ?_
  refine GoH.loop (σ := Nat × W64 × σ) (fun s => [(0, Value.func (.yield L) #[] #[]), (1, .pointer (some ⟨b, 0, none⟩))]) (fun s => (some b, .cells #[U s.2.1] 44 (0, 0)) :: Hc s.2.2)
    (fun s => (pts s0).drop s.1 = pts s.2.1 ∧ s.1 ≤ (pts s0).length ∧ I s.1 s.2.2) (fun s => s.2.1.toNat) (0, s0, c0) ⟨rfl, Nat.zero_le _, hI0⟩ ⟨rfl, rfl, trivial⟩ (List.Sublist.refl _) (fun s hs IH => ?_)
  obtain ⟨i, s, c⟩ := s
  obtain ⟨hb, hle, hI⟩ := hs
  dsimp only at hb hle hI
  refine GoH.seq ?_
  refine GoH.seq ?_
  refine GoH.region ?_
  refine GoH.v (Vop.ldo rfl rfl rfl rfl Tryd.isAgg44 0 rfl rfl) ?_
  refine GoH.v (Vop.bin (b := U 0#64) rfl rfl rfl rfl bNeU rfl) ?_
  refine GoH.regionEnd ?_
  refine GoH.cond rfl (fun hc => ?_) (fun hc => ?_)
  · -- yes
    have hs : s ≠ 0#64 := by simpa using hc
    refine GoH.skip ?_
    refine GoH.seq ?_
    refine GoH.block ?_
    refine GoH.seq ?_
    refine GoH.region ?_
    refine GoH.v (Vop.mv rfl rfl rfl rfl) ?_
    refine GoH.v (Vop.ldo rfl rfl rfl rfl Tryd.isAgg44 0 rfl rfl) ?_
    refine GoH.callP rfl rfl rfl rfl rfl (fun _ _ => Tryd.call65 _ _) (fun w _ hS => tz_c s w (hT.ex hS.ext h0) hs) ?_
    obtain ⟨ha, hd⟩ := pts_drop hb hs
    refine GoH.yieldI (fun h' => ∃ c', I (i + 1) c' ∧ h' = (some b, .cells #[U s] 44 (0, 0)) :: Hc c') (fun h' Y' => ∃ c', X c' ∧ h' = (some b, .cells #[U s] 44 (0, 0)) :: Hc c' ∧ Y' = Yx c') rfl rfl rfl rfl rfl
      (fun w Y1 hS => ?_) (fun h' hh => ?_) (fun h' Y' hh => ?_)
    · obtain ⟨fn, tm, as', bd, hyy, hrr⟩ := hy i [.int .i64 (tz s)] (by rw [List.getElem?_map, ha]; rfl) c hI [(some b, .cells #[U s] 44 (0, 0))] w Y1 hS
      refine ⟨fn, tm, as', bd, hyy, fun c2 cs => ?_⟩
      obtain ⟨v, w', hpost, hst⟩ := hrr c2 cs
      refine ⟨v, w', ?_, hst⟩
      rcases hpost with ⟨hv, c', hI', hS'⟩ | ⟨hv, c', hX', hS'⟩
      · exact .inl ⟨hv, _, ⟨c', hI', rfl⟩, hS'⟩
      · exact .inr ⟨hv, _, _, ⟨c', hX', rfl, rfl⟩, hS'⟩
    rotate_left
    · obtain ⟨c', hX', rfl, rfl⟩ := hh
      refine GoH.v (Vop.un rfl rfl rfl uNot rfl) ?_
      refine GoH.regionEnd (GoH.condT rfl (GoH.ret Tryd.f64 Tryd.func64 rfl (fun w' hS => .inr ⟨c', hX', hS.subH (List.sublist_cons_self ..)⟩)))
    obtain ⟨c', hI', rfl⟩ := hh
    have hlt := (List.getElem?_eq_some_iff.1 ha).1
    refine GoH.v (Vop.un rfl rfl rfl uNot rfl) ?_
    refine GoH.regionEnd ?_
    refine GoH.cond rfl (fun hc => ?_) (fun hc => ?_)
    · -- yes
      simp at hc
    · -- no
      refine GoH.skip ?_
      refine GoH.inBlock ?_
      refine GoH.region ?_
      refine GoH.v (Vop.ldo rfl rfl rfl rfl Tryd.isAgg44 0 rfl rfl) ?_
      refine GoH.v (Vop.ldo rfl rfl rfl rfl Tryd.isAgg44 0 rfl rfl) ?_
      refine GoH.v (Vop.bin (b := U 1#64) rfl rfl rfl rfl bSubU rfl) ?_
      refine GoH.v (Vop.bin rfl rfl rfl rfl bAnd rfl) ?_
      refine GoH.st rfl rfl rfl rfl Tryd.sizeOf44 rfl 0 rfl rfl ?_
      refine GoH.regionEnd ?_
      exact IH (i + 1, s &&& (s - 1#64), c') _ _ ⟨hd, hlt, hI'⟩ (and_sub_lt hs) ⟨rfl, rfl, trivial⟩ (List.Sublist.refl _)
  · -- no
    have hs : s = 0#64 := by simpa using hc
    subst hs
    refine GoH.exit rfl ?_
    refine GoH.fin Tryd.f64 Tryd.func64 rfl (fun w' hS => ?_)
    have hi : i = (pts s0).length := by
      rw [pts_zero] at hb
      have := List.drop_eq_nil_iff.1 hb
      omega
    subst hi
    exact .inl ⟨c, by simpa using hI, hS.subH (List.sublist_cons_self ..)⟩
theorem members_c (s : W64) (w : World) : Cn Tryd.prog 39 [U s] w (fun v w' => ∃ b, v = .func (.func 64) #[] #[.pointer (some ⟨b, 0, none⟩)] ∧ w.heap.size ≤ b ∧ w'.heap[b]? = some (.cells #[U s] 44 (0, 0))) := by
  refine Cn.of Tryd.func39 rfl rfl ?_
  refine GoH.seq ?_
  refine GoH.region ?_
  refine GoH.bx rfl rfl rfl rfl (fun b1 => ?_)
  refine GoH.v (Vop.asg rfl rfl rfl rfl) ?_
  refine GoH.regionEnd ?_
  refine GoH.seq ?_
  refine GoH.region ?_
  refine GoH.v (Vop.mkFunc rfl rfl rfl rfl rfl) ?_
  refine GoH.v (Vop.asg rfl rfl rfl rfl) ?_
  refine GoH.regionEnd ?_
  refine GoH.ret Tryd.f39 Tryd.func39 rfl (fun w' hS => ?_)
  exact ⟨hS.ext, b1, rfl, hS.fresh (j := 0) rfl, hS.get (j := 0) rfl⟩
theorem reached_c (a : Option Addr) (ca : Nat) (p : List Int) (s : W64) (w : World) (hT : Tab w) (ha : SlI w a p) (hp : OkP p) (hv : ∀ i ∈ pts s, i < p.length) :
    Cn Tryd.prog 58 [.slice a p.length ca, U s] w (fun v _ => v = U (rch p s)) := by
  refine Cn.of Tryd.func58 rfl rfl ?_
  refine GoH.seq ?_
  refine GoH.region ?_
  refine GoH.bx rfl rfl rfl rfl (fun b2 => ?_)
  refine GoH.v (Vop.asg (v := U 0#64) rfl rfl rfl rfl) ?_
  refine GoH.regionEnd ?_
  refine GoH.seq ?_
  refine GoH.region ?_
  refine GoH.alc rfl rfl rfl (fun _ => Tryd.zeroValue44 _) (fun b5 => ?_)
  refine GoH.regionEnd ?_
  refine GoH.seq ?_
  refine GoH.seq ?_
  refine GoH.region ?_
  refine GoH.v (Vop.mv rfl rfl rfl rfl) ?_
  refine GoH.callM _ rfl rfl rfl rfl rfl (fun _ _ => Tryd.call39 _ _) (fun w _ hS => members_c s w) ?_
  rintro v w1 w2 Y' hS he ⟨bp, rfl, hb, hh⟩
  refine ⟨_, hS.gain he hh rfl hb, ?_⟩
  -- heap: bp b5 b2
  refine GoH.regionEnd ?_
  refine GoH.block ?_
  refine GoH.rangeF (σ := W64) (cap := [(some bp, .cells #[U s] 44 (0, 0))]) (fun acc => [(some b5, .cells #[U acc] 44 (0, 0)), (some b2, .cells #[.slice a p.length ca] 28 (0, 0))]) (fun i acc => acc = ((pts s).take i).foldl (fun o w => o ||| (bitsP p).getD w 0#64) 0#64) (fun _ _ => False) 0#64
    rfl (fun _ _ => Tryd.call64 _ _) (members1_it w [] hT (by simp) s bp) (args1 rfl) rfl rfl (List.Sublist.refl _) ?_ ?_ ?_
  -- heap: b5 b2
  · -- a round
    intro L Y' rec hi i az acc haz hI hrec
    rw [List.getElem?_map] at haz
    obtain ⟨x, hx, rfl⟩ := Option.map_eq_some_iff.1 haz
    have hxr : x < p.length := hv x (List.mem_of_getElem? hx)
    have hlow := hp.low x hxr
    rw [← lowE hxr] at hlow
    have hbx : (bitsP p).getD x 0#64 = 1#64 <<< (p[x].toNat) := by simp [bitsP, List.getD_eq_getElem?_getD, hxr]
    refine GoH.region ?_
    refine GoH.v (Vop.asg rfl rfl rfl rfl) ?_
    refine GoH.regionEnd ?_
    refine GoH.beginRound hrec ?_
    refine GoH.block ?_
    refine GoH.draw 7 mixed rfl ?_
    refine RdGo.v (Vop.ldo rfl rfl rfl rfl Tryd.isAgg44 0 rfl rfl) ?_
    refine RdGo.v (Vop.ldo rfl rfl rfl rfl Tryd.isAgg28 1 rfl rfl) ?_
    refine RdGo.v (Vop.mv rfl rfl rfl rfl) ?_
    refine RdGo.v (Vop.idx rfl rfl rfl rfl rfl Tryd.underlying28 Tryd.sizeOf3 ⟨_, ha⟩ (by simp) (x) ⟨rfl, by simpa using hxr⟩) ?_
    refine RdGo.v (Vop.ld rfl rfl rfl rfl Tryd.isAgg3 (fun w _ hS => (SlI.ex0 ha hS.ext).at (x) hxr)) ?_
    refine RdGo.v (Vop.bin (a := U 1#64) rfl rfl rfl rfl (bShl (p[x].toNat) (by omega)) rfl) ?_
    refine RdGo.v (Vop.bin rfl rfl rfl rfl bOr rfl) ?_
    refine RdGo.nil ?_
    refine GoH.st rfl rfl rfl rfl Tryd.sizeOf44 rfl 0 rfl rfl ?_
    refine GoH.regionEnd ?_
    refine GoH.inBlock ?_
    exact GoH.rEnd (acc ||| 1#64 <<< (p[x].toNat)) (by obtain ⟨h1, h2⟩ := List.getElem?_eq_some_iff.1 hx; rw [List.take_succ_eq_append_getElem h1, List.foldl_append, ← hI, h2, ← hbx]; rfl) (List.Sublist.refl _)
  · -- all have come
    intro acc hI
    refine GoH.inBlock ?_
    refine GoH.seq ?_
    refine GoH.region ?_
    refine GoH.v (Vop.ldo rfl rfl rfl rfl Tryd.isAgg44 0 rfl rfl) ?_
    refine GoH.v (Vop.asg rfl rfl rfl rfl) ?_
    refine GoH.regionEnd ?_
    refine GoH.ret Tryd.f58 Tryd.func58 rfl (fun w' hS => ?_)
    exact ⟨hS.ext, by rw [hI, rch, mapR, List.length_map, List.take_length]; rfl⟩
  · -- stopped
    intro c s h; exact h.elim
theorem facts_c (m : MV) (x : Nat) (w : World) (hm : m.At w) (hv : ValM m.n m.val m.rel) (hx : (x : Int) < m.n) : Cn Tryd.prog 55 [m.v, .int .i64 x] w (fun v _ => v = .int .i64 (fm m.val x)) := by
  have hfa := hv.facts
  have hlv := hm.lv
  unfold maxLen at hlv
  refine Cn.of Tryd.func55 rfl rfl ?_
  refine GoH.seq ?_
  refine GoH.region ?_
  refine GoH.bx rfl rfl rfl rfl (fun b2 => ?_)
  refine GoH.v (Vop.asg rfl rfl rfl rfl) ?_
  refine GoH.regionEnd ?_
  refine GoH.seq ?_
  refine GoH.seq ?_
  refine GoH.region ?_
  refine GoH.v (Vop.ldB rfl rfl rfl rfl Tryd.isAgg25 0 rfl Tryd.sizeOf25 rfl) ?_
  refine GoH.callP rfl rfl rfl rfl rfl (fun _ _ => Tryd.call31 _ _) (fun w _ hS => (by exact (mcheck_c m w (hm.ex0 hS.ext)).mono (fun v w' _ e => by rw [e, checkM_zero.2 hv]))) ?_
  refine GoH.v (Vop.bin rfl rfl rfl rfl (bNeV (v := false) rfl) rfl) ?_
  refine GoH.v (Vop.mv rfl rfl rfl rfl) ?_
  refine GoH.v (Vop.mv rfl rfl rfl rfl) ?_
  refine GoH.v (Vop.bin rfl rfl rfl rfl (bLtV (v := false) (decide_eq_false (by omega))) rfl) ?_
  refine GoH.v (Vop.pickF rfl rfl rfl rfl rfl) ?_
  refine GoH.v (Vop.mv rfl rfl rfl rfl) ?_
  refine GoH.v (Vop.mv rfl rfl rfl rfl) ?_
  refine GoH.v (Vop.fldP rfl rfl rfl rfl Tryd.underlying25 rfl (by exact Tryd.sizeOf3) 0 rfl) ?_
  refine GoH.v (Vop.ldo (v := .int .i64 m.n) rfl rfl rfl rfl Tryd.isAgg3 0 rfl rfl) ?_
  refine GoH.v (Vop.bin rfl rfl rfl rfl (bGeV (v := false) (decide_eq_false (by omega))) rfl) ?_
  refine GoH.v (Vop.pickF rfl rfl rfl rfl rfl) ?_
  refine GoH.regionEnd ?_
  refine GoH.condF rfl ?_
  refine GoH.skip ?_
  refine GoH.seq ?_
  refine GoH.region ?_
  refine GoH.v (Vop.asg rfl rfl rfl rfl) ?_
  refine GoH.regionEnd ?_
  refine GoH.seq ?_
  refine GoH.seq ?_
  refine GoH.region ?_
  refine GoH.v (Vop.fldP rfl rfl rfl rfl Tryd.underlying25 rfl (by exact Tryd.sizeOf22) 1 rfl) ?_
  refine GoH.v (Vop.ldo (v := .slice m.va m.val.length m.vc) rfl rfl rfl rfl Tryd.isAgg22 0 rfl rfl) ?_
  refine GoH.v (Vop.blt rfl rfl rfl (blt_len_slice Tryd.underlying22) rfl) ?_
  refine GoH.v (Vop.mv rfl rfl rfl rfl) ?_
  refine GoH.regionEnd ?_
  refine GoH.block ?_
  refine GoH.loop (σ := Nat) (fun k => [(1, .int .i64 x), (5, .int .i64 (fmTo m.val x k)), (22, .slice m.va m.val.length m.vc), (23, .int .i64 m.val.length), (24, .int .i64 k)]) (fun _ => []) (fun k => k ≤ m.val.length) (fun k => m.val.length - k) 0 (Nat.zero_le _) ⟨rfl, rfl, rfl, rfl, rfl, trivial⟩ (List.nil_sublist _) (fun k hI IH => ?_)
  -- heap:
  refine GoH.seq ?_
  refine GoH.region ?_
  refine GoH.v (Vop.bin rfl rfl rfl rfl bLt rfl) ?_
  refine GoH.regionEnd ?_
  refine GoH.seq ?_
  refine GoH.cond rfl (fun hc => ?_) (fun hc => ?_)
  · -- yes
    have hlt : k < m.val.length := by simpa using hc
    have hb1 := bit1_le (m.val.getD k 0#64) x
    refine GoH.skip ?_
    refine GoH.seq ?_
    refine GoH.block ?_
    refine GoH.seq ?_
    refine GoH.region ?_
    refine GoH.v (Vop.mv rfl rfl rfl rfl) ?_
    refine GoH.v (Vop.idx rfl rfl rfl rfl rfl Tryd.underlying22 Tryd.sizeOf44 ⟨_, hm.val⟩ (by simp) (k) ⟨rfl, by simpa using hlt⟩) ?_
    refine GoH.v (Vop.ld rfl rfl rfl rfl Tryd.isAgg44 (fun w _ hS => (SlU.ex0 hm.val hS.ext).at (k) hlt)) ?_
    refine GoH.v (Vop.asg rfl rfl rfl rfl) ?_
    refine GoH.v (Vop.asg rfl rfl rfl rfl) ?_
    refine GoH.regionEnd ?_
    refine GoH.region ?_
    refine GoH.v (Vop.mv rfl rfl rfl rfl) ?_
    refine GoH.v (Vop.mv rfl rfl rfl rfl) ?_
    refine GoH.v (Vop.mv rfl rfl rfl rfl) ?_
    refine GoH.v (Vop.bin rfl rfl rfl rfl (bShr x rfl) rfl) ?_
    refine GoH.v (Vop.bin (b := U 1#64) rfl rfl rfl rfl bAnd rfl) ?_
    refine GoH.v (Vop.conv rfl rfl rfl (cInt (a := (((m.val.getD k 0#64 >>> x) &&& 1#64).toNat : Int)) (k := .i64) Tryd.underlying44 Tryd.underlying3 (IntWalk.i64_in _ (by omega))) rfl) ?_
    refine GoH.v (Vop.mv rfl rfl rfl rfl) ?_
    refine GoH.v (Vop.bin rfl rfl rfl rfl (bShlN (j := k) rfl (bits_le hb1 (by omega)) (by omega)) rfl) ?_
    refine GoH.v (Vop.bin rfl rfl rfl rfl (bOrN (fm_lt (by omega)) (bits_le hb1 (by omega)) fm_step) rfl) ?_
    refine GoH.v (Vop.asg rfl rfl rfl rfl) ?_
    refine GoH.regionEnd ?_
    refine GoH.inBlock ?_
    refine GoH.region ?_
    refine GoH.v (Vop.bin rfl rfl rfl rfl (bAdd (by omega)) rfl) ?_
    refine GoH.v (Vop.mv rfl rfl rfl rfl) ?_
    refine GoH.regionEnd ?_
    exact IH (k + 1) _ _ hlt (by omega) ⟨rfl, rfl, rfl, rfl, rfl, trivial⟩ .slnil
  · -- no
    have hge : ¬ k < m.val.length := by simpa using hc
    obtain rfl : k = m.val.length := by omega
    refine GoH.exit rfl ?_
    refine GoH.seq ?_
    refine GoH.region ?_
    refine GoH.v (Vop.mv rfl rfl rfl rfl) ?_
    refine GoH.v (Vop.asg rfl rfl rfl rfl) ?_
    refine GoH.regionEnd ?_
    refine GoH.ret Tryd.f55 Tryd.func55 rfl (fun w' hS => ?_)
    exact ⟨hS.ext, rfl⟩
end Go.Proofs.YtpifbcbdbkbbjaaDoor
