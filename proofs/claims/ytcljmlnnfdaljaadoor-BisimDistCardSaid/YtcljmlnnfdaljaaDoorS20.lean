/- Contracts of functions of the program: what each call returns and that nothing else of memory is turned, under the conditions that each theorem states. -/
import Derived.Test.YtcljmlnnfdaljaaDoorS19
namespace Go.Proofs.YtcljmlnnfdaljaaDoor
open Go.RowKit Go.Proofs.Wit
/-! Check: whether a relation is a bisimulation -/
set_option maxRecDepth 8000 in
theorem bcheck_c (a b : MV) (za : Option Addr) (zc : Nat) (z : List W64) (w : World) (hT : Tab w) (ha : a.At w) (hb : b.At w) (hz : SlU w za z) (hzm : z.length ≤ maxLen) :
    Cn Tryd.prog 32 [a.v, b.v, .slice za z.length zc] w (fun r _ => r = .int .i64 (chkE a.n a.val a.rel b.n b.val b.rel z)) := by
  unfold maxLen at hzm
  refine Cn.of Tryd.func32 rfl rfl ?_
  refine GoH.seq ?_
  refine GoH.region ?_
  refine GoH.bx rfl rfl rfl rfl (fun b3 => ?_)
  refine GoH.bx rfl rfl rfl rfl (fun b4 => ?_)
  refine GoH.bx rfl rfl rfl rfl (fun b5 => ?_)
  refine GoH.alc rfl rfl rfl (fun _ => Tryd.zeroValue3 _) (fun b6 => ?_)
  refine GoH.regionEnd ?_
  refine GoH.seq ?_
  refine GoH.seq ?_
  refine GoH.region ?_
  refine GoH.v (Vop.ldB rfl rfl rfl rfl Tryd.isAgg25 3 rfl Tryd.sizeOf25 rfl) ?_
  refine GoH.v (Vop.ldB rfl rfl rfl rfl Tryd.isAgg25 2 rfl Tryd.sizeOf25 rfl) ?_
  refine GoH.callP rfl rfl rfl rfl rfl (fun _ _ => Tryd.call55 _ _) (fun w _ hS => (by exact bboth_c a b w (ha.ex0 hS.ext) (hb.ex0 hS.ext))) ?_
  refine GoH.v (Vop.asg rfl rfl rfl rfl) ?_
  refine GoH.regionEnd ?_
  refine GoH.seq ?_
  refine GoH.region ?_
  refine GoH.v (Vop.mv rfl rfl rfl rfl) ?_
  refine GoH.v (Vop.bin rfl rfl rfl rfl bNe rfl) ?_
  refine GoH.regionEnd ?_
  refine GoH.cond rfl (fun hc => ?_) (fun hc => ?_)
  · -- yes
    have h1 : bothE a.n a.val a.rel b.n b.val b.rel ≠ 0 := by simpa using hc
    refine GoH.seq ?_
    refine GoH.region ?_
    refine GoH.v (Vop.mv rfl rfl rfl rfl) ?_
    refine GoH.st rfl rfl rfl rfl Tryd.sizeOf3 rfl 0 rfl rfl ?_
    refine GoH.regionEnd ?_
    refine GoH.retC Tryd.f32 Tryd.func32 0 rfl rfl Tryd.isAgg3 rfl rfl (fun w' hS => ?_)
    exact ⟨hS.ext, by rw [chkE, if_pos h1]; rfl⟩
  · -- no
    have h1 : bothE a.n a.val a.rel b.n b.val b.rel = 0 := by simpa using hc
    obtain ⟨hva, hvb, hlr, hlv⟩ := bothE_zero.1 h1
    have hn1 := hvb.n1
    have hn64 := hvb.n64
    refine GoH.skip ?_
    refine GoH.seq ?_
    refine GoH.seq ?_
    refine GoH.region ?_
    refine GoH.v (Vop.ldo rfl rfl rfl rfl Tryd.isAgg22 1 rfl rfl) ?_
    refine GoH.v (Vop.blt rfl rfl rfl (blt_len_slice Tryd.underlying22) rfl) ?_
    refine GoH.v (Vop.fldP rfl rfl rfl rfl Tryd.underlying25 rfl (by exact Tryd.sizeOf3) 0 rfl) ?_
    refine GoH.v (Vop.ldo (v := .int .i64 a.n) rfl rfl rfl rfl Tryd.isAgg3 3 rfl rfl) ?_
    refine GoH.v (Vop.bin rfl rfl rfl rfl bNe rfl) ?_
    refine GoH.regionEnd ?_
    refine GoH.cond rfl (fun hc => ?_) (fun hc => ?_)
    · -- yes
      have h2 : (z.length : Int) ≠ a.n := by simpa using hc
      refine GoH.seq ?_
      refine GoH.region ?_
      refine GoH.st rfl rfl rfl rfl Tryd.sizeOf3 rfl 0 rfl rfl ?_
      refine GoH.regionEnd ?_
      refine GoH.retC Tryd.f32 Tryd.func32 0 rfl rfl Tryd.isAgg3 rfl rfl (fun w' hS => ?_)
      exact ⟨hS.ext, by rw [chkE, if_neg (by simp [h1]), if_pos h2]; rfl⟩
    · -- no
      have h2 : (z.length : Int) = a.n := by simpa using hc
      refine GoH.skip ?_
      refine GoH.seq ?_
      refine GoH.seq ?_
      refine GoH.region ?_
      refine GoH.v (Vop.ldo rfl rfl rfl rfl Tryd.isAgg22 1 rfl rfl) ?_
      refine GoH.v (Vop.blt rfl rfl rfl (blt_len_slice Tryd.underlying22) rfl) ?_
      refine GoH.v (Vop.mv rfl rfl rfl rfl) ?_
      refine GoH.regionEnd ?_
      refine GoH.block ?_
      refine GoH.loop (σ := Nat) (fun k => [(3, .pointer (some ⟨b3, 0, none⟩)), (4, .pointer (some ⟨b4, 0, none⟩)), (5, .pointer (some ⟨b5, 0, none⟩)), (6, .pointer (some ⟨b6, 0, none⟩)), (24, .slice za z.length zc), (25, .int .i64 z.length), (26, .int .i64 k)])
        (fun _ => [(some b6, .cells #[.int .i64 0] 3 (0, 0)), (some b5, .cells #[.slice za z.length zc] 22 (0, 0)), (some b4, .cells b.v.cells 25 (0, 0)), (some b3, .cells a.v.cells 25 (0, 0))])
        (fun k => k ≤ z.length ∧ ∀ i, i < k → z.getD i 0#64 &&& ~~~ allW b.n.toNat = 0#64) (fun k => z.length - k) 0 ⟨Nat.zero_le _, fun i hi => absurd hi (Nat.not_lt_zero _)⟩ ⟨rfl, rfl, rfl, rfl, rfl, rfl, rfl, trivial⟩ (List.Sublist.refl _) (fun k hI IH => ?_)
      obtain ⟨hk, hall⟩ := hI
      -- heap: b6 b5 b4 b3
      -- ptr: 3=b3 4=b4 5=b5 6=b6
      refine GoH.seq ?_
      refine GoH.region ?_
      refine GoH.v (Vop.bin rfl rfl rfl rfl bLt rfl) ?_
      refine GoH.regionEnd ?_
      refine GoH.seq ?_
      refine GoH.cond rfl (fun hc => ?_) (fun hc => ?_)
      · -- yes
        have hlt : k < z.length := by simpa using hc
        refine GoH.skip ?_
        refine GoH.seq ?_
        refine GoH.block ?_
        refine GoH.seq ?_
        refine GoH.region ?_
        refine GoH.v (Vop.idx rfl rfl rfl rfl rfl Tryd.underlying22 Tryd.sizeOf33 ⟨_, hz⟩ (by simp) (k) ⟨rfl, by simpa using hlt⟩) ?_
        refine GoH.v (Vop.ld rfl rfl rfl rfl Tryd.isAgg33 (fun w _ hS => (SlU.ex0 hz hS.ext).at (k) hlt)) ?_
        refine GoH.v (Vop.asg rfl rfl rfl rfl) ?_
        refine GoH.regionEnd ?_
        refine GoH.seq ?_
        refine GoH.draw 5 mixed rfl ?_
        refine RdGo.v (Vop.mv rfl rfl rfl rfl) ?_
        refine RdGo.callP rfl rfl rfl rfl rfl (fun _ _ => Tryd.call56 _ _) (fun w _ hS => len64_c (z.getD k 0#64) w) ?_
        refine RdGo.v (Vop.fldP rfl rfl rfl rfl Tryd.underlying25 rfl (by exact Tryd.sizeOf3) 0 rfl) ?_
        refine RdGo.v (Vop.ldo (v := .int .i64 b.n) rfl rfl rfl rfl Tryd.isAgg3 2 rfl rfl) ?_
        refine RdGo.v (Vop.bin rfl rfl rfl rfl bGt rfl) ?_
        refine RdGo.nil ?_
        refine GoH.regionEnd ?_
        refine GoH.cond rfl (fun hc => ?_) (fun hc => ?_)
        · -- yes
          have h3 : lenN (z.getD k 0#64).toNat > b.n.toNat := by have := of_decide_eq_true hc; omega
          have h4 := (lenN_out (by omega)).1 h3
          refine GoH.seq ?_
          refine GoH.region ?_
          refine GoH.st rfl rfl rfl rfl Tryd.sizeOf3 rfl 0 rfl rfl ?_
          refine GoH.regionEnd ?_
          refine GoH.retC Tryd.f32 Tryd.func32 0 rfl rfl Tryd.isAgg3 rfl rfl (fun w' hS => ?_)
          refine ⟨hS.ext, ?_⟩
          have h5 : outB b.n.toNat z = true := by
            cases h : outB b.n.toNat z with
            | true => rfl
            | false =>
              have := outB_false.1 h z[k] (List.getElem_mem hlt)
              rw [List.getD_eq_getElem?_getD, List.getElem?_eq_getElem hlt] at h4
              exact absurd this h4
          rw [chkE, if_neg (by simp [h1]), if_neg (by simp [h2]), if_pos h5]
          rfl
        · -- no
          have h3 : ¬ lenN (z.getD k 0#64).toNat > b.n.toNat := by have := of_decide_eq_false hc; omega
          have h4 : z.getD k 0#64 &&& ~~~ allW b.n.toNat = 0#64 := Classical.not_not.1 (fun hx => h3 ((lenN_out (by omega)).2 hx))
          refine GoH.skip ?_
          refine GoH.inBlock ?_
          refine GoH.region ?_
          refine GoH.v (Vop.bin rfl rfl rfl rfl (bAdd (by omega)) rfl) ?_
          refine GoH.v (Vop.mv rfl rfl rfl rfl) ?_
          refine GoH.regionEnd ?_
          exact IH (k + 1) _ _ ⟨hlt, fun i hi => by
          by_cases e : i = k
          · subst e; exact h4
          · exact hall i (by omega)⟩ (by omega) ⟨rfl, rfl, rfl, rfl, rfl, rfl, rfl, trivial⟩ (List.Sublist.refl _)
      · -- no
        have hge : ¬ k < z.length := by simpa using hc
        have hob : outB b.n.toNat z = false := outB_false.2 (fun s hs => by
          obtain ⟨i, hi, rfl⟩ := List.mem_iff_getElem.1 hs
          have := hall i (by omega)
          rw [List.getD_eq_getElem?_getD, List.getElem?_eq_getElem hi] at this
          exact this)
        have hrng := (outB_rng (n := b.n.toNat) (by omega)).1 hob
        refine GoH.exit rfl ?_
        refine GoH.seq ?_
        refine GoH.seq ?_
        refine GoH.region ?_
        refine GoH.v (Vop.ldo rfl rfl rfl rfl Tryd.isAgg22 1 rfl rfl) ?_
        refine GoH.v (Vop.blt rfl rfl rfl (blt_len_slice Tryd.underlying22) rfl) ?_
        refine GoH.v (Vop.mv rfl rfl rfl rfl) ?_
        refine GoH.regionEnd ?_
        refine GoH.block ?_
        refine GoH.loop (σ := Nat) (fun k => [(3, .pointer (some ⟨b3, 0, none⟩)), (4, .pointer (some ⟨b4, 0, none⟩)), (5, .pointer (some ⟨b5, 0, none⟩)), (6, .pointer (some ⟨b6, 0, none⟩)), (36, .slice za z.length zc), (37, .int .i64 z.length), (38, .int .i64 k)])
          (fun _ => [(some b6, .cells #[.int .i64 0] 3 (0, 0)), (some b5, .cells #[.slice za z.length zc] 22 (0, 0)), (some b4, .cells b.v.cells 25 (0, 0)), (some b3, .cells a.v.cells 25 (0, 0))])
          (fun k => k ≤ z.length ∧ ∀ i, i < k → ∀ x ∈ pts (z.getD i 0#64), matB a.val b.val a.rel b.rel z i x = true) (fun k => z.length - k) 0 ⟨Nat.zero_le _, fun i hi => absurd hi (Nat.not_lt_zero _)⟩ ⟨rfl, rfl, rfl, rfl, rfl, rfl, rfl, trivial⟩ (List.Sublist.refl _) (fun v hI IH => ?_)
        obtain ⟨hk2, hall2⟩ := hI
        -- heap: b6 b5 b4 b3
        -- ptr: 3=b3 4=b4 5=b5 6=b6
        refine GoH.seq ?_
        refine GoH.region ?_
        refine GoH.v (Vop.bin rfl rfl rfl rfl bLt rfl) ?_
        refine GoH.regionEnd ?_
        refine GoH.seq ?_
        refine GoH.cond rfl (fun hc => ?_) (fun hc => ?_)
        · -- yes
          have hlt : v < z.length := by simpa using hc
          refine GoH.skip ?_
          refine GoH.seq ?_
          refine GoH.block ?_
          refine GoH.seq ?_
          refine GoH.region ?_
          refine GoH.v (Vop.mv rfl rfl rfl rfl) ?_
          refine GoH.v (Vop.idx rfl rfl rfl rfl rfl Tryd.underlying22 Tryd.sizeOf33 ⟨_, hz⟩ (by simp) (v) ⟨rfl, by simpa using hlt⟩) ?_
          refine GoH.v (Vop.ld rfl rfl rfl rfl Tryd.isAgg33 (fun w _ hS => (SlU.ex0 hz hS.ext).at (v) hlt)) ?_
          refine GoH.alc rfl rfl rfl (fun _ => Tryd.zeroValue3 _) (fun b10 => ?_)
          refine GoH.st rfl rfl rfl rfl Tryd.sizeOf3 rfl 0 rfl rfl ?_
          refine GoH.v (Vop.asg rfl rfl rfl rfl) ?_
          refine GoH.regionEnd ?_
          refine GoH.seq ?_
          refine GoH.region ?_
          refine GoH.v (Vop.mv rfl rfl rfl rfl) ?_
          refine GoH.callM _ rfl rfl rfl rfl rfl (fun _ _ => Tryd.call57 _ _) (fun w _ hS => members_c (z.getD v 0#64) w) ?_
          rintro r w1 w2 Y' hS he ⟨bp, rfl, hbp, hh⟩
          refine ⟨_, hS.gain he hh rfl hbp, ?_⟩
          -- heap: bp b10 b6 b5 b4 b3
          refine GoH.regionEnd ?_
          refine GoH.block ?_
          refine GoH.rangeF (σ := Int) (cap := [(some bp, .cells #[U (z.getD v 0#64)] 33 (0, 0))]) (fun e => [(some b10, .cells #[.int .i64 v] 3 (0, 0)), (some b6, .cells #[.int .i64 e] 3 (0, 0)), (some b5, .cells #[.slice za z.length zc] 22 (0, 0)), (some b4, .cells b.v.cells 25 (0, 0)), (some b3, .cells a.v.cells 25 (0, 0))])
            (fun q e => e = 0 ∧ ∀ x ∈ (pts (z.getD v 0#64)).take q, matB a.val b.val a.rel b.rel z v x = true)
            (fun c e => c = .ret ∧ e = 13 ∧ badZ a.val b.val a.rel b.rel z = true) 0
            rfl (fun _ _ => Tryd.call75 _ _) (members1_it w [] hT (by simp) _ bp) (args1 rfl) rfl ⟨rfl, fun y hy => by simp at hy⟩ (List.Sublist.refl _) ?_ ?_ ?_
          -- heap: b10 b6 b5 b4 b3
          · -- a round
            intro L Y' rec hi' q az e haz hI hrec
            obtain ⟨rfl, hmet⟩ := hI
            rw [List.getElem?_map] at haz
            obtain ⟨x, hx, rfl⟩ := Option.map_eq_some_iff.1 haz
            have hxb := hrng v x (mem_pts.1 (List.mem_of_getElem? hx)).2
            obtain ⟨hq1, hq2⟩ := List.getElem?_eq_some_iff.1 hx
            refine GoH.region ?_
            refine GoH.v (Vop.asg rfl rfl rfl rfl) ?_
            refine GoH.regionEnd ?_
            refine GoH.beginRound hrec ?_
            refine GoH.block ?_
            refine GoH.seq ?_
            refine GoH.region ?_
            refine GoH.v (Vop.ldB rfl rfl rfl rfl Tryd.isAgg25 4 rfl Tryd.sizeOf25 rfl) ?_
            refine GoH.v (Vop.ldB rfl rfl rfl rfl Tryd.isAgg25 3 rfl Tryd.sizeOf25 rfl) ?_
            refine GoH.v (Vop.ldo rfl rfl rfl rfl Tryd.isAgg22 2 rfl rfl) ?_
            refine GoH.v (Vop.ldo rfl rfl rfl rfl Tryd.isAgg3 0 rfl rfl) ?_
            refine GoH.v (Vop.mv rfl rfl rfl rfl) ?_
            refine GoH.callP rfl rfl rfl rfl rfl (fun _ _ => Tryd.call58 _ _) (fun w _ hS => (by exact matched_c a b za zc z v x w (hT.ex hS.ext) (ha.ex0 hS.ext) (hb.ex0 hS.ext) hva hvb hlr (hz.ex0 hS.ext) h2 (by omega) (by omega))) ?_
            refine GoH.v (Vop.un rfl rfl rfl uNot rfl) ?_
            refine GoH.regionEnd ?_
            refine GoH.cond rfl (fun hc => ?_) (fun hc => ?_)
            · -- yes
              have h5 : matB a.val b.val a.rel b.rel z v x = false := by simpa using hc
              refine GoH.seq ?_
              refine GoH.region ?_
              refine GoH.st rfl rfl rfl rfl Tryd.sizeOf3 rfl 1 rfl rfl ?_
              refine GoH.regionEnd ?_
              refine GoH.rRet (13 : Int) ⟨rfl, rfl, ?_⟩ (List.Sublist.refl _)
              rw [badZ, List.any_eq_true]
              exact ⟨v, List.mem_range.2 hlt, List.any_eq_true.2 ⟨x, List.mem_of_getElem? hx, by rw [h5]; rfl⟩⟩
            · -- no
              have h5 : matB a.val b.val a.rel b.rel z v x = true := by simpa using hc
              refine GoH.skip ?_
              refine GoH.inBlock ?_
              exact GoH.rEnd (0 : Int) ⟨rfl, fun u hu => by
                rw [List.take_succ_eq_append_getElem hq1] at hu
                rcases List.mem_append.1 hu with hu | hu
                · exact hmet u hu
                · rw [List.mem_singleton.1 hu, hq2]; exact h5⟩ (List.Sublist.refl _)
          · -- all have come
            rintro e ⟨rfl, hmet⟩
            rw [List.length_map, List.take_length] at hmet
            refine GoH.inBlock ?_
            refine GoH.inBlock ?_
            refine GoH.region ?_
            refine GoH.v (Vop.bin rfl rfl rfl rfl (bAdd (by omega)) rfl) ?_
            refine GoH.v (Vop.mv rfl rfl rfl rfl) ?_
            refine GoH.regionEnd ?_
            exact IH (v + 1) _ _ ⟨hlt, fun i hi => by
            by_cases e : i = v
            · subst e; exact hmet
            · exact hall2 i (by omega)⟩ (by omega) ⟨rfl, rfl, rfl, rfl, rfl, rfl, rfl, trivial⟩ (.cons _ (List.Sublist.refl _))
          · -- stopped
            rintro c e ⟨rfl, rfl, hbad⟩
            refine GoH.retC Tryd.f32 Tryd.func32 1 rfl rfl Tryd.isAgg3 rfl rfl (fun w' hS => ?_)
            exact ⟨hS.ext, by rw [chkE, if_neg (by simp [h1]), if_neg (by simp [h2]), if_neg (by simp [hob]), if_pos hbad]; rfl⟩
        · -- no
          have hge2 : ¬ v < z.length := by simpa using hc
          refine GoH.exit rfl ?_
          refine GoH.seq ?_
          refine GoH.region ?_
          refine GoH.st rfl rfl rfl rfl Tryd.sizeOf3 rfl 0 rfl rfl ?_
          refine GoH.regionEnd ?_
          refine GoH.retC Tryd.f32 Tryd.func32 0 rfl rfl Tryd.isAgg3 rfl rfl (fun w' hS => ?_)
          refine ⟨hS.ext, ?_⟩
          have hbad : badZ a.val b.val a.rel b.rel z = false := badZ_false.2 (fun i x hx => hall2 i (by have := hx.dom; omega) x (mem_pts.2 ⟨bit_lt hx, hx⟩))
          rw [chkE, if_neg (by simp [h1]), if_neg (by simp [h2]), if_neg (by simp [hob]), if_neg (by simp [hbad])]
          rfl
set_option maxRecDepth 8000 in
theorem between_c (a b : MV) (w : World) (hT : Tab w) (ha : a.At w) (hb : b.At w) :
    Cn Tryd.prog 54 [a.v, b.v] w (fun r w' => ∃ (sv : Value) (z : List W64), r = .tuple #[sv, .int .i64 (bothE a.n a.val a.rel b.n b.val b.rel)] ∧ OwnS U 33 w w' sv z ∧ BetZ a.n a.val a.rel b.n b.val b.rel z) := by
  obtain ⟨i0, hi, hz, hsz, hby⟩ := info_parts infoU
  refine Cn.of Tryd.func54 rfl rfl ?_
  refine GoH.seq ?_
  refine GoH.region ?_
  refine GoH.bx rfl rfl rfl rfl (fun b2 => ?_)
  refine GoH.bx rfl rfl rfl rfl (fun b3 => ?_)
  refine GoH.v (Vop.asg rfl rfl rfl rfl) ?_
  refine GoH.v (Vop.asg rfl rfl rfl rfl) ?_
  refine GoH.regionEnd ?_
  refine GoH.seq ?_
  refine GoH.seq ?_
  refine GoH.region ?_
  refine GoH.v (Vop.ldB rfl rfl rfl rfl Tryd.isAgg25 1 rfl Tryd.sizeOf25 rfl) ?_
  refine GoH.v (Vop.ldB rfl rfl rfl rfl Tryd.isAgg25 0 rfl Tryd.sizeOf25 rfl) ?_
  refine GoH.callP rfl rfl rfl rfl rfl (fun _ _ => Tryd.call55 _ _) (fun w _ hS => (by exact bboth_c a b w (ha.ex0 hS.ext) (hb.ex0 hS.ext))) ?_
  refine GoH.v (Vop.asg rfl rfl rfl rfl) ?_
  refine GoH.regionEnd ?_
  refine GoH.seq ?_
  refine GoH.region ?_
  refine GoH.v (Vop.mv rfl rfl rfl rfl) ?_
  refine GoH.v (Vop.bin rfl rfl rfl rfl bNe rfl) ?_
  refine GoH.regionEnd ?_
  refine GoH.cond rfl (fun hc => ?_) (fun hc => ?_)
  · -- yes
    have h1 : bothE a.n a.val a.rel b.n b.val b.rel ≠ 0 := by simpa using hc
    refine GoH.seq ?_
    refine GoH.region ?_
    refine GoH.v (Vop.mv rfl rfl rfl rfl) ?_
    refine GoH.v (Vop.asg rfl rfl rfl rfl) ?_
    refine GoH.v (Vop.asg rfl rfl rfl rfl) ?_
    refine GoH.regionEnd ?_
    refine GoH.ret Tryd.f54 Tryd.func54 rfl (fun w' hS => ?_)
    exact ⟨hS.ext, _, [], rfl, OwnS.nil0, fun _ => rfl, fun e => absurd e h1⟩
  · -- no
    have h1 : bothE a.n a.val a.rel b.n b.val b.rel = 0 := by simpa using hc
    obtain ⟨hva, hvb, hlr, hlv⟩ := bothE_zero.1 h1
    have ha1 := hva.n1
    have ha64 := hva.n64
    have hb1 := hvb.n1
    have hb64 := hvb.n64
    obtain ⟨na, hna⟩ : ∃ n : Nat, a.n = n := ⟨a.n.toNat, by omega⟩
    obtain ⟨nb, hnb⟩ : ∃ n : Nat, b.n = n := ⟨b.n.toNat, by omega⟩
    refine GoH.skip ?_
    refine GoH.seq ?_
    refine GoH.region ?_
    refine GoH.v (Vop.fldP rfl rfl rfl rfl Tryd.underlying25 rfl (by exact Tryd.sizeOf3) 0 rfl) ?_
    refine GoH.v (Vop.ldo (v := .int .i64 a.n) rfl rfl rfl rfl Tryd.isAgg3 1 rfl rfl) ?_
    refine GoH.mkE U 0#64 (m := na) rfl rfl (by rw [← hna]; rfl) (by rw [← hna]; rfl) rfl Tryd.underlying22 hi hz rfl hsz (by rw [hby]; omega) (by unfold maxLen; omega) (fun b21 => ?_)
    -- heap: b21 b3 b2
    refine GoH.alc rfl rfl rfl (fun _ => Tryd.zeroValue22 _) (fun b7 => ?_)
    refine GoH.st rfl rfl rfl rfl Tryd.sizeOf22 rfl 0 rfl rfl ?_
    refine GoH.regionEnd ?_
    refine GoH.seq ?_
    refine GoH.seq ?_
    refine GoH.region ?_
    refine GoH.v (Vop.ldo rfl rfl rfl rfl Tryd.isAgg22 0 rfl rfl) ?_
    refine GoH.v (Vop.blt rfl rfl rfl (blt_len_slice Tryd.underlying22) rfl) ?_
    refine GoH.v (Vop.mv rfl rfl rfl rfl) ?_
    refine GoH.regionEnd ?_
    refine GoH.block ?_
    refine GoH.loop (σ := Nat) (fun k => [(2, .pointer (some ⟨b2, 0, none⟩)), (3, .pointer (some ⟨b3, 0, none⟩)), (7, .pointer (some ⟨b7, 0, none⟩)), (23, .int .i64 na), (24, .int .i64 k)])
      (fun k => [(some b7, .cells #[.slice (some ⟨b21, 0, none⟩) na na] 22 (0, 0)), (some b21, ob U 33 (flm (fun _ _ => allW nb) (List.replicate na 0#64) k) []), (some b3, .cells b.v.cells 25 (0, 0)), (some b2, .cells a.v.cells 25 (0, 0))])
      (fun k => k ≤ na) (fun k => na - k) 0 (Nat.zero_le _) ⟨rfl, rfl, rfl, rfl, rfl, trivial⟩ (by rw [flm_zero]; exact List.Sublist.refl _) (fun k hI IH => ?_)
    -- heap: b7 b21 b3 b2
    -- ptr: 2=b2 3=b3 7=b7
    refine GoH.seq ?_
    refine GoH.region ?_
    refine GoH.v (Vop.bin rfl rfl rfl rfl bLt rfl) ?_
    refine GoH.regionEnd ?_
    refine GoH.seq ?_
    refine GoH.cond rfl (fun hc => ?_) (fun hc => ?_)
    · -- yes
      have hlt : k < na := by simpa using hc
      have hls : k < (flm (fun _ _ => allW nb) (List.replicate na 0#64) k).length := by rw [flm_length]; simpa using hlt
      refine GoH.skip ?_
      refine GoH.seq ?_
      refine GoH.block ?_
      refine GoH.seq ?_
      refine GoH.region ?_
      refine GoH.v (Vop.mv rfl rfl rfl rfl) ?_
      refine GoH.v (Vop.asg rfl rfl rfl rfl) ?_
      refine GoH.regionEnd ?_
      refine GoH.draw 7 mixed rfl ?_
      refine RdGo.v (Vop.ldo rfl rfl rfl rfl Tryd.isAgg22 0 rfl rfl) ?_
      refine RdGo.v (Vop.mv rfl rfl rfl rfl) ?_
      refine RdGo.v (Vop.fldP rfl rfl rfl rfl Tryd.underlying25 rfl (by exact Tryd.sizeOf3) 0 rfl) ?_
      refine RdGo.v (Vop.ldo (v := .int .i64 b.n) rfl rfl rfl rfl Tryd.isAgg3 2 rfl rfl) ?_
      refine RdGo.v (Vop.bin (a := U 1#64) rfl rfl rfl rfl (bShl nb hnb) rfl) ?_
      refine RdGo.v (Vop.bin (b := U 1#64) rfl rfl rfl rfl bSubU rfl) ?_
      refine RdGo.v (Vop.idxS rfl rfl rfl rfl rfl Tryd.underlying22 Tryd.sizeOf33 (k) ⟨rfl, hlt⟩) ?_
      refine RdGo.nil ?_
      refine GoH.stE U _ rfl rfl rfl rfl Tryd.sizeOf33 rfl 1 rfl hls ?_
      refine GoH.regionEnd ?_
      refine GoH.inBlock ?_
      refine GoH.region ?_
      refine GoH.v (Vop.bin rfl rfl rfl rfl (bAdd (by omega)) rfl) ?_
      refine GoH.v (Vop.mv rfl rfl rfl rfl) ?_
      refine GoH.regionEnd ?_
      exact IH (k + 1) _ _ hlt (by omega) ⟨rfl, rfl, rfl, rfl, rfl, trivial⟩ (by rw [← flm_succ (by simpa using hlt), allW_sub (by omega)]; exact List.Sublist.refl _)
    · -- no
      have hge : ¬ k < na := by simpa using hc
      obtain rfl : na = k := by omega
      rw [flm_const]
      refine GoH.exit rfl ?_
      refine GoH.seq ?_
      refine GoH.seq ?_
      refine GoH.region ?_
      refine GoH.alc rfl rfl rfl (fun _ => Tryd.zeroValue4 _) (fun b9 => ?_)
      refine GoH.st rfl rfl rfl rfl Tryd.sizeOf4 rfl 0 rfl rfl ?_
      refine GoH.regionEnd ?_
      refine GoH.block ?_
      refine GoH.loop (σ := List W64 × Bool × Nat) (fun s => [(2, .pointer (some ⟨b2, 0, none⟩)), (3, .pointer (some ⟨b3, 0, none⟩)), (7, .pointer (some ⟨b7, 0, none⟩)), (9, .pointer (some ⟨s.2.2, 0, none⟩))])
        (fun s => [(some s.2.2, .cells #[.bool s.2.1] 4 (0, 0)), (some b7, .cells #[.slice (some ⟨b21, 0, none⟩) na na] 22 (0, 0)), (some b21, ob U 33 s.1 []), (some b3, .cells b.v.cells 25 (0, 0)), (some b2, .cells a.v.cells 25 (0, 0))])
        (fun s => InvZ a.val b.val a.rel b.rel na nb s.1 ∧ (s.2.1 = false → Grt a.val b.val a.rel b.rel na nb s.1)) (fun s => 2 * sumZ s.1 + s.2.1.toNat) (List.replicate na (allW nb), true, b9) ⟨InvZ.start (by omega), (fun e => by cases e)⟩ ⟨rfl, rfl, rfl, rfl, trivial⟩ (List.Sublist.refl _) (fun s hI IH => ?_)
      obtain ⟨z0, ch0, b9⟩ := s
      obtain ⟨hinv, hgr⟩ := hI
      dsimp only at hinv hgr IH ⊢
      -- heap: b9 b7 b21 b3 b2
      -- ptr: 2=b2 3=b3 7=b7 9=b9
      refine GoH.seq ?_
      refine GoH.seq ?_
      refine GoH.region ?_
      refine GoH.v (Vop.ldo rfl rfl rfl rfl Tryd.isAgg4 0 rfl rfl) ?_
      refine GoH.regionEnd ?_
      refine GoH.cond rfl (fun hc => ?_) (fun hc => ?_)
      · -- yes
        obtain rfl : ch0 = true := hc
        refine GoH.skip ?_
        refine GoH.seq ?_
        refine GoH.block ?_
        refine GoH.seq ?_
        refine GoH.region ?_
        refine GoH.st rfl rfl rfl rfl Tryd.sizeOf4 rfl 0 rfl rfl ?_
        refine GoH.regionEnd ?_
        refine GoH.seq ?_
        refine GoH.region ?_
        refine GoH.v (Vop.ldo rfl rfl rfl rfl Tryd.isAgg22 1 rfl rfl) ?_
        refine GoH.v (Vop.blt rfl rfl rfl (blt_len_slice Tryd.underlying22) rfl) ?_
        refine GoH.v (Vop.mv rfl rfl rfl rfl) ?_
        refine GoH.regionEnd ?_
        refine GoH.block ?_
        refine GoH.loop (σ := Nat × List W64 × Bool) (fun s => [(2, .pointer (some ⟨b2, 0, none⟩)), (3, .pointer (some ⟨b3, 0, none⟩)), (7, .pointer (some ⟨b7, 0, none⟩)), (9, .pointer (some ⟨b9, 0, none⟩)), (36, .slice (some ⟨b21, 0, none⟩) na na), (37, .int .i64 na), (38, .int .i64 s.1)])
          (fun s => [(some b9, .cells #[.bool s.2.2] 4 (0, 0)), (some b7, .cells #[.slice (some ⟨b21, 0, none⟩) na na] 22 (0, 0)), (some b21, ob U 33 s.2.1 []), (some b3, .cells b.v.cells 25 (0, 0)), (some b2, .cells a.v.cells 25 (0, 0))])
          (fun s => s.1 ≤ na ∧ TurnZ a.val b.val a.rel b.rel na nb z0 s.2.1 s.2.2 s.1) (fun s => na - s.1) (0, z0, false) ⟨Nat.zero_le _, TurnZ.start hinv⟩ ⟨rfl, rfl, rfl, rfl, rfl, rfl, rfl, trivial⟩ (List.Sublist.refl _) (fun s hI IH2 => ?_)
        obtain ⟨k, z, ch⟩ := s
        obtain ⟨hk, hturn⟩ := hI
        dsimp only at hk hturn IH2 ⊢
        -- heap: b9 b7 b21 b3 b2
        -- ptr: 2=b2 3=b3 7=b7 9=b9
        refine GoH.seq ?_
        refine GoH.region ?_
        refine GoH.v (Vop.bin rfl rfl rfl rfl bLt rfl) ?_
        refine GoH.regionEnd ?_
        refine GoH.seq ?_
        refine GoH.cond rfl (fun hc => ?_) (fun hc => ?_)
        · -- yes
          have hlt : k < na := by simpa using hc
          have hzl := hturn.inv.len
          have hls : k < z.length := by omega
          refine GoH.skip ?_
          refine GoH.seq ?_
          refine GoH.block ?_
          refine GoH.seq ?_
          refine GoH.region ?_
          refine GoH.v (Vop.mv rfl rfl rfl rfl) ?_
          refine GoH.v (Vop.idxS rfl rfl rfl rfl rfl Tryd.underlying22 Tryd.sizeOf33 (k) ⟨rfl, hlt⟩) ?_
          refine GoH.v (Vop.ldE U 0#64 rfl rfl rfl rfl Tryd.isAgg33 2 rfl hls) ?_
          refine GoH.alc rfl rfl rfl (fun _ => Tryd.zeroValue3 _) (fun b10 => ?_)
          refine GoH.st rfl rfl rfl rfl Tryd.sizeOf3 rfl 0 rfl rfl ?_
          refine GoH.v (Vop.asg rfl rfl rfl rfl) ?_
          refine GoH.regionEnd ?_
          refine GoH.seq ?_
          refine GoH.region ?_
          refine GoH.v (Vop.mv rfl rfl rfl rfl) ?_
          refine GoH.callM _ rfl rfl rfl rfl rfl (fun _ _ => Tryd.call57 _ _) (fun w _ hS => members_c (z.getD k 0#64) w) ?_
          rintro r w1 w2 Y' hS he ⟨bp, rfl, hbp, hh⟩
          refine ⟨_, hS.gain he hh rfl hbp, ?_⟩
          -- heap: bp b10 b9 b7 b21 b3 b2
          refine GoH.regionEnd ?_
          refine GoH.block ?_
          refine GoH.rangeF (σ := List W64 × Bool) (cap := [(some bp, .cells #[U (z.getD k 0#64)] 33 (0, 0))]) (fun s => [(some b10, .cells #[.int .i64 k] 3 (0, 0)), (some b9, .cells #[.bool s.2] 4 (0, 0)), (some b7, .cells #[.slice (some ⟨b21, 0, none⟩) na na] 22 (0, 0)), (some b21, ob U 33 s.1 []), (some b3, .cells b.v.cells 25 (0, 0)), (some b2, .cells a.v.cells 25 (0, 0))])
            (fun i s => RowZ a.val b.val a.rel b.rel na nb z0 k (z.getD k 0#64) i s.1 s.2)
            (fun _ _ => False) (z, ch)
            rfl (fun _ _ => Tryd.call75 _ _) (members1_it w [] hT (by simp) _ bp) (args1 rfl) rfl hturn.row (List.Sublist.refl _) ?_ ?_ ?_
          -- heap: b10 b9 b7 b21 b3 b2
          · -- a round
            rintro L Y' rec hi' i az ⟨z2, ch2⟩ haz hI hrec
            dsimp only at hI ⊢
            rw [List.getElem?_map] at haz
            obtain ⟨x, hx, rfl⟩ := Option.map_eq_some_iff.1 haz
            have hz2 := hI.turn.inv.len
            have hx64 := (mem_pts.1 (List.mem_of_getElem? hx)).1
            have hxb := hturn.inv.rng k x (mem_pts.1 (List.mem_of_getElem? hx)).2
            have hls2 : k < z2.length := by omega
            refine GoH.region ?_
            refine GoH.v (Vop.asg rfl rfl rfl rfl) ?_
            refine GoH.regionEnd ?_
            refine GoH.beginRound hrec ?_
            refine GoH.block ?_
            refine GoH.seq ?_
            refine GoH.region ?_
            refine GoH.v (Vop.ldB rfl rfl rfl rfl Tryd.isAgg25 5 rfl Tryd.sizeOf25 rfl) ?_
            refine GoH.v (Vop.ldB rfl rfl rfl rfl Tryd.isAgg25 4 rfl Tryd.sizeOf25 rfl) ?_
            refine GoH.v (Vop.ldo rfl rfl rfl rfl Tryd.isAgg22 2 rfl rfl) ?_
            refine GoH.v (Vop.ldo rfl rfl rfl rfl Tryd.isAgg3 0 rfl rfl) ?_
            refine GoH.v (Vop.mv rfl rfl rfl rfl) ?_
            refine GoH.callP rfl rfl rfl rfl rfl (fun _ _ => Tryd.call58 _ _) (fun w _ hS => (by
            have := matched_c a b (some ⟨b21, 0, none⟩) na z2 k x w (hT.ex hS.ext) (ha.ex0 hS.ext) (hb.ex0 hS.ext) hva hvb hlr (SlU.own hS (j := 3) rfl) (by omega) (by omega) (by omega)
            rw [hz2] at this
            exact this)) ?_
            refine GoH.v (Vop.un rfl rfl rfl uNot rfl) ?_
            refine GoH.regionEnd ?_
            refine GoH.cond rfl (fun hc => ?_) (fun hc => ?_)
            · -- yes
              have h5 : matB a.val b.val a.rel b.rel z2 k x = false := by simpa using hc
              refine GoH.seq ?_
              refine GoH.draw 8 mixed rfl ?_
              refine RdGo.v (Vop.ldo rfl rfl rfl rfl Tryd.isAgg22 2 rfl rfl) ?_
              refine RdGo.v (Vop.ldo rfl rfl rfl rfl Tryd.isAgg3 0 rfl rfl) ?_
              refine RdGo.v (Vop.idxS rfl rfl rfl rfl rfl Tryd.underlying22 Tryd.sizeOf33 (k) ⟨rfl, hlt⟩) ?_
              refine RdGo.v (Vop.ldE U 0#64 rfl rfl rfl rfl Tryd.isAgg33 3 rfl hls2) ?_
              refine RdGo.v (Vop.mv rfl rfl rfl rfl) ?_
              refine RdGo.v (Vop.bin (a := U 1#64) rfl rfl rfl rfl (bShl x rfl) rfl) ?_
              refine RdGo.v (Vop.bin rfl rfl rfl rfl bAndNot rfl) ?_
              refine RdGo.v (Vop.idxS rfl rfl rfl rfl rfl Tryd.underlying22 Tryd.sizeOf33 (k) ⟨rfl, hlt⟩) ?_
              refine RdGo.nil ?_
              refine GoH.stE U _ rfl rfl rfl rfl Tryd.sizeOf33 rfl 3 rfl hls2 ?_
              refine GoH.regionEnd ?_
              refine GoH.region ?_
              refine GoH.st rfl rfl rfl rfl Tryd.sizeOf4 rfl 1 rfl rfl ?_
              refine GoH.regionEnd ?_
              refine GoH.inBlock ?_
              exact GoH.rEnd (delZ z2 k x, true) (hI.del hx h5) (List.Sublist.refl _)
            · -- no
              have h5 : matB a.val b.val a.rel b.rel z2 k x = true := by simpa using hc
              refine GoH.skip ?_
              refine GoH.inBlock ?_
              exact GoH.rEnd (z2, ch2) (hI.keep hx h5) (List.Sublist.refl _)
          · -- all have come
            rintro ⟨z2, ch2⟩ hI
            rw [List.length_map] at hI
            refine GoH.inBlock ?_
            refine GoH.inBlock ?_
            refine GoH.region ?_
            refine GoH.v (Vop.bin rfl rfl rfl rfl (bAdd (by omega)) rfl) ?_
            refine GoH.v (Vop.mv rfl rfl rfl rfl) ?_
            refine GoH.regionEnd ?_
            exact IH2 (k + 1, z2, ch2) _ _ ⟨hlt, hI.end⟩ (by dsimp only; omega) ⟨rfl, rfl, rfl, rfl, rfl, rfl, rfl, trivial⟩ (.cons _ (List.Sublist.refl _))
          · -- stopped
            intro c s h; exact h.elim
        · -- no
          have hge : ¬ k < na := by simpa using hc
          refine GoH.exit rfl ?_
          refine GoH.inBlock ?_
          refine GoH.seq ?_
          refine GoH.region ?_
          refine GoH.v (Vop.ldo rfl rfl rfl rfl Tryd.isAgg4 0 rfl rfl) ?_
          refine GoH.regionEnd ?_
          refine GoH.region ?_
          refine GoH.alc rfl rfl rfl (fun _ => Tryd.zeroValue4 _) (fun b9 => ?_)
          refine GoH.st rfl rfl rfl rfl Tryd.sizeOf4 rfl 0 rfl rfl ?_
          refine GoH.regionEnd ?_
          exact IH (z, ch, _) _ _ ⟨hturn.inv, fun e => by subst e; exact hturn.grt (by omega)⟩ hturn.meas ⟨rfl, rfl, rfl, rfl, trivial⟩ (.cons_cons _ (.cons _ (List.Sublist.refl _)))
      · -- no
        obtain rfl : ch0 = false := hc
        have hg := hgr rfl
        refine GoH.exit rfl ?_
        refine GoH.seq ?_
        refine GoH.region ?_
        refine GoH.v (Vop.ldo rfl rfl rfl rfl Tryd.isAgg22 1 rfl rfl) ?_
        refine GoH.v (Vop.asg rfl rfl rfl rfl) ?_
        refine GoH.v (Vop.asg rfl rfl rfl rfl) ?_
        refine GoH.regionEnd ?_
        refine GoH.ret Tryd.f54 Tryd.func54 rfl (fun w' hS => ?_)
        refine ⟨hS.ext, _, z0, by rw [h1]; rfl, OwnS.one hS 2 rfl hg.len.symm, fun e => absurd h1 e, fun _ => ?_⟩
        rw [hna, hnb]
        exact hg
end Go.Proofs.YtcljmlnnfdaljaaDoor
namespace Go.Proofs.YtcljmlnnfdaljaaDoor
open Go.RowKit Go.Proofs.Wit
/-! two worlds -/
set_option maxRecDepth 8000 in
theorem bisimilar_c (a b : MV) (v x : Int) (w : World) (hT : Tab w) (ha : a.At w) (hb : b.At w) :
    Cn Tryd.prog 30 [a.v, .int .i64 v, b.v, .int .i64 x] w (fun r _ => ∃ y : Bool, r = .tuple #[.bool y, .int .i64 (bisE a.n a.val a.rel b.n b.val b.rel v x)] ∧ BisY a.n a.val a.rel b.n b.val b.rel v x y) := by
  refine Cn.of Tryd.func30 rfl rfl ?_
  refine GoH.seq ?_
  refine GoH.region ?_
  refine GoH.bx rfl rfl rfl rfl (fun b4 => ?_)
  refine GoH.bx rfl rfl rfl rfl (fun b6 => ?_)
  refine GoH.v (Vop.asg rfl rfl rfl rfl) ?_
  refine GoH.v (Vop.asg rfl rfl rfl rfl) ?_
  refine GoH.regionEnd ?_
  refine GoH.seq ?_
  refine GoH.region ?_
  refine GoH.v (Vop.ldB rfl rfl rfl rfl Tryd.isAgg25 1 rfl Tryd.sizeOf25 rfl) ?_
  refine GoH.v (Vop.ldB rfl rfl rfl rfl Tryd.isAgg25 0 rfl Tryd.sizeOf25 rfl) ?_
  refine GoH.callM _ rfl rfl rfl rfl rfl (fun _ _ => Tryd.call54 _ _) (fun w _ hS => between_c a b w (hT.ex hS.ext) (ha.ex0 hS.ext) (hb.ex0 hS.ext)) ?_
  rintro r w1 w2 Y' hS he ⟨sv, z, rfl, ho, hz⟩
  obtain ⟨q, cap, sp, rfl, hq, hcap, hS'⟩ := gainS hS he ho
  refine ⟨_, hS', ?_⟩
  -- heap: q b6 b4
  refine GoH.v (Vop.mv rfl rfl rfl rfl) ?_
  refine GoH.v (Vop.ext rfl rfl rfl rfl rfl) ?_
  refine GoH.v (Vop.ext rfl rfl rfl rfl rfl) ?_
  refine GoH.v (Vop.asg rfl rfl rfl rfl) ?_
  refine GoH.v (Vop.asg rfl rfl rfl rfl) ?_
  refine GoH.regionEnd ?_
  refine GoH.seq ?_
  refine GoH.seq ?_
  refine GoH.region ?_
  refine GoH.v (Vop.mv rfl rfl rfl rfl) ?_
  refine GoH.v (Vop.bin rfl rfl rfl rfl bNe rfl) ?_
  refine GoH.regionEnd ?_
  refine GoH.cond rfl (fun hc => ?_) (fun hc => ?_)
  · -- yes
    have h1 : bothE a.n a.val a.rel b.n b.val b.rel ≠ 0 := by simpa using hc
    have h2 : bisE a.n a.val a.rel b.n b.val b.rel v x = bothE a.n a.val a.rel b.n b.val b.rel := if_pos h1
    refine GoH.seq ?_
    refine GoH.region ?_
    refine GoH.v (Vop.mv rfl rfl rfl rfl) ?_
    refine GoH.v (Vop.asg rfl rfl rfl rfl) ?_
    refine GoH.v (Vop.asg rfl rfl rfl rfl) ?_
    refine GoH.regionEnd ?_
    refine GoH.ret Tryd.f30 Tryd.func30 rfl (fun w' hS => ?_)
    exact ⟨hS.ext, false, by rw [h2]; rfl, fun _ => rfl, fun e => absurd (h2.symm.trans e) h1⟩
  · -- no
    have h1 : bothE a.n a.val a.rel b.n b.val b.rel = 0 := by simpa using hc
    refine GoH.skip ?_
    refine GoH.seq ?_
    refine GoH.seq ?_
    refine GoH.region ?_
    refine GoH.v (Vop.mv rfl rfl rfl rfl) ?_
    refine GoH.v (Vop.bin rfl rfl rfl rfl bLt rfl) ?_
    refine GoH.v (Vop.mv rfl rfl rfl rfl) ?_
    -- guard on slot 23 (bisim.go:217)
    refine GoH.cases (d := 23) rfl (fun hc => ?_) (fun hc => ?_)
    · -- yes
      have h2 : bisE a.n a.val a.rel b.n b.val b.rel v x = 2 := by rw [bisE, if_neg (by simp [h1]), if_pos (.inl (by simpa using hc))]
      refine GoH.no rfl rfl rfl rfl ?_
      refine GoH.no rfl rfl rfl rfl ?_
      refine GoH.no rfl rfl rfl rfl ?_
      refine GoH.no rfl rfl rfl rfl ?_
      refine GoH.v (Vop.pickT rfl rfl rfl rfl rfl) ?_
      refine GoH.v (Vop.mv rfl rfl rfl rfl) ?_
      refine GoH.no rfl rfl rfl rfl ?_
      refine GoH.no rfl rfl rfl rfl ?_
      refine GoH.v (Vop.pickT rfl rfl rfl rfl rfl) ?_
      refine GoH.v (Vop.mv rfl rfl rfl rfl) ?_
      refine GoH.no rfl rfl rfl rfl ?_
      refine GoH.no rfl rfl rfl rfl ?_
      refine GoH.no rfl rfl rfl rfl ?_
      refine GoH.no rfl rfl rfl rfl ?_
      refine GoH.v (Vop.pickT rfl rfl rfl rfl rfl) ?_
      refine GoH.regionEnd ?_
      refine GoH.condT rfl ?_
      refine GoH.seq ?_
      refine GoH.region ?_
      refine GoH.v (Vop.asg rfl rfl rfl rfl) ?_
      refine GoH.v (Vop.asg rfl rfl rfl rfl) ?_
      refine GoH.regionEnd ?_
      refine GoH.ret Tryd.f30 Tryd.func30 rfl (fun w' hS => ?_)
      exact ⟨hS.ext, false, by rw [h2]; rfl, fun _ => rfl, fun e => absurd (h2.symm.trans e) (by decide)⟩
    · -- no
      have hv0 : ¬ v < 0 := by simpa using hc
      refine GoH.v (Vop.mv rfl rfl rfl rfl) ?_
      refine GoH.v (Vop.fldP rfl rfl rfl rfl Tryd.underlying25 rfl (by exact Tryd.sizeOf3) 0 rfl) ?_
      refine GoH.v (Vop.ldo (v := .int .i64 a.n) rfl rfl rfl rfl Tryd.isAgg3 2 rfl rfl) ?_
      refine GoH.v (Vop.bin rfl rfl rfl rfl bGe rfl) ?_
      refine GoH.v (Vop.pickF rfl rfl rfl rfl rfl) ?_
      refine GoH.v (Vop.mv rfl rfl rfl rfl) ?_
      -- guard on slot 29 (bisim.go:217)
      refine GoH.cases (d := 29) rfl (fun hc => ?_) (fun hc => ?_)
      · -- yes
        have h2 : bisE a.n a.val a.rel b.n b.val b.rel v x = 2 := by rw [bisE, if_neg (by simp [h1]), if_pos (.inr (.inl (by simpa using hc)))]
        refine GoH.no rfl rfl rfl rfl ?_
        refine GoH.no rfl rfl rfl rfl ?_
        refine GoH.v (Vop.pickT rfl rfl rfl rfl rfl) ?_
        refine GoH.v (Vop.mv rfl rfl rfl rfl) ?_
        refine GoH.no rfl rfl rfl rfl ?_
        refine GoH.no rfl rfl rfl rfl ?_
        refine GoH.no rfl rfl rfl rfl ?_
        refine GoH.no rfl rfl rfl rfl ?_
        refine GoH.v (Vop.pickT rfl rfl rfl rfl rfl) ?_
        refine GoH.regionEnd ?_
        refine GoH.condT rfl ?_
        refine GoH.seq ?_
        refine GoH.region ?_
        refine GoH.v (Vop.asg rfl rfl rfl rfl) ?_
        refine GoH.v (Vop.asg rfl rfl rfl rfl) ?_
        refine GoH.regionEnd ?_
        refine GoH.ret Tryd.f30 Tryd.func30 rfl (fun w' hS => ?_)
        exact ⟨hS.ext, false, by rw [h2]; rfl, fun _ => rfl, fun e => absurd (h2.symm.trans e) (by decide)⟩
      · -- no
        have hv1 : ¬ a.n ≤ v := by simpa using hc
        refine GoH.v (Vop.mv rfl rfl rfl rfl) ?_
        refine GoH.v (Vop.bin rfl rfl rfl rfl bLt rfl) ?_
        refine GoH.v (Vop.pickF rfl rfl rfl rfl rfl) ?_
        refine GoH.v (Vop.mv rfl rfl rfl rfl) ?_
        -- guard on slot 33 (bisim.go:217)
        refine GoH.cases (d := 33) rfl (fun hc => ?_) (fun hc => ?_)
        · -- yes
          have h2 : bisE a.n a.val a.rel b.n b.val b.rel v x = 2 := by rw [bisE, if_neg (by simp [h1]), if_pos (.inr (.inr (.inl (by simpa using hc))))]
          refine GoH.no rfl rfl rfl rfl ?_
          refine GoH.no rfl rfl rfl rfl ?_
          refine GoH.no rfl rfl rfl rfl ?_
          refine GoH.no rfl rfl rfl rfl ?_
          refine GoH.v (Vop.pickT rfl rfl rfl rfl rfl) ?_
          refine GoH.regionEnd ?_
          refine GoH.condT rfl ?_
          refine GoH.seq ?_
          refine GoH.region ?_
          refine GoH.v (Vop.asg rfl rfl rfl rfl) ?_
          refine GoH.v (Vop.asg rfl rfl rfl rfl) ?_
          refine GoH.regionEnd ?_
          refine GoH.ret Tryd.f30 Tryd.func30 rfl (fun w' hS => ?_)
          exact ⟨hS.ext, false, by rw [h2]; rfl, fun _ => rfl, fun e => absurd (h2.symm.trans e) (by decide)⟩
        · -- no
          have hx0 : ¬ x < 0 := by simpa using hc
          refine GoH.v (Vop.mv rfl rfl rfl rfl) ?_
          refine GoH.v (Vop.fldP rfl rfl rfl rfl Tryd.underlying25 rfl (by exact Tryd.sizeOf3) 0 rfl) ?_
          refine GoH.v (Vop.ldo (v := .int .i64 b.n) rfl rfl rfl rfl Tryd.isAgg3 1 rfl rfl) ?_
          refine GoH.v (Vop.bin rfl rfl rfl rfl bGe rfl) ?_
          refine GoH.v (Vop.pickF rfl rfl rfl rfl rfl) ?_
          refine GoH.regionEnd ?_
          refine GoH.cond rfl (fun hc => ?_) (fun hc => ?_)
          · -- yes
            have h2 : bisE a.n a.val a.rel b.n b.val b.rel v x = 2 := by rw [bisE, if_neg (by simp [h1]), if_pos (.inr (.inr (.inr (by simpa using hc))))]
            refine GoH.seq ?_
            refine GoH.region ?_
            refine GoH.v (Vop.asg rfl rfl rfl rfl) ?_
            refine GoH.v (Vop.asg rfl rfl rfl rfl) ?_
            refine GoH.regionEnd ?_
            refine GoH.ret Tryd.f30 Tryd.func30 rfl (fun w' hS => ?_)
            exact ⟨hS.ext, false, by rw [h2]; rfl, fun _ => rfl, fun e => absurd (h2.symm.trans e) (by decide)⟩
          · -- no
            have hx1 : ¬ b.n ≤ x := by simpa using hc
            have h2 : bisE a.n a.val a.rel b.n b.val b.rel v x = 0 := by rw [bisE, if_neg (by simp [h1]), if_neg (by omega)]
            obtain ⟨v, rfl⟩ : ∃ V : Nat, v = V := ⟨v.toNat, by omega⟩
            obtain ⟨x, rfl⟩ : ∃ V : Nat, x = V := ⟨x.toNat, by omega⟩
            have hg := hz.2 h1
            have hzl := hg.len
            obtain ⟨b0, rfl⟩ : ∃ b0, q = some b0 := by
              cases q with
              | none => have := (hq rfl).1; omega
              | some b0 => exact ⟨b0, rfl⟩
            have hlt : v < z.length := by omega
            refine GoH.skip ?_
            refine GoH.seq ?_
            refine GoH.region ?_
            refine GoH.v (Vop.mv rfl rfl rfl rfl) ?_
            refine GoH.v (Vop.mv rfl rfl rfl rfl) ?_
            refine GoH.v (Vop.idxS rfl rfl rfl rfl rfl Tryd.underlying22 Tryd.sizeOf33 (v) ⟨rfl, hlt⟩) ?_
            refine GoH.v (Vop.ldE U 0#64 rfl rfl rfl rfl Tryd.isAgg33 0 rfl hlt) ?_
            refine GoH.v (Vop.mv rfl rfl rfl rfl) ?_
            refine GoH.v (Vop.bin rfl rfl rfl rfl (bShr x rfl) rfl) ?_
            refine GoH.v (Vop.bin (b := U 1#64) rfl rfl rfl rfl bAnd rfl) ?_
            refine GoH.v (Vop.bin (b := U 1#64) rfl rfl rfl rfl bEqU rfl) ?_
            refine GoH.v (Vop.asg rfl rfl rfl rfl) ?_
            refine GoH.v (Vop.asg rfl rfl rfl rfl) ?_
            refine GoH.regionEnd ?_
            refine GoH.ret Tryd.f30 Tryd.func30 rfl (fun w' hS => ?_)
            refine ⟨hS.ext, (z.getD v 0#64).getLsbD x, ?_, fun e => absurd h2 e, fun _ z' hz' => by rw [hz.uniq hz']; rfl⟩
            rw [h2, ← in_bit]
            rfl
end Go.Proofs.YtcljmlnnfdaljaaDoor
