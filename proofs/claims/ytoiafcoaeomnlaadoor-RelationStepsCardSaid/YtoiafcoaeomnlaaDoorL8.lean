/- Contracts of functions of the program: what each call returns and that nothing else of memory is turned, under the conditions that each theorem states. -/
import Derived.Test.YtoiafcoaeomnlaaDoorL7
import Derived.Test.YtoiafcoaeomnlaaDoorWlaw3
namespace Go.Proofs.YtoiafcoaeomnlaaDoor
open Go.RowKit Go.Proofs.Wit
/-! the laws, 7 -/
theorem path_of {r : List W64} {f to o : W64} {p : List Nat} (hv : Val r) (hp : PathIs r f to p) (hr : LeastReach r (f &&& allW r.length) o) :
    PathOk r f to p ∧ (o &&& to != 0#64) = decide ((p.length : Int) > 0) ∧ p.length ≠ 1 ∧ p.length ≤ r.length + 1 := by
  have hs := fun i => reach_stp (i := i) hv hr.base hr.step hr.least
  have hall : ∀ {x : W64} {i : Nat}, (x &&& allW r.length).getLsbD i = true ↔ x.getLsbD i = true ∧ i < r.length := by
    intro x i
    rw [BitVec.getLsbD_and, Bool.and_eq_true]
    constructor
    · rintro ⟨h1, h2⟩
      rw [allW_bit hv.len (bit_lt h1)] at h2
      exact ⟨h1, of_decide_eq_true h2⟩
    · rintro ⟨h1, h2⟩
      exact ⟨h1, by rw [allW_bit hv.len (bit_lt h1)]; exact decide_eq_true h2⟩
  unfold PathIs at hp
  rw [if_neg (by rw [check_zero.2 hv]; simp)] at hp
  rcases hp with ⟨k, hk, rfl⟩ | ⟨hn, rfl⟩
  · have h1 := hk.one
    have h2 := hk.le hv
    have ha := AtL.start hk
    obtain ⟨_, hb, _⟩ := tz_spec hk.ne
    rw [BitVec.getLsbD_and, Bool.and_eq_true] at hb
    have hok := tail_ok hv (fun v h => (hall.1 h).2) ha hb.1
    refine ⟨⟨hok.lt, hok.step, hok.first, fun h => (hall.1 (hok.last h)).1⟩, ?_, by rw [pathK_length]; omega, by rw [pathK_length]; omega⟩
    obtain ⟨c, rfl⟩ : ∃ c, k = c + 1 := ⟨k - 1, by omega⟩
    obtain ⟨v, h3, h4⟩ := (near_stp hv).1 hb.2
    have h5 : o.getLsbD v = true := (hs v).2 ⟨c, _, hall.2 ⟨hb.1, near_lt hv hb.2⟩, h3⟩
    rw [pathK_length, decide_eq_true (by omega), bne_iff_ne]
    intro e
    have := congrArg (fun x => BitVec.getLsbD x v) e
    rw [BitVec.getLsbD_and, h5, (hall.1 h4).1] at this
    simp at this
  · refine ⟨⟨by simp, by simp, by simp, by simp⟩, ?_, by simp, by simp⟩
    rw [show (o &&& to) = 0#64 from eq_of_bits (fun v hv64 => ?_)]
    · rfl
    · rw [BitVec.getLsbD_zero, ← Bool.not_eq_true, BitVec.getLsbD_and, Bool.and_eq_true]
      rintro ⟨h1, h2⟩
      obtain ⟨k, w, h3, h4⟩ := (hs v).1 h1
      obtain ⟨x, _, h5⟩ := h4.last
      have h6 := (near_stp hv).2 ⟨v, h4, hall.2 ⟨h2, hv.lt _ _ h5⟩⟩
      have h7 := congrArg (fun x => BitVec.getLsbD x w) (hn (k + 1) (by omega))
      rw [BitVec.getLsbD_and, (hall.1 h3).1, h6] at h7
      simp at h7
theorem steps_c (a : Option Addr) (ca : Nat) (r : List W64) (f t : W64) (w : World) (hT : Tab w) (ha : SlU w a r) (hl : r.length ≤ maxLen) :
    Cn Tryd.prog 6 [.slice a r.length ca, U f, U t] w (fun v _ => v = .bool true) := by
  refine Cn.of Tryd.func6 rfl rfl ?_
  refine GoH.seq ?_
  refine GoH.region ?_
  refine GoH.v (Vop.asg rfl rfl rfl rfl) ?_
  refine GoH.regionEnd ?_
  refine GoH.seq ?_
  refine GoH.seq ?_
  refine GoH.region ?_
  refine GoH.v (Vop.mv rfl rfl rfl rfl) ?_
  refine GoH.v (Vop.blt rfl rfl rfl (blt_len_slice Tryd.underlying22) rfl) ?_
  refine GoH.v (Vop.bin rfl rfl rfl rfl bGt rfl) ?_
  refine GoH.v (Vop.mv rfl rfl rfl rfl) ?_
  -- guard on slot 12 (law.go:130)
  refine GoH.cases (d := 12) rfl (fun hc => ?_) (fun hc => ?_)
  · -- yes
    refine GoH.no rfl rfl rfl rfl ?_
    refine GoH.no rfl rfl rfl rfl ?_
    refine GoH.no rfl rfl rfl rfl ?_
    refine GoH.no rfl rfl rfl rfl ?_
    refine GoH.no rfl rfl rfl rfl ?_
    refine GoH.v (Vop.pickT rfl rfl rfl rfl rfl) ?_
    refine GoH.regionEnd ?_
    refine GoH.condT rfl ?_
    refine GoH.seq ?_
    refine GoH.region ?_
    refine GoH.callP rfl rfl rfl rfl rfl (fun _ _ => Tryd.call12 _ _) (fun w _ hS => awake_c w (hT.ex hS.ext)) ?_
    refine GoH.v (Vop.asg rfl rfl rfl rfl) ?_
    refine GoH.regionEnd ?_
    refine GoH.ret Tryd.f6 Tryd.func6 rfl (fun w' hS => ?_)
    exact ⟨hS.ext, rfl⟩
  · -- no
    refine GoH.v (Vop.mv rfl rfl rfl rfl) ?_
    refine GoH.v (Vop.blt rfl rfl rfl (blt_len_slice Tryd.underlying22) rfl) ?_
    refine GoH.v (Vop.mv rfl rfl rfl rfl) ?_
    refine GoH.callP rfl rfl rfl rfl rfl (fun _ _ => Tryd.call13 _ _) (fun w _ hS => check_c _ a ca r w (ha.ex0 hS.ext) hl) ?_
    refine GoH.v (Vop.bin rfl rfl rfl rfl bNe rfl) ?_
    refine GoH.v (Vop.pickF rfl rfl rfl rfl rfl) ?_
    refine GoH.regionEnd ?_
    refine GoH.cond rfl (fun hc => ?_) (fun hc => ?_)
    · -- yes
      refine GoH.seq ?_
      refine GoH.region ?_
      refine GoH.callP rfl rfl rfl rfl rfl (fun _ _ => Tryd.call12 _ _) (fun w _ hS => awake_c w (hT.ex hS.ext)) ?_
      refine GoH.v (Vop.asg rfl rfl rfl rfl) ?_
      refine GoH.regionEnd ?_
      refine GoH.ret Tryd.f6 Tryd.func6 rfl (fun w' hS => ?_)
      exact ⟨hS.ext, rfl⟩
    · -- no
      have h1 : checkR r.length r = 0 := by simpa using hc
      have hr := check_zero.1 h1
      refine GoH.skip ?_
      refine GoH.seq ?_
      refine GoH.region ?_
      refine GoH.v (Vop.mv rfl rfl rfl rfl) ?_
      refine GoH.v (Vop.mv rfl rfl rfl rfl) ?_
      refine GoH.v (Vop.mv rfl rfl rfl rfl) ?_
      refine GoH.callM _ rfl rfl rfl rfl rfl (fun _ _ => Tryd.call23 _ _) (fun w _ hS => path_c a ca r f t w (hT.ex hS.ext) (ha.ex0 hS.ext) hl) ?_
      rintro v w1 w2 Y' hS he ⟨p, ho, hp⟩
      obtain ⟨q1, cap1, sp1, rfl, hq1, hcap1, hS'⟩ := gainI hS he ho
      refine ⟨_, hS', ?_⟩
      -- heap: q1
      refine GoH.v (Vop.asg rfl rfl rfl rfl) ?_
      refine GoH.regionEnd ?_
      refine GoH.seq ?_
      refine GoH.seq ?_
      refine GoH.region ?_
      refine GoH.v (Vop.mv rfl rfl rfl rfl) ?_
      refine GoH.v (Vop.mv rfl rfl rfl rfl) ?_
      refine GoH.callM _ rfl rfl rfl rfl rfl (fun _ _ => Tryd.call21 _ _) (fun w _ hS => reach_c a ca r f w (hT.ex hS.ext) (ha.ex0 hS.ext) hl) ?_
      rintro v w1 w2 Y' hS he ⟨o, rfl, ho⟩
      rw [ReachIs, if_neg (by simp [h1])] at ho
      obtain ⟨hok, hre, hp1, hpn⟩ := path_of hr hp ho
      refine ⟨_, hS.later he, ?_⟩
      refine GoH.v (Vop.mv rfl rfl rfl rfl) ?_
      refine GoH.v (Vop.bin rfl rfl rfl rfl bAnd rfl) ?_
      refine GoH.v (Vop.bin (b := U 0#64) rfl rfl rfl rfl bNeU rfl) ?_
      refine GoH.v (Vop.mv rfl rfl rfl rfl) ?_
      refine GoH.v (Vop.blt rfl rfl rfl (blt_len_slice Tryd.underlying30) rfl) ?_
      refine GoH.v (Vop.bin rfl rfl rfl rfl bGt rfl) ?_
      refine GoH.v (Vop.bin rfl rfl rfl rfl (by rw [hre]; exact bNeBV Tryd.underlying4 (v := false) (bne_self_eq_false _)) rfl) ?_
      refine GoH.v (Vop.mv rfl rfl rfl rfl) ?_
      refine GoH.v (Vop.mv rfl rfl rfl rfl) ?_
      refine GoH.v (Vop.blt rfl rfl rfl (blt_len_slice Tryd.underlying30) rfl) ?_
      refine GoH.v (Vop.bin rfl rfl rfl rfl (bEqV (v := false) (beq_eq_false_iff_ne.2 (by omega))) rfl) ?_
      refine GoH.v (Vop.pickF rfl rfl rfl rfl rfl) ?_
      refine GoH.v (Vop.mv rfl rfl rfl rfl) ?_
      refine GoH.v (Vop.mv rfl rfl rfl rfl) ?_
      refine GoH.v (Vop.blt rfl rfl rfl (blt_len_slice Tryd.underlying30) rfl) ?_
      refine GoH.v (Vop.mv rfl rfl rfl rfl) ?_
      refine GoH.v (Vop.blt rfl rfl rfl (blt_len_slice Tryd.underlying22) rfl) ?_
      refine GoH.v (Vop.bin rfl rfl rfl rfl (bAddE (c := ((r.length + 1 : Nat) : Int)) (by omega) (by have := hr.len; omega)) rfl) ?_
      refine GoH.v (Vop.bin rfl rfl rfl rfl (bGtV (v := false) (by simp; omega)) rfl) ?_
      refine GoH.v (Vop.pickF rfl rfl rfl rfl rfl) ?_
      refine GoH.regionEnd ?_
      refine GoH.condF rfl ?_
      refine GoH.skip ?_
      refine GoH.seq ?_
      refine GoH.seq ?_
      refine GoH.region ?_
      refine GoH.v (Vop.asg rfl rfl rfl rfl) ?_
      refine GoH.regionEnd ?_
      refine GoH.block ?_
      refine GoH.loop (σ := Nat) (fun k => [(0, .slice a r.length ca), (1, U f), (2, U t), (7, osv q1 p.length cap1), (8, .int .i64 k)]) (fun _ => [(q1, ob N64 3 p sp1)])
        (fun k => k ≤ p.length) (fun k => p.length - k) 0 (Nat.zero_le _) ⟨rfl, rfl, rfl, rfl, rfl, trivial⟩ (List.Sublist.refl _) (fun k hk IH => ?_)
      -- heap: q1
      refine GoH.seq ?_
      refine GoH.seq ?_
      refine GoH.region ?_
      refine GoH.v (Vop.mv rfl rfl rfl rfl) ?_
      refine GoH.v (Vop.mv rfl rfl rfl rfl) ?_
      refine GoH.v (Vop.blt rfl rfl rfl (blt_len_slice Tryd.underlying30) rfl) ?_
      refine GoH.v (Vop.bin rfl rfl rfl rfl bLt rfl) ?_
      refine GoH.regionEnd ?_
      refine GoH.cond rfl (fun hc => ?_) (fun hc => ?_)
      · -- yes
        have hlt : k < p.length := by simpa using hc
        obtain ⟨b1, rfl⟩ : ∃ b1, q1 = some b1 := by
          cases q1 with
          | none => have := (hq1 rfl).1; omega
          | some b1 => exact ⟨b1, rfl⟩
        have hn64 := hr.len
        have hb0 := hok.lt k hlt
        refine GoH.skip ?_
        refine GoH.seq ?_
        refine GoH.block ?_
        refine GoH.seq ?_
        refine GoH.draw 36 mixed rfl ?_
        refine RdGo.v (Vop.mv rfl rfl rfl rfl) ?_
        refine RdGo.v (Vop.mv rfl rfl rfl rfl) ?_
        refine RdGo.v (Vop.idxS rfl rfl rfl rfl rfl Tryd.underlying30 Tryd.sizeOf3 (k) ⟨rfl, hlt⟩) ?_
        refine RdGo.v (Vop.ldE N64 0 rfl rfl rfl rfl Tryd.isAgg3 0 rfl hlt) ?_
        refine RdGo.v (Vop.bin rfl rfl rfl rfl (bLtV (a := ((p.getD k 0 : Nat) : Int)) (v := false) (by simp)) rfl) ?_
        refine RdGo.v (Vop.mv rfl rfl rfl rfl) ?_
        refine RdGo.v (Vop.mv rfl rfl rfl rfl) ?_
        refine RdGo.v (Vop.mv rfl rfl rfl rfl) ?_
        refine RdGo.v (Vop.idxS rfl rfl rfl rfl rfl Tryd.underlying30 Tryd.sizeOf3 (k) ⟨rfl, hlt⟩) ?_
        refine RdGo.v (Vop.ldE N64 0 rfl rfl rfl rfl Tryd.isAgg3 0 rfl hlt) ?_
        refine RdGo.v (Vop.mv rfl rfl rfl rfl) ?_
        refine RdGo.v (Vop.blt rfl rfl rfl (blt_len_slice Tryd.underlying22) rfl) ?_
        refine RdGo.v (Vop.bin rfl rfl rfl rfl (bGeV (a := ((p.getD k 0 : Nat) : Int)) (v := false) (decide_eq_false (by omega))) rfl) ?_
        refine RdGo.v (Vop.pickF rfl rfl rfl rfl rfl) ?_
        refine RdGo.v (Vop.mv rfl rfl rfl rfl) ?_
        refine RdGo.v (Vop.mv rfl rfl rfl rfl) ?_
        refine RdGo.v (Vop.bin rfl rfl rfl rfl bGt rfl) ?_
        refine RdGo.v (Vop.mv rfl rfl rfl rfl) ?_
        -- guard on slot 70 (law.go:138)
        refine RdGo.cases (d := 70) rfl (fun hc => ?_) (fun hc => ?_)
        · -- yes
          have hk0 : 0 < k := by simpa using hc
          have hb1 := hok.lt (k - 1) (by omega)
          have hst := hok.step (k - 1) (by omega)
          rw [show k - 1 + 1 = k from by omega] at hst
          refine RdGo.v (Vop.mv rfl rfl rfl rfl) ?_
          refine RdGo.v (Vop.mv rfl rfl rfl rfl) ?_
          refine RdGo.v (Vop.mv rfl rfl rfl rfl) ?_
          refine RdGo.v (Vop.bin rfl rfl rfl rfl (bSubE (c := ((k - 1 : Nat) : Int)) (by omega) (by have := hr.len; omega)) rfl) ?_
          refine RdGo.v (Vop.idxS rfl rfl rfl rfl rfl Tryd.underlying30 Tryd.sizeOf3 (k - 1) ⟨rfl, (by omega)⟩) ?_
          refine RdGo.v (Vop.ldE N64 0 rfl rfl rfl rfl Tryd.isAgg3 0 rfl (by omega)) ?_
          refine RdGo.v (Vop.idx rfl rfl rfl rfl rfl Tryd.underlying22 Tryd.sizeOf27 ⟨_, (ha)⟩ (by simp) (p.getD (k - 1) 0) ⟨rfl, by simpa using hb1⟩) ?_
          refine RdGo.v (Vop.ld rfl rfl rfl rfl Tryd.isAgg27 (fun w _ hS => (SlU.ex0 (ha) hS.ext).at (p.getD (k - 1) 0) hb1)) ?_
          refine RdGo.v (Vop.mv rfl rfl rfl rfl) ?_
          refine RdGo.v (Vop.mv rfl rfl rfl rfl) ?_
          refine RdGo.v (Vop.idxS rfl rfl rfl rfl rfl Tryd.underlying30 Tryd.sizeOf3 (k) ⟨rfl, hlt⟩) ?_
          refine RdGo.v (Vop.ldE N64 0 rfl rfl rfl rfl Tryd.isAgg3 0 rfl hlt) ?_
          refine RdGo.v (Vop.conv rfl rfl rfl (cInt (k := .u64) Tryd.underlying3 Tryd.underlying33 (wrapN64 (by omega))) rfl) ?_
          refine RdGo.v (Vop.bin rfl rfl rfl rfl (bShr _ rfl) rfl) ?_
          refine RdGo.v (Vop.bin (b := U 1#64) rfl rfl rfl rfl bAnd rfl) ?_
          refine RdGo.v (Vop.bin (b := U 0#64) rfl rfl rfl rfl (bEqUV (v := false) (by rw [bit_shr (show BitVec.getLsbD _ _ = true from hst)]; rfl)) rfl) ?_
          refine RdGo.v (Vop.pickT rfl rfl rfl rfl rfl) ?_
          refine RdGo.v (Vop.pickF rfl rfl rfl rfl rfl) ?_
          refine RdGo.nil ?_
          refine GoH.regionEnd ?_
          refine GoH.condF rfl ?_
          refine GoH.skip ?_
          refine GoH.inBlock ?_
          refine GoH.region ?_
          refine GoH.v (Vop.mv rfl rfl rfl rfl) ?_
          refine GoH.v (Vop.bin rfl rfl rfl rfl (bAdd (by omega)) rfl) ?_
          refine GoH.v (Vop.asg rfl rfl rfl rfl) ?_
          refine GoH.regionEnd ?_
          exact IH (k + 1) _ _ hlt (by omega) ⟨rfl, rfl, rfl, rfl, rfl, trivial⟩ (List.Sublist.refl _)
        · -- no
          refine RdGo.no rfl rfl rfl rfl rfl ?_
          refine RdGo.no rfl rfl rfl rfl rfl ?_
          refine RdGo.no rfl rfl rfl rfl rfl ?_
          refine RdGo.no rfl rfl rfl rfl rfl ?_
          refine RdGo.no rfl rfl rfl rfl rfl ?_
          refine RdGo.no rfl rfl rfl rfl rfl ?_
          refine RdGo.no rfl rfl rfl rfl rfl ?_
          refine RdGo.no rfl rfl rfl rfl rfl ?_
          refine RdGo.no rfl rfl rfl rfl rfl ?_
          refine RdGo.no rfl rfl rfl rfl rfl ?_
          refine RdGo.no rfl rfl rfl rfl rfl ?_
          refine RdGo.no rfl rfl rfl rfl rfl ?_
          refine RdGo.no rfl rfl rfl rfl rfl ?_
          refine RdGo.no rfl rfl rfl rfl rfl ?_
          refine RdGo.no rfl rfl rfl rfl rfl ?_
          refine RdGo.no rfl rfl rfl rfl rfl ?_
          refine RdGo.v (Vop.pickF rfl rfl rfl rfl rfl) ?_
          refine RdGo.v (Vop.pickF rfl rfl rfl rfl rfl) ?_
          refine RdGo.nil ?_
          refine GoH.regionEnd ?_
          refine GoH.condF rfl ?_
          refine GoH.skip ?_
          refine GoH.inBlock ?_
          refine GoH.region ?_
          refine GoH.v (Vop.mv rfl rfl rfl rfl) ?_
          refine GoH.v (Vop.bin rfl rfl rfl rfl (bAdd (by omega)) rfl) ?_
          refine GoH.v (Vop.asg rfl rfl rfl rfl) ?_
          refine GoH.regionEnd ?_
          exact IH (k + 1) _ _ hlt (by omega) ⟨rfl, rfl, rfl, rfl, rfl, trivial⟩ (List.Sublist.refl _)
      · -- no
        refine GoH.exit rfl ?_
        refine GoH.seq ?_
        refine GoH.region ?_
        refine GoH.v (Vop.mv rfl rfl rfl rfl) ?_
        refine GoH.v (Vop.blt rfl rfl rfl (blt_len_slice Tryd.underlying30) rfl) ?_
        refine GoH.v (Vop.bin rfl rfl rfl rfl bEq rfl) ?_
        refine GoH.v (Vop.mv rfl rfl rfl rfl) ?_
        -- guard on slot 92 (law.go:142)
        refine GoH.cases (d := 92) rfl (fun hc => ?_) (fun hc => ?_)
        · -- yes
          have e0 : p.length = 0 := by simpa using hc
          refine GoH.no rfl rfl rfl rfl ?_
          refine GoH.no rfl rfl rfl rfl ?_
          refine GoH.no rfl rfl rfl rfl ?_
          refine GoH.no rfl rfl rfl rfl ?_
          refine GoH.no rfl rfl rfl rfl ?_
          refine GoH.no rfl rfl rfl rfl ?_
          refine GoH.no rfl rfl rfl rfl ?_
          refine GoH.no rfl rfl rfl rfl ?_
          refine GoH.no rfl rfl rfl rfl ?_
          refine GoH.no rfl rfl rfl rfl ?_
          refine GoH.no rfl rfl rfl rfl ?_
          refine GoH.no rfl rfl rfl rfl ?_
          refine GoH.no rfl rfl rfl rfl ?_
          refine GoH.no rfl rfl rfl rfl ?_
          refine GoH.no rfl rfl rfl rfl ?_
          refine GoH.no rfl rfl rfl rfl ?_
          refine GoH.no rfl rfl rfl rfl ?_
          refine GoH.no rfl rfl rfl rfl ?_
          refine GoH.no rfl rfl rfl rfl ?_
          refine GoH.no rfl rfl rfl rfl ?_
          refine GoH.no rfl rfl rfl rfl ?_
          refine GoH.v (Vop.pickT rfl rfl rfl rfl rfl) ?_
          refine GoH.v (Vop.mv rfl rfl rfl rfl) ?_
          refine GoH.callP rfl rfl rfl rfl rfl (fun _ _ => Tryd.call12 _ _) (fun w _ hS => awake_c w (hT.ex hS.ext)) ?_
          refine GoH.v (Vop.pickT rfl rfl rfl rfl rfl) ?_
          refine GoH.v (Vop.asg rfl rfl rfl rfl) ?_
          refine GoH.regionEnd ?_
          refine GoH.ret Tryd.f6 Tryd.func6 rfl (fun w' hS => ?_)
          exact ⟨hS.ext, rfl⟩
        · -- no
          have hp0 : 0 < p.length := by
            have : p.length ≠ 0 := by simpa using hc
            omega
          obtain ⟨b1, rfl⟩ : ∃ b1, q1 = some b1 := by
            cases q1 with
            | none => have := (hq1 rfl).1; omega
            | some b1 => exact ⟨b1, rfl⟩
          have hn64 := hr.len
          have hb0 := hok.lt 0 hp0
          have hbl := hok.lt (p.length - 1) (by omega)
          have hf0 := hok.first hp0
          have hfl := hok.last hp0
          refine GoH.v (Vop.mv rfl rfl rfl rfl) ?_
          refine GoH.v (Vop.mv rfl rfl rfl rfl) ?_
          refine GoH.v (Vop.idxS rfl rfl rfl rfl rfl Tryd.underlying30 Tryd.sizeOf3 (0) ⟨rfl, hp0⟩) ?_
          refine GoH.v (Vop.ldE N64 0 rfl rfl rfl rfl Tryd.isAgg3 0 rfl hp0) ?_
          refine GoH.v (Vop.conv rfl rfl rfl (cInt (k := .u64) Tryd.underlying3 Tryd.underlying33 (wrapN64 (by omega))) rfl) ?_
          refine GoH.v (Vop.bin rfl rfl rfl rfl (bShr _ rfl) rfl) ?_
          refine GoH.v (Vop.bin (b := U 1#64) rfl rfl rfl rfl bAnd rfl) ?_
          refine GoH.v (Vop.bin (b := U 1#64) rfl rfl rfl rfl (bEqUV (v := true) (by rw [bit_shr hf0]; rfl)) rfl) ?_
          refine GoH.v (Vop.mv rfl rfl rfl rfl) ?_
          refine GoH.v (Vop.mv rfl rfl rfl rfl) ?_
          refine GoH.v (Vop.mv rfl rfl rfl rfl) ?_
          refine GoH.v (Vop.mv rfl rfl rfl rfl) ?_
          refine GoH.v (Vop.blt rfl rfl rfl (blt_len_slice Tryd.underlying30) rfl) ?_
          refine GoH.v (Vop.bin rfl rfl rfl rfl (bSubE (c := ((p.length - 1 : Nat) : Int)) (by omega) (by omega)) rfl) ?_
          refine GoH.v (Vop.idxS rfl rfl rfl rfl rfl Tryd.underlying30 Tryd.sizeOf3 (p.length - 1) ⟨rfl, (by omega)⟩) ?_
          refine GoH.v (Vop.ldE N64 0 rfl rfl rfl rfl Tryd.isAgg3 0 rfl (by omega)) ?_
          refine GoH.v (Vop.conv rfl rfl rfl (cInt (k := .u64) Tryd.underlying3 Tryd.underlying33 (wrapN64 (by omega))) rfl) ?_
          refine GoH.v (Vop.bin rfl rfl rfl rfl (bShr _ rfl) rfl) ?_
          refine GoH.v (Vop.bin (b := U 1#64) rfl rfl rfl rfl bAnd rfl) ?_
          refine GoH.v (Vop.bin (b := U 1#64) rfl rfl rfl rfl (bEqUV (v := true) (by rw [bit_shr hfl]; rfl)) rfl) ?_
          refine GoH.v (Vop.pickT rfl rfl rfl rfl rfl) ?_
          refine GoH.v (Vop.pickF rfl rfl rfl rfl rfl) ?_
          refine GoH.v (Vop.mv rfl rfl rfl rfl) ?_
          refine GoH.callP rfl rfl rfl rfl rfl (fun _ _ => Tryd.call12 _ _) (fun w _ hS => awake_c w (hT.ex hS.ext)) ?_
          refine GoH.v (Vop.pickT rfl rfl rfl rfl rfl) ?_
          refine GoH.v (Vop.asg rfl rfl rfl rfl) ?_
          refine GoH.regionEnd ?_
          refine GoH.ret Tryd.f6 Tryd.func6 rfl (fun w' hS => ?_)
          exact ⟨hS.ext, rfl⟩
end Go.Proofs.YtoiafcoaeomnlaaDoor
