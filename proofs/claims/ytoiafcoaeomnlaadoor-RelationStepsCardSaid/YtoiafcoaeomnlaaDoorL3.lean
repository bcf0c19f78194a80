/- Contracts of functions of the program: what each call returns and that nothing else of memory is turned, under the conditions that each theorem states. -/
import Derived.Test.YtoiafcoaeomnlaaDoorL2
namespace Go.Proofs.YtoiafcoaeomnlaaDoor
open Go.RowKit Go.Proofs.Wit
/-! the laws, 2 -/
theorem rSame_t (a : Option Addr) (ca : Nat) (xs : List W64) (b : Option Addr) (cb : Nat) (w : World) (ha : SlU w a xs) (hb : SlU w b xs) (hl : xs.length ≤ maxLen) :
    Cn Tryd.prog 28 [.slice a xs.length ca, .slice b xs.length cb] w (fun v _ => v = .bool true) :=
  (rSame_c a ca xs b cb xs w ha hb hl).mono (fun v w' _ h => by rw [h, beq_self_eq_true])
theorem len_two {r s : List W64} {x : List W64} (h : x.length = r.length) (hl : r.length ≤ maxLen) : ((if twoR r s ≠ 0 then (([], twoR r s) : List W64 × Int) else (x, 0)).1).length ≤ maxLen := by
  split
  · exact Nat.zero_le _
  · rw [h]; exact hl
theorem joins_c (a : Option Addr) (ca : Nat) (r : List W64) (b : Option Addr) (cb : Nat) (s : List W64) (w : World) (hT : Tab w) (ha : SlU w a r) (hb : SlU w b s) (hl : r.length ≤ maxLen) (hl2 : s.length ≤ maxLen) (hca : r.length ≤ ca) :
    Cn Tryd.prog 11 [.slice a r.length ca, .slice b s.length cb] w (fun v _ => v = .bool true) := by
  refine Cn.of Tryd.func11 rfl rfl ?_
  refine GoH.seq ?_
  refine GoH.region ?_
  refine GoH.v (Vop.asg rfl rfl rfl rfl) ?_
  refine GoH.regionEnd ?_
  refine GoH.seq ?_
  refine GoH.seq ?_
  refine GoH.region ?_
  refine GoH.v (Vop.mv rfl rfl rfl rfl) ?_
  refine GoH.v (Vop.blt rfl rfl rfl (blt_len_slice Tryd.underlying22) rfl) ?_
  refine GoH.v (Vop.bin rfl rfl rfl rfl bGt rfl) ?_
  refine GoH.v (Vop.mv rfl rfl rfl rfl) ?_
  -- guard on slot 12 (law.go:38)
  refine GoH.cases (d := 12) rfl (fun hc => ?_) (fun hc => ?_)
  · -- yes
    have hc1 := hc
    refine GoH.no rfl rfl rfl rfl ?_
    refine GoH.no rfl rfl rfl rfl ?_
    refine GoH.no rfl rfl rfl rfl ?_
    refine GoH.v (Vop.pickT rfl rfl rfl rfl rfl) ?_
    refine GoH.regionEnd ?_
    refine GoH.condT rfl ?_
    refine GoH.seq ?_
    refine GoH.region ?_
    refine GoH.callP rfl rfl rfl rfl rfl (fun _ _ => Tryd.call12 _ _) (fun w _ hS => awake_c w (hT.ex hS.ext)) ?_
    refine GoH.v (Vop.asg rfl rfl rfl rfl) ?_
    refine GoH.regionEnd ?_
    refine GoH.ret Tryd.f11 Tryd.func11 rfl (fun w' hS => ?_)
    exact ⟨hS.ext, rfl⟩
  · -- no
    refine GoH.v (Vop.mv rfl rfl rfl rfl) ?_
    refine GoH.v (Vop.blt rfl rfl rfl (blt_len_slice Tryd.underlying22) rfl) ?_
    refine GoH.v (Vop.bin rfl rfl rfl rfl bGt rfl) ?_
    refine GoH.v (Vop.pickF rfl rfl rfl rfl rfl) ?_
    refine GoH.regionEnd ?_
    refine GoH.cond rfl (fun hc => ?_) (fun hc => ?_)
    · -- yes
      refine GoH.seq ?_
      refine GoH.region ?_
      refine GoH.callP rfl rfl rfl rfl rfl (fun _ _ => Tryd.call12 _ _) (fun w _ hS => awake_c w (hT.ex hS.ext)) ?_
      refine GoH.v (Vop.asg rfl rfl rfl rfl) ?_
      refine GoH.regionEnd ?_
      refine GoH.ret Tryd.f11 Tryd.func11 rfl (fun w' hS => ?_)
      exact ⟨hS.ext, rfl⟩
    · -- no
      refine GoH.skip ?_
      refine GoH.seq ?_
      refine GoH.region ?_
      refine GoH.v (Vop.mv rfl rfl rfl rfl) ?_
      refine GoH.v (Vop.mv rfl rfl rfl rfl) ?_
      refine GoH.callM _ rfl rfl rfl rfl rfl (fun _ _ => Tryd.call27 _ _) (fun w _ hS => compose_c a ca r b cb s w (hT.ex hS.ext) (ha.ex0 hS.ext) (hb.ex0 hS.ext) hl hl2) ?_
      rintro v w1 w2 Y' hS he ⟨sv, rfl, ho⟩
      obtain ⟨q1, cap1, sp1, rfl, hq1, hcap1, hS'⟩ := gainO hS he ho
      refine ⟨_, hS', ?_⟩
      -- heap: q1
      refine GoH.v (Vop.mv rfl rfl rfl rfl) ?_
      refine GoH.v (Vop.ext rfl rfl rfl rfl rfl) ?_
      refine GoH.v (Vop.ext rfl rfl rfl rfl rfl) ?_
      refine GoH.v (Vop.asg rfl rfl rfl rfl) ?_
      refine GoH.v (Vop.asg rfl rfl rfl rfl) ?_
      refine GoH.regionEnd ?_
      refine GoH.seq ?_
      refine GoH.region ?_
      refine GoH.v (Vop.mv rfl rfl rfl rfl) ?_
      refine GoH.v (Vop.mv rfl rfl rfl rfl) ?_
      refine GoH.callM _ rfl rfl rfl rfl rfl (fun _ _ => Tryd.call35 _ _) (fun w _ hS => rCompose_c a ca r b cb s w (ha.ex0 hS.ext) (hb.ex0 hS.ext) hl hl2) ?_
      rintro v w1 w2 Y' hS he ⟨sv, rfl, ho⟩
      obtain ⟨q2, cap2, sp2, rfl, hq2, hcap2, hS'⟩ := gainO hS he ho
      refine ⟨_, hS', ?_⟩
      -- heap: q2 q1
      refine GoH.v (Vop.mv rfl rfl rfl rfl) ?_
      refine GoH.v (Vop.ext rfl rfl rfl rfl rfl) ?_
      refine GoH.v (Vop.ext rfl rfl rfl rfl rfl) ?_
      refine GoH.v (Vop.asg rfl rfl rfl rfl) ?_
      refine GoH.v (Vop.asg rfl rfl rfl rfl) ?_
      refine GoH.regionEnd ?_
      refine GoH.seq ?_
      refine GoH.seq ?_
      refine GoH.region ?_
      refine GoH.v (Vop.mv rfl rfl rfl rfl) ?_
      refine GoH.v (Vop.mv rfl rfl rfl rfl) ?_
      refine GoH.v (Vop.bin rfl rfl rfl rfl (bNeV (v := false) (bne_self_eq_false _)) rfl) ?_
      refine GoH.v (Vop.mv rfl rfl rfl rfl) ?_
      refine GoH.v (Vop.mv rfl rfl rfl rfl) ?_
      refine GoH.v (Vop.mv rfl rfl rfl rfl) ?_
      refine GoH.callP rfl rfl rfl rfl rfl (fun _ _ => Tryd.call28 _ _) (fun w _ hS => rSame_t (q1.map (fun b => ⟨b, 0, none⟩)) cap1 ((compR r s).1) (q2.map (fun b => ⟨b, 0, none⟩)) cap2 w (sluAt hS 1 rfl hq1) (sluAt hS 0 rfl hq2) (len_two (by simp [flm_length]) hl)) ?_
      refine GoH.v (Vop.un rfl rfl rfl uNot rfl) ?_
      refine GoH.v (Vop.pickF rfl rfl rfl rfl rfl) ?_
      refine GoH.regionEnd ?_
      refine GoH.condF rfl ?_
      refine GoH.skip ?_
      refine GoH.seq ?_
      refine GoH.region ?_
      refine GoH.v (Vop.mv rfl rfl rfl rfl) ?_
      refine GoH.v (Vop.mv rfl rfl rfl rfl) ?_
      refine GoH.callM _ rfl rfl rfl rfl rfl (fun _ _ => Tryd.call36 _ _) (fun w _ hS => union_c a ca r b cb s w (ha.ex0 hS.ext) (hb.ex0 hS.ext) hl hl2 hca) ?_
      rintro v w1 w2 Y' hS he ⟨sv, rfl, ho⟩
      obtain ⟨q3, cap3, sp3, rfl, hq3, hcap3, hS'⟩ := gainO hS he ho
      refine ⟨_, hS', ?_⟩
      -- heap: q3 q2 q1
      refine GoH.v (Vop.mv rfl rfl rfl rfl) ?_
      refine GoH.v (Vop.ext rfl rfl rfl rfl rfl) ?_
      refine GoH.v (Vop.ext rfl rfl rfl rfl rfl) ?_
      refine GoH.v (Vop.asg rfl rfl rfl rfl) ?_
      refine GoH.v (Vop.asg rfl rfl rfl rfl) ?_
      refine GoH.regionEnd ?_
      refine GoH.seq ?_
      refine GoH.region ?_
      refine GoH.v (Vop.mv rfl rfl rfl rfl) ?_
      refine GoH.v (Vop.mv rfl rfl rfl rfl) ?_
      refine GoH.callM _ rfl rfl rfl rfl rfl (fun _ _ => Tryd.call37 _ _) (fun w _ hS => rUnion_c a ca r b cb s w (ha.ex0 hS.ext) (hb.ex0 hS.ext) hl hl2) ?_
      rintro v w1 w2 Y' hS he ⟨sv, rfl, ho⟩
      obtain ⟨q4, cap4, sp4, rfl, hq4, hcap4, hS'⟩ := gainO hS he ho
      refine ⟨_, hS', ?_⟩
      -- heap: q4 q3 q2 q1
      refine GoH.v (Vop.mv rfl rfl rfl rfl) ?_
      refine GoH.v (Vop.ext rfl rfl rfl rfl rfl) ?_
      refine GoH.v (Vop.ext rfl rfl rfl rfl rfl) ?_
      refine GoH.v (Vop.asg rfl rfl rfl rfl) ?_
      refine GoH.v (Vop.asg rfl rfl rfl rfl) ?_
      refine GoH.regionEnd ?_
      refine GoH.seq ?_
      refine GoH.seq ?_
      refine GoH.region ?_
      refine GoH.v (Vop.mv rfl rfl rfl rfl) ?_
      refine GoH.v (Vop.mv rfl rfl rfl rfl) ?_
      refine GoH.v (Vop.bin rfl rfl rfl rfl (bNeV (v := false) (bne_self_eq_false _)) rfl) ?_
      refine GoH.v (Vop.mv rfl rfl rfl rfl) ?_
      refine GoH.v (Vop.mv rfl rfl rfl rfl) ?_
      refine GoH.v (Vop.mv rfl rfl rfl rfl) ?_
      refine GoH.callP rfl rfl rfl rfl rfl (fun _ _ => Tryd.call28 _ _) (fun w _ hS => rSame_t (q3.map (fun b => ⟨b, 0, none⟩)) cap3 ((unionR r s).1) (q4.map (fun b => ⟨b, 0, none⟩)) cap4 w (sluAt hS 1 rfl hq3) (sluAt hS 0 rfl hq4) (len_two (by simp [flm_length]) hl)) ?_
      refine GoH.v (Vop.un rfl rfl rfl uNot rfl) ?_
      refine GoH.v (Vop.pickF rfl rfl rfl rfl rfl) ?_
      refine GoH.regionEnd ?_
      refine GoH.condF rfl ?_
      refine GoH.skip ?_
      refine GoH.seq ?_
      refine GoH.region ?_
      refine GoH.v (Vop.mv rfl rfl rfl rfl) ?_
      refine GoH.v (Vop.mv rfl rfl rfl rfl) ?_
      refine GoH.callM _ rfl rfl rfl rfl rfl (fun _ _ => Tryd.call38 _ _) (fun w _ hS => meet_c a ca r b cb s w (ha.ex0 hS.ext) (hb.ex0 hS.ext) hl hl2 hca) ?_
      rintro v w1 w2 Y' hS he ⟨sv, rfl, ho⟩
      obtain ⟨q5, cap5, sp5, rfl, hq5, hcap5, hS'⟩ := gainO hS he ho
      refine ⟨_, hS', ?_⟩
      -- heap: q5 q4 q3 q2 q1
      refine GoH.v (Vop.mv rfl rfl rfl rfl) ?_
      refine GoH.v (Vop.ext rfl rfl rfl rfl rfl) ?_
      refine GoH.v (Vop.ext rfl rfl rfl rfl rfl) ?_
      refine GoH.v (Vop.asg rfl rfl rfl rfl) ?_
      refine GoH.v (Vop.asg rfl rfl rfl rfl) ?_
      refine GoH.regionEnd ?_
      refine GoH.seq ?_
      refine GoH.region ?_
      refine GoH.v (Vop.mv rfl rfl rfl rfl) ?_
      refine GoH.v (Vop.mv rfl rfl rfl rfl) ?_
      refine GoH.callM _ rfl rfl rfl rfl rfl (fun _ _ => Tryd.call39 _ _) (fun w _ hS => rMeet_c a ca r b cb s w (ha.ex0 hS.ext) (hb.ex0 hS.ext) hl hl2) ?_
      rintro v w1 w2 Y' hS he ⟨sv, rfl, ho⟩
      obtain ⟨q6, cap6, sp6, rfl, hq6, hcap6, hS'⟩ := gainO hS he ho
      refine ⟨_, hS', ?_⟩
      -- heap: q6 q5 q4 q3 q2 q1
      refine GoH.v (Vop.mv rfl rfl rfl rfl) ?_
      refine GoH.v (Vop.ext rfl rfl rfl rfl rfl) ?_
      refine GoH.v (Vop.ext rfl rfl rfl rfl rfl) ?_
      refine GoH.v (Vop.asg rfl rfl rfl rfl) ?_
      refine GoH.v (Vop.asg rfl rfl rfl rfl) ?_
      refine GoH.regionEnd ?_
      refine GoH.seq ?_
      refine GoH.seq ?_
      refine GoH.region ?_
      refine GoH.v (Vop.mv rfl rfl rfl rfl) ?_
      refine GoH.v (Vop.mv rfl rfl rfl rfl) ?_
      refine GoH.v (Vop.bin rfl rfl rfl rfl (bNeV (v := false) (bne_self_eq_false _)) rfl) ?_
      refine GoH.v (Vop.mv rfl rfl rfl rfl) ?_
      refine GoH.v (Vop.mv rfl rfl rfl rfl) ?_
      refine GoH.v (Vop.mv rfl rfl rfl rfl) ?_
      refine GoH.callP rfl rfl rfl rfl rfl (fun _ _ => Tryd.call28 _ _) (fun w _ hS => rSame_t (q5.map (fun b => ⟨b, 0, none⟩)) cap5 ((meetR r s).1) (q6.map (fun b => ⟨b, 0, none⟩)) cap6 w (sluAt hS 1 rfl hq5) (sluAt hS 0 rfl hq6) (len_two (by simp [flm_length]) hl)) ?_
      refine GoH.v (Vop.un rfl rfl rfl uNot rfl) ?_
      refine GoH.v (Vop.pickF rfl rfl rfl rfl rfl) ?_
      refine GoH.regionEnd ?_
      refine GoH.condF rfl ?_
      refine GoH.skip ?_
      refine GoH.seq ?_
      refine GoH.region ?_
      refine GoH.v (Vop.mv rfl rfl rfl rfl) ?_
      refine GoH.callM _ rfl rfl rfl rfl rfl (fun _ _ => Tryd.call26 _ _) (fun w _ hS => converse_c a ca r w (hT.ex hS.ext) (ha.ex0 hS.ext) hl) ?_
      rintro v w1 w2 Y' hS he ⟨sv, rfl, ho⟩
      obtain ⟨q7, cap7, sp7, rfl, hq7, hcap7, hS'⟩ := gainO hS he ho
      refine ⟨_, hS', ?_⟩
      -- heap: q7 q6 q5 q4 q3 q2 q1
      refine GoH.v (Vop.mv rfl rfl rfl rfl) ?_
      refine GoH.v (Vop.ext rfl rfl rfl rfl rfl) ?_
      refine GoH.v (Vop.ext rfl rfl rfl rfl rfl) ?_
      refine GoH.v (Vop.asg rfl rfl rfl rfl) ?_
      refine GoH.v (Vop.asg rfl rfl rfl rfl) ?_
      refine GoH.regionEnd ?_
      refine GoH.seq ?_
      refine GoH.region ?_
      refine GoH.v (Vop.mv rfl rfl rfl rfl) ?_
      refine GoH.callM _ rfl rfl rfl rfl rfl (fun _ _ => Tryd.call40 _ _) (fun w _ hS => rConverse_c a ca r w (ha.ex0 hS.ext) hl) ?_
      rintro v w1 w2 Y' hS he ⟨sv, rfl, ho⟩
      obtain ⟨q8, cap8, sp8, rfl, hq8, hcap8, hS'⟩ := gainO hS he ho
      refine ⟨_, hS', ?_⟩
      -- heap: q8 q7 q6 q5 q4 q3 q2 q1
      refine GoH.v (Vop.mv rfl rfl rfl rfl) ?_
      refine GoH.v (Vop.ext rfl rfl rfl rfl rfl) ?_
      refine GoH.v (Vop.ext rfl rfl rfl rfl rfl) ?_
      refine GoH.v (Vop.asg rfl rfl rfl rfl) ?_
      refine GoH.v (Vop.asg rfl rfl rfl rfl) ?_
      refine GoH.regionEnd ?_
      refine GoH.seq ?_
      refine GoH.region ?_
      refine GoH.v (Vop.mv rfl rfl rfl rfl) ?_
      refine GoH.v (Vop.mv rfl rfl rfl rfl) ?_
      refine GoH.v (Vop.bin rfl rfl rfl rfl (bEqV (v := true) (beq_self_eq_true _)) rfl) ?_
      refine GoH.v (Vop.mv rfl rfl rfl rfl) ?_
      refine GoH.v (Vop.mv rfl rfl rfl rfl) ?_
      refine GoH.v (Vop.mv rfl rfl rfl rfl) ?_
      refine GoH.callP rfl rfl rfl rfl rfl (fun _ _ => Tryd.call28 _ _) (fun w _ hS => rSame_t (q7.map (fun b => ⟨b, 0, none⟩)) cap7 ((convR r).1) (q8.map (fun b => ⟨b, 0, none⟩)) cap8 w (sluAt hS 1 rfl hq7) (sluAt hS 0 rfl hq8) (by unfold convR; split; exact Nat.zero_le _; rw [revR_length]; exact hl)) ?_
      refine GoH.v (Vop.pickT rfl rfl rfl rfl rfl) ?_
      refine GoH.v (Vop.mv rfl rfl rfl rfl) ?_
      refine GoH.callP rfl rfl rfl rfl rfl (fun _ _ => Tryd.call12 _ _) (fun w _ hS => awake_c w (hT.ex hS.ext)) ?_
      refine GoH.v (Vop.pickT rfl rfl rfl rfl rfl) ?_
      refine GoH.v (Vop.asg rfl rfl rfl rfl) ?_
      refine GoH.regionEnd ?_
      refine GoH.ret Tryd.f11 Tryd.func11 rfl (fun w' hS => ?_)
      exact ⟨hS.ext, rfl⟩
end Go.Proofs.YtoiafcoaeomnlaaDoor
