/- Contracts of functions of the program: what each call returns and that nothing else of memory is turned, under the conditions that each theorem states. -/
import Derived.Test.YticlcpkcohdpfaaDoorF12
import Derived.Test.YticlcpkcohdpfaaDoorWD
namespace Go.Proofs.YticlcpkcohdpfaaDoor
open Go.RowKit Go.Proofs.Wit
/-! the laws of chapter 15, 2 -/
theorem boxR_v {r : List W64} {s : W64} (hv : Val r) : boxR r s = boxU r s r.length := by rw [boxR, if_neg (by simp [check_zero.2 hv])]; rfl
theorem diaR_v {r : List W64} {s : W64} (hv : Val r) : diaR r s = diaU r s r.length := by rw [diaR, if_neg (by simp [check_zero.2 hv]), boxR_v hv]; exact dia_eq hv
theorem boxV_c (a : Option Addr) (ca : Nat) (r : List W64) (s : W64) (w : World) (ha : SlU w a r) (hv : Val r) : Cn Tryd.prog 58 [.slice a r.length ca, U s] w (fun v _ => v = U (boxU r s r.length)) := boxR_v (s := s) hv ▸ box_c a ca r s w ha (by have := hv.len; unfold maxLen; omega)
theorem diaV_c (a : Option Addr) (ca : Nat) (r : List W64) (s : W64) (w : World) (ha : SlU w a r) (hv : Val r) : Cn Tryd.prog 59 [.slice a r.length ca, U s] w (fun v _ => v = U (diaU r s r.length)) := diaR_v (s := s) hv ▸ diamond_c a ca r s w ha (by have := hv.len; unfold maxLen; omega)
theorem holds_c (a : Option Addr) (ca : Nat) (r : List W64) (p : Int) (s : W64) (w : World) (ha : SlU w a r) (hv : Val r) :
    Cn Tryd.prog 31 [.slice a r.length ca, .int .i64 p, U s] w (fun v _ => v = U (holdsU r p s)) := by
  refine Cn.of Tryd.func31 rfl rfl ?_
  refine GoH.seq ?_
  refine GoH.region ?_
  refine GoH.v (Vop.asg (v := U 0#64) rfl rfl rfl rfl) ?_
  refine GoH.regionEnd ?_
  refine GoH.seq ?_
  refine GoH.region ?_
  refine GoH.v (Vop.mv rfl rfl rfl rfl) ?_
  refine GoH.v (Vop.blt rfl rfl rfl (blt_len_slice Tryd.underlying22) rfl) ?_
  refine GoH.callP rfl rfl rfl rfl rfl (fun _ _ => Tryd.call30 _ _) (fun w _ hS => rAll_c r.length w hv.len) ?_
  refine GoH.v (Vop.asg rfl rfl rfl rfl) ?_
  refine GoH.regionEnd ?_
  refine GoH.seq ?_
  refine GoH.seq ?_
  refine GoH.region ?_
  refine GoH.v (Vop.mv rfl rfl rfl rfl) ?_
  refine GoH.regionEnd ?_
  refine GoH.block ?_
  refine GoH.seq ?_
  refine GoH.region ?_
  refine GoH.v (Vop.bin rfl rfl rfl rfl bEq rfl) ?_
  refine GoH.v (Vop.asg rfl rfl rfl rfl) ?_
  refine GoH.regionEnd ?_
  refine GoH.cond rfl (fun hc => ?_) (fun hc => ?_)
  · -- yes
    have h1 : p = 1 := by simpa using hc
    refine GoH.seq ?_
    refine GoH.region ?_
    refine GoH.v (Vop.mv rfl rfl rfl rfl) ?_
    refine GoH.v (Vop.mv rfl rfl rfl rfl) ?_
    refine GoH.v (Vop.mv rfl rfl rfl rfl) ?_
    refine GoH.callP rfl rfl rfl rfl rfl (fun _ _ => Tryd.call58 _ _) (fun w _ hS => boxV_c a ca r s w (ha.ex0 hS.ext) hv) ?_
    refine GoH.v (Vop.bin rfl rfl rfl rfl bAndNot rfl) ?_
    refine GoH.v (Vop.mv rfl rfl rfl rfl) ?_
    refine GoH.v (Vop.mv rfl rfl rfl rfl) ?_
    refine GoH.callP rfl rfl rfl rfl rfl (fun _ _ => Tryd.call59 _ _) (fun w _ hS => diaV_c a ca r s w (ha.ex0 hS.ext) hv) ?_
    refine GoH.v (Vop.bin rfl rfl rfl rfl bOr rfl) ?_
    refine GoH.v (Vop.asg rfl rfl rfl rfl) ?_
    refine GoH.regionEnd ?_
    refine GoH.ret Tryd.f31 Tryd.func31 rfl (fun w' hS => ?_)
    exact ⟨hS.ext, by rw [holdsU, if_pos h1]; rfl⟩
  · -- no
    have h1 : p ≠ 1 := by simpa using hc
    refine GoH.seq ?_
    refine GoH.region ?_
    refine GoH.v (Vop.bin rfl rfl rfl rfl bEq rfl) ?_
    refine GoH.v (Vop.asg rfl rfl rfl rfl) ?_
    refine GoH.regionEnd ?_
    refine GoH.cond rfl (fun hc => ?_) (fun hc => ?_)
    · -- yes
      have h2 : p = 2 := by simpa using hc
      refine GoH.seq ?_
      refine GoH.region ?_
      refine GoH.v (Vop.mv rfl rfl rfl rfl) ?_
      refine GoH.v (Vop.mv rfl rfl rfl rfl) ?_
      refine GoH.v (Vop.mv rfl rfl rfl rfl) ?_
      refine GoH.callP rfl rfl rfl rfl rfl (fun _ _ => Tryd.call58 _ _) (fun w _ hS => boxV_c a ca r s w (ha.ex0 hS.ext) hv) ?_
      refine GoH.v (Vop.bin rfl rfl rfl rfl bAndNot rfl) ?_
      refine GoH.v (Vop.mv rfl rfl rfl rfl) ?_
      refine GoH.v (Vop.bin rfl rfl rfl rfl bOr rfl) ?_
      refine GoH.v (Vop.asg rfl rfl rfl rfl) ?_
      refine GoH.regionEnd ?_
      refine GoH.ret Tryd.f31 Tryd.func31 rfl (fun w' hS => ?_)
      exact ⟨hS.ext, by rw [holdsU, if_neg h1, if_pos h2]; rfl⟩
    · -- no
      have h2 : p ≠ 2 := by simpa using hc
      refine GoH.seq ?_
      refine GoH.region ?_
      refine GoH.v (Vop.bin rfl rfl rfl rfl bEq rfl) ?_
      refine GoH.v (Vop.asg rfl rfl rfl rfl) ?_
      refine GoH.regionEnd ?_
      refine GoH.cond rfl (fun hc => ?_) (fun hc => ?_)
      · -- yes
        have h3 : p = 3 := by simpa using hc
        refine GoH.seq ?_
        refine GoH.region ?_
        refine GoH.v (Vop.mv rfl rfl rfl rfl) ?_
        refine GoH.v (Vop.mv rfl rfl rfl rfl) ?_
        refine GoH.v (Vop.bin rfl rfl rfl rfl bAndNot rfl) ?_
        refine GoH.v (Vop.mv rfl rfl rfl rfl) ?_
        refine GoH.v (Vop.mv rfl rfl rfl rfl) ?_
        refine GoH.v (Vop.mv rfl rfl rfl rfl) ?_
        refine GoH.callP rfl rfl rfl rfl rfl (fun _ _ => Tryd.call59 _ _) (fun w _ hS => diaV_c a ca r s w (ha.ex0 hS.ext) hv) ?_
        refine GoH.callP rfl rfl rfl rfl rfl (fun _ _ => Tryd.call58 _ _) (fun w _ hS => boxV_c a ca r _ w (ha.ex0 hS.ext) hv) ?_
        refine GoH.v (Vop.bin rfl rfl rfl rfl bOr rfl) ?_
        refine GoH.v (Vop.asg rfl rfl rfl rfl) ?_
        refine GoH.regionEnd ?_
        refine GoH.ret Tryd.f31 Tryd.func31 rfl (fun w' hS => ?_)
        exact ⟨hS.ext, by rw [holdsU, if_neg h1, if_neg h2, if_pos h3]; rfl⟩
      · -- no
        have h3 : p ≠ 3 := by simpa using hc
        refine GoH.seq ?_
        refine GoH.region ?_
        refine GoH.v (Vop.bin rfl rfl rfl rfl bEq rfl) ?_
        refine GoH.v (Vop.asg rfl rfl rfl rfl) ?_
        refine GoH.regionEnd ?_
        refine GoH.cond rfl (fun hc => ?_) (fun hc => ?_)
        · -- yes
          have h4 : p = 4 := by simpa using hc
          refine GoH.seq ?_
          refine GoH.region ?_
          refine GoH.v (Vop.mv rfl rfl rfl rfl) ?_
          refine GoH.v (Vop.mv rfl rfl rfl rfl) ?_
          refine GoH.v (Vop.mv rfl rfl rfl rfl) ?_
          refine GoH.callP rfl rfl rfl rfl rfl (fun _ _ => Tryd.call58 _ _) (fun w _ hS => boxV_c a ca r s w (ha.ex0 hS.ext) hv) ?_
          refine GoH.v (Vop.bin rfl rfl rfl rfl bAndNot rfl) ?_
          refine GoH.v (Vop.mv rfl rfl rfl rfl) ?_
          refine GoH.v (Vop.mv rfl rfl rfl rfl) ?_
          refine GoH.v (Vop.mv rfl rfl rfl rfl) ?_
          refine GoH.callP rfl rfl rfl rfl rfl (fun _ _ => Tryd.call58 _ _) (fun w _ hS => boxV_c a ca r s w (ha.ex0 hS.ext) hv) ?_
          refine GoH.callP rfl rfl rfl rfl rfl (fun _ _ => Tryd.call58 _ _) (fun w _ hS => boxV_c a ca r _ w (ha.ex0 hS.ext) hv) ?_
          refine GoH.v (Vop.bin rfl rfl rfl rfl bOr rfl) ?_
          refine GoH.v (Vop.asg rfl rfl rfl rfl) ?_
          refine GoH.regionEnd ?_
          refine GoH.ret Tryd.f31 Tryd.func31 rfl (fun w' hS => ?_)
          exact ⟨hS.ext, by rw [holdsU, if_neg h1, if_neg h2, if_neg h3, if_pos h4]; rfl⟩
        · -- no
          have h4 : p ≠ 4 := by simpa using hc
          refine GoH.skip ?_
          refine GoH.inBlock ?_
          refine GoH.seq ?_
          refine GoH.region ?_
          refine GoH.v (Vop.mv rfl rfl rfl rfl) ?_
          refine GoH.v (Vop.mv rfl rfl rfl rfl) ?_
          refine GoH.v (Vop.mv rfl rfl rfl rfl) ?_
          refine GoH.callP rfl rfl rfl rfl rfl (fun _ _ => Tryd.call59 _ _) (fun w _ hS => diaV_c a ca r s w (ha.ex0 hS.ext) hv) ?_
          refine GoH.v (Vop.bin rfl rfl rfl rfl bAndNot rfl) ?_
          refine GoH.v (Vop.mv rfl rfl rfl rfl) ?_
          refine GoH.v (Vop.mv rfl rfl rfl rfl) ?_
          refine GoH.v (Vop.mv rfl rfl rfl rfl) ?_
          refine GoH.callP rfl rfl rfl rfl rfl (fun _ _ => Tryd.call59 _ _) (fun w _ hS => diaV_c a ca r s w (ha.ex0 hS.ext) hv) ?_
          refine GoH.callP rfl rfl rfl rfl rfl (fun _ _ => Tryd.call58 _ _) (fun w _ hS => boxV_c a ca r _ w (ha.ex0 hS.ext) hv) ?_
          refine GoH.v (Vop.bin rfl rfl rfl rfl bOr rfl) ?_
          refine GoH.v (Vop.asg rfl rfl rfl rfl) ?_
          refine GoH.regionEnd ?_
          refine GoH.ret Tryd.f31 Tryd.func31 rfl (fun w' hS => ?_)
          exact ⟨hS.ext, by rw [holdsU, if_neg h1, if_neg h2, if_neg h3, if_neg h4]; rfl⟩
set_option maxRecDepth 4000 in
theorem refutes_c (a : Option Addr) (ca : Nat) (r : List W64) (p : Int) (w : World) (hT : Tab w) (ha : SlU w a r) (hl : r.length ≤ maxLen) :
    Cn Tryd.prog 8 [.slice a r.length ca, .int .i64 p] w (fun v _ => v = .bool true) := by
  refine Cn.of Tryd.func8 rfl rfl ?_
  refine GoH.seq ?_
  refine GoH.region ?_
  refine GoH.v (Vop.asg rfl rfl rfl rfl) ?_
  refine GoH.regionEnd ?_
  refine GoH.seq ?_
  refine GoH.region ?_
  refine GoH.v (Vop.mv rfl rfl rfl rfl) ?_
  refine GoH.v (Vop.blt rfl rfl rfl (blt_len_slice Tryd.underlying22) rfl) ?_
  refine GoH.v (Vop.asg rfl rfl rfl rfl) ?_
  refine GoH.regionEnd ?_
  refine GoH.seq ?_
  refine GoH.seq ?_
  refine GoH.region ?_
  refine GoH.v (Vop.mv rfl rfl rfl rfl) ?_
  refine GoH.v (Vop.bin rfl rfl rfl rfl bGt rfl) ?_
  refine GoH.v (Vop.mv rfl rfl rfl rfl) ?_
  -- guard on slot 13 (law.go:125)
  refine GoH.cases (d := 13) rfl (fun hc => ?_) (fun hc => ?_)
  · -- yes
    refine GoH.no rfl rfl rfl rfl ?_
    refine GoH.no rfl rfl rfl rfl ?_
    refine GoH.no rfl rfl rfl rfl ?_
    refine GoH.no rfl rfl rfl rfl ?_
    refine GoH.v (Vop.pickT rfl rfl rfl rfl rfl) ?_
    refine GoH.v (Vop.mv rfl rfl rfl rfl) ?_
    refine GoH.no rfl rfl rfl rfl ?_
    refine GoH.no rfl rfl rfl rfl ?_
    refine GoH.v (Vop.pickT rfl rfl rfl rfl rfl) ?_
    refine GoH.v (Vop.mv rfl rfl rfl rfl) ?_
    refine GoH.no rfl rfl rfl rfl ?_
    refine GoH.no rfl rfl rfl rfl ?_
    refine GoH.v (Vop.pickT rfl rfl rfl rfl rfl) ?_
    refine GoH.regionEnd ?_
    refine GoH.condT rfl ?_
    refine GoH.seq ?_
    refine GoH.region ?_
    refine GoH.callP rfl rfl rfl rfl rfl (fun _ _ => Tryd.call11 _ _) (fun w _ hS => awake15_c w (hT.ex hS.ext)) ?_
    refine GoH.v (Vop.asg rfl rfl rfl rfl) ?_
    refine GoH.regionEnd ?_
    refine GoH.ret Tryd.f8 Tryd.func8 rfl (fun w' hS => ?_)
    exact ⟨hS.ext, rfl⟩
  · -- no
    refine GoH.v (Vop.mv rfl rfl rfl rfl) ?_
    refine GoH.v (Vop.mv rfl rfl rfl rfl) ?_
    refine GoH.callP rfl rfl rfl rfl rfl (fun _ _ => Tryd.call27 _ _) (fun w _ hS => check_c _ a ca r w (ha.ex0 hS.ext) hl) ?_
    refine GoH.v (Vop.bin rfl rfl rfl rfl bNe rfl) ?_
    refine GoH.v (Vop.pickF rfl rfl rfl rfl rfl) ?_
    refine GoH.v (Vop.mv rfl rfl rfl rfl) ?_
    -- guard on slot 19 (law.go:125)
    refine GoH.cases (d := 19) rfl (fun hc => ?_) (fun hc => ?_)
    · -- yes
      refine GoH.no rfl rfl rfl rfl ?_
      refine GoH.no rfl rfl rfl rfl ?_
      refine GoH.v (Vop.pickT rfl rfl rfl rfl rfl) ?_
      refine GoH.v (Vop.mv rfl rfl rfl rfl) ?_
      refine GoH.no rfl rfl rfl rfl ?_
      refine GoH.no rfl rfl rfl rfl ?_
      refine GoH.v (Vop.pickT rfl rfl rfl rfl rfl) ?_
      refine GoH.regionEnd ?_
      refine GoH.condT rfl ?_
      refine GoH.seq ?_
      refine GoH.region ?_
      refine GoH.callP rfl rfl rfl rfl rfl (fun _ _ => Tryd.call11 _ _) (fun w _ hS => awake15_c w (hT.ex hS.ext)) ?_
      refine GoH.v (Vop.asg rfl rfl rfl rfl) ?_
      refine GoH.regionEnd ?_
      refine GoH.ret Tryd.f8 Tryd.func8 rfl (fun w' hS => ?_)
      exact ⟨hS.ext, rfl⟩
    · -- no
      have h1 : checkR r.length r = 0 := by simpa using hc
      have hv := check_zero.1 h1
      refine GoH.v (Vop.mv rfl rfl rfl rfl) ?_
      refine GoH.v (Vop.bin rfl rfl rfl rfl bLt rfl) ?_
      refine GoH.v (Vop.pickF rfl rfl rfl rfl rfl) ?_
      refine GoH.v (Vop.mv rfl rfl rfl rfl) ?_
      -- guard on slot 23 (law.go:125)
      refine GoH.cases (d := 23) rfl (fun hc => ?_) (fun hc => ?_)
      · -- yes
        refine GoH.no rfl rfl rfl rfl ?_
        refine GoH.no rfl rfl rfl rfl ?_
        refine GoH.v (Vop.pickT rfl rfl rfl rfl rfl) ?_
        refine GoH.regionEnd ?_
        refine GoH.condT rfl ?_
        refine GoH.seq ?_
        refine GoH.region ?_
        refine GoH.callP rfl rfl rfl rfl rfl (fun _ _ => Tryd.call11 _ _) (fun w _ hS => awake15_c w (hT.ex hS.ext)) ?_
        refine GoH.v (Vop.asg rfl rfl rfl rfl) ?_
        refine GoH.regionEnd ?_
        refine GoH.ret Tryd.f8 Tryd.func8 rfl (fun w' hS => ?_)
        exact ⟨hS.ext, rfl⟩
      · -- no
        have h2 : ¬ p < 1 := by simpa using hc
        refine GoH.v (Vop.mv rfl rfl rfl rfl) ?_
        refine GoH.v (Vop.bin rfl rfl rfl rfl bGt rfl) ?_
        refine GoH.v (Vop.pickF rfl rfl rfl rfl rfl) ?_
        refine GoH.regionEnd ?_
        refine GoH.cond rfl (fun hc => ?_) (fun hc => ?_)
        · -- yes
          refine GoH.seq ?_
          refine GoH.region ?_
          refine GoH.callP rfl rfl rfl rfl rfl (fun _ _ => Tryd.call11 _ _) (fun w _ hS => awake15_c w (hT.ex hS.ext)) ?_
          refine GoH.v (Vop.asg rfl rfl rfl rfl) ?_
          refine GoH.regionEnd ?_
          refine GoH.ret Tryd.f8 Tryd.func8 rfl (fun w' hS => ?_)
          exact ⟨hS.ext, rfl⟩
        · -- no
          have h3 : ¬ 5 < p := by simpa using hc
          have hp : 1 ≤ p ∧ p ≤ 5 := by omega
          have hn64 := hv.len
          refine GoH.skip ?_
          refine GoH.seq ?_
          refine GoH.region ?_
          refine GoH.v (Vop.mv rfl rfl rfl rfl) ?_
          refine GoH.v (Vop.mv rfl rfl rfl rfl) ?_
          refine GoH.callM _ rfl rfl rfl rfl rfl (fun _ _ => Tryd.call28 _ _) (fun w _ hS => counter_c a ca r p w (ha.ex0 hS.ext) hl) ?_
          rintro v w1 w2 Y' hS he hv'
          rw [CounterIs] at hv'
          subst hv'
          refine ⟨_, hS.later he, ?_⟩
          refine GoH.v (Vop.mv rfl rfl rfl rfl) ?_
          refine GoH.v (Vop.ext rfl rfl rfl rfl rfl) ?_
          refine GoH.v (Vop.ext rfl rfl rfl rfl rfl) ?_
          refine GoH.v (Vop.ext rfl rfl rfl rfl rfl) ?_
          refine GoH.v (Vop.asg rfl rfl rfl rfl) ?_
          refine GoH.v (Vop.asg rfl rfl rfl rfl) ?_
          refine GoH.v (Vop.asg rfl rfl rfl rfl) ?_
          refine GoH.regionEnd ?_
          refine GoH.seq ?_
          refine GoH.seq ?_
          refine GoH.region ?_
          refine GoH.v (Vop.mv rfl rfl rfl rfl) ?_
          refine GoH.v (Vop.bin rfl rfl rfl rfl bNe rfl) ?_
          refine GoH.regionEnd ?_
          refine GoH.cond rfl (fun hc => ?_) (fun hc => ?_)
          · -- yes
            have h4 : (counterR r p).2.2 ≠ 0 := by simpa using hc
            have hO : witO r p = none := by
              cases h : witO r p with
              | none => rfl
              | some y =>
                exfalso; apply h4
                obtain ⟨x, u, z⟩ := y
                rw [counterR, if_neg (by simp [h1]), if_neg (by omega), h]
                simp only
                repeat' split
                all_goals rfl
            have h6 : (counterR r p).2.2 = 6 := by rw [counterR, if_neg (by simp [h1]), if_neg (by omega), hO]
            have hh : hasB r p = true := hasB_true.2 ⟨h1, (witO_prop hv hp).1 hO⟩
            refine GoH.seq ?_
            refine GoH.region ?_
            refine GoH.v (Vop.mv rfl rfl rfl rfl) ?_
            refine GoH.v (Vop.bin rfl rfl rfl rfl (bEqV (v := true) (by rw [h6]; rfl)) rfl) ?_
            refine GoH.v (Vop.mv rfl rfl rfl rfl) ?_
            refine GoH.v (Vop.mv rfl rfl rfl rfl) ?_
            refine GoH.v (Vop.mv rfl rfl rfl rfl) ?_
            refine GoH.callP rfl rfl rfl rfl rfl (fun _ _ => Tryd.call29 _ _) (fun w _ hS => (by exact (has_c a ca r p w (hT.ex hS.ext) (ha.ex0 hS.ext) hl).mono (fun v w' _ e => by rw [e, hh]))) ?_
            refine GoH.v (Vop.pickT rfl rfl rfl rfl rfl) ?_
            refine GoH.v (Vop.mv rfl rfl rfl rfl) ?_
            refine GoH.callP rfl rfl rfl rfl rfl (fun _ _ => Tryd.call11 _ _) (fun w _ hS => awake15_c w (hT.ex hS.ext)) ?_
            refine GoH.v (Vop.pickT rfl rfl rfl rfl rfl) ?_
            refine GoH.v (Vop.asg rfl rfl rfl rfl) ?_
            refine GoH.regionEnd ?_
            refine GoH.ret Tryd.f8 Tryd.func8 rfl (fun w' hS => ?_)
            exact ⟨hS.ext, rfl⟩
          · -- no
            have h4 : (counterR r p).2.2 = 0 := by simpa using hc
            obtain ⟨⟨x, u, z⟩, hO⟩ : ∃ y, witO r p = some y := by
              cases h : witO r p with
              | none => rw [counterR, if_neg (by simp [h1]), if_neg (by omega), h] at h4; cases h4
              | some y => exact ⟨y, rfl⟩
            obtain ⟨hx, hu, hz, hs, _⟩ := witO_some hO
            obtain ⟨e0, e1⟩ := counter_some h1 hp hO
            have hin := counter_in hv hp hO
            have href := counter_ref hv hp hO
            have hnot : hasB r p = false := by
              cases h : hasB r p with
              | false => rfl
              | true => rw [(witO_prop hv hp).2 (hasB_true.1 h).2] at hO; cases hO
            refine GoH.skip ?_
            refine GoH.seq ?_
            refine GoH.seq ?_
            refine GoH.region ?_
            refine GoH.v (Vop.mv rfl rfl rfl rfl) ?_
            refine GoH.v (Vop.bin rfl rfl rfl rfl (bLtV (v := false) (by rw [e0]; exact decide_eq_false (by omega))) rfl) ?_
            refine GoH.v (Vop.mv rfl rfl rfl rfl) ?_
            refine GoH.v (Vop.mv rfl rfl rfl rfl) ?_
            refine GoH.v (Vop.mv rfl rfl rfl rfl) ?_
            refine GoH.v (Vop.bin rfl rfl rfl rfl (bGeV (v := false) (by rw [e0]; exact decide_eq_false (by omega))) rfl) ?_
            refine GoH.v (Vop.pickF rfl rfl rfl rfl rfl) ?_
            refine GoH.v (Vop.mv rfl rfl rfl rfl) ?_
            refine GoH.v (Vop.mv rfl rfl rfl rfl) ?_
            refine GoH.v (Vop.mv rfl rfl rfl rfl) ?_
            refine GoH.callP rfl rfl rfl rfl rfl (fun _ _ => Tryd.call30 _ _) (fun w _ hS => rAll_c r.length w hv.len) ?_
            refine GoH.v (Vop.bin rfl rfl rfl rfl bAndNot rfl) ?_
            refine GoH.v (Vop.bin (b := U 0#64) rfl rfl rfl rfl (bNeUV (v := false) (by rw [hin]; rfl)) rfl) ?_
            refine GoH.v (Vop.pickF rfl rfl rfl rfl rfl) ?_
            refine GoH.v (Vop.mv rfl rfl rfl rfl) ?_
            refine GoH.v (Vop.mv rfl rfl rfl rfl) ?_
            refine GoH.v (Vop.mv rfl rfl rfl rfl) ?_
            refine GoH.callP rfl rfl rfl rfl rfl (fun _ _ => Tryd.call29 _ _) (fun w _ hS => (by exact (has_c a ca r p w (hT.ex hS.ext) (ha.ex0 hS.ext) hl).mono (fun v w' _ e => by rw [e, hnot]))) ?_
            refine GoH.v (Vop.pickF rfl rfl rfl rfl rfl) ?_
            refine GoH.regionEnd ?_
            refine GoH.condF rfl ?_
            refine GoH.skip ?_
            refine GoH.seq ?_
            refine GoH.region ?_
            refine GoH.v (Vop.mv rfl rfl rfl rfl) ?_
            refine GoH.v (Vop.mv rfl rfl rfl rfl) ?_
            refine GoH.v (Vop.mv rfl rfl rfl rfl) ?_
            refine GoH.callP rfl rfl rfl rfl rfl (fun _ _ => Tryd.call31 _ _) (fun w _ hS => holds_c a ca r p _ w (ha.ex0 hS.ext) hv) ?_
            refine GoH.v (Vop.mv rfl rfl rfl rfl) ?_
            refine GoH.v (Vop.conv rfl rfl rfl (cInt (k := .u64) Tryd.underlying3 Tryd.underlying50 (wrapN64 (by rw [e0]; omega))) rfl) ?_
            refine GoH.v (Vop.bin rfl rfl rfl rfl (bShr x e0) rfl) ?_
            refine GoH.v (Vop.bin (b := U 1#64) rfl rfl rfl rfl bAnd rfl) ?_
            refine GoH.v (Vop.bin (b := U 0#64) rfl rfl rfl rfl (bEqUV (v := true) (by rw [bit_shr0 href]; rfl)) rfl) ?_
            refine GoH.v (Vop.mv rfl rfl rfl rfl) ?_
            refine GoH.callP rfl rfl rfl rfl rfl (fun _ _ => Tryd.call11 _ _) (fun w _ hS => awake15_c w (hT.ex hS.ext)) ?_
            refine GoH.v (Vop.pickT rfl rfl rfl rfl rfl) ?_
            refine GoH.v (Vop.asg rfl rfl rfl rfl) ?_
            refine GoH.regionEnd ?_
            refine GoH.ret Tryd.f8 Tryd.func8 rfl (fun w' hS => ?_)
            exact ⟨hS.ext, rfl⟩
end Go.Proofs.YticlcpkcohdpfaaDoor
