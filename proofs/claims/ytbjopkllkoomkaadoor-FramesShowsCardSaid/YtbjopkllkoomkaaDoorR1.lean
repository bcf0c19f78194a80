/- Contracts of functions of the program: what each call returns and that nothing else of memory is turned, under the conditions that each theorem states. -/
import Derived.Test.YtbjopkllkoomkaaDoorT9
import Derived.Test.YtbjopkllkoomkaaDoorWB
namespace Go.Proofs.YtbjopkllkoomkaaDoor
open Go.RowKit Go.Proofs.Wit
/-! the reference, 1 -/
theorem rAll_c (n : Nat) (w : World) (h : n ≤ 64) : Cn Tryd.prog 58 [.int .i64 n] w (fun v _ => v = U (allW n)) := by
  refine Cn.of Tryd.func58 rfl rfl ?_
  refine GoH.seq ?_
  refine GoH.region ?_
  refine GoH.v (Vop.asg (v := U 0#64) rfl rfl rfl rfl) ?_
  refine GoH.regionEnd ?_
  refine GoH.seq ?_
  refine GoH.seq ?_
  refine GoH.region ?_
  refine GoH.v (Vop.mv rfl rfl rfl rfl) ?_
  refine GoH.v (Vop.bin rfl rfl rfl rfl bGe rfl) ?_
  refine GoH.regionEnd ?_
  refine GoH.cond rfl (fun hc => ?_) (fun hc => ?_)
  · -- yes
    have h2 : 64 ≤ n := by simp at hc; omega
    refine GoH.seq ?_
    refine GoH.region ?_
    refine GoH.v (Vop.asg (v := U 18446744073709551615#64) rfl rfl rfl rfl) ?_
    refine GoH.regionEnd ?_
    refine GoH.ret Tryd.f58 Tryd.func58 rfl (fun w' hS => ?_)
    exact ⟨hS.ext, by rw [allW, if_pos h2]; rfl⟩
  · -- no
    have h2 : ¬ 64 ≤ n := by simp at hc; omega
    refine GoH.skip ?_
    refine GoH.seq ?_
    refine GoH.region ?_
    refine GoH.v (Vop.mv rfl rfl rfl rfl) ?_
    refine GoH.v (Vop.conv rfl rfl rfl (cInt (k := .u64) Tryd.underlying3 Tryd.underlying61 (wrapN64 (by omega))) rfl) ?_
    refine GoH.v (Vop.bin (a := U 1#64) rfl rfl rfl rfl (bShl _ rfl) rfl) ?_
    refine GoH.v (Vop.bin (b := U 1#64) rfl rfl rfl rfl bSubU rfl) ?_
    refine GoH.v (Vop.asg rfl rfl rfl rfl) ?_
    refine GoH.regionEnd ?_
    refine GoH.ret Tryd.f58 Tryd.func58 rfl (fun w' hS => ?_)
    exact ⟨hS.ext, by rw [allW, if_neg h2]; rfl⟩
theorem rIn_c (s : W64) (i : Nat) (w : World) (h : i ≤ 100000) : Cn Tryd.prog 88 [U s, .int .i64 i] w (fun v _ => v = .bool (s.getLsbD i)) := by
  refine Cn.of Tryd.func88 rfl rfl ?_
  refine GoH.seq ?_
  refine GoH.region ?_
  refine GoH.v (Vop.asg rfl rfl rfl rfl) ?_
  refine GoH.regionEnd ?_
  refine GoH.seq ?_
  refine GoH.region ?_
  refine GoH.v (Vop.mv rfl rfl rfl rfl) ?_
  refine GoH.v (Vop.mv rfl rfl rfl rfl) ?_
  refine GoH.v (Vop.conv rfl rfl rfl (cInt (k := .u64) Tryd.underlying3 Tryd.underlying61 (wrapN64 (by omega))) rfl) ?_
  refine GoH.v (Vop.bin rfl rfl rfl rfl (bShr _ rfl) rfl) ?_
  refine GoH.v (Vop.bin (b := U 1#64) rfl rfl rfl rfl bAnd rfl) ?_
  refine GoH.v (Vop.bin (b := U 1#64) rfl rfl rfl rfl bEqU rfl) ?_
  refine GoH.v (Vop.asg rfl rfl rfl rfl) ?_
  refine GoH.regionEnd ?_
  refine GoH.ret Tryd.f88 Tryd.func88 rfl (fun w' hS => ?_)
  exact ⟨hS.ext, by rw [← in_bit]; rfl⟩
theorem rCheck_c (n : Int) (a : Option Addr) (cap : Nat) (xs : List W64) (w : World) (hs : SlU w a xs) (_hl : xs.length ≤ maxLen) :
    Cn Tryd.prog 32 [.int .i64 n, .slice a xs.length cap] w (fun v _ => v = .int .i64 (checkR n xs)) := by
  unfold maxLen at _hl
  refine Cn.of Tryd.func32 rfl rfl ?_
  refine GoH.seq ?_
  refine GoH.region ?_
  refine GoH.v (Vop.asg rfl rfl rfl rfl) ?_
  refine GoH.regionEnd ?_
  refine GoH.seq ?_
  refine GoH.seq ?_
  refine GoH.region ?_
  refine GoH.v (Vop.mv rfl rfl rfl rfl) ?_
  refine GoH.v (Vop.bin rfl rfl rfl rfl bLt rfl) ?_
  refine GoH.v (Vop.mv rfl rfl rfl rfl) ?_
  -- guard on slot 8 (ref.go:19)
  refine GoH.cases (d := 8) rfl (fun hc => ?_) (fun hc => ?_)
  · -- yes
    have h1 : n < 0 := by simpa using hc
    refine GoH.no rfl rfl rfl rfl ?_
    refine GoH.no rfl rfl rfl rfl ?_
    refine GoH.v (Vop.pickT rfl rfl rfl rfl rfl) ?_
    refine GoH.regionEnd ?_
    refine GoH.condT rfl ?_
    refine GoH.seq ?_
    refine GoH.region ?_
    refine GoH.v (Vop.asg rfl rfl rfl rfl) ?_
    refine GoH.regionEnd ?_
    refine GoH.ret Tryd.f32 Tryd.func32 rfl (fun w' hS => ?_)
    exact ⟨hS.ext, by rw [checkR, if_pos (.inl h1)]; rfl⟩
  · -- no
    have h1 : ¬ n < 0 := by simpa using hc
    refine GoH.v (Vop.mv rfl rfl rfl rfl) ?_
    refine GoH.v (Vop.bin rfl rfl rfl rfl bGt rfl) ?_
    refine GoH.v (Vop.pickF rfl rfl rfl rfl rfl) ?_
    refine GoH.regionEnd ?_
    refine GoH.cond rfl (fun hc => ?_) (fun hc => ?_)
    · -- yes
      have h2 : 64 < n := by simpa using hc
      refine GoH.seq ?_
      refine GoH.region ?_
      refine GoH.v (Vop.asg rfl rfl rfl rfl) ?_
      refine GoH.regionEnd ?_
      refine GoH.ret Tryd.f32 Tryd.func32 rfl (fun w' hS => ?_)
      exact ⟨hS.ext, by rw [checkR, if_pos (.inr h2)]; rfl⟩
    · -- no
      have h2 : ¬ 64 < n := by simpa using hc
      have h3 : ¬ (n < 0 ∨ 64 < n) := by omega
      refine GoH.skip ?_
      refine GoH.seq ?_
      refine GoH.seq ?_
      refine GoH.region ?_
      refine GoH.v (Vop.mv rfl rfl rfl rfl) ?_
      refine GoH.v (Vop.blt rfl rfl rfl (blt_len_slice Tryd.underlying22) rfl) ?_
      refine GoH.v (Vop.mv rfl rfl rfl rfl) ?_
      refine GoH.v (Vop.bin rfl rfl rfl rfl bNe rfl) ?_
      refine GoH.regionEnd ?_
      refine GoH.cond rfl (fun hc => ?_) (fun hc => ?_)
      · -- yes
        have h4 : (xs.length : Int) ≠ n := by simpa using hc
        refine GoH.seq ?_
        refine GoH.region ?_
        refine GoH.v (Vop.asg rfl rfl rfl rfl) ?_
        refine GoH.regionEnd ?_
        refine GoH.ret Tryd.f32 Tryd.func32 rfl (fun w' hS => ?_)
        exact ⟨hS.ext, by rw [checkR, if_neg h3, if_pos h4]; rfl⟩
      · -- no
        have h4 : ¬ (xs.length : Int) ≠ n := by simpa using hc
        obtain ⟨m, rfl⟩ : ∃ m : Nat, n = m := ⟨n.toNat, by omega⟩
        refine GoH.skip ?_
        refine GoH.seq ?_
        refine GoH.seq ?_
        refine GoH.region ?_
        refine GoH.v (Vop.asg rfl rfl rfl rfl) ?_
        refine GoH.regionEnd ?_
        refine GoH.block ?_
        refine GoH.loop (σ := Nat) (fun k => [(0, .int .i64 m), (1, .slice a xs.length cap), (5, .int .i64 k)]) (fun _ => []) (fun k => k ≤ xs.length ∧ anyTo (badW m xs) k = false) (fun k => xs.length - k) 0 ⟨Nat.zero_le _, rfl⟩ ⟨rfl, rfl, rfl, trivial⟩ .slnil (fun k hI IH => ?_)
        obtain ⟨hk, hany⟩ := hI
        refine GoH.seq ?_
        refine GoH.seq ?_
        refine GoH.region ?_
        refine GoH.v (Vop.mv rfl rfl rfl rfl) ?_
        refine GoH.v (Vop.mv rfl rfl rfl rfl) ?_
        refine GoH.v (Vop.bin rfl rfl rfl rfl bLt rfl) ?_
        refine GoH.regionEnd ?_
        refine GoH.cond rfl (fun hc => ?_) (fun hc => ?_)
        · -- yes
          have hlt : k < xs.length := by have : (k : Int) < m := by simpa using hc
                                         omega
          refine GoH.skip ?_
          refine GoH.seq ?_
          refine GoH.block ?_
          refine GoH.seq ?_
          refine GoH.draw 8 mixed rfl ?_
          refine RdGo.v (Vop.mv rfl rfl rfl rfl) ?_
          refine RdGo.v (Vop.mv rfl rfl rfl rfl) ?_
          refine RdGo.v (Vop.idx rfl rfl rfl rfl rfl Tryd.underlying22 Tryd.sizeOf28 ⟨_, hs⟩ (by simp) (k) ⟨rfl, by simpa using hlt⟩) ?_
          refine RdGo.v (Vop.ld rfl rfl rfl rfl Tryd.isAgg28 (fun w _ hS => (SlU.ex0 hs hS.ext).at (k) hlt)) ?_
          refine RdGo.v (Vop.mv rfl rfl rfl rfl) ?_
          refine RdGo.callP rfl rfl rfl rfl rfl (fun _ _ => Tryd.call58 _ _) (fun w _ hS => rAll_c m w (by omega)) ?_
          refine RdGo.v (Vop.bin rfl rfl rfl rfl bAndNot rfl) ?_
          refine RdGo.v (Vop.bin (b := U 0#64) rfl rfl rfl rfl bNeU rfl) ?_
          refine RdGo.nil ?_
          refine GoH.regionEnd ?_
          refine GoH.cond rfl (fun hc => ?_) (fun hc => ?_)
          · -- yes
            have h5 : badW m xs k = true := hc
            refine GoH.seq ?_
            refine GoH.region ?_
            refine GoH.v (Vop.asg rfl rfl rfl rfl) ?_
            refine GoH.regionEnd ?_
            refine GoH.ret Tryd.f32 Tryd.func32 rfl (fun w' hS => ?_)
            exact ⟨hS.ext, by rw [checkR, if_neg h3, if_neg h4, Int.toNat_natCast, if_pos (anyTo_at hlt h5)]; rfl⟩
          · -- no
            have h5 : badW m xs k = false := hc
            refine GoH.skip ?_
            refine GoH.inBlock ?_
            refine GoH.region ?_
            refine GoH.v (Vop.mv rfl rfl rfl rfl) ?_
            refine GoH.v (Vop.bin rfl rfl rfl rfl (bAdd (by omega)) rfl) ?_
            refine GoH.v (Vop.asg rfl rfl rfl rfl) ?_
            refine GoH.regionEnd ?_
            exact IH (k + 1) _ _ ⟨hlt, anyTo_succ hany h5⟩ (by omega) ⟨rfl, rfl, rfl, trivial⟩ .slnil
        · -- no
          have hge : ¬ (k : Int) < m := by simpa using hc
          obtain rfl : k = xs.length := by omega
          refine GoH.exit rfl ?_
          refine GoH.seq ?_
          refine GoH.region ?_
          refine GoH.v (Vop.asg rfl rfl rfl rfl) ?_
          refine GoH.regionEnd ?_
          refine GoH.ret Tryd.f32 Tryd.func32 rfl (fun w' hS => ?_)
          exact ⟨hS.ext, by rw [checkR, if_neg h3, if_neg h4, Int.toNat_natCast, if_neg (by rw [hany]; simp)]; rfl⟩
theorem rSame_c (a : Option Addr) (ca : Nat) (xs : List W64) (b : Option Addr) (cb : Nat) (ys : List W64) (w : World) (ha : SlU w a xs) (hb : SlU w b ys) (hl : xs.length ≤ maxLen) :
    Cn Tryd.prog 50 [.slice a xs.length ca, .slice b ys.length cb] w (fun v _ => v = .bool (xs == ys)) := by
  unfold maxLen at hl
  refine Cn.of Tryd.func50 rfl rfl ?_
  refine GoH.seq ?_
  refine GoH.region ?_
  refine GoH.v (Vop.asg rfl rfl rfl rfl) ?_
  refine GoH.regionEnd ?_
  refine GoH.seq ?_
  refine GoH.seq ?_
  refine GoH.region ?_
  refine GoH.v (Vop.mv rfl rfl rfl rfl) ?_
  refine GoH.v (Vop.blt rfl rfl rfl (blt_len_slice Tryd.underlying22) rfl) ?_
  refine GoH.v (Vop.mv rfl rfl rfl rfl) ?_
  refine GoH.v (Vop.blt rfl rfl rfl (blt_len_slice Tryd.underlying22) rfl) ?_
  refine GoH.v (Vop.bin rfl rfl rfl rfl bNe rfl) ?_
  refine GoH.regionEnd ?_
  refine GoH.cond rfl (fun hc => ?_) (fun hc => ?_)
  · -- yes
    have h1 : xs.length ≠ ys.length := by simp at hc; omega
    refine GoH.seq ?_
    refine GoH.region ?_
    refine GoH.v (Vop.asg rfl rfl rfl rfl) ?_
    refine GoH.regionEnd ?_
    refine GoH.ret Tryd.f50 Tryd.func50 rfl (fun w' hS => ?_)
    exact ⟨hS.ext, by rw [show (xs == ys) = false from by rw [beq_eq_false_iff_ne]; rintro rfl; exact h1 rfl]; rfl⟩
  · -- no
    have h1 : xs.length = ys.length := by simp at hc; omega
    refine GoH.skip ?_
    refine GoH.seq ?_
    refine GoH.seq ?_
    refine GoH.region ?_
    refine GoH.v (Vop.asg rfl rfl rfl rfl) ?_
    refine GoH.regionEnd ?_
    refine GoH.block ?_
    refine GoH.loop (σ := Nat) (fun k => [(0, .slice a xs.length ca), (1, .slice b ys.length cb), (5, .int .i64 k)]) (fun _ => []) (fun k => k ≤ xs.length ∧ anyTo (fun k => xs.getD k 0#64 != ys.getD k 0#64) k = false) (fun k => xs.length - k) 0 ⟨Nat.zero_le _, rfl⟩ ⟨rfl, rfl, rfl, trivial⟩ .slnil (fun k hI IH => ?_)
    obtain ⟨hk, hany⟩ := hI
    refine GoH.seq ?_
    refine GoH.seq ?_
    refine GoH.region ?_
    refine GoH.v (Vop.mv rfl rfl rfl rfl) ?_
    refine GoH.v (Vop.mv rfl rfl rfl rfl) ?_
    refine GoH.v (Vop.blt rfl rfl rfl (blt_len_slice Tryd.underlying22) rfl) ?_
    refine GoH.v (Vop.bin rfl rfl rfl rfl bLt rfl) ?_
    refine GoH.regionEnd ?_
    refine GoH.cond rfl (fun hc => ?_) (fun hc => ?_)
    · -- yes
      have hlt : k < xs.length := by simpa using hc
      refine GoH.skip ?_
      refine GoH.seq ?_
      refine GoH.block ?_
      refine GoH.seq ?_
      refine GoH.draw 9 mixed rfl ?_
      refine RdGo.v (Vop.mv rfl rfl rfl rfl) ?_
      refine RdGo.v (Vop.mv rfl rfl rfl rfl) ?_
      refine RdGo.v (Vop.idx rfl rfl rfl rfl rfl Tryd.underlying22 Tryd.sizeOf28 ⟨_, ha⟩ (by simp) (k) ⟨rfl, by simpa using hlt⟩) ?_
      refine RdGo.v (Vop.ld rfl rfl rfl rfl Tryd.isAgg28 (fun w _ hS => (SlU.ex0 ha hS.ext).at (k) hlt)) ?_
      refine RdGo.v (Vop.mv rfl rfl rfl rfl) ?_
      refine RdGo.v (Vop.mv rfl rfl rfl rfl) ?_
      refine RdGo.v (Vop.idx rfl rfl rfl rfl rfl Tryd.underlying22 Tryd.sizeOf28 ⟨_, hb⟩ (by simp) (k) ⟨rfl, by simpa using (h1 ▸ hlt)⟩) ?_
      refine RdGo.v (Vop.ld rfl rfl rfl rfl Tryd.isAgg28 (fun w _ hS => (SlU.ex0 hb hS.ext).at (k) (h1 ▸ hlt))) ?_
      refine RdGo.v (Vop.bin rfl rfl rfl rfl bNeU rfl) ?_
      refine RdGo.nil ?_
      refine GoH.regionEnd ?_
      refine GoH.cond rfl (fun hc => ?_) (fun hc => ?_)
      · -- yes
        refine GoH.seq ?_
        refine GoH.region ?_
        refine GoH.v (Vop.asg rfl rfl rfl rfl) ?_
        refine GoH.regionEnd ?_
        refine GoH.ret Tryd.f50 Tryd.func50 rfl (fun w' hS => ?_)
        exact ⟨hS.ext, by rw [beq_false_at hc]; rfl⟩
      · -- no
        refine GoH.skip ?_
        refine GoH.inBlock ?_
        refine GoH.region ?_
        refine GoH.v (Vop.mv rfl rfl rfl rfl) ?_
        refine GoH.v (Vop.bin rfl rfl rfl rfl (bAdd (by omega)) rfl) ?_
        refine GoH.v (Vop.asg rfl rfl rfl rfl) ?_
        refine GoH.regionEnd ?_
        exact IH (k + 1) _ _ ⟨hlt, anyTo_succ hany hc⟩ (by omega) ⟨rfl, rfl, rfl, trivial⟩ .slnil
    · -- no
      have hge : ¬ k < xs.length := by simpa using hc
      obtain rfl : k = xs.length := by omega
      refine GoH.exit rfl ?_
      refine GoH.seq ?_
      refine GoH.region ?_
      refine GoH.v (Vop.asg rfl rfl rfl rfl) ?_
      refine GoH.regionEnd ?_
      refine GoH.ret Tryd.f50 Tryd.func50 rfl (fun w' hS => ?_)
      exact ⟨hS.ext, by rw [beq_of_any h1 hany]; rfl⟩
end Go.Proofs.YtbjopkllkoomkaaDoor
