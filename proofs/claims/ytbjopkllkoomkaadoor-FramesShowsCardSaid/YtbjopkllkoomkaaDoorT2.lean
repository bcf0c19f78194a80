/- Contracts of functions of the program: what each call returns and that nothing else of memory is turned, under the conditions that each theorem states. -/
import Derived.Test.YtbjopkllkoomkaaDoorT3
namespace Go.Proofs.YtbjopkllkoomkaaDoor
open Go.RowKit Go.Proofs.Wit

theorem all_c (n : Nat) (w : World) (h : n ≤ 64) : Cn Tryd.prog 54 [.int .i64 n] w (fun v _ => v = U (allW n)) := by
  refine Cn.of Tryd.func54 rfl rfl ?_
  refine GoH.seq ?_
  refine GoH.region ?_
  refine GoH.v (Vop.asg (v := U 0#64) rfl rfl rfl rfl) ?_
  refine GoH.regionEnd ?_
  refine GoH.seq ?_
  refine GoH.seq ?_
  refine GoH.region ?_
  refine GoH.v (Vop.mv rfl rfl rfl rfl) ?_
  refine GoH.v (Vop.bin rfl rfl rfl rfl bGe rfl) ?_
  refine GoH.regionEnd ?_
  refine GoH.cond rfl (fun hc => ?_) (fun hc => ?_)
  · -- yes
    have h2 : 64 ≤ n := by simp at hc; omega
    refine GoH.seq ?_
    refine GoH.region ?_
    refine GoH.v (Vop.asg (v := U 18446744073709551615#64) rfl rfl rfl rfl) ?_
    refine GoH.regionEnd ?_
    refine GoH.ret Tryd.f54 Tryd.func54 rfl (fun w' hS => ?_)
    exact ⟨hS.ext, by rw [allW, if_pos h2]; rfl⟩
  · -- no
    have h2 : ¬ 64 ≤ n := by simp at hc; omega
    refine GoH.skip ?_
    refine GoH.seq ?_
    refine GoH.region ?_
    refine GoH.v (Vop.mv rfl rfl rfl rfl) ?_
    refine GoH.v (Vop.bin (a := U 1#64) rfl rfl rfl rfl (bShl _ rfl) rfl) ?_
    refine GoH.v (Vop.bin (b := U 1#64) rfl rfl rfl rfl bSubU rfl) ?_
    refine GoH.v (Vop.asg rfl rfl rfl rfl) ?_
    refine GoH.regionEnd ?_
    refine GoH.ret Tryd.f54 Tryd.func54 rfl (fun w' hS => ?_)
    exact ⟨hS.ext, by rw [allW, if_neg h2]; rfl⟩

theorem check_c (n : Int) (a : Option Addr) (cap : Nat) (xs : List W64) (w : World) (hs : SlU w a xs) (_hl : xs.length ≤ maxLen) :
    Cn Tryd.prog 30 [.int .i64 n, .slice a xs.length cap] w (fun v _ => v = .int .i64 (checkR n xs)) := by
  unfold maxLen at _hl
  refine Cn.of Tryd.func30 rfl rfl ?_
  refine GoH.seq ?_
  refine GoH.region ?_
  refine GoH.v (Vop.asg rfl rfl rfl rfl) ?_
  refine GoH.regionEnd ?_
  refine GoH.seq ?_
  refine GoH.seq ?_
  refine GoH.region ?_
  refine GoH.v (Vop.mv rfl rfl rfl rfl) ?_
  refine GoH.v (Vop.bin rfl rfl rfl rfl bLt rfl) ?_
  refine GoH.v (Vop.mv rfl rfl rfl rfl) ?_
  -- guard on slot 9 (relation.go:36)
  refine GoH.cases (d := 9) rfl (fun hc => ?_) (fun hc => ?_)
  · -- yes
    have h1 : n < 0 := by simpa using hc
    refine GoH.no rfl rfl rfl rfl ?_
    refine GoH.no rfl rfl rfl rfl ?_
    refine GoH.v (Vop.pickT rfl rfl rfl rfl rfl) ?_
    refine GoH.regionEnd ?_
    refine GoH.condT rfl ?_
    refine GoH.seq ?_
    refine GoH.region ?_
    refine GoH.v (Vop.asg rfl rfl rfl rfl) ?_
    refine GoH.regionEnd ?_
    refine GoH.ret Tryd.f30 Tryd.func30 rfl (fun w' hS => ?_)
    exact ⟨hS.ext, by rw [checkR, if_pos (.inl h1)]; rfl⟩
  · -- no
    have h1 : ¬ n < 0 := by simpa using hc
    refine GoH.v (Vop.mv rfl rfl rfl rfl) ?_
    refine GoH.v (Vop.bin rfl rfl rfl rfl bGt rfl) ?_
    refine GoH.v (Vop.pickF rfl rfl rfl rfl rfl) ?_
    refine GoH.regionEnd ?_
    refine GoH.cond rfl (fun hc => ?_) (fun hc => ?_)
    · -- yes
      have h2 : 64 < n := by simpa using hc
      refine GoH.seq ?_
      refine GoH.region ?_
      refine GoH.v (Vop.asg rfl rfl rfl rfl) ?_
      refine GoH.regionEnd ?_
      refine GoH.ret Tryd.f30 Tryd.func30 rfl (fun w' hS => ?_)
      exact ⟨hS.ext, by rw [checkR, if_pos (.inr h2)]; rfl⟩
    · -- no
      have h2 : ¬ 64 < n := by simpa using hc
      have h3 : ¬ (n < 0 ∨ 64 < n) := by omega
      refine GoH.skip ?_
      refine GoH.seq ?_
      refine GoH.seq ?_
      refine GoH.region ?_
      refine GoH.v (Vop.mv rfl rfl rfl rfl) ?_
      refine GoH.v (Vop.blt rfl rfl rfl (blt_len_slice Tryd.underlying22) rfl) ?_
      refine GoH.v (Vop.mv rfl rfl rfl rfl) ?_
      refine GoH.v (Vop.bin rfl rfl rfl rfl bNe rfl) ?_
      refine GoH.regionEnd ?_
      refine GoH.cond rfl (fun hc => ?_) (fun hc => ?_)
      · -- yes
        have h4 : (xs.length : Int) ≠ n := by simpa using hc
        refine GoH.seq ?_
        refine GoH.region ?_
        refine GoH.v (Vop.asg rfl rfl rfl rfl) ?_
        refine GoH.regionEnd ?_
        refine GoH.ret Tryd.f30 Tryd.func30 rfl (fun w' hS => ?_)
        exact ⟨hS.ext, by rw [checkR, if_neg h3, if_pos h4]; rfl⟩
      · -- no
        have h4 : ¬ (xs.length : Int) ≠ n := by simpa using hc
        obtain ⟨m, rfl⟩ : ∃ m : Nat, n = m := ⟨n.toNat, by omega⟩
        refine GoH.skip ?_
        refine GoH.seq ?_
        refine GoH.seq ?_
        refine GoH.region ?_
        refine GoH.v (Vop.mv rfl rfl rfl rfl) ?_
        refine GoH.v (Vop.blt rfl rfl rfl (blt_len_slice Tryd.underlying22) rfl) ?_
        refine GoH.v (Vop.mv rfl rfl rfl rfl) ?_
        refine GoH.regionEnd ?_
        refine GoH.block ?_
        refine GoH.loop (σ := Nat) (fun k => [(0, .int .i64 m), (17, .slice a xs.length cap), (18, .int .i64 xs.length), (19, .int .i64 k)]) (fun _ => []) (fun k => k ≤ xs.length ∧ anyTo (badW m xs) k = false) (fun k => xs.length - k) 0 ⟨Nat.zero_le _, rfl⟩ ⟨rfl, rfl, rfl, rfl, trivial⟩ .slnil (fun k hI IH => ?_)
        obtain ⟨hk, hany⟩ := hI
        refine GoH.seq ?_
        refine GoH.region ?_
        refine GoH.v (Vop.bin rfl rfl rfl rfl bLt rfl) ?_
        refine GoH.regionEnd ?_
        refine GoH.seq ?_
        refine GoH.cond rfl (fun hc => ?_) (fun hc => ?_)
        · -- yes
          have hlt : k < xs.length := by simpa using hc
          refine GoH.skip ?_
          refine GoH.seq ?_
          refine GoH.block ?_
          refine GoH.seq ?_
          refine GoH.region ?_
          refine GoH.v (Vop.idx rfl rfl rfl rfl rfl Tryd.underlying22 Tryd.sizeOf28 ⟨_, hs⟩ (by simp) (k) ⟨rfl, by simpa using hlt⟩) ?_
          refine GoH.v (Vop.ld rfl rfl rfl rfl Tryd.isAgg28 (fun w _ hS => (SlU.ex0 hs hS.ext).at (k) hlt)) ?_
          refine GoH.v (Vop.asg rfl rfl rfl rfl) ?_
          refine GoH.regionEnd ?_
          refine GoH.seq ?_
          refine GoH.region ?_
          refine GoH.v (Vop.mv rfl rfl rfl rfl) ?_
          refine GoH.v (Vop.mv rfl rfl rfl rfl) ?_
          refine GoH.callP rfl rfl rfl rfl rfl (fun _ _ => Tryd.call54 _ _) (fun w _ hS => all_c m w (by omega)) ?_
          refine GoH.v (Vop.bin rfl rfl rfl rfl bAndNot rfl) ?_
          refine GoH.v (Vop.bin (b := U 0#64) rfl rfl rfl rfl bNeU rfl) ?_
          refine GoH.regionEnd ?_
          refine GoH.cond rfl (fun hc => ?_) (fun hc => ?_)
          · -- yes
            have h5 : badW m xs k = true := hc
            refine GoH.seq ?_
            refine GoH.region ?_
            refine GoH.v (Vop.asg rfl rfl rfl rfl) ?_
            refine GoH.regionEnd ?_
            refine GoH.ret Tryd.f30 Tryd.func30 rfl (fun w' hS => ?_)
            exact ⟨hS.ext, by rw [checkR, if_neg h3, if_neg h4, Int.toNat_natCast, if_pos (anyTo_at hlt h5)]; rfl⟩
          · -- no
            have h5 : badW m xs k = false := hc
            refine GoH.skip ?_
            refine GoH.inBlock ?_
            refine GoH.region ?_
            refine GoH.v (Vop.bin rfl rfl rfl rfl (bAdd (by omega)) rfl) ?_
            refine GoH.v (Vop.mv rfl rfl rfl rfl) ?_
            refine GoH.regionEnd ?_
            exact IH (k + 1) _ _ ⟨hlt, anyTo_succ hany h5⟩ (by omega) ⟨rfl, rfl, rfl, rfl, trivial⟩ .slnil
        · -- no
          have hge : ¬ k < xs.length := by simpa using hc
          obtain rfl : k = xs.length := by omega
          refine GoH.exit rfl ?_
          refine GoH.seq ?_
          refine GoH.region ?_
          refine GoH.v (Vop.asg rfl rfl rfl rfl) ?_
          refine GoH.regionEnd ?_
          refine GoH.ret Tryd.f30 Tryd.func30 rfl (fun w' hS => ?_)
          exact ⟨hS.ext, by rw [checkR, if_neg h3, if_neg h4, Int.toNat_natCast, if_neg (by rw [hany]; simp)]; rfl⟩
end Go.Proofs.YtbjopkllkoomkaaDoor
