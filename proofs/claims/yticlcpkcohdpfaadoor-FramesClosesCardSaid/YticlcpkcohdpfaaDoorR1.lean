/- Contracts of functions of the program: what each call returns and that nothing else of memory is turned, under the conditions that each theorem states. -/
import Derived.Test.YticlcpkcohdpfaaDoorT9
import Derived.Test.YticlcpkcohdpfaaDoorWB
namespace Go.Proofs.YticlcpkcohdpfaaDoor
open Go.RowKit Go.Proofs.Wit
/-! the reference, 1 -/
theorem rAll_c (n : Nat) (w : World) (h : n ≤ 64) : Cn Tryd.prog 30 [.int .i64 n] w (fun v _ => v = U (allW n)) := by
  refine Cn.of Tryd.func30 rfl rfl ?_
  refine GoH.seq ?_
  refine GoH.region ?_
  refine GoH.v (Vop.asg (v := U 0#64) rfl rfl rfl rfl) ?_
  refine GoH.regionEnd ?_
  refine GoH.seq ?_
  refine GoH.seq ?_
  refine GoH.region ?_
  refine GoH.v (Vop.mv rfl rfl rfl rfl) ?_
  refine GoH.v (Vop.bin rfl rfl rfl rfl bGe rfl) ?_
  refine GoH.regionEnd ?_
  refine GoH.cond rfl (fun hc => ?_) (fun hc => ?_)
  · -- yes
    have h2 : 64 ≤ n := by simp at hc; omega
    refine GoH.seq ?_
    refine GoH.region ?_
    refine GoH.v (Vop.asg (v := U 18446744073709551615#64) rfl rfl rfl rfl) ?_
    refine GoH.regionEnd ?_
    refine GoH.ret Tryd.f30 Tryd.func30 rfl (fun w' hS => ?_)
    exact ⟨hS.ext, by rw [allW, if_pos h2]; rfl⟩
  · -- no
    have h2 : ¬ 64 ≤ n := by simp at hc; omega
    refine GoH.skip ?_
    refine GoH.seq ?_
    refine GoH.region ?_
    refine GoH.v (Vop.mv rfl rfl rfl rfl) ?_
    refine GoH.v (Vop.conv rfl rfl rfl (cInt (k := .u64) Tryd.underlying3 Tryd.underlying50 (wrapN64 (by omega))) rfl) ?_
    refine GoH.v (Vop.bin (a := U 1#64) rfl rfl rfl rfl (bShl _ rfl) rfl) ?_
    refine GoH.v (Vop.bin (b := U 1#64) rfl rfl rfl rfl bSubU rfl) ?_
    refine GoH.v (Vop.asg rfl rfl rfl rfl) ?_
    refine GoH.regionEnd ?_
    refine GoH.ret Tryd.f30 Tryd.func30 rfl (fun w' hS => ?_)
    exact ⟨hS.ext, by rw [allW, if_neg h2]; rfl⟩
theorem rIn_c (s : W64) (i : Nat) (w : World) (h : i ≤ 100000) : Cn Tryd.prog 95 [U s, .int .i64 i] w (fun v _ => v = .bool (s.getLsbD i)) := by
  refine Cn.of Tryd.func95 rfl rfl ?_
  refine GoH.seq ?_
  refine GoH.region ?_
  refine GoH.v (Vop.asg rfl rfl rfl rfl) ?_
  refine GoH.regionEnd ?_
  refine GoH.seq ?_
  refine GoH.region ?_
  refine GoH.v (Vop.mv rfl rfl rfl rfl) ?_
  refine GoH.v (Vop.mv rfl rfl rfl rfl) ?_
  refine GoH.v (Vop.conv rfl rfl rfl (cInt (k := .u64) Tryd.underlying3 Tryd.underlying50 (wrapN64 (by omega))) rfl) ?_
  refine GoH.v (Vop.bin rfl rfl rfl rfl (bShr _ rfl) rfl) ?_
  refine GoH.v (Vop.bin (b := U 1#64) rfl rfl rfl rfl bAnd rfl) ?_
  refine GoH.v (Vop.bin (b := U 1#64) rfl rfl rfl rfl bEqU rfl) ?_
  refine GoH.v (Vop.asg rfl rfl rfl rfl) ?_
  refine GoH.regionEnd ?_
  refine GoH.ret Tryd.f95 Tryd.func95 rfl (fun w' hS => ?_)
  exact ⟨hS.ext, by rw [← in_bit]; rfl⟩
theorem rCheck_c (n : Int) (a : Option Addr) (cap : Nat) (xs : List W64) (w : World) (hs : SlU w a xs) (_hl : xs.length ≤ maxLen) :
    Cn Tryd.prog 74 [.int .i64 n, .slice a xs.length cap] w (fun v _ => v = .int .i64 (checkR n xs)) := by
  unfold maxLen at _hl
  refine Cn.of Tryd.func74 rfl rfl ?_
  refine GoH.seq ?_
  refine GoH.region ?_
  refine GoH.v (Vop.asg rfl rfl rfl rfl) ?_
  refine GoH.regionEnd ?_
  refine GoH.seq ?_
  refine GoH.seq ?_
  refine GoH.region ?_
  refine GoH.v (Vop.mv rfl rfl rfl rfl) ?_
  refine GoH.v (Vop.bin rfl rfl rfl rfl bLt rfl) ?_
  refine GoH.v (Vop.mv rfl rfl rfl rfl) ?_
  -- guard on slot 8 (ref.go:19)
  refine GoH.cases (d := 8) rfl (fun hc => ?_) (fun hc => ?_)
  · -- yes
    have h1 : n < 0 := by simpa using hc
    refine GoH.no rfl rfl rfl rfl ?_
    refine GoH.no rfl rfl rfl rfl ?_
    refine GoH.v (Vop.pickT rfl rfl rfl rfl rfl) ?_
    refine GoH.regionEnd ?_
    refine GoH.condT rfl ?_
    refine GoH.seq ?_
    refine GoH.region ?_
    refine GoH.v (Vop.asg rfl rfl rfl rfl) ?_
    refine GoH.regionEnd ?_
    refine GoH.ret Tryd.f74 Tryd.func74 rfl (fun w' hS => ?_)
    exact ⟨hS.ext, by rw [checkR, if_pos (.inl h1)]; rfl⟩
  · -- no
    have h1 : ¬ n < 0 := by simpa using hc
    refine GoH.v (Vop.mv rfl rfl rfl rfl) ?_
    refine GoH.v (Vop.bin rfl rfl rfl rfl bGt rfl) ?_
    refine GoH.v (Vop.pickF rfl rfl rfl rfl rfl) ?_
    refine GoH.regionEnd ?_
    refine GoH.cond rfl (fun hc => ?_) (fun hc => ?_)
    · -- yes
      have h2 : 64 < n := by simpa using hc
      refine GoH.seq ?_
      refine GoH.region ?_
      refine GoH.v (Vop.asg rfl rfl rfl rfl) ?_
      refine GoH.regionEnd ?_
      refine GoH.ret Tryd.f74 Tryd.func74 rfl (fun w' hS => ?_)
      exact ⟨hS.ext, by rw [checkR, if_pos (.inr h2)]; rfl⟩
    · -- no
      have h2 : ¬ 64 < n := by simpa using hc
      have h3 : ¬ (n < 0 ∨ 64 < n) := by omega
      refine GoH.skip ?_
      refine GoH.seq ?_
      refine GoH.seq ?_
      refine GoH.region ?_
      refine GoH.v (Vop.mv rfl rfl rfl rfl) ?_
      refine GoH.v (Vop.blt rfl rfl rfl (blt_len_slice Tryd.underlying22) rfl) ?_
      refine GoH.v (Vop.mv rfl rfl rfl rfl) ?_
      refine GoH.v (Vop.bin rfl rfl rfl rfl bNe rfl) ?_
      refine GoH.regionEnd ?_
      refine GoH.cond rfl (fun hc => ?_) (fun hc => ?_)
      · -- yes
        have h4 : (xs.length : Int) ≠ n := by simpa using hc
        refine GoH.seq ?_
        refine GoH.region ?_
        refine GoH.v (Vop.asg rfl rfl rfl rfl) ?_
        refine GoH.regionEnd ?_
        refine GoH.ret Tryd.f74 Tryd.func74 rfl (fun w' hS => ?_)
        exact ⟨hS.ext, by rw [checkR, if_neg h3, if_pos h4]; rfl⟩
      · -- no
        have h4 : ¬ (xs.length : Int) ≠ n := by simpa using hc
        obtain ⟨m, rfl⟩ : ∃ m : Nat, n = m := ⟨n.toNat, by omega⟩
        refine GoH.skip ?_
        refine GoH.seq ?_
        refine GoH.seq ?_
        refine GoH.region ?_
        refine GoH.v (Vop.asg rfl rfl rfl rfl) ?_
        refine GoH.regionEnd ?_
        refine GoH.block ?_
        refine GoH.loop (σ := Nat) (fun k => [(0, .int .i64 m), (1, .slice a xs.length cap), (5, .int .i64 k)]) (fun _ => []) (fun k => k ≤ xs.length ∧ anyTo (badW m xs) k = false) (fun k => xs.length - k) 0 ⟨Nat.zero_le _, rfl⟩ ⟨rfl, rfl, rfl, trivial⟩ .slnil (fun k hI IH => ?_)
        obtain ⟨hk, hany⟩ := hI
        refine GoH.seq ?_
        refine GoH.seq ?_
        refine GoH.region ?_
        refine GoH.v (Vop.mv rfl rfl rfl rfl) ?_
        refine GoH.v (Vop.mv rfl rfl rfl rfl) ?_
        refine GoH.v (Vop.bin rfl rfl rfl rfl bLt rfl) ?_
        refine GoH.regionEnd ?_
        refine GoH.cond rfl (fun hc => ?_) (fun hc => ?_)
        · -- yes
          have hlt : k < xs.length := by have : (k : Int) < m := by simpa using hc
                                         omega
          refine GoH.skip ?_
          refine GoH.seq ?_
          refine GoH.block ?_
          refine GoH.seq ?_
          refine GoH.draw 8 mixed rfl ?_
          refine RdGo.v (Vop.mv rfl rfl rfl rfl) ?_
          refine RdGo.v (Vop.mv rfl rfl rfl rfl) ?_
          refine RdGo.v (Vop.idx rfl rfl rfl rfl rfl Tryd.underlying22 Tryd.sizeOf41 ⟨_, hs⟩ (by simp) (k) ⟨rfl, by simpa using hlt⟩) ?_
          refine RdGo.v (Vop.ld rfl rfl rfl rfl Tryd.isAgg41 (fun w _ hS => (SlU.ex0 hs hS.ext).at (k) hlt)) ?_
          refine RdGo.v (Vop.mv rfl rfl rfl rfl) ?_
          refine RdGo.callP rfl rfl rfl rfl rfl (fun _ _ => Tryd.call30 _ _) (fun w _ hS => rAll_c m w (by omega)) ?_
          refine RdGo.v (Vop.bin rfl rfl rfl rfl bAndNot rfl) ?_
          refine RdGo.v (Vop.bin (b := U 0#64) rfl rfl rfl rfl bNeU rfl) ?_
          refine RdGo.nil ?_
          refine GoH.regionEnd ?_
          refine GoH.cond rfl (fun hc => ?_) (fun hc => ?_)
          · -- yes
            have h5 : badW m xs k = true := hc
            refine GoH.seq ?_
            refine GoH.region ?_
            refine GoH.v (Vop.asg rfl rfl rfl rfl) ?_
            refine GoH.regionEnd ?_
            refine GoH.ret Tryd.f74 Tryd.func74 rfl (fun w' hS => ?_)
            exact ⟨hS.ext, by rw [checkR, if_neg h3, if_neg h4, Int.toNat_natCast, if_pos (anyTo_at hlt h5)]; rfl⟩
          · -- no
            have h5 : badW m xs k = false := hc
            refine GoH.skip ?_
            refine GoH.inBlock ?_
            refine GoH.region ?_
            refine GoH.v (Vop.mv rfl rfl rfl rfl) ?_
            refine GoH.v (Vop.bin rfl rfl rfl rfl (bAdd (by omega)) rfl) ?_
            refine GoH.v (Vop.asg rfl rfl rfl rfl) ?_
            refine GoH.regionEnd ?_
            exact IH (k + 1) _ _ ⟨hlt, anyTo_succ hany h5⟩ (by omega) ⟨rfl, rfl, rfl, trivial⟩ .slnil
        · -- no
          have hge : ¬ (k : Int) < m := by simpa using hc
          obtain rfl : k = xs.length := by omega
          refine GoH.exit rfl ?_
          refine GoH.seq ?_
          refine GoH.region ?_
          refine GoH.v (Vop.asg rfl rfl rfl rfl) ?_
          refine GoH.regionEnd ?_
          refine GoH.ret Tryd.f74 Tryd.func74 rfl (fun w' hS => ?_)
          exact ⟨hS.ext, by rw [checkR, if_neg h3, if_neg h4, Int.toNat_natCast, if_neg (by rw [hany]; simp)]; rfl⟩
theorem rValid_c (a : Option Addr) (ca : Nat) (r : List W64) (w : World) (ha : SlU w a r) (hl : r.length ≤ maxLen) :
    Cn Tryd.prog 46 [.slice a r.length ca] w (fun v _ => v = .bool (checkR r.length r == 0)) := by
  refine Cn.of Tryd.func46 rfl rfl ?_
  refine GoH.seq ?_
  refine GoH.region ?_
  refine GoH.v (Vop.asg rfl rfl rfl rfl) ?_
  refine GoH.regionEnd ?_
  refine GoH.seq ?_
  refine GoH.region ?_
  refine GoH.v (Vop.mv rfl rfl rfl rfl) ?_
  refine GoH.v (Vop.blt rfl rfl rfl (blt_len_slice Tryd.underlying22) rfl) ?_
  refine GoH.v (Vop.mv rfl rfl rfl rfl) ?_
  refine GoH.callP rfl rfl rfl rfl rfl (fun _ _ => Tryd.call74 _ _) (fun w _ hS => rCheck_c _ a ca r w (ha.ex0 hS.ext) hl) ?_
  refine GoH.v (Vop.bin rfl rfl rfl rfl bEq rfl) ?_
  refine GoH.v (Vop.asg rfl rfl rfl rfl) ?_
  refine GoH.regionEnd ?_
  refine GoH.ret Tryd.f46 Tryd.func46 rfl (fun w' hS => ?_)
  exact ⟨hS.ext, rfl⟩
theorem rTwo_c (a : Option Addr) (ca : Nat) (r : List W64) (b : Option Addr) (cb : Nat) (s : List W64) (w : World) (ha : SlU w a r) (hb : SlU w b s) (hl : r.length ≤ maxLen) (hl2 : s.length ≤ maxLen) :
    Cn Tryd.prog 101 [.slice a r.length ca, .slice b s.length cb] w (fun v _ => v = .int .i64 (twoR r s)) := by
  refine Cn.of Tryd.func101 rfl rfl ?_
  refine GoH.seq ?_
  refine GoH.region ?_
  refine GoH.v (Vop.asg rfl rfl rfl rfl) ?_
  refine GoH.regionEnd ?_
  refine GoH.seq ?_
  refine GoH.seq ?_
  refine GoH.region ?_
  refine GoH.v (Vop.mv rfl rfl rfl rfl) ?_
  refine GoH.v (Vop.blt rfl rfl rfl (blt_len_slice Tryd.underlying22) rfl) ?_
  refine GoH.v (Vop.mv rfl rfl rfl rfl) ?_
  refine GoH.callP rfl rfl rfl rfl rfl (fun _ _ => Tryd.call74 _ _) (fun w _ hS => rCheck_c _ a ca r w (ha.ex0 hS.ext) hl) ?_
  refine GoH.v (Vop.asg rfl rfl rfl rfl) ?_
  refine GoH.regionEnd ?_
  refine GoH.seq ?_
  refine GoH.region ?_
  refine GoH.v (Vop.mv rfl rfl rfl rfl) ?_
  refine GoH.v (Vop.bin rfl rfl rfl rfl bNe rfl) ?_
  refine GoH.regionEnd ?_
  refine GoH.cond rfl (fun hc => ?_) (fun hc => ?_)
  · -- yes
    have h1 : checkR r.length r ≠ 0 := by simpa using hc
    refine GoH.seq ?_
    refine GoH.region ?_
    refine GoH.v (Vop.mv rfl rfl rfl rfl) ?_
    refine GoH.v (Vop.asg rfl rfl rfl rfl) ?_
    refine GoH.regionEnd ?_
    refine GoH.ret Tryd.f101 Tryd.func101 rfl (fun w' hS => ?_)
    exact ⟨hS.ext, by rw [twoR, if_pos h1]; rfl⟩
  · -- no
    have h1 : ¬ checkR r.length r ≠ 0 := by simpa using hc
    refine GoH.skip ?_
    refine GoH.seq ?_
    refine GoH.seq ?_
    refine GoH.region ?_
    refine GoH.v (Vop.mv rfl rfl rfl rfl) ?_
    refine GoH.v (Vop.blt rfl rfl rfl (blt_len_slice Tryd.underlying22) rfl) ?_
    refine GoH.v (Vop.mv rfl rfl rfl rfl) ?_
    refine GoH.callP rfl rfl rfl rfl rfl (fun _ _ => Tryd.call74 _ _) (fun w _ hS => rCheck_c _ b cb s w (hb.ex0 hS.ext) hl2) ?_
    refine GoH.v (Vop.asg rfl rfl rfl rfl) ?_
    refine GoH.regionEnd ?_
    refine GoH.seq ?_
    refine GoH.region ?_
    refine GoH.v (Vop.mv rfl rfl rfl rfl) ?_
    refine GoH.v (Vop.bin rfl rfl rfl rfl bNe rfl) ?_
    refine GoH.regionEnd ?_
    refine GoH.cond rfl (fun hc => ?_) (fun hc => ?_)
    · -- yes
      have h2 : checkR s.length s ≠ 0 := by simpa using hc
      refine GoH.seq ?_
      refine GoH.region ?_
      refine GoH.v (Vop.mv rfl rfl rfl rfl) ?_
      refine GoH.v (Vop.asg rfl rfl rfl rfl) ?_
      refine GoH.regionEnd ?_
      refine GoH.ret Tryd.f101 Tryd.func101 rfl (fun w' hS => ?_)
      exact ⟨hS.ext, by rw [twoR, if_neg h1, if_pos h2]; rfl⟩
    · -- no
      have h2 : ¬ checkR s.length s ≠ 0 := by simpa using hc
      refine GoH.skip ?_
      refine GoH.seq ?_
      refine GoH.seq ?_
      refine GoH.region ?_
      refine GoH.v (Vop.mv rfl rfl rfl rfl) ?_
      refine GoH.v (Vop.blt rfl rfl rfl (blt_len_slice Tryd.underlying22) rfl) ?_
      refine GoH.v (Vop.mv rfl rfl rfl rfl) ?_
      refine GoH.v (Vop.blt rfl rfl rfl (blt_len_slice Tryd.underlying22) rfl) ?_
      refine GoH.v (Vop.bin rfl rfl rfl rfl bNe rfl) ?_
      refine GoH.regionEnd ?_
      refine GoH.cond rfl (fun hc => ?_) (fun hc => ?_)
      · -- yes
        have h3 : r.length ≠ s.length := by simp at hc; omega
        refine GoH.seq ?_
        refine GoH.region ?_
        refine GoH.v (Vop.asg rfl rfl rfl rfl) ?_
        refine GoH.regionEnd ?_
        refine GoH.ret Tryd.f101 Tryd.func101 rfl (fun w' hS => ?_)
        exact ⟨hS.ext, by rw [twoR, if_neg h1, if_neg h2, if_pos h3]; rfl⟩
      · -- no
        have h3 : ¬ r.length ≠ s.length := by simp at hc; omega
        refine GoH.skip ?_
        refine GoH.seq ?_
        refine GoH.region ?_
        refine GoH.v (Vop.asg rfl rfl rfl rfl) ?_
        refine GoH.regionEnd ?_
        refine GoH.ret Tryd.f101 Tryd.func101 rfl (fun w' hS => ?_)
        exact ⟨hS.ext, by rw [twoR, if_neg h1, if_neg h2, if_neg h3]; rfl⟩
theorem rSame_c (a : Option Addr) (ca : Nat) (xs : List W64) (b : Option Addr) (cb : Nat) (ys : List W64) (w : World) (ha : SlU w a xs) (hb : SlU w b ys) (hl : xs.length ≤ maxLen) :
    Cn Tryd.prog 24 [.slice a xs.length ca, .slice b ys.length cb] w (fun v _ => v = .bool (xs == ys)) := by
  unfold maxLen at hl
  refine Cn.of Tryd.func24 rfl rfl ?_
  refine GoH.seq ?_
  refine GoH.region ?_
  refine GoH.v (Vop.asg rfl rfl rfl rfl) ?_
  refine GoH.regionEnd ?_
  refine GoH.seq ?_
  refine GoH.seq ?_
  refine GoH.region ?_
  refine GoH.v (Vop.mv rfl rfl rfl rfl) ?_
  refine GoH.v (Vop.blt rfl rfl rfl (blt_len_slice Tryd.underlying22) rfl) ?_
  refine GoH.v (Vop.mv rfl rfl rfl rfl) ?_
  refine GoH.v (Vop.blt rfl rfl rfl (blt_len_slice Tryd.underlying22) rfl) ?_
  refine GoH.v (Vop.bin rfl rfl rfl rfl bNe rfl) ?_
  refine GoH.regionEnd ?_
  refine GoH.cond rfl (fun hc => ?_) (fun hc => ?_)
  · -- yes
    have h1 : xs.length ≠ ys.length := by simp at hc; omega
    refine GoH.seq ?_
    refine GoH.region ?_
    refine GoH.v (Vop.asg rfl rfl rfl rfl) ?_
    refine GoH.regionEnd ?_
    refine GoH.ret Tryd.f24 Tryd.func24 rfl (fun w' hS => ?_)
    exact ⟨hS.ext, by rw [show (xs == ys) = false from by rw [beq_eq_false_iff_ne]; rintro rfl; exact h1 rfl]; rfl⟩
  · -- no
    have h1 : xs.length = ys.length := by simp at hc; omega
    refine GoH.skip ?_
    refine GoH.seq ?_
    refine GoH.seq ?_
    refine GoH.region ?_
    refine GoH.v (Vop.asg rfl rfl rfl rfl) ?_
    refine GoH.regionEnd ?_
    refine GoH.block ?_
    refine GoH.loop (σ := Nat) (fun k => [(0, .slice a xs.length ca), (1, .slice b ys.length cb), (5, .int .i64 k)]) (fun _ => []) (fun k => k ≤ xs.length ∧ anyTo (fun k => xs.getD k 0#64 != ys.getD k 0#64) k = false) (fun k => xs.length - k) 0 ⟨Nat.zero_le _, rfl⟩ ⟨rfl, rfl, rfl, trivial⟩ .slnil (fun k hI IH => ?_)
    obtain ⟨hk, hany⟩ := hI
    refine GoH.seq ?_
    refine GoH.seq ?_
    refine GoH.region ?_
    refine GoH.v (Vop.mv rfl rfl rfl rfl) ?_
    refine GoH.v (Vop.mv rfl rfl rfl rfl) ?_
    refine GoH.v (Vop.blt rfl rfl rfl (blt_len_slice Tryd.underlying22) rfl) ?_
    refine GoH.v (Vop.bin rfl rfl rfl rfl bLt rfl) ?_
    refine GoH.regionEnd ?_
    refine GoH.cond rfl (fun hc => ?_) (fun hc => ?_)
    · -- yes
      have hlt : k < xs.length := by simpa using hc
      refine GoH.skip ?_
      refine GoH.seq ?_
      refine GoH.block ?_
      refine GoH.seq ?_
      refine GoH.draw 9 mixed rfl ?_
      refine RdGo.v (Vop.mv rfl rfl rfl rfl) ?_
      refine RdGo.v (Vop.mv rfl rfl rfl rfl) ?_
      refine RdGo.v (Vop.idx rfl rfl rfl rfl rfl Tryd.underlying22 Tryd.sizeOf41 ⟨_, ha⟩ (by simp) (k) ⟨rfl, by simpa using hlt⟩) ?_
      refine RdGo.v (Vop.ld rfl rfl rfl rfl Tryd.isAgg41 (fun w _ hS => (SlU.ex0 ha hS.ext).at (k) hlt)) ?_
      refine RdGo.v (Vop.mv rfl rfl rfl rfl) ?_
      refine RdGo.v (Vop.mv rfl rfl rfl rfl) ?_
      refine RdGo.v (Vop.idx rfl rfl rfl rfl rfl Tryd.underlying22 Tryd.sizeOf41 ⟨_, hb⟩ (by simp) (k) ⟨rfl, by simpa using (h1 ▸ hlt)⟩) ?_
      refine RdGo.v (Vop.ld rfl rfl rfl rfl Tryd.isAgg41 (fun w _ hS => (SlU.ex0 hb hS.ext).at (k) (h1 ▸ hlt))) ?_
      refine RdGo.v (Vop.bin rfl rfl rfl rfl bNeU rfl) ?_
      refine RdGo.nil ?_
      refine GoH.regionEnd ?_
      refine GoH.cond rfl (fun hc => ?_) (fun hc => ?_)
      · -- yes
        refine GoH.seq ?_
        refine GoH.region ?_
        refine GoH.v (Vop.asg rfl rfl rfl rfl) ?_
        refine GoH.regionEnd ?_
        refine GoH.ret Tryd.f24 Tryd.func24 rfl (fun w' hS => ?_)
        exact ⟨hS.ext, by rw [beq_false_at hc]; rfl⟩
      · -- no
        refine GoH.skip ?_
        refine GoH.inBlock ?_
        refine GoH.region ?_
        refine GoH.v (Vop.mv rfl rfl rfl rfl) ?_
        refine GoH.v (Vop.bin rfl rfl rfl rfl (bAdd (by omega)) rfl) ?_
        refine GoH.v (Vop.asg rfl rfl rfl rfl) ?_
        refine GoH.regionEnd ?_
        exact IH (k + 1) _ _ ⟨hlt, anyTo_succ hany hc⟩ (by omega) ⟨rfl, rfl, rfl, trivial⟩ .slnil
    · -- no
      have hge : ¬ k < xs.length := by simpa using hc
      obtain rfl : k = xs.length := by omega
      refine GoH.exit rfl ?_
      refine GoH.seq ?_
      refine GoH.region ?_
      refine GoH.v (Vop.asg rfl rfl rfl rfl) ?_
      refine GoH.regionEnd ?_
      refine GoH.ret Tryd.f24 Tryd.func24 rfl (fun w' hS => ?_)
      exact ⟨hS.ext, by rw [beq_of_any h1 hany]; rfl⟩
theorem rConverse_c (a : Option Addr) (ca : Nat) (r : List W64) (w : World) (ha : SlU w a r) (hl : r.length ≤ maxLen) :
    Cn Tryd.prog 96 [.slice a r.length ca] w (fun v w' => OwnE w w' v (convR r)) := by
  obtain ⟨i0, hi, hz, hsz, hby⟩ := info_parts infoU
  refine Cn.of Tryd.func96 rfl rfl ?_
  refine GoH.seq ?_
  refine GoH.region ?_
  refine GoH.v (Vop.asg rfl rfl rfl rfl) ?_
  refine GoH.v (Vop.asg rfl rfl rfl rfl) ?_
  refine GoH.regionEnd ?_
  refine GoH.seq ?_
  refine GoH.seq ?_
  refine GoH.region ?_
  refine GoH.v (Vop.mv rfl rfl rfl rfl) ?_
  refine GoH.v (Vop.blt rfl rfl rfl (blt_len_slice Tryd.underlying22) rfl) ?_
  refine GoH.v (Vop.mv rfl rfl rfl rfl) ?_
  refine GoH.callP rfl rfl rfl rfl rfl (fun _ _ => Tryd.call74 _ _) (fun w _ hS => rCheck_c _ a ca r w (ha.ex0 hS.ext) hl) ?_
  refine GoH.v (Vop.asg rfl rfl rfl rfl) ?_
  refine GoH.regionEnd ?_
  refine GoH.seq ?_
  refine GoH.region ?_
  refine GoH.v (Vop.mv rfl rfl rfl rfl) ?_
  refine GoH.v (Vop.bin rfl rfl rfl rfl bNe rfl) ?_
  refine GoH.regionEnd ?_
  refine GoH.cond rfl (fun hc => ?_) (fun hc => ?_)
  · -- yes
    have h1 : checkR r.length r ≠ 0 := by simpa using hc
    refine GoH.seq ?_
    refine GoH.region ?_
    refine GoH.v (Vop.mv rfl rfl rfl rfl) ?_
    refine GoH.v (Vop.asg rfl rfl rfl rfl) ?_
    refine GoH.v (Vop.asg rfl rfl rfl rfl) ?_
    refine GoH.regionEnd ?_
    refine GoH.ret Tryd.f96 Tryd.func96 rfl (fun w' hS => ?_)
    exact ⟨hS.ext, _, by rw [convR, if_pos h1]; rfl, by rw [convR, if_pos h1]; exact own_nil _ _⟩
  · -- no
    have h1 : ¬ checkR r.length r ≠ 0 := by simpa using hc
    have hv := check_zero.1 (by simpa using h1)
    have hlen := hv.len
    refine GoH.skip ?_
    refine GoH.seq ?_
    refine GoH.region ?_
    refine GoH.v (Vop.mv rfl rfl rfl rfl) ?_
    refine GoH.v (Vop.blt rfl rfl rfl (blt_len_slice Tryd.underlying22) rfl) ?_
    refine GoH.mkE U 0#64 rfl rfl rfl rfl rfl Tryd.underlying22 hi hz rfl hsz (by rw [hby]; omega) (by unfold maxLen; omega) (fun b17 => ?_)
    -- heap: b17
    refine GoH.v (Vop.asg rfl rfl rfl rfl) ?_
    refine GoH.regionEnd ?_
    refine GoH.seq ?_
    refine GoH.seq ?_
    refine GoH.region ?_
    refine GoH.v (Vop.asg rfl rfl rfl rfl) ?_
    refine GoH.regionEnd ?_
    refine GoH.block ?_
    refine GoH.loop (σ := Nat × List W64) (fun s => [(0, .slice a r.length ca), (5, .slice (some ⟨b17, 0, none⟩) r.length r.length), (6, .int .i64 s.1)]) (fun s => [(some b17, ob U 41 s.2 [])])
      (fun s => s.1 ≤ r.length ∧ s.2 = upTo (fun w out => revS w (r.getD w 0#64) out) (List.replicate r.length 0#64) s.1) (fun s => r.length - s.1) (0, List.replicate r.length 0#64) ⟨Nat.zero_le _, rfl⟩ ⟨rfl, rfl, rfl, trivial⟩ (List.Sublist.refl _) (fun s hs IH => ?_)
    obtain ⟨k, out⟩ := s
    obtain ⟨hk, hout⟩ := hs
    dsimp only at hk hout
    have hol : out.length = r.length := by rw [hout]; exact upTo_rev_length r k
    -- heap: b17
    refine GoH.seq ?_
    refine GoH.seq ?_
    refine GoH.region ?_
    refine GoH.v (Vop.mv rfl rfl rfl rfl) ?_
    refine GoH.v (Vop.mv rfl rfl rfl rfl) ?_
    refine GoH.v (Vop.blt rfl rfl rfl (blt_len_slice Tryd.underlying22) rfl) ?_
    refine GoH.v (Vop.bin rfl rfl rfl rfl bLt rfl) ?_
    refine GoH.regionEnd ?_
    refine GoH.cond rfl (fun hc => ?_) (fun hc => ?_)
    · -- yes
      have hlt : k < r.length := by simpa using hc
      refine GoH.skip ?_
      refine GoH.seq ?_
      refine GoH.block ?_
      refine GoH.seq ?_
      refine GoH.region ?_
      refine GoH.v (Vop.asg rfl rfl rfl rfl) ?_
      refine GoH.regionEnd ?_
      refine GoH.block ?_
      refine GoH.loop (σ := Nat) (fun u => [(0, .slice a r.length ca), (5, .slice (some ⟨b17, 0, none⟩) r.length r.length), (6, .int .i64 k), (7, .int .i64 u)]) (fun u => [(some b17, ob U 41 (revU k (r.getD k 0#64) out u) [])])
        (fun u => u ≤ r.length) (fun u => r.length - u) 0 (Nat.zero_le _) ⟨rfl, rfl, rfl, rfl, trivial⟩ (List.Sublist.refl _) (fun u hu IH2 => ?_)
      -- heap: b17
      refine GoH.seq ?_
      refine GoH.seq ?_
      refine GoH.region ?_
      refine GoH.v (Vop.mv rfl rfl rfl rfl) ?_
      refine GoH.v (Vop.mv rfl rfl rfl rfl) ?_
      refine GoH.v (Vop.blt rfl rfl rfl (blt_len_slice Tryd.underlying22) rfl) ?_
      refine GoH.v (Vop.bin rfl rfl rfl rfl bLt rfl) ?_
      refine GoH.regionEnd ?_
      refine GoH.cond rfl (fun hc => ?_) (fun hc => ?_)
      · -- yes
        have hlt2 : u < r.length := by simpa using hc
        have hls : u < (revU k (r.getD k 0#64) out u).length := by rw [revU_length]; omega
        refine GoH.skip ?_
        refine GoH.seq ?_
        refine GoH.block ?_
        refine GoH.seq ?_
        refine GoH.region ?_
        refine GoH.v (Vop.mv rfl rfl rfl rfl) ?_
        refine GoH.v (Vop.mv rfl rfl rfl rfl) ?_
        refine GoH.v (Vop.idx rfl rfl rfl rfl rfl Tryd.underlying22 Tryd.sizeOf41 ⟨_, ha⟩ (by simp) (k) ⟨rfl, by simpa using hlt⟩) ?_
        refine GoH.v (Vop.ld rfl rfl rfl rfl Tryd.isAgg41 (fun w _ hS => (SlU.ex0 ha hS.ext).at (k) hlt)) ?_
        refine GoH.v (Vop.mv rfl rfl rfl rfl) ?_
        refine GoH.callP rfl rfl rfl rfl rfl (fun _ _ => Tryd.call95 _ _) (fun w _ hS => rIn_c _ u w (by omega)) ?_
        refine GoH.regionEnd ?_
        refine GoH.cond rfl (fun hc => ?_) (fun hc => ?_)
        · -- yes
          refine GoH.region ?_
          refine GoH.v (Vop.mv rfl rfl rfl rfl) ?_
          refine GoH.v (Vop.mv rfl rfl rfl rfl) ?_
          refine GoH.v (Vop.idxS rfl rfl rfl rfl rfl Tryd.underlying22 Tryd.sizeOf41 (u) ⟨rfl, hlt2⟩) ?_
          refine GoH.v (Vop.ldE U 0#64 rfl rfl rfl rfl Tryd.isAgg41 0 rfl hls) ?_
          refine GoH.v (Vop.mv rfl rfl rfl rfl) ?_
          refine GoH.v (Vop.conv rfl rfl rfl (cInt (k := .u64) Tryd.underlying3 Tryd.underlying50 (wrapN64 (by omega))) rfl) ?_
          refine GoH.v (Vop.bin (a := U 1#64) rfl rfl rfl rfl (bShl _ rfl) rfl) ?_
          refine GoH.v (Vop.bin rfl rfl rfl rfl bOr rfl) ?_
          refine GoH.v (Vop.idxS rfl rfl rfl rfl rfl Tryd.underlying22 Tryd.sizeOf41 (u) ⟨rfl, hlt2⟩) ?_
          refine GoH.stE U _ rfl rfl rfl rfl Tryd.sizeOf41 rfl 0 rfl hls ?_
          refine GoH.regionEnd ?_
          refine GoH.inBlock ?_
          refine GoH.region ?_
          refine GoH.v (Vop.mv rfl rfl rfl rfl) ?_
          refine GoH.v (Vop.bin rfl rfl rfl rfl (bAdd (by omega)) rfl) ?_
          refine GoH.v (Vop.asg rfl rfl rfl rfl) ?_
          refine GoH.regionEnd ?_
          exact IH2 (u + 1) _ _ hlt2 (by omega) ⟨rfl, rfl, rfl, rfl, trivial⟩ (by rw [show revU k (r.getD k 0#64) out (u + 1) = _ from if_pos hc]; exact List.Sublist.refl _)
        · -- no
          refine GoH.skip ?_
          refine GoH.inBlock ?_
          refine GoH.region ?_
          refine GoH.v (Vop.mv rfl rfl rfl rfl) ?_
          refine GoH.v (Vop.bin rfl rfl rfl rfl (bAdd (by omega)) rfl) ?_
          refine GoH.v (Vop.asg rfl rfl rfl rfl) ?_
          refine GoH.regionEnd ?_
          exact IH2 (u + 1) _ _ hlt2 (by omega) ⟨rfl, rfl, rfl, rfl, trivial⟩ (by rw [show revU k (r.getD k 0#64) out (u + 1) = _ from if_neg (by rw [hc]; exact Bool.false_ne_true)]; exact List.Sublist.refl _)
      · -- no
        have hge2 : ¬ u < r.length := by simpa using hc
        obtain rfl : u = r.length := by omega
        refine GoH.exit rfl ?_
        refine GoH.inBlock ?_
        refine GoH.region ?_
        refine GoH.v (Vop.mv rfl rfl rfl rfl) ?_
        refine GoH.v (Vop.bin rfl rfl rfl rfl (bAdd (by omega)) rfl) ?_
        refine GoH.v (Vop.asg rfl rfl rfl rfl) ?_
        refine GoH.regionEnd ?_
        exact IH (k + 1, _) _ _ ⟨hlt, by rw [upTo, ← hout]; exact revU_eq hlen (hv.lt k)⟩ (by omega) ⟨rfl, rfl, rfl, trivial⟩ (List.Sublist.refl _)
    · -- no
      have hge : ¬ k < r.length := by simpa using hc
      obtain rfl : k = r.length := by omega
      refine GoH.exit rfl ?_
      refine GoH.seq ?_
      refine GoH.region ?_
      refine GoH.v (Vop.mv rfl rfl rfl rfl) ?_
      refine GoH.v (Vop.asg rfl rfl rfl rfl) ?_
      refine GoH.v (Vop.asg rfl rfl rfl rfl) ?_
      refine GoH.regionEnd ?_
      refine GoH.ret Tryd.f96 Tryd.func96 rfl (fun w' hS => ?_)
      exact ⟨hS.ext, _, by rw [convR, if_neg h1]; rfl, by rw [convR, if_neg h1, show revR r = out from hout.symm]; exact ownAt hS (q := some b17) 0 rfl hol.symm (fun h => by cases h) (by simp [hol])⟩
theorem rUnion_c (a : Option Addr) (ca : Nat) (r : List W64) (b : Option Addr) (cb : Nat) (s : List W64) (w : World) (ha : SlU w a r) (hb : SlU w b s) (hl : r.length ≤ maxLen) (hl2 : s.length ≤ maxLen) :
    Cn Tryd.prog 97 [.slice a r.length ca, .slice b s.length cb] w (fun v w' => OwnE w w' v (unionR r s)) := by
  obtain ⟨i0, hi, hz, hsz, hby⟩ := info_parts infoU
  refine Cn.of Tryd.func97 rfl rfl ?_
  refine GoH.seq ?_
  refine GoH.region ?_
  refine GoH.v (Vop.asg rfl rfl rfl rfl) ?_
  refine GoH.v (Vop.asg rfl rfl rfl rfl) ?_
  refine GoH.regionEnd ?_
  refine GoH.seq ?_
  refine GoH.seq ?_
  refine GoH.region ?_
  refine GoH.v (Vop.mv rfl rfl rfl rfl) ?_
  refine GoH.v (Vop.mv rfl rfl rfl rfl) ?_
  refine GoH.callP rfl rfl rfl rfl rfl (fun _ _ => Tryd.call101 _ _) (fun w _ hS => rTwo_c a ca r b cb s w (ha.ex0 hS.ext) (hb.ex0 hS.ext) hl hl2) ?_
  refine GoH.v (Vop.asg rfl rfl rfl rfl) ?_
  refine GoH.regionEnd ?_
  refine GoH.seq ?_
  refine GoH.region ?_
  refine GoH.v (Vop.mv rfl rfl rfl rfl) ?_
  refine GoH.v (Vop.bin rfl rfl rfl rfl bNe rfl) ?_
  refine GoH.regionEnd ?_
  refine GoH.cond rfl (fun hc => ?_) (fun hc => ?_)
  · -- yes
    have h1 : twoR r s ≠ 0 := by simpa using hc
    refine GoH.seq ?_
    refine GoH.region ?_
    refine GoH.v (Vop.mv rfl rfl rfl rfl) ?_
    refine GoH.v (Vop.asg rfl rfl rfl rfl) ?_
    refine GoH.v (Vop.asg rfl rfl rfl rfl) ?_
    refine GoH.regionEnd ?_
    refine GoH.ret Tryd.f97 Tryd.func97 rfl (fun w' hS => ?_)
    exact ⟨hS.ext, _, by rw [unionR, if_pos h1]; rfl, by rw [unionR, if_pos h1]; exact own_nil _ _⟩
  · -- no
    have h1 : ¬ twoR r s ≠ 0 := by simpa using hc
    obtain ⟨hvr, hvs, hrs⟩ := two_zero.1 (by simpa using h1)
    have hlen := hvr.len
    refine GoH.skip ?_
    refine GoH.seq ?_
    refine GoH.region ?_
    refine GoH.v (Vop.mv rfl rfl rfl rfl) ?_
    refine GoH.v (Vop.blt rfl rfl rfl (blt_len_slice Tryd.underlying22) rfl) ?_
    refine GoH.mkE U 0#64 rfl rfl rfl rfl rfl Tryd.underlying22 hi hz rfl hsz (by rw [hby]; omega) (by unfold maxLen; omega) (fun b17 => ?_)
    -- heap: b17
    refine GoH.v (Vop.asg rfl rfl rfl rfl) ?_
    refine GoH.regionEnd ?_
    refine GoH.seq ?_
    refine GoH.seq ?_
    refine GoH.region ?_
    refine GoH.v (Vop.asg rfl rfl rfl rfl) ?_
    refine GoH.regionEnd ?_
    refine GoH.block ?_
    refine GoH.loop (σ := Nat) (fun k => [(0, .slice a r.length ca), (1, .slice b s.length cb), (7, .slice (some ⟨b17, 0, none⟩) r.length r.length), (8, .int .i64 k)]) (fun k => [(some b17, ob U 41 (flm (fun w _ => r.getD w 0#64 ||| s.getD w 0#64) (List.replicate r.length 0#64) k) [])])
      (fun k => k ≤ r.length) (fun k => r.length - k) 0 (Nat.zero_le _) ⟨rfl, rfl, rfl, rfl, trivial⟩ (by rw [flm_zero]; exact List.Sublist.refl _) (fun k hk IH => ?_)
    -- heap: b17
    refine GoH.seq ?_
    refine GoH.seq ?_
    refine GoH.region ?_
    refine GoH.v (Vop.mv rfl rfl rfl rfl) ?_
    refine GoH.v (Vop.mv rfl rfl rfl rfl) ?_
    refine GoH.v (Vop.blt rfl rfl rfl (blt_len_slice Tryd.underlying22) rfl) ?_
    refine GoH.v (Vop.bin rfl rfl rfl rfl bLt rfl) ?_
    refine GoH.regionEnd ?_
    refine GoH.cond rfl (fun hc => ?_) (fun hc => ?_)
    · -- yes
      have hlt : k < r.length := by simpa using hc
      have hlt2 : k < (flm (fun w _ => r.getD w 0#64 ||| s.getD w 0#64) (List.replicate r.length 0#64) k).length := by simp [flm_length, hlt]
      refine GoH.skip ?_
      refine GoH.seq ?_
      refine GoH.block ?_
      refine GoH.draw 12 mixed rfl ?_
      refine RdGo.v (Vop.mv rfl rfl rfl rfl) ?_
      refine RdGo.v (Vop.mv rfl rfl rfl rfl) ?_
      refine RdGo.v (Vop.mv rfl rfl rfl rfl) ?_
      refine RdGo.v (Vop.mv rfl rfl rfl rfl) ?_
      refine RdGo.v (Vop.idx rfl rfl rfl rfl rfl Tryd.underlying22 Tryd.sizeOf41 ⟨_, ha⟩ (by simp) (k) ⟨rfl, by simpa using hlt⟩) ?_
      refine RdGo.v (Vop.ld rfl rfl rfl rfl Tryd.isAgg41 (fun w _ hS => (SlU.ex0 ha hS.ext).at (k) hlt)) ?_
      refine RdGo.v (Vop.mv rfl rfl rfl rfl) ?_
      refine RdGo.v (Vop.mv rfl rfl rfl rfl) ?_
      refine RdGo.v (Vop.idx rfl rfl rfl rfl rfl Tryd.underlying22 Tryd.sizeOf41 ⟨_, hb⟩ (by simp) (k) ⟨rfl, by simpa using (hrs ▸ hlt)⟩) ?_
      refine RdGo.v (Vop.ld rfl rfl rfl rfl Tryd.isAgg41 (fun w _ hS => (SlU.ex0 hb hS.ext).at (k) (hrs ▸ hlt))) ?_
      refine RdGo.v (Vop.bin rfl rfl rfl rfl bOr rfl) ?_
      refine RdGo.v (Vop.idxS rfl rfl rfl rfl rfl Tryd.underlying22 Tryd.sizeOf41 (k) ⟨rfl, hlt⟩) ?_
      refine RdGo.nil ?_
      refine GoH.stE U _ rfl rfl rfl rfl Tryd.sizeOf41 rfl 0 rfl hlt2 ?_
      refine GoH.regionEnd ?_
      refine GoH.inBlock ?_
      refine GoH.region ?_
      refine GoH.v (Vop.mv rfl rfl rfl rfl) ?_
      refine GoH.v (Vop.bin rfl rfl rfl rfl (bAdd (by omega)) rfl) ?_
      refine GoH.v (Vop.asg rfl rfl rfl rfl) ?_
      refine GoH.regionEnd ?_
      exact IH (k + 1) _ _ hlt (by omega) ⟨rfl, rfl, rfl, rfl, trivial⟩ (by rw [← flm_succ (by simpa using hlt)]; exact List.Sublist.refl _)
    · -- no
      have hge : ¬ k < r.length := by simpa using hc
      obtain rfl : k = r.length := by omega
      refine GoH.exit rfl ?_
      refine GoH.seq ?_
      refine GoH.region ?_
      refine GoH.v (Vop.mv rfl rfl rfl rfl) ?_
      refine GoH.v (Vop.asg rfl rfl rfl rfl) ?_
      refine GoH.v (Vop.asg rfl rfl rfl rfl) ?_
      refine GoH.regionEnd ?_
      refine GoH.ret Tryd.f97 Tryd.func97 rfl (fun w' hS => ?_)
      exact ⟨hS.ext, _, by rw [unionR, if_neg h1]; rfl, by rw [unionR, if_neg h1, union_eq (fun x y => x ||| y)] at *; exact ownAt hS (q := some b17) 0 rfl (by simp [flm_length]) (fun h => by cases h) (by simp [flm_length])⟩
end Go.Proofs.YticlcpkcohdpfaaDoor
