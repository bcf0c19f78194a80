/- What calls of the program return, under the conditions that each theorem states. -/
import Derived.Test.YtcljmlnnfdaljaaDoorF40
import Derived.Test.YtcljmlnnfdaljaaDoorF42
import Derived.Test.YtcljmlnnfdaljaaDoorF39
import Derived.Test.YtcljmlnnfdaljaaDoorF33
namespace Go.Proofs.YtcljmlnnfdaljaaDoor
open Go.RowKit Go.Proofs.Wit
/-! the reference's checker: the set of a node -/
theorem wBox_c (a : Option Addr) (ca : Nat) (r : List W64) (n : Nat) (s : W64) (w : World) (ha : SlU w a r) (hn : r.length = n) (h64 : n ≤ 64) : Cn Tryd.prog 78 [.slice a r.length ca, .int .i64 n, U s] w (fun v _ => v = U (boxW r n s)) := by
  refine Cn.of Tryd.func78 rfl rfl ?_
  refine GoH.seq (GoH.region ?_)
  refine GoH.v (Vop.asg (v := U 0#64) rfl rfl rfl rfl) ?_
  refine GoH.regionEnd (GoH.seq (GoH.region ?_))
  refine GoH.v (Vop.asg (v := U 0#64) rfl rfl rfl rfl) ?_
  refine GoH.regionEnd (GoH.seq (GoH.seq (GoH.region ?_)))
  refine GoH.v (Vop.asg rfl rfl rfl rfl) ?_
  refine GoH.regionEnd (GoH.block ?_)
  refine GoH.loop (σ := Nat) (fun k => [(0, .slice a r.length ca), (1, .int .i64 n), (2, U s), (7, U (selW (fun w => r.getD w 0#64 &&& ~~~s == 0#64) k)), (8, .int .i64 k)]) (fun _ => []) (fun k => k ≤ n) (fun k => n - k) 0 (Nat.zero_le _) ⟨rfl, rfl, rfl, rfl, rfl, trivial⟩ .slnil (fun k hk IH => ?_)
  refine GoH.seq (GoH.seq (GoH.region ?_))
  iterate 2 refine GoH.v (Vop.mv rfl rfl rfl rfl) ?_
  refine GoH.v (Vop.bin rfl rfl rfl rfl bLt rfl) ?_
  refine GoH.regionEnd ?_
  refine GoH.cond rfl (fun hc => ?_) (fun hc => ?_)
  ·
   have hm : k < n := by simpa using hc
   have hkr : k < r.length := by omega
   have hs := selW_succ (q := fun w => r.getD w 0#64 &&& ~~~s == 0#64) (n := k)
   refine GoH.skip (GoH.seq (GoH.block (GoH.seq (GoH.region ?_))))
   iterate 2 refine GoH.v (Vop.mv rfl rfl rfl rfl) ?_
   refine GoH.v (Vop.idx rfl rfl rfl rfl rfl Tryd.underlying22 Tryd.sizeOf33 ⟨_, ha⟩ (by simp) (k) ⟨rfl, by simpa using hkr⟩) ?_
   refine GoH.v (Vop.ld rfl rfl rfl rfl Tryd.isAgg33 (fun w _ hS => (SlU.ex0 ha hS.ext).at (k) hkr)) ?_
   refine GoH.v (Vop.mv rfl rfl rfl rfl) ?_
   refine GoH.v (Vop.bin rfl rfl rfl rfl bAndNot rfl) ?_
   refine GoH.v (Vop.bin (b := U 0#64) rfl rfl rfl rfl bEqU rfl) ?_
   refine GoH.regionEnd ?_
   refine GoH.cond rfl (fun hc => ?_) (fun hc => ?_)
   ·
    rw [if_pos hc] at hs
    refine GoH.region ?_
    iterate 2 refine GoH.v (Vop.mv rfl rfl rfl rfl) ?_
    refine GoH.v (Vop.bin (a := U 1#64) rfl rfl rfl rfl (bShl _ rfl) rfl) ?_
    refine GoH.v (Vop.bin rfl rfl rfl rfl bOr rfl) ?_
    refine GoH.v (Vop.asg rfl rfl rfl rfl) ?_
    refine GoH.regionEnd (GoH.inBlock (GoH.region ?_))
    refine GoH.v (Vop.mv rfl rfl rfl rfl) ?_
    refine GoH.v (Vop.bin rfl rfl rfl rfl (bAdd (by omega)) rfl) ?_
    refine GoH.v (Vop.asg rfl rfl rfl rfl) ?_
    refine GoH.regionEnd ?_
    exact IH (k + 1) _ _ hm (by omega) ⟨rfl, rfl, rfl, by rw [hs]; rfl, rfl, trivial⟩ .slnil
   ·
    rw [if_neg (by rw [hc]; simp)] at hs
    refine GoH.skip (GoH.inBlock (GoH.region ?_))
    refine GoH.v (Vop.mv rfl rfl rfl rfl) ?_
    refine GoH.v (Vop.bin rfl rfl rfl rfl (bAdd (by omega)) rfl) ?_
    refine GoH.v (Vop.asg rfl rfl rfl rfl) ?_
    refine GoH.regionEnd ?_
    exact IH (k + 1) _ _ hm (by omega) ⟨rfl, rfl, rfl, by rw [hs]; rfl, rfl, trivial⟩ .slnil
  ·
   have hge : ¬ k < n := by simpa using hc
   obtain rfl : k = n := by omega
   refine GoH.exit rfl (GoH.seq (GoH.region ?_))
   refine GoH.v (Vop.mv rfl rfl rfl rfl) ?_
   refine GoH.v (Vop.asg rfl rfl rfl rfl) ?_
   refine GoH.regionEnd ?_
   refine GoH.ret Tryd.f78 Tryd.func78 rfl (fun w' hS => ?_)
   exact ⟨hS.ext, rfl⟩
theorem wPaths_c (a : Option Addr) (ca : Nat) (r : List W64) (n v : Nat) (c : W64) (w : World) (ha : SlU w a r) (hn : r.length = n) (hv : v < n) (h64 : n ≤ 64) : Cn Tryd.prog 100 [.slice a r.length ca, .int .i64 n, .int .i64 v, U c] w (fun u _ => u = U (pathW r n v c)) := by
  have hvr : v < r.length := by omega
  refine Cn.of Tryd.func100 rfl rfl ?_
  refine GoH.seq (GoH.region ?_)
  refine GoH.v (Vop.asg (v := U 0#64) rfl rfl rfl rfl) ?_
  refine GoH.regionEnd (GoH.seq (GoH.region ?_))
  iterate 2 refine GoH.v (Vop.mv rfl rfl rfl rfl) ?_
  refine GoH.v (Vop.idx rfl rfl rfl rfl rfl Tryd.underlying22 Tryd.sizeOf33 ⟨_, ha⟩ (by simp) (v) ⟨rfl, by simpa using hvr⟩) ?_
  refine GoH.v (Vop.ld rfl rfl rfl rfl Tryd.isAgg33 (fun w _ hS => (SlU.ex0 ha hS.ext).at (v) hvr)) ?_
  refine GoH.v (Vop.mv rfl rfl rfl rfl) ?_
  refine GoH.v (Vop.bin rfl rfl rfl rfl bAnd rfl) ?_
  refine GoH.v (Vop.asg rfl rfl rfl rfl) ?_
  refine GoH.regionEnd (GoH.seq (GoH.seq (GoH.region ?_)))
  refine GoH.v (Vop.asg rfl rfl rfl rfl) ?_
  refine GoH.regionEnd (GoH.block ?_)
  refine GoH.loop (σ := Nat) (fun k => [(0, .slice a r.length ca), (1, .int .i64 n), (3, U c), (9, U (pathTo r n v c k)), (10, .int .i64 k)]) (fun _ => []) (fun k => k ≤ n) (fun k => n - k) 0 (Nat.zero_le _) ⟨rfl, rfl, rfl, rfl, rfl, trivial⟩ .slnil (fun k hk IH => ?_)
  refine GoH.seq (GoH.seq (GoH.region ?_))
  iterate 2 refine GoH.v (Vop.mv rfl rfl rfl rfl) ?_
  refine GoH.v (Vop.bin rfl rfl rfl rfl bLt rfl) ?_
  refine GoH.regionEnd ?_
  refine GoH.cond rfl (fun hc => ?_) (fun hc => ?_)
  ·
   have hm : k < n := by simpa using hc
   refine GoH.skip (GoH.seq (GoH.block (GoH.seq (GoH.region ?_))))
   refine GoH.v (Vop.asg rfl rfl rfl rfl) ?_
   refine GoH.regionEnd (GoH.block ?_)
   refine GoH.loop (σ := Nat) (fun j => [(0, .slice a r.length ca), (1, .int .i64 n), (3, U c), (9, U (upTo (pstp r c) (pathTo r n v c k) j)), (10, .int .i64 k), (11, .int .i64 j)]) (fun _ => []) (fun j => j ≤ n) (fun j => n - j) 0 (Nat.zero_le _) ⟨rfl, rfl, rfl, rfl, rfl, rfl, trivial⟩ .slnil (fun j hj IH2 => ?_)
   refine GoH.seq (GoH.seq (GoH.region ?_))
   iterate 2 refine GoH.v (Vop.mv rfl rfl rfl rfl) ?_
   refine GoH.v (Vop.bin rfl rfl rfl rfl bLt rfl) ?_
   refine GoH.regionEnd ?_
   refine GoH.cond rfl (fun hc => ?_) (fun hc => ?_)
   ·
    have hm2 : j < n := by simpa using hc
    have hjr : j < r.length := by omega
    have hs : upTo (pstp r c) (pathTo r n v c k) (j + 1) = pstp r c j (upTo (pstp r c) (pathTo r n v c k) j) := rfl
    rw [pstp] at hs
    refine GoH.skip (GoH.seq (GoH.block (GoH.seq (GoH.region ?_))))
    iterate 2 refine GoH.v (Vop.mv rfl rfl rfl rfl) ?_
    refine GoH.callP rfl rfl rfl rfl rfl (fun _ _ => Tryd.call109 _ _) (fun w _ hS => rBit_c _ j w) ?_
    refine GoH.regionEnd ?_
    refine GoH.cond rfl (fun hc => ?_) (fun hc => ?_)
    ·
     rw [if_pos hc] at hs
     refine GoH.region ?_
     iterate 3 refine GoH.v (Vop.mv rfl rfl rfl rfl) ?_
     refine GoH.v (Vop.idx rfl rfl rfl rfl rfl Tryd.underlying22 Tryd.sizeOf33 ⟨_, ha⟩ (by simp) (j) ⟨rfl, by simpa using hjr⟩) ?_
     refine GoH.v (Vop.ld rfl rfl rfl rfl Tryd.isAgg33 (fun w _ hS => (SlU.ex0 ha hS.ext).at (j) hjr)) ?_
     refine GoH.v (Vop.mv rfl rfl rfl rfl) ?_
     refine GoH.v (Vop.bin rfl rfl rfl rfl bAnd rfl) ?_
     refine GoH.v (Vop.bin rfl rfl rfl rfl bOr rfl) ?_
     refine GoH.v (Vop.asg rfl rfl rfl rfl) ?_
     refine GoH.regionEnd (GoH.inBlock (GoH.region ?_))
     refine GoH.v (Vop.mv rfl rfl rfl rfl) ?_
     refine GoH.v (Vop.bin rfl rfl rfl rfl (bAdd (by omega)) rfl) ?_
     refine GoH.v (Vop.asg rfl rfl rfl rfl) ?_
     refine GoH.regionEnd ?_
     exact IH2 (j + 1) _ _ hm2 (by omega) ⟨rfl, rfl, rfl, by rw [hs]; rfl, rfl, rfl, trivial⟩ .slnil
    ·
     rw [if_neg (by rw [hc]; simp)] at hs
     refine GoH.skip (GoH.inBlock (GoH.region ?_))
     refine GoH.v (Vop.mv rfl rfl rfl rfl) ?_
     refine GoH.v (Vop.bin rfl rfl rfl rfl (bAdd (by omega)) rfl) ?_
     refine GoH.v (Vop.asg rfl rfl rfl rfl) ?_
     refine GoH.regionEnd ?_
     exact IH2 (j + 1) _ _ hm2 (by omega) ⟨rfl, rfl, rfl, by rw [hs]; rfl, rfl, rfl, trivial⟩ .slnil
   ·
    have hge : ¬ j < n := by simpa using hc
    obtain rfl : j = n := by omega
    refine GoH.exit rfl (GoH.inBlock (GoH.region ?_))
    refine GoH.v (Vop.mv rfl rfl rfl rfl) ?_
    refine GoH.v (Vop.bin rfl rfl rfl rfl (bAdd (by omega)) rfl) ?_
    refine GoH.v (Vop.asg rfl rfl rfl rfl) ?_
    refine GoH.regionEnd ?_
    exact IH (k + 1) _ _ hm (by omega) ⟨rfl, rfl, rfl, rfl, rfl, trivial⟩ .slnil
  ·
   have hge : ¬ k < n := by simpa using hc
   obtain rfl : k = n := by omega
   refine GoH.exit rfl (GoH.seq (GoH.region ?_))
   refine GoH.v (Vop.mv rfl rfl rfl rfl) ?_
   refine GoH.v (Vop.asg rfl rfl rfl rfl) ?_
   refine GoH.regionEnd ?_
   refine GoH.ret Tryd.f100 Tryd.func100 rfl (fun w' hS => ?_)
   exact ⟨hS.ext, rfl⟩
theorem wCommon_c (a : Option Addr) (ca : Nat) (r : List W64) (n : Nat) (c s : W64) (w : World) (ha : SlU w a r) (hn : r.length = n) (h64 : n ≤ 64) : Cn Tryd.prog 81 [.slice a r.length ca, .int .i64 n, U c, U s] w (fun v _ => v = U (comW r n c s)) := by
  refine Cn.of Tryd.func81 rfl rfl ?_
  refine GoH.seq (GoH.region ?_)
  refine GoH.v (Vop.asg (v := U 0#64) rfl rfl rfl rfl) ?_
  refine GoH.regionEnd (GoH.seq (GoH.region ?_))
  refine GoH.v (Vop.asg (v := U 0#64) rfl rfl rfl rfl) ?_
  refine GoH.regionEnd (GoH.seq (GoH.seq (GoH.region ?_)))
  refine GoH.v (Vop.asg rfl rfl rfl rfl) ?_
  refine GoH.regionEnd (GoH.block ?_)
  refine GoH.loop (σ := Nat) (fun k => [(0, .slice a r.length ca), (1, .int .i64 n), (2, U c), (3, U s), (9, U (selW (fun w => pathW r n w c &&& ~~~s == 0#64) k)), (10, .int .i64 k)]) (fun _ => []) (fun k => k ≤ n) (fun k => n - k) 0 (Nat.zero_le _) ⟨rfl, rfl, rfl, rfl, rfl, rfl, trivial⟩ .slnil (fun k hk IH => ?_)
  refine GoH.seq (GoH.seq (GoH.region ?_))
  iterate 2 refine GoH.v (Vop.mv rfl rfl rfl rfl) ?_
  refine GoH.v (Vop.bin rfl rfl rfl rfl bLt rfl) ?_
  refine GoH.regionEnd ?_
  refine GoH.cond rfl (fun hc => ?_) (fun hc => ?_)
  ·
   have hm : k < n := by simpa using hc
   have hs := selW_succ (q := fun w => pathW r n w c &&& ~~~s == 0#64) (n := k)
   refine GoH.skip (GoH.seq (GoH.block (GoH.seq (GoH.region ?_))))
   iterate 4 refine GoH.v (Vop.mv rfl rfl rfl rfl) ?_
   refine GoH.callP rfl rfl rfl rfl rfl (fun _ _ => Tryd.call100 _ _) (fun w _ hS => (by exact wPaths_c a ca r n k c w (ha.ex0 hS.ext) hn hm h64)) ?_
   refine GoH.v (Vop.mv rfl rfl rfl rfl) ?_
   refine GoH.v (Vop.bin rfl rfl rfl rfl bAndNot rfl) ?_
   refine GoH.v (Vop.bin (b := U 0#64) rfl rfl rfl rfl bEqU rfl) ?_
   refine GoH.regionEnd ?_
   refine GoH.cond rfl (fun hc => ?_) (fun hc => ?_)
   ·
    rw [if_pos hc] at hs
    refine GoH.region ?_
    iterate 2 refine GoH.v (Vop.mv rfl rfl rfl rfl) ?_
    refine GoH.v (Vop.bin (a := U 1#64) rfl rfl rfl rfl (bShl _ rfl) rfl) ?_
    refine GoH.v (Vop.bin rfl rfl rfl rfl bOr rfl) ?_
    refine GoH.v (Vop.asg rfl rfl rfl rfl) ?_
    refine GoH.regionEnd (GoH.inBlock (GoH.region ?_))
    refine GoH.v (Vop.mv rfl rfl rfl rfl) ?_
    refine GoH.v (Vop.bin rfl rfl rfl rfl (bAdd (by omega)) rfl) ?_
    refine GoH.v (Vop.asg rfl rfl rfl rfl) ?_
    refine GoH.regionEnd ?_
    exact IH (k + 1) _ _ hm (by omega) ⟨rfl, rfl, rfl, rfl, by rw [hs]; rfl, rfl, trivial⟩ .slnil
   ·
    rw [if_neg (by rw [hc]; simp)] at hs
    refine GoH.skip (GoH.inBlock (GoH.region ?_))
    refine GoH.v (Vop.mv rfl rfl rfl rfl) ?_
    refine GoH.v (Vop.bin rfl rfl rfl rfl (bAdd (by omega)) rfl) ?_
    refine GoH.v (Vop.asg rfl rfl rfl rfl) ?_
    refine GoH.regionEnd ?_
    exact IH (k + 1) _ _ hm (by omega) ⟨rfl, rfl, rfl, rfl, by rw [hs]; rfl, rfl, trivial⟩ .slnil
  ·
   have hge : ¬ k < n := by simpa using hc
   obtain rfl : k = n := by omega
   refine GoH.exit rfl (GoH.seq (GoH.region ?_))
   refine GoH.v (Vop.mv rfl rfl rfl rfl) ?_
   refine GoH.v (Vop.asg rfl rfl rfl rfl) ?_
   refine GoH.regionEnd ?_
   refine GoH.ret Tryd.f81 Tryd.func81 rfl (fun w' hS => ?_)
   exact ⟨hS.ext, rfl⟩
theorem wBool_c (op : Int) (x y all : W64) (w : World) : Cn Tryd.prog 77 [.int .i64 op, U x, U y, U all] w (fun v _ => v = U (boolW op x y all)) := by
  refine Cn.of Tryd.func77 rfl rfl ?_
  refine GoH.seq (GoH.region ?_)
  refine GoH.v (Vop.asg (v := U 0#64) rfl rfl rfl rfl) ?_
  refine GoH.regionEnd (GoH.seq (GoH.seq (GoH.region ?_)))
  refine GoH.v (Vop.mv rfl rfl rfl rfl) ?_
  refine GoH.v (Vop.bin rfl rfl rfl rfl bEq rfl) ?_
  refine GoH.regionEnd ?_
  refine GoH.cond rfl (fun hc => ?_) (fun hc => ?_)
  ·
   have h1 : op = 1 := by simpa using hc
   refine GoH.seq (GoH.region ?_)
   refine GoH.v (Vop.mv rfl rfl rfl rfl) ?_
   refine GoH.v (Vop.asg rfl rfl rfl rfl) ?_
   refine GoH.regionEnd ?_
   refine GoH.ret Tryd.f77 Tryd.func77 rfl (fun w' hS => ?_)
   exact ⟨hS.ext, by rw [boolW, if_pos h1]; rfl⟩
  ·
   have h1 : ¬ op = 1 := by simpa using hc
   refine GoH.skip (GoH.seq (GoH.seq (GoH.region ?_)))
   refine GoH.v (Vop.mv rfl rfl rfl rfl) ?_
   refine GoH.v (Vop.bin rfl rfl rfl rfl bEq rfl) ?_
   refine GoH.regionEnd ?_
   refine GoH.cond rfl (fun hc => ?_) (fun hc => ?_)
   ·
    have h2 : op = 4 := by simpa using hc
    refine GoH.seq (GoH.region ?_)
    iterate 2 refine GoH.v (Vop.mv rfl rfl rfl rfl) ?_
    refine GoH.v (Vop.bin rfl rfl rfl rfl bAndNot rfl) ?_
    refine GoH.v (Vop.asg rfl rfl rfl rfl) ?_
    refine GoH.regionEnd ?_
    refine GoH.ret Tryd.f77 Tryd.func77 rfl (fun w' hS => ?_)
    exact ⟨hS.ext, by rw [boolW, if_neg h1, if_pos h2]; rfl⟩
   ·
    have h2 : ¬ op = 4 := by simpa using hc
    refine GoH.skip (GoH.seq (GoH.seq (GoH.region ?_)))
    refine GoH.v (Vop.mv rfl rfl rfl rfl) ?_
    refine GoH.v (Vop.bin rfl rfl rfl rfl bEq rfl) ?_
    refine GoH.regionEnd ?_
    refine GoH.cond rfl (fun hc => ?_) (fun hc => ?_)
    ·
     have h3 : op = 5 := by simpa using hc
     refine GoH.seq (GoH.region ?_)
     iterate 2 refine GoH.v (Vop.mv rfl rfl rfl rfl) ?_
     refine GoH.v (Vop.bin rfl rfl rfl rfl bAnd rfl) ?_
     refine GoH.v (Vop.asg rfl rfl rfl rfl) ?_
     refine GoH.regionEnd ?_
     refine GoH.ret Tryd.f77 Tryd.func77 rfl (fun w' hS => ?_)
     exact ⟨hS.ext, by rw [boolW, if_neg h1, if_neg h2, if_pos h3]; rfl⟩
    ·
     have h3 : ¬ op = 5 := by simpa using hc
     refine GoH.skip (GoH.seq (GoH.seq (GoH.region ?_)))
     refine GoH.v (Vop.mv rfl rfl rfl rfl) ?_
     refine GoH.v (Vop.bin rfl rfl rfl rfl bEq rfl) ?_
     refine GoH.regionEnd ?_
     refine GoH.cond rfl (fun hc => ?_) (fun hc => ?_)
     ·
      have h4 : op = 6 := by simpa using hc
      refine GoH.seq (GoH.region ?_)
      iterate 2 refine GoH.v (Vop.mv rfl rfl rfl rfl) ?_
      refine GoH.v (Vop.bin rfl rfl rfl rfl bOr rfl) ?_
      refine GoH.v (Vop.asg rfl rfl rfl rfl) ?_
      refine GoH.regionEnd ?_
      refine GoH.ret Tryd.f77 Tryd.func77 rfl (fun w' hS => ?_)
      exact ⟨hS.ext, by rw [boolW, if_neg h1, if_neg h2, if_neg h3, if_pos h4]; rfl⟩
     ·
      have h4 : ¬ op = 6 := by simpa using hc
      refine GoH.skip (GoH.seq (GoH.seq (GoH.region ?_)))
      refine GoH.v (Vop.mv rfl rfl rfl rfl) ?_
      refine GoH.v (Vop.bin rfl rfl rfl rfl bEq rfl) ?_
      refine GoH.regionEnd ?_
      refine GoH.cond rfl (fun hc => ?_) (fun hc => ?_)
      ·
       have h5 : op = 7 := by simpa using hc
       refine GoH.seq (GoH.region ?_)
       iterate 2 refine GoH.v (Vop.mv rfl rfl rfl rfl) ?_
       refine GoH.v (Vop.bin rfl rfl rfl rfl bAndNot rfl) ?_
       refine GoH.v (Vop.mv rfl rfl rfl rfl) ?_
       refine GoH.v (Vop.bin rfl rfl rfl rfl bOr rfl) ?_
       refine GoH.v (Vop.asg rfl rfl rfl rfl) ?_
       refine GoH.regionEnd ?_
       refine GoH.ret Tryd.f77 Tryd.func77 rfl (fun w' hS => ?_)
       exact ⟨hS.ext, by rw [boolW, if_neg h1, if_neg h2, if_neg h3, if_neg h4, if_pos h5]; rfl⟩
      ·
       have h5 : ¬ op = 7 := by simpa using hc
       refine GoH.skip (GoH.seq (GoH.seq (GoH.region ?_)))
       refine GoH.v (Vop.mv rfl rfl rfl rfl) ?_
       refine GoH.v (Vop.bin rfl rfl rfl rfl bEq rfl) ?_
       refine GoH.regionEnd ?_
       refine GoH.cond rfl (fun hc => ?_) (fun hc => ?_)
       ·
        have h6 : op = 8 := by simpa using hc
        refine GoH.seq (GoH.region ?_)
        iterate 3 refine GoH.v (Vop.mv rfl rfl rfl rfl) ?_
        refine GoH.v (Vop.bin rfl rfl rfl rfl bXor rfl) ?_
        refine GoH.v (Vop.bin rfl rfl rfl rfl bAndNot rfl) ?_
        refine GoH.v (Vop.asg rfl rfl rfl rfl) ?_
        refine GoH.regionEnd ?_
        refine GoH.ret Tryd.f77 Tryd.func77 rfl (fun w' hS => ?_)
        exact ⟨hS.ext, by rw [boolW, if_neg h1, if_neg h2, if_neg h3, if_neg h4, if_neg h5, if_pos h6]; rfl⟩
       ·
        have h6 : ¬ op = 8 := by simpa using hc
        refine GoH.skip (GoH.seq (GoH.region ?_))
        refine GoH.v (Vop.asg (v := U 0#64) rfl rfl rfl rfl) ?_
        refine GoH.regionEnd ?_
        refine GoH.ret Tryd.f77 Tryd.func77 rfl (fun w' hS => ?_)
        exact ⟨hS.ext, by rw [boolW, if_neg h1, if_neg h2, if_neg h3, if_neg h4, if_neg h5, if_neg h6]; rfl⟩
theorem joinTo_len {n : Nat} {rel : List (List W64)} {g k : Nat} : (joinTo n rel g k).length = n := by simp [joinTo]
set_option maxRecDepth 4000 in
theorem rjoin_c (m : MV) (n g : Nat) (w : World) (hm : m.At w) (hv : ValM m.n m.val m.rel) (hn : m.n = (n : Int)) (hg : 1 ≤ g ∧ g < 2 ^ m.rows.length) :
    Cn Tryd.prog 99 [m.v, .int .i64 g, .bool false] w (fun v w' => Own w w' v (joinL n m.rel g)) := by
  obtain ⟨i0, hi, hz, hsz, hby⟩ := info_parts infoU
  have hn64 := hv.n64
  have hn1 := hv.n1
  have hag := hv.agents
  have hrl : m.rel.length = m.rows.length := by simp [MV.rel]
  have hp4 : (2 : Nat) ^ m.rows.length ≤ 2 ^ 4 := Nat.pow_le_pow_right (by decide) (by omega)
  have h16 : (2 : Nat) ^ 4 = 16 := by decide
  refine Cn.of Tryd.func99 rfl rfl ?_
  refine GoH.seq (GoH.region ?_)
  refine GoH.bx rfl rfl rfl rfl (fun b3 => ?_)
  refine GoH.v (Vop.asg rfl rfl rfl rfl) ?_
  refine GoH.regionEnd (GoH.seq (GoH.seq (GoH.region ?_)))
  refine GoH.v (Vop.ldB rfl rfl rfl rfl Tryd.isAgg25 0 rfl Tryd.sizeOf25 rfl) ?_
  refine GoH.callP rfl rfl rfl rfl rfl (fun _ _ => Tryd.call8 _ _) (fun w _ hS => (by exact (rmCheck_c m w (hm.ex0 hS.ext)).mono (fun v w' _ e => by rw [e, checkM_zero.2 hv]))) ?_
  refine GoH.v (Vop.bin rfl rfl rfl rfl (bNeV (v := false) rfl) rfl) ?_
  iterate 2 refine GoH.v (Vop.mv rfl rfl rfl rfl) ?_
  refine GoH.v (Vop.bin rfl rfl rfl rfl (bLtV (v := false) (decide_eq_false (by omega))) rfl) ?_
  refine GoH.v (Vop.pickF rfl rfl rfl rfl rfl) ?_
  iterate 2 refine GoH.v (Vop.mv rfl rfl rfl rfl) ?_
  refine GoH.v (Vop.fldP rfl rfl rfl rfl Tryd.underlying25 rfl (by exact Tryd.sizeOf23) 2 rfl) ?_
  refine GoH.v (Vop.ldo (v := .slice m.ra m.rows.length m.rc) rfl rfl rfl rfl Tryd.isAgg23 0 rfl rfl) ?_
  refine GoH.v (Vop.blt rfl rfl rfl (blt_len_slice Tryd.underlying23) rfl) ?_
  refine GoH.v (Vop.bin rfl rfl rfl rfl (bShlN (x := 1) (j := m.rows.length) rfl (by omega) (by omega)) rfl) ?_
  refine GoH.v (Vop.bin rfl rfl rfl rfl (bGeV (v := false) (decide_eq_false (by omega))) rfl) ?_
  refine GoH.v (Vop.pickF rfl rfl rfl rfl rfl) ?_
  refine GoH.regionEnd (GoH.condF rfl (GoH.skip (GoH.seq (GoH.region ?_))))
  refine GoH.v (Vop.asg rfl rfl rfl rfl) ?_
  refine GoH.regionEnd (GoH.seq (GoH.seq (GoH.region ?_)))
  refine GoH.v (Vop.asg rfl rfl rfl rfl) ?_
  refine GoH.regionEnd (GoH.block ?_)
  refine GoH.addNone (ob U 33 [] []) ?_
  refine GoH.loop (σ := Nat × Option Nat × Nat × List Value) (fun z => [(1, .int .i64 g), (2, .bool false), (3, .pointer (some ⟨b3, 0, none⟩)), (7, osv z.2.1 ((joinL n m.rel g).take z.1).length z.2.2.1), (8, .int .i64 z.1)]) (fun z => [(z.2.1, ob U 33 ((joinL n m.rel g).take z.1) z.2.2.2), (some b3, .cells m.v.cells 25 (0, 0))])
    (fun z => z.1 ≤ n ∧ (z.2.1 = none → ((joinL n m.rel g).take z.1).length = 0 ∧ z.2.2.1 = 0) ∧ (((joinL n m.rel g).take z.1).map U ++ z.2.2.2).length = z.2.2.1) (fun z => n - z.1) (0, none, 0, [])
    ⟨Nat.zero_le _, fun _ => ⟨rfl, rfl⟩, rfl⟩ ⟨rfl, rfl, rfl, rfl, rfl, trivial⟩ (List.Sublist.refl _) (fun z hI IH => ?_)
  obtain ⟨k, q, cap, sp⟩ := z
  obtain ⟨hk, hq, hcap⟩ := hI
  dsimp only at hk hq hcap IH ⊢
  refine GoH.seq (GoH.seq (GoH.region ?_))
  refine GoH.v (Vop.mv rfl rfl rfl rfl) ?_
  refine GoH.v (Vop.fldP rfl rfl rfl rfl Tryd.underlying25 rfl (by exact Tryd.sizeOf3) 0 rfl) ?_
  refine GoH.v (Vop.ldo (v := .int .i64 m.n) rfl rfl rfl rfl Tryd.isAgg3 1 rfl rfl) ?_
  refine GoH.v (Vop.bin rfl rfl rfl rfl bLt rfl) ?_
  refine GoH.regionEnd ?_
  refine GoH.cond rfl (fun hc => ?_) (fun hc => ?_)
  ·
   have hlt : k < n := by have : (k : Int) < m.n := by simpa using hc
                          omega
   have hml : (joinL n m.rel g).length = n := joinTo_len
   have hlk : ((joinL n m.rel g).take k).length = k := by rw [List.length_take]; omega
   refine GoH.skip (GoH.seq (GoH.block (GoH.seq (GoH.region ?_))))
   refine GoH.v (Vop.asg (v := U 0#64) rfl rfl rfl rfl) ?_
   refine GoH.regionEnd (GoH.seq (GoH.seq (GoH.region ?_)))
   refine GoH.v (Vop.mv rfl rfl rfl rfl) ?_
   refine GoH.regionEnd ?_
   refine GoH.cond rfl (fun hc => ?_) (fun hc => ?_)
   ·
    cases hc
   ·
    refine GoH.skip (GoH.seq (GoH.seq (GoH.region ?_)))
    refine GoH.v (Vop.asg rfl rfl rfl rfl) ?_
    refine GoH.regionEnd (GoH.block ?_)
    refine GoH.loop (σ := Nat) (fun j => [(1, .int .i64 g), (2, .bool false), (3, .pointer (some ⟨b3, 0, none⟩)), (7, osv q ((joinL n m.rel g).take k).length cap), (8, .int .i64 k), (9, U (joinW m.rel g k j)), (10, .int .i64 j)]) (fun _ => [(q, ob U 33 ((joinL n m.rel g).take k) sp), (some b3, .cells m.v.cells 25 (0, 0))])
      (fun j => j ≤ m.rows.length) (fun j => m.rows.length - j) 0 (Nat.zero_le _) ⟨rfl, rfl, rfl, rfl, rfl, rfl, rfl, trivial⟩ (List.Sublist.refl _) (fun j hj IH2 => ?_)
    refine GoH.seq (GoH.seq (GoH.region ?_))
    refine GoH.v (Vop.mv rfl rfl rfl rfl) ?_
    refine GoH.v (Vop.fldP rfl rfl rfl rfl Tryd.underlying25 rfl (by exact Tryd.sizeOf23) 2 rfl) ?_
    refine GoH.v (Vop.ldo (v := .slice m.ra m.rows.length m.rc) rfl rfl rfl rfl Tryd.isAgg23 1 rfl rfl) ?_
    refine GoH.v (Vop.blt rfl rfl rfl (blt_len_slice Tryd.underlying23) rfl) ?_
    refine GoH.v (Vop.bin rfl rfl rfl rfl bLt rfl) ?_
    refine GoH.regionEnd ?_
    refine GoH.cond rfl (fun hc => ?_) (fun hc => ?_)
    ·
     have hjl : j < m.rows.length := by simpa using hc
     have hrow := hm.row m.rows[j] (List.getElem_mem hjl)
     have hrn : m.rows[j].xs.length = n := by have := hv.len _ (List.mem_map.2 ⟨m.rows[j], List.getElem_mem hjl, rfl⟩ : m.rows[j].xs ∈ m.rel); omega
     have hkr : k < m.rows[j].xs.length := by omega
     have hsc : joinW m.rel g k (j + 1) = if gb g j = 1 then joinW m.rel g k j ||| (m.rel.getD j []).getD k 0#64 else joinW m.rel g k j := rfl
     rw [relD hjl] at hsc
     refine GoH.skip (GoH.seq (GoH.block (GoH.seq (GoH.seq (GoH.region ?_)))))
     iterate 2 refine GoH.v (Vop.mv rfl rfl rfl rfl) ?_
     refine GoH.v (Vop.bin rfl rfl rfl rfl (bShrN (j := j) rfl (by omega) (by omega)) rfl) ?_
     refine GoH.v (Vop.bin rfl rfl rfl rfl bRem2N rfl) ?_
     refine GoH.v (Vop.bin rfl rfl rfl rfl bEq rfl) ?_
     refine GoH.v (Vop.mv rfl rfl rfl rfl) ?_
     refine GoH.cases (d := 48) rfl (fun hc => ?_) (fun hc => ?_)
     ·
      have hb1 : gb g j = 1 := Int.ofNat_inj.1 (show ((gb g j : Nat) : Int) = ((1 : Nat) : Int) from beq_iff_eq.1 hc)
      rw [if_pos hb1] at hsc
      refine GoH.v (Vop.mv rfl rfl rfl rfl) ?_
      refine GoH.v (Vop.pickT rfl rfl rfl rfl rfl) ?_
      refine GoH.regionEnd ?_
      refine GoH.cond rfl (fun hc => ?_) (fun hc => ?_)
      ·
       cases ‹(false) = true›
      ·
       refine GoH.skip (GoH.seq (GoH.region ?_))
       iterate 2 refine GoH.v (Vop.mv rfl rfl rfl rfl) ?_
       refine GoH.v (Vop.bin rfl rfl rfl rfl (bShrN (j := j) rfl (by omega) (by omega)) rfl) ?_
       refine GoH.v (Vop.bin rfl rfl rfl rfl bRem2N rfl) ?_
       refine GoH.v (Vop.bin rfl rfl rfl rfl (bEqV (v := true) (show ((((gb g j : Nat) : Int)) == 1) = true by rw [hb1]; rfl)) rfl) ?_
       iterate 2 refine GoH.v (Vop.mv rfl rfl rfl rfl) ?_
       refine GoH.v (Vop.un rfl rfl rfl uNot rfl) ?_
       refine GoH.v (Vop.pickT rfl rfl rfl rfl rfl) ?_
       refine GoH.regionEnd ?_
       refine GoH.cond rfl (fun hc => ?_) (fun hc => ?_)
       ·
        refine GoH.region ?_
        refine GoH.v (Vop.mv rfl rfl rfl rfl) ?_
        refine GoH.v (Vop.fldP rfl rfl rfl rfl Tryd.underlying25 rfl (by exact Tryd.sizeOf23) 2 rfl) ?_
        refine GoH.v (Vop.ldo (v := .slice m.ra m.rows.length m.rc) rfl rfl rfl rfl Tryd.isAgg23 1 rfl rfl) ?_
        refine GoH.v (Vop.mv rfl rfl rfl rfl) ?_
        refine GoH.v (Vop.idx rfl rfl rfl rfl rfl Tryd.underlying23 Tryd.sizeOf22 ⟨_, hm.rel⟩ (by simp) (j) ⟨rfl, by simpa using hjl⟩) ?_
        refine GoH.v (Vop.ld rfl rfl rfl rfl Tryd.isAgg22 (fun w _ hS => (SlR.ex0 hm.rel hS.ext).at (j) hjl)) ?_
        refine GoH.v (Vop.mv rfl rfl rfl rfl) ?_
        refine GoH.v (Vop.idx rfl rfl rfl rfl rfl Tryd.underlying22 Tryd.sizeOf33 ⟨_, hrow.at_⟩ (by simp) (k) ⟨rfl, by simpa using hkr⟩) ?_
        refine GoH.v (Vop.ld rfl rfl rfl rfl Tryd.isAgg33 (fun w _ hS => (SlU.ex0 hrow.at_ hS.ext).at (k) hkr)) ?_
        refine GoH.v (Vop.bin rfl rfl rfl rfl bOr rfl) ?_
        refine GoH.v (Vop.asg rfl rfl rfl rfl) ?_
        refine GoH.regionEnd (GoH.inBlock (GoH.region ?_))
        refine GoH.v (Vop.mv rfl rfl rfl rfl) ?_
        refine GoH.v (Vop.bin rfl rfl rfl rfl (bAdd (by omega)) rfl) ?_
        refine GoH.v (Vop.asg rfl rfl rfl rfl) ?_
        refine GoH.regionEnd ?_
        exact IH2 (j + 1) _ _ hjl (by omega) ⟨rfl, rfl, rfl, rfl, rfl, (by rw [hsc]; rfl), rfl, trivial⟩ (List.Sublist.refl _)
       ·
        cases ‹(!false) = false›
     ·
      have hb0 : gb g j = 0 := by
        rcases gb_cases g j with h | h
        · exact h
        · exact absurd (show ((gb g j : Nat) : Int) = 1 by rw [h]; rfl) (beq_eq_false_iff_ne.1 hc)
      rw [if_neg (by rw [hb0]; decide)] at hsc
      refine GoH.no rfl rfl rfl rfl ?_
      refine GoH.v (Vop.pickF rfl rfl rfl rfl rfl) ?_
      refine GoH.regionEnd (GoH.condF rfl (GoH.skip (GoH.seq (GoH.region ?_))))
      iterate 2 refine GoH.v (Vop.mv rfl rfl rfl rfl) ?_
      refine GoH.v (Vop.bin rfl rfl rfl rfl (bShrN (j := j) rfl (by omega) (by omega)) rfl) ?_
      refine GoH.v (Vop.bin rfl rfl rfl rfl bRem2N rfl) ?_
      refine GoH.v (Vop.bin rfl rfl rfl rfl (bEqV (v := false) (show ((((gb g j : Nat) : Int)) == 1) = false by rw [hb0]; rfl)) rfl) ?_
      refine GoH.v (Vop.mv rfl rfl rfl rfl) ?_
      iterate 2 refine GoH.no rfl rfl rfl rfl ?_
      refine GoH.v (Vop.pickF rfl rfl rfl rfl rfl) ?_
      refine GoH.regionEnd (GoH.condF rfl (GoH.skip (GoH.inBlock (GoH.region ?_))))
      refine GoH.v (Vop.mv rfl rfl rfl rfl) ?_
      refine GoH.v (Vop.bin rfl rfl rfl rfl (bAdd (by omega)) rfl) ?_
      refine GoH.v (Vop.asg rfl rfl rfl rfl) ?_
      refine GoH.regionEnd ?_
      exact IH2 (j + 1) _ _ hjl (by omega) ⟨rfl, rfl, rfl, rfl, rfl, (by rw [hsc]; rfl), rfl, trivial⟩ (List.Sublist.refl _)
    ·
     have hge : ¬ j < m.rows.length := by simpa using hc
     obtain rfl : j = m.rows.length := by omega
     have hnx : joinW m.rel g k m.rows.length = (joinL n m.rel g)[k]'(by omega) := by simp [joinL, joinTo, hrl]
     rw [hnx]
     refine GoH.exit rfl (GoH.region ?_)
     iterate 2 refine GoH.v (Vop.mv rfl rfl rfl rfl) ?_
     refine GoH.bs1 (v := U ((joinL n m.rel g)[k]'(by omega))) rfl rfl rfl rfl Tryd.underlying22 hi hz hsz rfl rfl (fun b82 => ?_)
     refine GoH.appE U (xs := (joinL n m.rel g).take k) (sp := sp) (news := [(joinL n m.rel g)[k]'(by omega)]) (spn := []) rfl rfl rfl rfl rfl Tryd.underlying22 hi hz hsz rfl hq 1 rfl 0 rfl hcap rfl (by decide) (fun _ => rfl) (by unfold maxLen; rw [hlk]; omega) (by rw [hby, hlk]; omega) (fun b' sp' cap' hlen2 => ?_)
     rw [← List.take_succ_eq_append_getElem (by omega : k < (joinL n m.rel g).length)] at *
     refine GoH.v (Vop.asg rfl rfl rfl rfl) ?_
     refine GoH.regionEnd (GoH.inBlock (GoH.region ?_))
     refine GoH.v (Vop.mv rfl rfl rfl rfl) ?_
     refine GoH.v (Vop.bin rfl rfl rfl rfl (bAdd (by omega)) rfl) ?_
     refine GoH.v (Vop.asg rfl rfl rfl rfl) ?_
     refine GoH.regionEnd ?_
     exact IH (k + 1, some b', cap', sp') _ _ ⟨hlt, (fun e => by cases e), hlen2⟩ (by dsimp only; omega) ⟨rfl, rfl, rfl, rfl, rfl, trivial⟩ (.cons _ (List.Sublist.refl _))
  ·
   have hge : ¬ k < n := by have : ¬ (k : Int) < m.n := by simpa using hc
                            omega
   obtain rfl : k = n := by omega
   have htk : (joinL k m.rel g).take k = joinL k m.rel g := List.take_of_length_le (by rw [joinL, joinTo_len]; exact Nat.le_refl _)
   rw [htk] at hq hcap ⊢
   refine GoH.exit rfl (GoH.seq (GoH.region ?_))
   refine GoH.v (Vop.mv rfl rfl rfl rfl) ?_
   refine GoH.v (Vop.asg rfl rfl rfl rfl) ?_
   refine GoH.regionEnd ?_
   refine GoH.ret Tryd.f99 Tryd.func99 rfl (fun w' hS => ?_)
   exact ⟨hS.ext, q, cap, sp, rfl, hq, hcap, fun b' hb => by subst hb; exact ⟨hS.fresh (j := 0) rfl, hS.get (j := 0) rfl⟩⟩
theorem rjoinM_c (m : MV) (n g : Nat) (w : World) (hm : m.At w) (hv : ValM m.n m.val m.rel) (hn : m.n = (n : Int)) (hg : 1 ≤ g ∧ g < 2 ^ m.rows.length) :
    Cn Tryd.prog 79 [m.v, .int .i64 g] w (fun v w' => Own w w' v (joinL n m.rel g)) := by
  refine Cn.of Tryd.func79 rfl rfl ?_
  refine GoH.seq (GoH.region ?_)
  refine GoH.bx rfl rfl rfl rfl (fun b2 => ?_)
  refine GoH.v (Vop.asg rfl rfl rfl rfl) ?_
  refine GoH.regionEnd (GoH.seq (GoH.region ?_))
  refine GoH.v (Vop.ldB rfl rfl rfl rfl Tryd.isAgg25 0 rfl Tryd.sizeOf25 rfl) ?_
  refine GoH.v (Vop.mv rfl rfl rfl rfl) ?_
  refine GoH.callM _ rfl rfl rfl rfl rfl (fun _ _ => Tryd.call99 _ _) (fun w _ hS => rjoin_c m n g w (hm.ex0 hS.ext) hv hn hg) ?_
  rintro v w1 w2 Y' hS he ho
  obtain ⟨q, cap, sp, rfl, hq, hcap, hS'⟩ := gainO hS he ho
  refine ⟨_, hS', ?_⟩
  refine GoH.v (Vop.asg rfl rfl rfl rfl) ?_
  refine GoH.regionEnd ?_
  refine GoH.ret Tryd.f79 Tryd.func79 rfl (fun w' hS => ?_)
  exact ⟨hS.ext, q, cap, sp, rfl, hq, hcap, fun b' hb => by subst hb; exact ⟨hS.fresh (j := 0) rfl, hS.get (j := 0) rfl⟩⟩
end Go.Proofs.YtcljmlnnfdaljaaDoor
namespace Go.Proofs.YtcljmlnnfdaljaaDoor
open Go.RowKit Go.Proofs.Wit
/-! the reference's checker -/
set_option maxRecDepth 4000 in
theorem wOne_c (m : MV) (n : Nat) (nd : NV) (x y : W64) (w : World) (hm : m.At w) (hv : ValM m.n m.val m.rel) (hn : m.n = (n : Int)) (hf : NdFit m.rows.length m.val.length nd) :
    Cn Tryd.prog 60 [m.v, nd.v, U x, U y] w (fun v _ => v = U (oneW n m.val m.rel nd.op nd.i nd.g x y)) := by
  obtain ⟨op, i, e, g, nx, ny⟩ := nd
  obtain ⟨f1, f13, ff, fa, fg⟩ := hf
  dsimp only at f1 f13 ff fa fg ⊢
  have hn64 := hv.n64
  have hn1 := hv.n1
  have hag := hv.agents
  have hrl : m.rel.length = m.rows.length := by simp [MV.rel]
  have hrow : ∀ (k : Nat) (hk : k < m.rows.length), (m.rows[k]).At w ∧ m.rows[k].xs.length = n := fun k hk => ⟨hm.row m.rows[k] (List.getElem_mem hk), by have := hv.len _ (List.mem_map.2 ⟨m.rows[k], List.getElem_mem hk, rfl⟩ : m.rows[k].xs ∈ m.rel); omega⟩
  refine Cn.of Tryd.func60 rfl rfl ?_
  refine GoH.seq (GoH.region ?_)
  refine GoH.bx rfl rfl rfl rfl (fun b4 => ?_)
  refine GoH.bx rfl rfl rfl rfl (fun b5 => ?_)
  refine GoH.v (Vop.asg (v := U 0#64) rfl rfl rfl rfl) ?_
  refine GoH.regionEnd (GoH.seq (GoH.region ?_))
  refine GoH.v (Vop.fldP rfl rfl rfl rfl Tryd.underlying25 rfl (by exact Tryd.sizeOf3) 0 rfl) ?_
  refine GoH.v (Vop.ldo (v := .int .i64 m.n) rfl rfl rfl rfl Tryd.isAgg3 1 rfl rfl) ?_
  refine GoH.callP rfl rfl rfl rfl rfl (fun _ _ => Tryd.call52 _ _) (fun w _ hS => (by have := rmAll_c n w (by omega); rw [← hn] at this; exact this)) ?_
  refine GoH.v (Vop.asg rfl rfl rfl rfl) ?_
  refine GoH.regionEnd (GoH.seq (GoH.seq (GoH.region ?_)))
  refine GoH.v (Vop.fldP rfl rfl rfl rfl Tryd.underlying43 rfl (by exact Tryd.sizeOf3) 0 rfl) ?_
  refine GoH.v (Vop.ldo rfl rfl rfl rfl Tryd.isAgg3 0 rfl rfl) ?_
  refine GoH.v (Vop.bin rfl rfl rfl rfl bEq rfl) ?_
  refine GoH.regionEnd ?_
  refine GoH.cond rfl (fun hc => ?_) (fun hc => ?_)
  ·
   have h3 : op = 3 := by simpa using hc
   obtain ⟨hi0, hi1⟩ := ff h3
   obtain ⟨i, rfl⟩ := Int.eq_ofNat_of_zero_le hi0
   rw [Int.toNat_natCast] at hi1
   refine GoH.seq (GoH.region ?_)
   refine GoH.v (Vop.fldP rfl rfl rfl rfl Tryd.underlying25 rfl (by exact Tryd.sizeOf22) 1 rfl) ?_
   refine GoH.v (Vop.ldo (v := .slice m.va m.val.length m.vc) rfl rfl rfl rfl Tryd.isAgg22 1 rfl rfl) ?_
   refine GoH.v (Vop.fldP rfl rfl rfl rfl Tryd.underlying43 rfl (by exact Tryd.sizeOf3) 1 rfl) ?_
   refine GoH.v (Vop.ldo rfl rfl rfl rfl Tryd.isAgg3 0 rfl rfl) ?_
   refine GoH.v (Vop.idx rfl rfl rfl rfl rfl Tryd.underlying22 Tryd.sizeOf33 ⟨_, hm.val⟩ (by simp) (i) ⟨rfl, by simpa using hi1⟩) ?_
   refine GoH.v (Vop.ld rfl rfl rfl rfl Tryd.isAgg33 (fun w _ hS => (SlU.ex0 hm.val hS.ext).at (i) hi1)) ?_
   refine GoH.v (Vop.asg rfl rfl rfl rfl) ?_
   refine GoH.regionEnd ?_
   refine GoH.ret Tryd.f60 Tryd.func60 rfl (fun w' hS => ?_)
   exact ⟨hS.ext, by rw [oneW, if_pos h3]; rfl⟩
  ·
   have h3 : ¬ op = 3 := by simpa using hc
   refine GoH.skip (GoH.seq (GoH.seq (GoH.region ?_)))
   refine GoH.v (Vop.fldP rfl rfl rfl rfl Tryd.underlying43 rfl (by exact Tryd.sizeOf3) 0 rfl) ?_
   refine GoH.v (Vop.ldo rfl rfl rfl rfl Tryd.isAgg3 0 rfl rfl) ?_
   refine GoH.v (Vop.bin rfl rfl rfl rfl bLe rfl) ?_
   refine GoH.regionEnd ?_
   refine GoH.cond rfl (fun hc => ?_) (fun hc => ?_)
   ·
    have h8 : op ≤ 8 := by simpa using hc
    refine GoH.seq (GoH.region ?_)
    refine GoH.v (Vop.fldP rfl rfl rfl rfl Tryd.underlying43 rfl (by exact Tryd.sizeOf3) 0 rfl) ?_
    refine GoH.v (Vop.ldo rfl rfl rfl rfl Tryd.isAgg3 0 rfl rfl) ?_
    iterate 3 refine GoH.v (Vop.mv rfl rfl rfl rfl) ?_
    refine GoH.callP rfl rfl rfl rfl rfl (fun _ _ => Tryd.call77 _ _) (fun w _ hS => (by exact wBool_c op x y (allW n) w)) ?_
    refine GoH.v (Vop.asg rfl rfl rfl rfl) ?_
    refine GoH.regionEnd ?_
    refine GoH.ret Tryd.f60 Tryd.func60 rfl (fun w' hS => ?_)
    exact ⟨hS.ext, by rw [oneW, if_neg h3, if_pos h8]; rfl⟩
   ·
    have h8 : ¬ op ≤ 8 := by simpa using hc
    refine GoH.skip (GoH.seq (GoH.seq (GoH.region ?_)))
    refine GoH.v (Vop.fldP rfl rfl rfl rfl Tryd.underlying43 rfl (by exact Tryd.sizeOf3) 0 rfl) ?_
    refine GoH.v (Vop.ldo rfl rfl rfl rfl Tryd.isAgg3 0 rfl rfl) ?_
    refine GoH.v (Vop.bin rfl rfl rfl rfl bEq rfl) ?_
    refine GoH.regionEnd ?_
    refine GoH.cond rfl (fun hc => ?_) (fun hc => ?_)
    ·
     have h9 : op = 9 := by simpa using hc
     obtain ⟨hi0, hi1⟩ := fa (.inl h9)
     obtain ⟨i, rfl⟩ := Int.eq_ofNat_of_zero_le hi0
     rw [Int.toNat_natCast] at hi1
     refine GoH.seq ?_
     refine GoH.draw 11 mixed rfl ?_
     refine RdGo.v (Vop.fldP rfl rfl rfl rfl Tryd.underlying25 rfl (by exact Tryd.sizeOf23) 2 rfl) ?_
     refine RdGo.v (Vop.ldo (v := .slice m.ra m.rows.length m.rc) rfl rfl rfl rfl Tryd.isAgg23 1 rfl rfl) ?_
     refine RdGo.v (Vop.fldP rfl rfl rfl rfl Tryd.underlying43 rfl (by exact Tryd.sizeOf3) 1 rfl) ?_
     refine RdGo.v (Vop.ldo rfl rfl rfl rfl Tryd.isAgg3 0 rfl rfl) ?_
     refine RdGo.v (Vop.idx rfl rfl rfl rfl rfl Tryd.underlying23 Tryd.sizeOf22 ⟨_, hm.rel⟩ (by simp) (i) ⟨rfl, by simpa using hi1⟩) ?_
     refine RdGo.v (Vop.ld rfl rfl rfl rfl Tryd.isAgg22 (fun w _ hS => (SlR.ex0 hm.rel hS.ext).at (i) hi1)) ?_
     refine RdGo.v (Vop.fldP rfl rfl rfl rfl Tryd.underlying25 rfl (by exact Tryd.sizeOf3) 0 rfl) ?_
     refine RdGo.v (Vop.ldo (v := .int .i64 m.n) rfl rfl rfl rfl Tryd.isAgg3 1 rfl rfl) ?_
     refine RdGo.v (Vop.mv rfl rfl rfl rfl) ?_
     refine RdGo.callP rfl rfl rfl rfl rfl (fun _ _ => Tryd.call78 _ _) (fun w _ hS => (by have := wBox_c m.rows[i].a m.rows[i].cap m.rows[i].xs n x w ((hrow i hi1).1.ex0 hS.ext).at_ (hrow i hi1).2 (by omega); rw [← hn] at this; exact this)) ?_
     refine RdGo.v (Vop.asg rfl rfl rfl rfl) ?_
     refine RdGo.nil ?_
     refine GoH.regionEnd ?_
     refine GoH.ret Tryd.f60 Tryd.func60 rfl (fun w' hS => ?_)
     exact ⟨hS.ext, by rw [oneW, if_neg h3, if_neg h8, if_pos h9, Int.toNat_natCast, relD hi1]; rfl⟩
    ·
     have h9 : ¬ op = 9 := by simpa using hc
     refine GoH.skip (GoH.seq (GoH.seq (GoH.region ?_)))
     refine GoH.v (Vop.fldP rfl rfl rfl rfl Tryd.underlying43 rfl (by exact Tryd.sizeOf3) 0 rfl) ?_
     refine GoH.v (Vop.ldo rfl rfl rfl rfl Tryd.isAgg3 0 rfl rfl) ?_
     refine GoH.v (Vop.bin rfl rfl rfl rfl bEq rfl) ?_
     refine GoH.regionEnd ?_
     refine GoH.cond rfl (fun hc => ?_) (fun hc => ?_)
     ·
      have h10 : op = 10 := by simpa using hc
      obtain ⟨hi0, hi1⟩ := fa (.inr h10)
      obtain ⟨i, rfl⟩ := Int.eq_ofNat_of_zero_le hi0
      rw [Int.toNat_natCast] at hi1
      refine GoH.seq ?_
      refine GoH.draw 15 mixed rfl ?_
      refine RdGo.v (Vop.mv rfl rfl rfl rfl) ?_
      refine RdGo.v (Vop.fldP rfl rfl rfl rfl Tryd.underlying25 rfl (by exact Tryd.sizeOf23) 2 rfl) ?_
      refine RdGo.v (Vop.ldo (v := .slice m.ra m.rows.length m.rc) rfl rfl rfl rfl Tryd.isAgg23 1 rfl rfl) ?_
      refine RdGo.v (Vop.fldP rfl rfl rfl rfl Tryd.underlying43 rfl (by exact Tryd.sizeOf3) 1 rfl) ?_
      refine RdGo.v (Vop.ldo rfl rfl rfl rfl Tryd.isAgg3 0 rfl rfl) ?_
      refine RdGo.v (Vop.idx rfl rfl rfl rfl rfl Tryd.underlying23 Tryd.sizeOf22 ⟨_, hm.rel⟩ (by simp) (i) ⟨rfl, by simpa using hi1⟩) ?_
      refine RdGo.v (Vop.ld rfl rfl rfl rfl Tryd.isAgg22 (fun w _ hS => (SlR.ex0 hm.rel hS.ext).at (i) hi1)) ?_
      refine RdGo.v (Vop.fldP rfl rfl rfl rfl Tryd.underlying25 rfl (by exact Tryd.sizeOf3) 0 rfl) ?_
      refine RdGo.v (Vop.ldo (v := .int .i64 m.n) rfl rfl rfl rfl Tryd.isAgg3 1 rfl rfl) ?_
      iterate 2 refine RdGo.v (Vop.mv rfl rfl rfl rfl) ?_
      refine RdGo.v (Vop.bin rfl rfl rfl rfl bAndNot rfl) ?_
      refine RdGo.callP rfl rfl rfl rfl rfl (fun _ _ => Tryd.call78 _ _) (fun w _ hS => (by have := wBox_c m.rows[i].a m.rows[i].cap m.rows[i].xs n (allW n &&& ~~~x) w ((hrow i hi1).1.ex0 hS.ext).at_ (hrow i hi1).2 (by omega); rw [← hn] at this; exact this)) ?_
      refine RdGo.v (Vop.bin rfl rfl rfl rfl bAndNot rfl) ?_
      refine RdGo.v (Vop.asg rfl rfl rfl rfl) ?_
      refine RdGo.nil ?_
      refine GoH.regionEnd ?_
      refine GoH.ret Tryd.f60 Tryd.func60 rfl (fun w' hS => ?_)
      exact ⟨hS.ext, by rw [oneW, if_neg h3, if_neg h8, if_neg h9, if_pos h10, Int.toNat_natCast, relD hi1]; rfl⟩
     ·
      have h10 : ¬ op = 10 := by simpa using hc
      obtain ⟨hg1, hg2⟩ := fg (by omega)
      obtain ⟨g, rfl⟩ := Int.eq_ofNat_of_zero_le (by omega : 0 ≤ g)
      rw [Int.toNat_natCast] at hg2
      have hg3 : 1 ≤ g := by omega
      refine GoH.skip (GoH.seq (GoH.seq (GoH.region ?_)))
      refine GoH.v (Vop.fldP rfl rfl rfl rfl Tryd.underlying43 rfl (by exact Tryd.sizeOf3) 0 rfl) ?_
      refine GoH.v (Vop.ldo rfl rfl rfl rfl Tryd.isAgg3 0 rfl rfl) ?_
      refine GoH.v (Vop.bin rfl rfl rfl rfl bEq rfl) ?_
      refine GoH.regionEnd ?_
      refine GoH.cond rfl (fun hc => ?_) (fun hc => ?_)
      ·
       have h11 : op = 11 := by simpa using hc
       refine GoH.seq ?_
       refine GoH.drawXR [0, 1, 2, 4, 5, 6] 3 [7, 8] mixed rfl ?_
       refine RdXR.v (fun _ => (Vop.ldB rfl rfl rfl rfl Tryd.isAgg25 1 rfl Tryd.sizeOf25 rfl)) ?_
       refine RdXR.v (fun _ => (Vop.fldP rfl rfl rfl rfl Tryd.underlying43 rfl (by exact Tryd.sizeOf3) 3 rfl)) ?_
       refine RdXR.v (fun _ => (Vop.ldo rfl rfl rfl rfl Tryd.isAgg3 0 rfl rfl)) ?_
       refine RdXR.v (fun _ => (Vop.fldP rfl rfl rfl rfl Tryd.underlying25 rfl (by exact Tryd.sizeOf3) 0 rfl)) ?_
       refine RdXR.v (fun _ => (Vop.ldo (v := .int .i64 m.n) rfl rfl rfl rfl Tryd.isAgg3 1 rfl rfl)) ?_
       refine RdXR.v (fun _ => (Vop.mv rfl rfl rfl rfl)) ?_
       refine RdXR.call _ rfl rfl rfl rfl rfl (fun _ _ => Tryd.call79 _ _) (fun w _ hS => (by exact rjoinM_c m n g w (hm.ex0 hS.ext) hv hn ⟨hg3, hg2⟩)) ?_
       rintro v w1 w2 Y' hS he ho
       obtain ⟨q, cap, sp, rfl, hq, hcap, hS'⟩ := gainO hS he ho
       refine ⟨_, hS'.atEnd, ?_⟩
       refine GoH.callP rfl rfl rfl rfl rfl (fun _ _ => Tryd.call78 _ _) (fun w _ hS => (by have := wBox_c (q.map (fun b => ⟨b, 0, none⟩)) cap (joinL n m.rel g) n x w (sluAt hS 2 rfl (fun e => hq e)) joinTo_len (by omega); rw [← hn] at this; exact this)) ?_
       refine GoH.v (Vop.asg rfl rfl rfl rfl) ?_
       refine GoH.regionEnd ?_
       refine GoH.ret Tryd.f60 Tryd.func60 rfl (fun w' hS => ?_)
       exact ⟨hS.ext, by rw [oneW, if_neg h3, if_neg h8, if_neg h9, if_neg h10, if_pos h11, Int.toNat_natCast]; rfl⟩
      ·
       have h11 : ¬ op = 11 := by simpa using hc
       refine GoH.skip (GoH.seq (GoH.seq (GoH.region ?_)))
       refine GoH.v (Vop.fldP rfl rfl rfl rfl Tryd.underlying43 rfl (by exact Tryd.sizeOf3) 0 rfl) ?_
       refine GoH.v (Vop.ldo rfl rfl rfl rfl Tryd.isAgg3 0 rfl rfl) ?_
       refine GoH.v (Vop.bin rfl rfl rfl rfl bEq rfl) ?_
       refine GoH.regionEnd ?_
       refine GoH.cond rfl (fun hc => ?_) (fun hc => ?_)
       ·
        have h12 : op = 12 := by simpa using hc
        refine GoH.seq ?_
        refine GoH.drawXR [0, 1, 2, 4, 5, 6] 3 [7, 8] mixed rfl ?_
        refine RdXR.v (fun _ => (Vop.ldB rfl rfl rfl rfl Tryd.isAgg25 1 rfl Tryd.sizeOf25 rfl)) ?_
        refine RdXR.v (fun _ => (Vop.fldP rfl rfl rfl rfl Tryd.underlying43 rfl (by exact Tryd.sizeOf3) 3 rfl)) ?_
        refine RdXR.v (fun _ => (Vop.ldo rfl rfl rfl rfl Tryd.isAgg3 0 rfl rfl)) ?_
        refine RdXR.v (fun _ => (Vop.fldP rfl rfl rfl rfl Tryd.underlying25 rfl (by exact Tryd.sizeOf3) 0 rfl)) ?_
        refine RdXR.v (fun _ => (Vop.ldo (v := .int .i64 m.n) rfl rfl rfl rfl Tryd.isAgg3 1 rfl rfl)) ?_
        refine RdXR.v (fun _ => (Vop.mv rfl rfl rfl rfl)) ?_
        refine RdXR.call _ rfl rfl rfl rfl rfl (fun _ _ => Tryd.call80 _ _) (fun w _ hS => (by exact rmeetM_c m n g w (hm.ex0 hS.ext) hv hn ⟨hg3, hg2⟩)) ?_
        rintro v w1 w2 Y' hS he ho
        obtain ⟨q, cap, sp, rfl, hq, hcap, hS'⟩ := gainO hS he ho
        refine ⟨_, hS'.atEnd, ?_⟩
        refine GoH.callP rfl rfl rfl rfl rfl (fun _ _ => Tryd.call78 _ _) (fun w _ hS => (by have := wBox_c (q.map (fun b => ⟨b, 0, none⟩)) cap (meetL n m.rel g) n x w (sluAt hS 2 rfl (fun e => hq e)) meetTo_len (by omega); rw [← hn] at this; exact this)) ?_
        refine GoH.v (Vop.asg rfl rfl rfl rfl) ?_
        refine GoH.regionEnd ?_
        refine GoH.ret Tryd.f60 Tryd.func60 rfl (fun w' hS => ?_)
        exact ⟨hS.ext, by rw [oneW, if_neg h3, if_neg h8, if_neg h9, if_neg h10, if_neg h11, if_pos h12, Int.toNat_natCast]; rfl⟩
       ·
        have h12 : ¬ op = 12 := by simpa using hc
        refine GoH.skip (GoH.seq ?_)
        refine GoH.drawXR [0, 1, 2, 4, 5, 6, 7] 3 [8, 9] mixed rfl ?_
        refine RdXR.v (fun _ => (Vop.ldB rfl rfl rfl rfl Tryd.isAgg25 1 rfl Tryd.sizeOf25 rfl)) ?_
        refine RdXR.v (fun _ => (Vop.fldP rfl rfl rfl rfl Tryd.underlying43 rfl (by exact Tryd.sizeOf3) 3 rfl)) ?_
        refine RdXR.v (fun _ => (Vop.ldo rfl rfl rfl rfl Tryd.isAgg3 0 rfl rfl)) ?_
        refine RdXR.v (fun _ => (Vop.fldP rfl rfl rfl rfl Tryd.underlying25 rfl (by exact Tryd.sizeOf3) 0 rfl)) ?_
        refine RdXR.v (fun _ => (Vop.ldo (v := .int .i64 m.n) rfl rfl rfl rfl Tryd.isAgg3 1 rfl rfl)) ?_
        iterate 2 refine RdXR.v (fun _ => (Vop.mv rfl rfl rfl rfl)) ?_
        refine RdXR.call _ rfl rfl rfl rfl rfl (fun _ _ => Tryd.call79 _ _) (fun w _ hS => (by exact rjoinM_c m n g w (hm.ex0 hS.ext) hv hn ⟨hg3, hg2⟩)) ?_
        rintro v w1 w2 Y' hS he ho
        obtain ⟨q, cap, sp, rfl, hq, hcap, hS'⟩ := gainO hS he ho
        refine ⟨_, hS'.atEnd, ?_⟩
        refine GoH.callP rfl rfl rfl rfl rfl (fun _ _ => Tryd.call81 _ _) (fun w _ hS => (by have := wCommon_c (q.map (fun b => ⟨b, 0, none⟩)) cap (joinL n m.rel g) n x y w (sluAt hS 2 rfl (fun e => hq e)) joinTo_len (by omega); rw [← hn] at this; exact this)) ?_
        refine GoH.v (Vop.asg rfl rfl rfl rfl) ?_
        refine GoH.regionEnd ?_
        refine GoH.ret Tryd.f60 Tryd.func60 rfl (fun w' hS => ?_)
        exact ⟨hS.ext, by rw [oneW, if_neg h3, if_neg h8, if_neg h9, if_neg h10, if_neg h11, if_neg h12, Int.toNat_natCast]; rfl⟩
theorem wCheck_c (m : MV) (a : Option Addr) (ca : Nat) (f : List NV) (w : World) (hm : m.At w) (ha : FA w a f) (hl : f.length ≤ maxLen) :
    Cn Tryd.prog 34 [m.v, .slice a f.length ca, .int .i64 15] w (fun v _ => v = .int .i64 (holdE m.n m.val m.rel f)) := by
  have hrl : m.rel.length = m.rows.length := by simp [MV.rel]
  have hfl := frgL_lt (compF f)
  refine Cn.of Tryd.func34 rfl rfl ?_
  refine GoH.seq (GoH.region ?_)
  refine GoH.bx rfl rfl rfl rfl (fun b3 => ?_)
  refine GoH.v (Vop.asg rfl rfl rfl rfl) ?_
  refine GoH.regionEnd (GoH.seq (GoH.region ?_))
  refine GoH.v (Vop.ldB rfl rfl rfl rfl Tryd.isAgg25 0 rfl Tryd.sizeOf25 rfl) ?_
  refine GoH.callP rfl rfl rfl rfl rfl (fun _ _ => Tryd.call8 _ _) (fun w _ hS => (by exact rmCheck_c m w (hm.ex0 hS.ext))) ?_
  refine GoH.v (Vop.asg rfl rfl rfl rfl) ?_
  refine GoH.regionEnd (GoH.seq (GoH.seq (GoH.region ?_)))
  refine GoH.v (Vop.mv rfl rfl rfl rfl) ?_
  refine GoH.v (Vop.bin rfl rfl rfl rfl bNe rfl) ?_
  refine GoH.regionEnd ?_
  refine GoH.cond rfl (fun hc => ?_) (fun hc => ?_)
  ·
   have h1 : checkM m.n m.val m.rel ≠ 0 := by simpa using hc
   refine GoH.seq (GoH.region ?_)
   refine GoH.v (Vop.mv rfl rfl rfl rfl) ?_
   refine GoH.v (Vop.asg rfl rfl rfl rfl) ?_
   refine GoH.regionEnd ?_
   refine GoH.ret Tryd.f34 Tryd.func34 rfl (fun w' hS => ?_)
   exact ⟨hS.ext, by rw [holdE, if_pos h1]; rfl⟩
  ·
   have h1 : ¬ checkM m.n m.val m.rel ≠ 0 := by simpa using hc
   refine GoH.skip (GoH.seq (GoH.region ?_))
   refine GoH.v (Vop.mv rfl rfl rfl rfl) ?_
   refine GoH.callP rfl rfl rfl rfl rfl (fun _ _ => Tryd.call24 _ _) (fun w _ hS => (by exact rchk_c a ca f w (ha.ex0 hS.ext) hl)) ?_
   refine GoH.v (Vop.asg rfl rfl rfl rfl) ?_
   refine GoH.regionEnd (GoH.seq (GoH.seq (GoH.region ?_)))
   refine GoH.v (Vop.mv rfl rfl rfl rfl) ?_
   refine GoH.v (Vop.bin rfl rfl rfl rfl bNe rfl) ?_
   refine GoH.regionEnd ?_
   refine GoH.cond rfl (fun hc => ?_) (fun hc => ?_)
   ·
    have h2 : chkF f ≠ 0 := by simpa using hc
    refine GoH.seq (GoH.region ?_)
    refine GoH.v (Vop.mv rfl rfl rfl rfl) ?_
    refine GoH.v (Vop.asg rfl rfl rfl rfl) ?_
    refine GoH.regionEnd ?_
    refine GoH.ret Tryd.f34 Tryd.func34 rfl (fun w' hS => ?_)
    exact ⟨hS.ext, by rw [holdE, if_neg h1, if_pos h2]; rfl⟩
   ·
    have h2 : ¬ chkF f ≠ 0 := by simpa using hc
    refine GoH.skip (GoH.seq (GoH.seq (GoH.region ?_)))
    refine GoH.v (Vop.mv rfl rfl rfl rfl) ?_
    refine GoH.callP rfl rfl rfl rfl rfl (fun _ _ => Tryd.call11 _ _) (fun w _ hS => (by exact rfrags_c a ca f w (ha.ex0 hS.ext) hl)) ?_
    refine GoH.v (Vop.mv rfl rfl rfl rfl) ?_
    refine GoH.v (Vop.bin rfl rfl rfl rfl (bAndNotI hfl (by omega : (15 : Nat) < 512)) rfl) ?_
    refine GoH.v (Vop.bin rfl rfl rfl rfl bNe rfl) ?_
    refine GoH.regionEnd ?_
    refine GoH.cond rfl (fun hc => ?_) (fun hc => ?_)
    ·
     have h3 : andN (frgL (compF f)) 15 ≠ 0 := by simpa using hc
     refine GoH.seq (GoH.region ?_)
     refine GoH.v (Vop.asg rfl rfl rfl rfl) ?_
     refine GoH.regionEnd ?_
     refine GoH.ret Tryd.f34 Tryd.func34 rfl (fun w' hS => ?_)
     exact ⟨hS.ext, by rw [holdE, if_neg h1, if_neg h2, if_pos h3]; rfl⟩
    ·
     have h3 : ¬ andN (frgL (compF f)) 15 ≠ 0 := by simpa using hc
     refine GoH.skip (GoH.seq (GoH.seq (GoH.region ?_)))
     refine GoH.v (Vop.mv rfl rfl rfl rfl) ?_
     refine GoH.v (Vop.fldP rfl rfl rfl rfl Tryd.underlying25 rfl (by exact Tryd.sizeOf23) 2 rfl) ?_
     refine GoH.v (Vop.ldo (v := .slice m.ra m.rows.length m.rc) rfl rfl rfl rfl Tryd.isAgg23 0 rfl rfl) ?_
     refine GoH.v (Vop.blt rfl rfl rfl (blt_len_slice Tryd.underlying23) rfl) ?_
     refine GoH.v (Vop.fldP rfl rfl rfl rfl Tryd.underlying25 rfl (by exact Tryd.sizeOf22) 1 rfl) ?_
     refine GoH.v (Vop.ldo (v := .slice m.va m.val.length m.vc) rfl rfl rfl rfl Tryd.isAgg22 0 rfl rfl) ?_
     refine GoH.v (Vop.blt rfl rfl rfl (blt_len_slice Tryd.underlying22) rfl) ?_
     refine GoH.callP rfl rfl rfl rfl rfl (fun _ _ => Tryd.call10 _ _) (fun w _ hS => (by exact rfitsF_c a ca f m.rows.length m.val.length w (ha.ex0 hS.ext) hl)) ?_
     refine GoH.v (Vop.un rfl rfl rfl uNot rfl) ?_
     refine GoH.regionEnd ?_
     refine GoH.cond rfl (fun hc => ?_) (fun hc => ?_)
     ·
      have h4 : fitB f m.rel.length m.val.length = false := by rw [hrl]; simpa using hc
      refine GoH.seq (GoH.region ?_)
      refine GoH.v (Vop.asg rfl rfl rfl rfl) ?_
      refine GoH.regionEnd ?_
      refine GoH.ret Tryd.f34 Tryd.func34 rfl (fun w' hS => ?_)
      exact ⟨hS.ext, by rw [holdE, if_neg h1, if_neg h2, if_neg h3, if_pos h4]; rfl⟩
     ·
      have h4 : ¬ fitB f m.rel.length m.val.length = false := by rw [hrl]; simpa using hc
      refine GoH.skip (GoH.seq (GoH.region ?_))
      refine GoH.v (Vop.asg rfl rfl rfl rfl) ?_
      refine GoH.regionEnd ?_
      refine GoH.ret Tryd.f34 Tryd.func34 rfl (fun w' hS => ?_)
      exact ⟨hS.ext, by rw [holdE, if_neg h1, if_neg h2, if_neg h3, if_neg h4]; rfl⟩
end Go.Proofs.YtcljmlnnfdaljaaDoor
