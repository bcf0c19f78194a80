/- What calls of the program return, under the conditions that each theorem states. -/
import Derived.Test.YtlihcmknfdckdaaDoorR36
import Derived.Test.YtlihcmknfdckdaaDoorR37
import Derived.Test.YtlihcmknfdckdaaDoorR04
import Derived.Test.YtlihcmknfdckdaaDoorR15
namespace Go.Proofs.YtlihcmknfdckdaaDoor
open Go.RowKit Go.Proofs.Wit
/-! the reference's checker: the set of a node -/
theorem wBox_c (a : Option Addr) (ca : Nat) (r : List W64) (n : Nat) (s : W64) (w : World) (ha : SlU w a r) (hn : r.length = n) (h64 : n ≤ 64) : Cn Tryd.prog 120 [.slice a r.length ca, .int .i64 n, U s] w (fun v _ => v = U (boxW r n s)) := by
  refine Cn.of Tryd.func120 rfl rfl ?_
  refine gS (gR ?_)
  refine GoH.v (Vop.asg (v := U 0#64) rfl rfl rfl rfl) ?_
  refine gE (gS (gR ?_))
  refine GoH.v (Vop.asg (v := U 0#64) rfl rfl rfl rfl) ?_
  refine gE (gS (gS (gR ?_))); refine gAs ?_; refine gE (gB ?_)
  refine GoH.loop (σ := Nat) (fun k => [(0, .slice a r.length ca), (1, .int .i64 n), (2, U s), (7, U (selW (fun w => r.getD w 0#64 &&& ~~~s == 0#64) k)), (8, .int .i64 k)]) (fun _ => []) (fun k => k ≤ n) (fun k => n - k) 0 (Nat.zero_le _) ⟨rfl, rfl, rfl, rfl, rfl, trivial⟩ .slnil (fun k hk IH => ?_)
  refine gS (gS (gR ?_))
  iterate 2 refine gMv ?_
  refine gBi bLt ?_; refine gE ?_
  refine GoH.cond rfl (fun hc => ?_) (fun hc => ?_)
  ·
   have hm : k < n := by simpa using hc
   have hkr : k < r.length := by omega
   have hs := selW_succ (q := fun w => r.getD w 0#64 &&& ~~~s == 0#64) (n := k)
   refine gK (gS (gB (gS (gR ?_))))
   iterate 2 refine gMv ?_
   refine GoH.v (Vop.idx rfl rfl rfl rfl rfl Tryd.underlying32 Tryd.sizeOf37 ⟨_, ha⟩ (by simp) (k) ⟨rfl, by simpa using hkr⟩) ?_
   refine GoH.v (Vop.ld rfl rfl rfl rfl Tryd.isAgg37 (fun w _ hS => (SlU.ex0 ha hS.ext).at (k) hkr)) ?_
   refine gMv ?_; refine gBi bAndNot ?_
   refine GoH.v (Vop.bin (b := U 0#64) rfl rfl rfl rfl bEqU rfl) ?_
   refine gE ?_
   refine GoH.cond rfl (fun hc => ?_) (fun hc => ?_)
   ·
    rw [if_pos hc] at hs
    refine gR ?_
    iterate 2 refine gMv ?_
    refine GoH.v (Vop.bin (a := U 1#64) rfl rfl rfl rfl (bShl _ rfl) rfl) ?_
    refine gBi bOr ?_; refine gAs ?_; refine gE (gIb (gR ?_)); refine gMv ?_
    refine GoH.v (Vop.bin rfl rfl rfl rfl (bAdd (by omega)) rfl) ?_
    refine gAs ?_; refine gE ?_
    exact IH (k + 1) _ _ hm (by omega) ⟨rfl, rfl, rfl, by rw [hs]; rfl, rfl, trivial⟩ .slnil
   ·
    rw [if_neg (by rw [hc]; simp)] at hs
    refine gK (gIb (gR ?_)); refine gMv ?_
    refine GoH.v (Vop.bin rfl rfl rfl rfl (bAdd (by omega)) rfl) ?_
    refine gAs ?_; refine gE ?_
    exact IH (k + 1) _ _ hm (by omega) ⟨rfl, rfl, rfl, by rw [hs]; rfl, rfl, trivial⟩ .slnil
  ·
   have hge : ¬ k < n := by simpa using hc
   obtain rfl : k = n := by omega
   refine GoH.exit rfl (gS (gR ?_))
   refine gMv ?_; refine gAs ?_; refine gE ?_
   refine GoH.ret Tryd.f120 Tryd.func120 rfl (fun w' hS => ?_)
   exact ⟨hS.ext, rfl⟩
theorem wPaths_c (a : Option Addr) (ca : Nat) (r : List W64) (n v : Nat) (c : W64) (w : World) (ha : SlU w a r) (hn : r.length = n) (hv : v < n) (h64 : n ≤ 64) : Cn Tryd.prog 140 [.slice a r.length ca, .int .i64 n, .int .i64 v, U c] w (fun u _ => u = U (pathW r n v c)) := by
  have hvr : v < r.length := by omega
  refine Cn.of Tryd.func140 rfl rfl ?_
  refine gS (gR ?_)
  refine GoH.v (Vop.asg (v := U 0#64) rfl rfl rfl rfl) ?_
  refine gE (gS (gR ?_))
  iterate 2 refine gMv ?_
  refine GoH.v (Vop.idx rfl rfl rfl rfl rfl Tryd.underlying32 Tryd.sizeOf37 ⟨_, ha⟩ (by simp) (v) ⟨rfl, by simpa using hvr⟩) ?_
  refine GoH.v (Vop.ld rfl rfl rfl rfl Tryd.isAgg37 (fun w _ hS => (SlU.ex0 ha hS.ext).at (v) hvr)) ?_
  refine gMv ?_; refine gBi bAnd ?_; refine gAs ?_; refine gE (gS (gS (gR ?_))); refine gAs ?_; refine gE (gB ?_)
  refine GoH.loop (σ := Nat) (fun k => [(0, .slice a r.length ca), (1, .int .i64 n), (3, U c), (9, U (pathTo r n v c k)), (10, .int .i64 k)]) (fun _ => []) (fun k => k ≤ n) (fun k => n - k) 0 (Nat.zero_le _) ⟨rfl, rfl, rfl, rfl, rfl, trivial⟩ .slnil (fun k hk IH => ?_)
  refine gS (gS (gR ?_))
  iterate 2 refine gMv ?_
  refine gBi bLt ?_; refine gE ?_
  refine GoH.cond rfl (fun hc => ?_) (fun hc => ?_)
  ·
   have hm : k < n := by simpa using hc
   refine gK (gS (gB (gS (gR ?_)))); refine gAs ?_; refine gE (gB ?_)
   refine GoH.loop (σ := Nat) (fun j => [(0, .slice a r.length ca), (1, .int .i64 n), (3, U c), (9, U (upTo (pstp r c) (pathTo r n v c k) j)), (10, .int .i64 k), (11, .int .i64 j)]) (fun _ => []) (fun j => j ≤ n) (fun j => n - j) 0 (Nat.zero_le _) ⟨rfl, rfl, rfl, rfl, rfl, rfl, trivial⟩ .slnil (fun j hj IH2 => ?_)
   refine gS (gS (gR ?_))
   iterate 2 refine gMv ?_
   refine gBi bLt ?_; refine gE ?_
   refine GoH.cond rfl (fun hc => ?_) (fun hc => ?_)
   ·
    have hm2 : j < n := by simpa using hc
    have hjr : j < r.length := by omega
    have hs : upTo (pstp r c) (pathTo r n v c k) (j + 1) = pstp r c j (upTo (pstp r c) (pathTo r n v c k) j) := rfl
    rw [pstp] at hs
    refine gK (gS (gB (gS (gR ?_))))
    iterate 2 refine gMv ?_
    refine GoH.callP rfl rfl rfl rfl rfl (fun _ _ => Tryd.call145 _ _) (fun w _ hS => rBit_c _ j w) ?_
    refine gE ?_
    refine GoH.cond rfl (fun hc => ?_) (fun hc => ?_)
    ·
     rw [if_pos hc] at hs
     refine gR ?_
     iterate 3 refine gMv ?_
     refine GoH.v (Vop.idx rfl rfl rfl rfl rfl Tryd.underlying32 Tryd.sizeOf37 ⟨_, ha⟩ (by simp) (j) ⟨rfl, by simpa using hjr⟩) ?_
     refine GoH.v (Vop.ld rfl rfl rfl rfl Tryd.isAgg37 (fun w _ hS => (SlU.ex0 ha hS.ext).at (j) hjr)) ?_
     refine gMv ?_; refine gBi bAnd ?_; refine gBi bOr ?_; refine gAs ?_; refine gE (gIb (gR ?_)); refine gMv ?_
     refine GoH.v (Vop.bin rfl rfl rfl rfl (bAdd (by omega)) rfl) ?_
     refine gAs ?_; refine gE ?_
     exact IH2 (j + 1) _ _ hm2 (by omega) ⟨rfl, rfl, rfl, by rw [hs]; rfl, rfl, rfl, trivial⟩ .slnil
    ·
     rw [if_neg (by rw [hc]; simp)] at hs
     refine gK (gIb (gR ?_)); refine gMv ?_
     refine GoH.v (Vop.bin rfl rfl rfl rfl (bAdd (by omega)) rfl) ?_
     refine gAs ?_; refine gE ?_
     exact IH2 (j + 1) _ _ hm2 (by omega) ⟨rfl, rfl, rfl, by rw [hs]; rfl, rfl, rfl, trivial⟩ .slnil
   ·
    have hge : ¬ j < n := by simpa using hc
    obtain rfl : j = n := by omega
    refine GoH.exit rfl (gIb (gR ?_))
    refine gMv ?_
    refine GoH.v (Vop.bin rfl rfl rfl rfl (bAdd (by omega)) rfl) ?_
    refine gAs ?_; refine gE ?_
    exact IH (k + 1) _ _ hm (by omega) ⟨rfl, rfl, rfl, rfl, rfl, trivial⟩ .slnil
  ·
   have hge : ¬ k < n := by simpa using hc
   obtain rfl : k = n := by omega
   refine GoH.exit rfl (gS (gR ?_))
   refine gMv ?_; refine gAs ?_; refine gE ?_
   refine GoH.ret Tryd.f140 Tryd.func140 rfl (fun w' hS => ?_)
   exact ⟨hS.ext, rfl⟩
theorem wCommon_c (a : Option Addr) (ca : Nat) (r : List W64) (n : Nat) (c s : W64) (w : World) (ha : SlU w a r) (hn : r.length = n) (h64 : n ≤ 64) : Cn Tryd.prog 123 [.slice a r.length ca, .int .i64 n, U c, U s] w (fun v _ => v = U (comW r n c s)) := by
  refine Cn.of Tryd.func123 rfl rfl ?_
  refine gS (gR ?_)
  refine GoH.v (Vop.asg (v := U 0#64) rfl rfl rfl rfl) ?_
  refine gE (gS (gR ?_))
  refine GoH.v (Vop.asg (v := U 0#64) rfl rfl rfl rfl) ?_
  refine gE (gS (gS (gR ?_))); refine gAs ?_; refine gE (gB ?_)
  refine GoH.loop (σ := Nat) (fun k => [(0, .slice a r.length ca), (1, .int .i64 n), (2, U c), (3, U s), (9, U (selW (fun w => pathW r n w c &&& ~~~s == 0#64) k)), (10, .int .i64 k)]) (fun _ => []) (fun k => k ≤ n) (fun k => n - k) 0 (Nat.zero_le _) ⟨rfl, rfl, rfl, rfl, rfl, rfl, trivial⟩ .slnil (fun k hk IH => ?_)
  refine gS (gS (gR ?_))
  iterate 2 refine gMv ?_
  refine gBi bLt ?_; refine gE ?_
  refine GoH.cond rfl (fun hc => ?_) (fun hc => ?_)
  ·
   have hm : k < n := by simpa using hc
   have hs := selW_succ (q := fun w => pathW r n w c &&& ~~~s == 0#64) (n := k)
   refine gK (gS (gB (gS (gR ?_))))
   iterate 4 refine gMv ?_
   refine GoH.callP rfl rfl rfl rfl rfl (fun _ _ => Tryd.call140 _ _) (fun w _ hS => (by exact wPaths_c a ca r n k c w (ha.ex0 hS.ext) hn hm h64)) ?_
   refine gMv ?_; refine gBi bAndNot ?_
   refine GoH.v (Vop.bin (b := U 0#64) rfl rfl rfl rfl bEqU rfl) ?_
   refine gE ?_
   refine GoH.cond rfl (fun hc => ?_) (fun hc => ?_)
   ·
    rw [if_pos hc] at hs
    refine gR ?_
    iterate 2 refine gMv ?_
    refine GoH.v (Vop.bin (a := U 1#64) rfl rfl rfl rfl (bShl _ rfl) rfl) ?_
    refine gBi bOr ?_; refine gAs ?_; refine gE (gIb (gR ?_)); refine gMv ?_
    refine GoH.v (Vop.bin rfl rfl rfl rfl (bAdd (by omega)) rfl) ?_
    refine gAs ?_; refine gE ?_
    exact IH (k + 1) _ _ hm (by omega) ⟨rfl, rfl, rfl, rfl, by rw [hs]; rfl, rfl, trivial⟩ .slnil
   ·
    rw [if_neg (by rw [hc]; simp)] at hs
    refine gK (gIb (gR ?_)); refine gMv ?_
    refine GoH.v (Vop.bin rfl rfl rfl rfl (bAdd (by omega)) rfl) ?_
    refine gAs ?_; refine gE ?_
    exact IH (k + 1) _ _ hm (by omega) ⟨rfl, rfl, rfl, rfl, by rw [hs]; rfl, rfl, trivial⟩ .slnil
  ·
   have hge : ¬ k < n := by simpa using hc
   obtain rfl : k = n := by omega
   refine GoH.exit rfl (gS (gR ?_))
   refine gMv ?_; refine gAs ?_; refine gE ?_
   refine GoH.ret Tryd.f123 Tryd.func123 rfl (fun w' hS => ?_)
   exact ⟨hS.ext, rfl⟩
theorem wBool_c (op : Int) (x y all : W64) (w : World) : Cn Tryd.prog 119 [.int .i64 op, U x, U y, U all] w (fun v _ => v = U (boolW op x y all)) := by
  refine Cn.of Tryd.func119 rfl rfl ?_
  refine gS (gR ?_)
  refine GoH.v (Vop.asg (v := U 0#64) rfl rfl rfl rfl) ?_
  refine gE (gS (gS (gR ?_))); refine gMv ?_; refine gBi bEq ?_; refine gE ?_
  refine GoH.cond rfl (fun hc => ?_) (fun hc => ?_)
  ·
   have h1 : op = 1 := by simpa using hc
   refine gS (gR ?_); refine gMv ?_; refine gAs ?_; refine gE ?_
   refine GoH.ret Tryd.f119 Tryd.func119 rfl (fun w' hS => ?_)
   exact ⟨hS.ext, by rw [boolW, if_pos h1]; rfl⟩
  ·
   have h1 : ¬ op = 1 := by simpa using hc
   refine gK (gS (gS (gR ?_))); refine gMv ?_; refine gBi bEq ?_; refine gE ?_
   refine GoH.cond rfl (fun hc => ?_) (fun hc => ?_)
   ·
    have h2 : op = 4 := by simpa using hc
    refine gS (gR ?_)
    iterate 2 refine gMv ?_
    refine gBi bAndNot ?_; refine gAs ?_; refine gE ?_
    refine GoH.ret Tryd.f119 Tryd.func119 rfl (fun w' hS => ?_)
    exact ⟨hS.ext, by rw [boolW, if_neg h1, if_pos h2]; rfl⟩
   ·
    have h2 : ¬ op = 4 := by simpa using hc
    refine gK (gS (gS (gR ?_))); refine gMv ?_; refine gBi bEq ?_; refine gE ?_
    refine GoH.cond rfl (fun hc => ?_) (fun hc => ?_)
    ·
     have h3 : op = 5 := by simpa using hc
     refine gS (gR ?_)
     iterate 2 refine gMv ?_
     refine gBi bAnd ?_; refine gAs ?_; refine gE ?_
     refine GoH.ret Tryd.f119 Tryd.func119 rfl (fun w' hS => ?_)
     exact ⟨hS.ext, by rw [boolW, if_neg h1, if_neg h2, if_pos h3]; rfl⟩
    ·
     have h3 : ¬ op = 5 := by simpa using hc
     refine gK (gS (gS (gR ?_))); refine gMv ?_; refine gBi bEq ?_; refine gE ?_
     refine GoH.cond rfl (fun hc => ?_) (fun hc => ?_)
     ·
      have h4 : op = 6 := by simpa using hc
      refine gS (gR ?_)
      iterate 2 refine gMv ?_
      refine gBi bOr ?_; refine gAs ?_; refine gE ?_
      refine GoH.ret Tryd.f119 Tryd.func119 rfl (fun w' hS => ?_)
      exact ⟨hS.ext, by rw [boolW, if_neg h1, if_neg h2, if_neg h3, if_pos h4]; rfl⟩
     ·
      have h4 : ¬ op = 6 := by simpa using hc
      refine gK (gS (gS (gR ?_))); refine gMv ?_; refine gBi bEq ?_; refine gE ?_
      refine GoH.cond rfl (fun hc => ?_) (fun hc => ?_)
      ·
       have h5 : op = 7 := by simpa using hc
       refine gS (gR ?_)
       iterate 2 refine gMv ?_
       refine gBi bAndNot ?_; refine gMv ?_; refine gBi bOr ?_; refine gAs ?_; refine gE ?_
       refine GoH.ret Tryd.f119 Tryd.func119 rfl (fun w' hS => ?_)
       exact ⟨hS.ext, by rw [boolW, if_neg h1, if_neg h2, if_neg h3, if_neg h4, if_pos h5]; rfl⟩
      ·
       have h5 : ¬ op = 7 := by simpa using hc
       refine gK (gS (gS (gR ?_))); refine gMv ?_; refine gBi bEq ?_; refine gE ?_
       refine GoH.cond rfl (fun hc => ?_) (fun hc => ?_)
       ·
        have h6 : op = 8 := by simpa using hc
        refine gS (gR ?_)
        iterate 3 refine gMv ?_
        refine gBi bXor ?_; refine gBi bAndNot ?_; refine gAs ?_; refine gE ?_
        refine GoH.ret Tryd.f119 Tryd.func119 rfl (fun w' hS => ?_)
        exact ⟨hS.ext, by rw [boolW, if_neg h1, if_neg h2, if_neg h3, if_neg h4, if_neg h5, if_pos h6]; rfl⟩
       ·
        have h6 : ¬ op = 8 := by simpa using hc
        refine gK (gS (gR ?_))
        refine GoH.v (Vop.asg (v := U 0#64) rfl rfl rfl rfl) ?_
        refine gE ?_
        refine GoH.ret Tryd.f119 Tryd.func119 rfl (fun w' hS => ?_)
        exact ⟨hS.ext, by rw [boolW, if_neg h1, if_neg h2, if_neg h3, if_neg h4, if_neg h5, if_neg h6]; rfl⟩
theorem joinTo_len {n : Nat} {rel : List (List W64)} {g k : Nat} : (joinTo n rel g k).length = n := by simp [joinTo]
set_option maxRecDepth 4000 in
theorem rjoin_c (m : MV) (n g : Nat) (w : World) (hm : m.At w) (hv : ValM m.n m.val m.rel) (hn : m.n = (n : Int)) (hg : 1 ≤ g ∧ g < 2 ^ m.rows.length) :
    Cn Tryd.prog 139 [m.v, .int .i64 g, .bool false] w (fun v w' => Own w w' v (joinL n m.rel g)) := by
  obtain ⟨i0, hi, hz, hsz, hby⟩ := info_parts infoU
  have hn64 := hv.n64
  have hn1 := hv.n1
  have hag := hv.agents
  have hrl : m.rel.length = m.rows.length := by simp [MV.rel]
  have hp4 : (2 : Nat) ^ m.rows.length ≤ 2 ^ 4 := Nat.pow_le_pow_right (by decide) (by omega)
  have h16 : (2 : Nat) ^ 4 = 16 := by decide
  refine Cn.of Tryd.func139 rfl rfl ?_
  refine gS (gR ?_)
  refine GoH.bx rfl rfl rfl rfl (fun b3 => ?_)
  refine gAs ?_; refine gE (gS (gS (gR ?_)))
  refine GoH.v (Vop.ldB rfl rfl rfl rfl Tryd.isAgg35 0 rfl Tryd.sizeOf35 rfl) ?_
  refine GoH.callP rfl rfl rfl rfl rfl (fun _ _ => Tryd.call49 _ _) (fun w _ hS => (by exact (rmCheck_c m w (hm.ex0 hS.ext)).mono (fun v w' _ e => by rw [e, checkM_zero.2 hv]))) ?_
  refine GoH.v (Vop.bin rfl rfl rfl rfl (bNeV (v := false) rfl) rfl) ?_
  iterate 2 refine gMv ?_
  refine GoH.v (Vop.bin rfl rfl rfl rfl (bLtV (v := false) (decide_eq_false (by omega))) rfl) ?_
  refine gPf ?_
  iterate 2 refine gMv ?_
  refine gFp Tryd.underlying35 Tryd.sizeOf33 2 ?_
  refine GoH.v (Vop.ldo (v := .slice m.ra m.rows.length m.rc) rfl rfl rfl rfl Tryd.isAgg33 0 rfl rfl) ?_
  refine gBl Tryd.underlying33 ?_
  refine GoH.v (Vop.bin rfl rfl rfl rfl (bShlN (x := 1) (j := m.rows.length) rfl (by omega) (by omega)) rfl) ?_
  refine GoH.v (Vop.bin rfl rfl rfl rfl (bGeV (v := false) (decide_eq_false (by omega))) rfl) ?_
  refine gPf ?_; refine gE (GoH.condF rfl (gK (gS (gR ?_)))); refine gAs ?_; refine gE (gS (gS (gR ?_))); refine gAs ?_; refine gE (gB ?_)
  refine GoH.addNone (ob U 37 [] []) ?_
  refine GoH.loop (σ := Nat × Option Nat × Nat × List Value) (fun z => [(1, .int .i64 g), (2, .bool false), (3, .pointer (some ⟨b3, 0, none⟩)), (7, osv z.2.1 ((joinL n m.rel g).take z.1).length z.2.2.1), (8, .int .i64 z.1)]) (fun z => [(z.2.1, ob U 37 ((joinL n m.rel g).take z.1) z.2.2.2), (some b3, .cells m.v.cells 35 (0, 0))])
    (fun z => z.1 ≤ n ∧ (z.2.1 = none → ((joinL n m.rel g).take z.1).length = 0 ∧ z.2.2.1 = 0) ∧ (((joinL n m.rel g).take z.1).map U ++ z.2.2.2).length = z.2.2.1) (fun z => n - z.1) (0, none, 0, [])
    ⟨Nat.zero_le _, fun _ => ⟨rfl, rfl⟩, rfl⟩ ⟨rfl, rfl, rfl, rfl, rfl, trivial⟩ (List.Sublist.refl _) (fun z hI IH => ?_)
  obtain ⟨k, q, cap, sp⟩ := z
  obtain ⟨hk, hq, hcap⟩ := hI
  dsimp only at hk hq hcap IH ⊢
  refine gS (gS (gR ?_)); refine gMv ?_; refine gFp Tryd.underlying35 Tryd.sizeOf3 0 ?_
  refine GoH.v (Vop.ldo (v := .int .i64 m.n) rfl rfl rfl rfl Tryd.isAgg3 1 rfl rfl) ?_
  refine gBi bLt ?_; refine gE ?_
  refine GoH.cond rfl (fun hc => ?_) (fun hc => ?_)
  ·
   have hlt : k < n := by have : (k : Int) < m.n := by simpa using hc
                          omega
   have hml : (joinL n m.rel g).length = n := joinTo_len
   have hlk : ((joinL n m.rel g).take k).length = k := by rw [List.length_take]; omega
   refine gK (gS (gB (gS (gR ?_))))
   refine GoH.v (Vop.asg (v := U 0#64) rfl rfl rfl rfl) ?_
   refine gE (gS (gS (gR ?_))); refine gMv ?_; refine gE ?_
   refine GoH.cond rfl (fun hc => ?_) (fun hc => ?_)
   ·
    cases hc
   ·
    refine gK (gS (gS (gR ?_))); refine gAs ?_; refine gE (gB ?_)
    refine GoH.loop (σ := Nat) (fun j => [(1, .int .i64 g), (2, .bool false), (3, .pointer (some ⟨b3, 0, none⟩)), (7, osv q ((joinL n m.rel g).take k).length cap), (8, .int .i64 k), (9, U (joinW m.rel g k j)), (10, .int .i64 j)]) (fun _ => [(q, ob U 37 ((joinL n m.rel g).take k) sp), (some b3, .cells m.v.cells 35 (0, 0))])
      (fun j => j ≤ m.rows.length) (fun j => m.rows.length - j) 0 (Nat.zero_le _) ⟨rfl, rfl, rfl, rfl, rfl, rfl, rfl, trivial⟩ (List.Sublist.refl _) (fun j hj IH2 => ?_)
    refine gS (gS (gR ?_)); refine gMv ?_; refine gFp Tryd.underlying35 Tryd.sizeOf33 2 ?_
    refine GoH.v (Vop.ldo (v := .slice m.ra m.rows.length m.rc) rfl rfl rfl rfl Tryd.isAgg33 1 rfl rfl) ?_
    refine gBl Tryd.underlying33 ?_; refine gBi bLt ?_; refine gE ?_
    refine GoH.cond rfl (fun hc => ?_) (fun hc => ?_)
    ·
     have hjl : j < m.rows.length := by simpa using hc
     have hrow := hm.row m.rows[j] (List.getElem_mem hjl)
     have hrn : m.rows[j].xs.length = n := by have := hv.len _ (List.mem_map.2 ⟨m.rows[j], List.getElem_mem hjl, rfl⟩ : m.rows[j].xs ∈ m.rel); omega
     have hkr : k < m.rows[j].xs.length := by omega
     have hsc : joinW m.rel g k (j + 1) = if gb g j = 1 then joinW m.rel g k j ||| (m.rel.getD j []).getD k 0#64 else joinW m.rel g k j := rfl
     rw [relD hjl] at hsc
     refine gK (gS (gB (gS (gS (gR ?_)))))
     iterate 2 refine gMv ?_
     refine GoH.v (Vop.bin rfl rfl rfl rfl (bShrN (j := j) rfl (by omega) (by omega)) rfl) ?_
     refine GoH.v (Vop.bin rfl rfl rfl rfl bRem2N rfl) ?_
     refine gBi bEq ?_; refine gMv ?_
     refine GoH.cases (d := 48) rfl (fun hc => ?_) (fun hc => ?_)
     ·
      have hb1 : gb g j = 1 := Int.ofNat_inj.1 (show ((gb g j : Nat) : Int) = ((1 : Nat) : Int) from beq_iff_eq.1 hc)
      rw [if_pos hb1] at hsc
      refine gMv ?_; refine gPt ?_; refine gE ?_
      refine GoH.cond rfl (fun hc => ?_) (fun hc => ?_)
      ·
       cases ‹(false) = true›
      ·
       refine gK (gS (gR ?_))
       iterate 2 refine gMv ?_
       refine GoH.v (Vop.bin rfl rfl rfl rfl (bShrN (j := j) rfl (by omega) (by omega)) rfl) ?_
       refine GoH.v (Vop.bin rfl rfl rfl rfl bRem2N rfl) ?_
       refine GoH.v (Vop.bin rfl rfl rfl rfl (bEqV (v := true) (show ((((gb g j : Nat) : Int)) == 1) = true by rw [hb1]; rfl)) rfl) ?_
       iterate 2 refine gMv ?_
       refine gUn uNot ?_; refine gPt ?_; refine gE ?_
       refine GoH.cond rfl (fun hc => ?_) (fun hc => ?_)
       ·
        refine gR ?_; refine gMv ?_; refine gFp Tryd.underlying35 Tryd.sizeOf33 2 ?_
        refine GoH.v (Vop.ldo (v := .slice m.ra m.rows.length m.rc) rfl rfl rfl rfl Tryd.isAgg33 1 rfl rfl) ?_
        refine gMv ?_
        refine GoH.v (Vop.idx rfl rfl rfl rfl rfl Tryd.underlying33 Tryd.sizeOf32 ⟨_, hm.rel⟩ (by simp) (j) ⟨rfl, by simpa using hjl⟩) ?_
        refine GoH.v (Vop.ld rfl rfl rfl rfl Tryd.isAgg32 (fun w _ hS => (SlR.ex0 hm.rel hS.ext).at (j) hjl)) ?_
        refine gMv ?_
        refine GoH.v (Vop.idx rfl rfl rfl rfl rfl Tryd.underlying32 Tryd.sizeOf37 ⟨_, hrow.at_⟩ (by simp) (k) ⟨rfl, by simpa using hkr⟩) ?_
        refine GoH.v (Vop.ld rfl rfl rfl rfl Tryd.isAgg37 (fun w _ hS => (SlU.ex0 hrow.at_ hS.ext).at (k) hkr)) ?_
        refine gBi bOr ?_; refine gAs ?_; refine gE (gIb (gR ?_)); refine gMv ?_
        refine GoH.v (Vop.bin rfl rfl rfl rfl (bAdd (by omega)) rfl) ?_
        refine gAs ?_; refine gE ?_
        exact IH2 (j + 1) _ _ hjl (by omega) ⟨rfl, rfl, rfl, rfl, rfl, (by rw [hsc]; rfl), rfl, trivial⟩ (List.Sublist.refl _)
       ·
        cases ‹(!false) = false›
     ·
      have hb0 : gb g j = 0 := by
        rcases gb_cases g j with h | h
        · exact h
        · exact absurd (show ((gb g j : Nat) : Int) = 1 by rw [h]; rfl) (beq_eq_false_iff_ne.1 hc)
      rw [if_neg (by rw [hb0]; decide)] at hsc
      refine gNo ?_; refine gPf ?_; refine gE (GoH.condF rfl (gK (gS (gR ?_))))
      iterate 2 refine gMv ?_
      refine GoH.v (Vop.bin rfl rfl rfl rfl (bShrN (j := j) rfl (by omega) (by omega)) rfl) ?_
      refine GoH.v (Vop.bin rfl rfl rfl rfl bRem2N rfl) ?_
      refine GoH.v (Vop.bin rfl rfl rfl rfl (bEqV (v := false) (show ((((gb g j : Nat) : Int)) == 1) = false by rw [hb0]; rfl)) rfl) ?_
      refine gMv ?_
      iterate 2 refine gNo ?_
      refine gPf ?_; refine gE (GoH.condF rfl (gK (gIb (gR ?_)))); refine gMv ?_
      refine GoH.v (Vop.bin rfl rfl rfl rfl (bAdd (by omega)) rfl) ?_
      refine gAs ?_; refine gE ?_
      exact IH2 (j + 1) _ _ hjl (by omega) ⟨rfl, rfl, rfl, rfl, rfl, (by rw [hsc]; rfl), rfl, trivial⟩ (List.Sublist.refl _)
    ·
     have hge : ¬ j < m.rows.length := by simpa using hc
     obtain rfl : j = m.rows.length := by omega
     have hnx : joinW m.rel g k m.rows.length = (joinL n m.rel g)[k]'(by omega) := by simp [joinL, joinTo, hrl]
     rw [hnx]
     refine GoH.exit rfl (gR ?_)
     iterate 2 refine gMv ?_
     refine GoH.bs1 (v := U ((joinL n m.rel g)[k]'(by omega))) rfl rfl rfl rfl Tryd.underlying32 hi hz hsz rfl rfl (fun b82 => ?_)
     refine GoH.appE U (xs := (joinL n m.rel g).take k) (sp := sp) (news := [(joinL n m.rel g)[k]'(by omega)]) (spn := []) rfl rfl rfl rfl rfl Tryd.underlying32 hi hz hsz rfl hq 1 rfl 0 rfl hcap rfl (by decide) (fun _ => rfl) (by unfold maxLen; rw [hlk]; omega) (by rw [hby, hlk]; omega) (fun b' sp' cap' hlen2 => ?_)
     rw [← List.take_succ_eq_append_getElem (by omega : k < (joinL n m.rel g).length)] at *
     refine gAs ?_; refine gE (gIb (gR ?_)); refine gMv ?_
     refine GoH.v (Vop.bin rfl rfl rfl rfl (bAdd (by omega)) rfl) ?_
     refine gAs ?_; refine gE ?_
     exact IH (k + 1, some b', cap', sp') _ _ ⟨hlt, (fun e => by cases e), hlen2⟩ (by dsimp only; omega) ⟨rfl, rfl, rfl, rfl, rfl, trivial⟩ (.cons _ (List.Sublist.refl _))
  ·
   have hge : ¬ k < n := by have : ¬ (k : Int) < m.n := by simpa using hc
                            omega
   obtain rfl : k = n := by omega
   have htk : (joinL k m.rel g).take k = joinL k m.rel g := List.take_of_length_le (by rw [joinL, joinTo_len]; exact Nat.le_refl _)
   rw [htk] at hq hcap ⊢
   refine GoH.exit rfl (gS (gR ?_))
   refine gMv ?_; refine gAs ?_; refine gE ?_
   refine GoH.ret Tryd.f139 Tryd.func139 rfl (fun w' hS => ?_)
   exact ⟨hS.ext, q, cap, sp, rfl, hq, hcap, fun b' hb => by subst hb; exact ⟨hS.fresh (j := 0) rfl, hS.get (j := 0) rfl⟩⟩
theorem rjoinM_c (m : MV) (n g : Nat) (w : World) (hm : m.At w) (hv : ValM m.n m.val m.rel) (hn : m.n = (n : Int)) (hg : 1 ≤ g ∧ g < 2 ^ m.rows.length) :
    Cn Tryd.prog 121 [m.v, .int .i64 g] w (fun v w' => Own w w' v (joinL n m.rel g)) := by
  refine Cn.of Tryd.func121 rfl rfl ?_
  refine gS (gR ?_)
  refine GoH.bx rfl rfl rfl rfl (fun b2 => ?_)
  refine gAs ?_; refine gE (gS (gR ?_))
  refine GoH.v (Vop.ldB rfl rfl rfl rfl Tryd.isAgg35 0 rfl Tryd.sizeOf35 rfl) ?_
  refine gMv ?_
  refine GoH.callM _ rfl rfl rfl rfl rfl (fun _ _ => Tryd.call139 _ _) (fun w _ hS => rjoin_c m n g w (hm.ex0 hS.ext) hv hn hg) ?_
  rintro v w1 w2 Y' hS he ho
  obtain ⟨q, cap, sp, rfl, hq, hcap, hS'⟩ := gainO hS he ho
  refine ⟨_, hS', ?_⟩
  refine gAs ?_; refine gE ?_
  refine GoH.ret Tryd.f121 Tryd.func121 rfl (fun w' hS => ?_)
  exact ⟨hS.ext, q, cap, sp, rfl, hq, hcap, fun b' hb => by subst hb; exact ⟨hS.fresh (j := 0) rfl, hS.get (j := 0) rfl⟩⟩
end Go.Proofs.YtlihcmknfdckdaaDoor
namespace Go.Proofs.YtlihcmknfdckdaaDoor
open Go.RowKit Go.Proofs.Wit
/-! the reference's checker -/
set_option maxRecDepth 4000 in
theorem wOne_c (m : MV) (n : Nat) (nd : NV) (x y : W64) (w : World) (hm : m.At w) (hv : ValM m.n m.val m.rel) (hn : m.n = (n : Int)) (hf : NdFit m.rows.length m.val.length nd) :
    Cn Tryd.prog 94 [m.v, nd.v, U x, U y] w (fun v _ => v = U (oneW n m.val m.rel nd.op nd.i nd.g x y)) := by
  obtain ⟨op, i, e, g, nx, ny⟩ := nd
  obtain ⟨f1, f13, ff, fa, fg⟩ := hf
  dsimp only at f1 f13 ff fa fg ⊢
  have hn64 := hv.n64
  have hn1 := hv.n1
  have hag := hv.agents
  have hrl : m.rel.length = m.rows.length := by simp [MV.rel]
  have hrow : ∀ (k : Nat) (hk : k < m.rows.length), (m.rows[k]).At w ∧ m.rows[k].xs.length = n := fun k hk => ⟨hm.row m.rows[k] (List.getElem_mem hk), by have := hv.len _ (List.mem_map.2 ⟨m.rows[k], List.getElem_mem hk, rfl⟩ : m.rows[k].xs ∈ m.rel); omega⟩
  refine Cn.of Tryd.func94 rfl rfl ?_
  refine gS (gR ?_)
  refine GoH.bx rfl rfl rfl rfl (fun b4 => ?_)
  refine GoH.bx rfl rfl rfl rfl (fun b5 => ?_)
  refine GoH.v (Vop.asg (v := U 0#64) rfl rfl rfl rfl) ?_
  refine gE (gS (gR ?_)); refine gFp Tryd.underlying35 Tryd.sizeOf3 0 ?_
  refine GoH.v (Vop.ldo (v := .int .i64 m.n) rfl rfl rfl rfl Tryd.isAgg3 1 rfl rfl) ?_
  refine GoH.callP rfl rfl rfl rfl rfl (fun _ _ => Tryd.call22 _ _) (fun w _ hS => (by have := rmAll_c n w (by omega); rw [← hn] at this; exact this)) ?_
  refine gAs ?_; refine gE (gS (gS (gR ?_))); refine gFp Tryd.underlying80 Tryd.sizeOf3 0 ?_; refine gLo Tryd.isAgg3 0 ?_; refine gBi bEq ?_; refine gE ?_
  refine GoH.cond rfl (fun hc => ?_) (fun hc => ?_)
  ·
   have h3 : op = 3 := by simpa using hc
   obtain ⟨hi0, hi1⟩ := ff h3
   obtain ⟨i, rfl⟩ := Int.eq_ofNat_of_zero_le hi0
   rw [Int.toNat_natCast] at hi1
   refine gS (gR ?_); refine gFp Tryd.underlying35 Tryd.sizeOf32 1 ?_
   refine GoH.v (Vop.ldo (v := .slice m.va m.val.length m.vc) rfl rfl rfl rfl Tryd.isAgg32 1 rfl rfl) ?_
   refine gFp Tryd.underlying80 Tryd.sizeOf3 1 ?_; refine gLo Tryd.isAgg3 0 ?_
   refine GoH.v (Vop.idx rfl rfl rfl rfl rfl Tryd.underlying32 Tryd.sizeOf37 ⟨_, hm.val⟩ (by simp) (i) ⟨rfl, by simpa using hi1⟩) ?_
   refine GoH.v (Vop.ld rfl rfl rfl rfl Tryd.isAgg37 (fun w _ hS => (SlU.ex0 hm.val hS.ext).at (i) hi1)) ?_
   refine gAs ?_; refine gE ?_
   refine GoH.ret Tryd.f94 Tryd.func94 rfl (fun w' hS => ?_)
   exact ⟨hS.ext, by rw [oneW, if_pos h3]; rfl⟩
  ·
   have h3 : ¬ op = 3 := by simpa using hc
   refine gK (gS (gS (gR ?_))); refine gFp Tryd.underlying80 Tryd.sizeOf3 0 ?_; refine gLo Tryd.isAgg3 0 ?_; refine gBi bLe ?_; refine gE ?_
   refine GoH.cond rfl (fun hc => ?_) (fun hc => ?_)
   ·
    have h8 : op ≤ 8 := by simpa using hc
    refine gS (gR ?_); refine gFp Tryd.underlying80 Tryd.sizeOf3 0 ?_; refine gLo Tryd.isAgg3 0 ?_
    iterate 3 refine gMv ?_
    refine GoH.callP rfl rfl rfl rfl rfl (fun _ _ => Tryd.call119 _ _) (fun w _ hS => (by exact wBool_c op x y (allW n) w)) ?_
    refine gAs ?_; refine gE ?_
    refine GoH.ret Tryd.f94 Tryd.func94 rfl (fun w' hS => ?_)
    exact ⟨hS.ext, by rw [oneW, if_neg h3, if_pos h8]; rfl⟩
   ·
    have h8 : ¬ op ≤ 8 := by simpa using hc
    refine gK (gS (gS (gR ?_))); refine gFp Tryd.underlying80 Tryd.sizeOf3 0 ?_; refine gLo Tryd.isAgg3 0 ?_; refine gBi bEq ?_; refine gE ?_
    refine GoH.cond rfl (fun hc => ?_) (fun hc => ?_)
    ·
     have h9 : op = 9 := by simpa using hc
     obtain ⟨hi0, hi1⟩ := fa (.inl h9)
     obtain ⟨i, rfl⟩ := Int.eq_ofNat_of_zero_le hi0
     rw [Int.toNat_natCast] at hi1
     refine gS ?_
     refine GoH.draw 11 mixed rfl ?_
     refine rFp Tryd.underlying35 Tryd.sizeOf33 2 ?_
     refine RdGo.v (Vop.ldo (v := .slice m.ra m.rows.length m.rc) rfl rfl rfl rfl Tryd.isAgg33 1 rfl rfl) ?_
     refine rFp Tryd.underlying80 Tryd.sizeOf3 1 ?_; refine rLo Tryd.isAgg3 0 ?_
     refine RdGo.v (Vop.idx rfl rfl rfl rfl rfl Tryd.underlying33 Tryd.sizeOf32 ⟨_, hm.rel⟩ (by simp) (i) ⟨rfl, by simpa using hi1⟩) ?_
     refine RdGo.v (Vop.ld rfl rfl rfl rfl Tryd.isAgg32 (fun w _ hS => (SlR.ex0 hm.rel hS.ext).at (i) hi1)) ?_
     refine rFp Tryd.underlying35 Tryd.sizeOf3 0 ?_
     refine RdGo.v (Vop.ldo (v := .int .i64 m.n) rfl rfl rfl rfl Tryd.isAgg3 1 rfl rfl) ?_
     refine rMv ?_
     refine RdGo.callP rfl rfl rfl rfl rfl (fun _ _ => Tryd.call120 _ _) (fun w _ hS => (by have := wBox_c m.rows[i].a m.rows[i].cap m.rows[i].xs n x w ((hrow i hi1).1.ex0 hS.ext).at_ (hrow i hi1).2 (by omega); rw [← hn] at this; exact this)) ?_
     refine rAs ?_
     refine RdGo.nil ?_
     refine gE ?_
     refine GoH.ret Tryd.f94 Tryd.func94 rfl (fun w' hS => ?_)
     exact ⟨hS.ext, by rw [oneW, if_neg h3, if_neg h8, if_pos h9, Int.toNat_natCast, relD hi1]; rfl⟩
    ·
     have h9 : ¬ op = 9 := by simpa using hc
     refine gK (gS (gS (gR ?_))); refine gFp Tryd.underlying80 Tryd.sizeOf3 0 ?_; refine gLo Tryd.isAgg3 0 ?_; refine gBi bEq ?_; refine gE ?_
     refine GoH.cond rfl (fun hc => ?_) (fun hc => ?_)
     ·
      have h10 : op = 10 := by simpa using hc
      obtain ⟨hi0, hi1⟩ := fa (.inr h10)
      obtain ⟨i, rfl⟩ := Int.eq_ofNat_of_zero_le hi0
      rw [Int.toNat_natCast] at hi1
      refine gS ?_
      refine GoH.draw 15 mixed rfl ?_
      refine rMv ?_; refine rFp Tryd.underlying35 Tryd.sizeOf33 2 ?_
      refine RdGo.v (Vop.ldo (v := .slice m.ra m.rows.length m.rc) rfl rfl rfl rfl Tryd.isAgg33 1 rfl rfl) ?_
      refine rFp Tryd.underlying80 Tryd.sizeOf3 1 ?_; refine rLo Tryd.isAgg3 0 ?_
      refine RdGo.v (Vop.idx rfl rfl rfl rfl rfl Tryd.underlying33 Tryd.sizeOf32 ⟨_, hm.rel⟩ (by simp) (i) ⟨rfl, by simpa using hi1⟩) ?_
      refine RdGo.v (Vop.ld rfl rfl rfl rfl Tryd.isAgg32 (fun w _ hS => (SlR.ex0 hm.rel hS.ext).at (i) hi1)) ?_
      refine rFp Tryd.underlying35 Tryd.sizeOf3 0 ?_
      refine RdGo.v (Vop.ldo (v := .int .i64 m.n) rfl rfl rfl rfl Tryd.isAgg3 1 rfl rfl) ?_
      iterate 2 refine rMv ?_
      refine rBi bAndNot ?_
      refine RdGo.callP rfl rfl rfl rfl rfl (fun _ _ => Tryd.call120 _ _) (fun w _ hS => (by have := wBox_c m.rows[i].a m.rows[i].cap m.rows[i].xs n (allW n &&& ~~~x) w ((hrow i hi1).1.ex0 hS.ext).at_ (hrow i hi1).2 (by omega); rw [← hn] at this; exact this)) ?_
      refine rBi bAndNot ?_; refine rAs ?_
      refine RdGo.nil ?_
      refine gE ?_
      refine GoH.ret Tryd.f94 Tryd.func94 rfl (fun w' hS => ?_)
      exact ⟨hS.ext, by rw [oneW, if_neg h3, if_neg h8, if_neg h9, if_pos h10, Int.toNat_natCast, relD hi1]; rfl⟩
     ·
      have h10 : ¬ op = 10 := by simpa using hc
      obtain ⟨hg1, hg2⟩ := fg (by omega)
      obtain ⟨g, rfl⟩ := Int.eq_ofNat_of_zero_le (by omega : 0 ≤ g)
      rw [Int.toNat_natCast] at hg2
      have hg3 : 1 ≤ g := by omega
      refine gK (gS (gS (gR ?_))); refine gFp Tryd.underlying80 Tryd.sizeOf3 0 ?_; refine gLo Tryd.isAgg3 0 ?_; refine gBi bEq ?_; refine gE ?_
      refine GoH.cond rfl (fun hc => ?_) (fun hc => ?_)
      ·
       have h11 : op = 11 := by simpa using hc
       refine gS ?_
       refine GoH.drawXR [0, 1, 2, 4, 5, 6] 3 [7, 8] mixed rfl ?_
       refine RdXR.v (fun _ => (Vop.ldB rfl rfl rfl rfl Tryd.isAgg35 1 rfl Tryd.sizeOf35 rfl)) ?_
       refine RdXR.v (fun _ => (Vop.fldP rfl rfl rfl rfl Tryd.underlying80 rfl (by exact Tryd.sizeOf3) 3 rfl)) ?_
       refine RdXR.v (fun _ => (Vop.ldo rfl rfl rfl rfl Tryd.isAgg3 0 rfl rfl)) ?_
       refine RdXR.v (fun _ => (Vop.fldP rfl rfl rfl rfl Tryd.underlying35 rfl (by exact Tryd.sizeOf3) 0 rfl)) ?_
       refine RdXR.v (fun _ => (Vop.ldo (v := .int .i64 m.n) rfl rfl rfl rfl Tryd.isAgg3 1 rfl rfl)) ?_
       refine RdXR.v (fun _ => (Vop.mv rfl rfl rfl rfl)) ?_
       refine RdXR.call _ rfl rfl rfl rfl rfl (fun _ _ => Tryd.call121 _ _) (fun w _ hS => (by exact rjoinM_c m n g w (hm.ex0 hS.ext) hv hn ⟨hg3, hg2⟩)) ?_
       rintro v w1 w2 Y' hS he ho
       obtain ⟨q, cap, sp, rfl, hq, hcap, hS'⟩ := gainO hS he ho
       refine ⟨_, hS'.atEnd, ?_⟩
       refine GoH.callP rfl rfl rfl rfl rfl (fun _ _ => Tryd.call120 _ _) (fun w _ hS => (by have := wBox_c (q.map (fun b => ⟨b, 0, none⟩)) cap (joinL n m.rel g) n x w (sluAt hS 2 rfl (fun e => hq e)) joinTo_len (by omega); rw [← hn] at this; exact this)) ?_
       refine gAs ?_; refine gE ?_
       refine GoH.ret Tryd.f94 Tryd.func94 rfl (fun w' hS => ?_)
       exact ⟨hS.ext, by rw [oneW, if_neg h3, if_neg h8, if_neg h9, if_neg h10, if_pos h11, Int.toNat_natCast]; rfl⟩
      ·
       have h11 : ¬ op = 11 := by simpa using hc
       refine gK (gS (gS (gR ?_))); refine gFp Tryd.underlying80 Tryd.sizeOf3 0 ?_; refine gLo Tryd.isAgg3 0 ?_; refine gBi bEq ?_; refine gE ?_
       refine GoH.cond rfl (fun hc => ?_) (fun hc => ?_)
       ·
        have h12 : op = 12 := by simpa using hc
        refine gS ?_
        refine GoH.drawXR [0, 1, 2, 4, 5, 6] 3 [7, 8] mixed rfl ?_
        refine RdXR.v (fun _ => (Vop.ldB rfl rfl rfl rfl Tryd.isAgg35 1 rfl Tryd.sizeOf35 rfl)) ?_
        refine RdXR.v (fun _ => (Vop.fldP rfl rfl rfl rfl Tryd.underlying80 rfl (by exact Tryd.sizeOf3) 3 rfl)) ?_
        refine RdXR.v (fun _ => (Vop.ldo rfl rfl rfl rfl Tryd.isAgg3 0 rfl rfl)) ?_
        refine RdXR.v (fun _ => (Vop.fldP rfl rfl rfl rfl Tryd.underlying35 rfl (by exact Tryd.sizeOf3) 0 rfl)) ?_
        refine RdXR.v (fun _ => (Vop.ldo (v := .int .i64 m.n) rfl rfl rfl rfl Tryd.isAgg3 1 rfl rfl)) ?_
        refine RdXR.v (fun _ => (Vop.mv rfl rfl rfl rfl)) ?_
        refine RdXR.call _ rfl rfl rfl rfl rfl (fun _ _ => Tryd.call122 _ _) (fun w _ hS => (by exact rmeetM_c m n g w (hm.ex0 hS.ext) hv hn ⟨hg3, hg2⟩)) ?_
        rintro v w1 w2 Y' hS he ho
        obtain ⟨q, cap, sp, rfl, hq, hcap, hS'⟩ := gainO hS he ho
        refine ⟨_, hS'.atEnd, ?_⟩
        refine GoH.callP rfl rfl rfl rfl rfl (fun _ _ => Tryd.call120 _ _) (fun w _ hS => (by have := wBox_c (q.map (fun b => ⟨b, 0, none⟩)) cap (meetL n m.rel g) n x w (sluAt hS 2 rfl (fun e => hq e)) meetTo_len (by omega); rw [← hn] at this; exact this)) ?_
        refine gAs ?_; refine gE ?_
        refine GoH.ret Tryd.f94 Tryd.func94 rfl (fun w' hS => ?_)
        exact ⟨hS.ext, by rw [oneW, if_neg h3, if_neg h8, if_neg h9, if_neg h10, if_neg h11, if_pos h12, Int.toNat_natCast]; rfl⟩
       ·
        have h12 : ¬ op = 12 := by simpa using hc
        refine gK (gS ?_)
        refine GoH.drawXR [0, 1, 2, 4, 5, 6, 7] 3 [8, 9] mixed rfl ?_
        refine RdXR.v (fun _ => (Vop.ldB rfl rfl rfl rfl Tryd.isAgg35 1 rfl Tryd.sizeOf35 rfl)) ?_
        refine RdXR.v (fun _ => (Vop.fldP rfl rfl rfl rfl Tryd.underlying80 rfl (by exact Tryd.sizeOf3) 3 rfl)) ?_
        refine RdXR.v (fun _ => (Vop.ldo rfl rfl rfl rfl Tryd.isAgg3 0 rfl rfl)) ?_
        refine RdXR.v (fun _ => (Vop.fldP rfl rfl rfl rfl Tryd.underlying35 rfl (by exact Tryd.sizeOf3) 0 rfl)) ?_
        refine RdXR.v (fun _ => (Vop.ldo (v := .int .i64 m.n) rfl rfl rfl rfl Tryd.isAgg3 1 rfl rfl)) ?_
        iterate 2 refine RdXR.v (fun _ => (Vop.mv rfl rfl rfl rfl)) ?_
        refine RdXR.call _ rfl rfl rfl rfl rfl (fun _ _ => Tryd.call121 _ _) (fun w _ hS => (by exact rjoinM_c m n g w (hm.ex0 hS.ext) hv hn ⟨hg3, hg2⟩)) ?_
        rintro v w1 w2 Y' hS he ho
        obtain ⟨q, cap, sp, rfl, hq, hcap, hS'⟩ := gainO hS he ho
        refine ⟨_, hS'.atEnd, ?_⟩
        refine GoH.callP rfl rfl rfl rfl rfl (fun _ _ => Tryd.call123 _ _) (fun w _ hS => (by have := wCommon_c (q.map (fun b => ⟨b, 0, none⟩)) cap (joinL n m.rel g) n x y w (sluAt hS 2 rfl (fun e => hq e)) joinTo_len (by omega); rw [← hn] at this; exact this)) ?_
        refine gAs ?_; refine gE ?_
        refine GoH.ret Tryd.f94 Tryd.func94 rfl (fun w' hS => ?_)
        exact ⟨hS.ext, by rw [oneW, if_neg h3, if_neg h8, if_neg h9, if_neg h10, if_neg h11, if_neg h12, Int.toNat_natCast]; rfl⟩
theorem wCheck_c (m : MV) (a : Option Addr) (ca : Nat) (f : List NV) (w : World) (hm : m.At w) (ha : FA w a f) (hl : f.length ≤ maxLen) :
    Cn Tryd.prog 55 [m.v, .slice a f.length ca, .int .i64 15] w (fun v _ => v = .int .i64 (holdE m.n m.val m.rel f)) := by
  have hrl : m.rel.length = m.rows.length := by simp [MV.rel]
  have hfl := frgL_lt (compF f)
  refine Cn.of Tryd.func55 rfl rfl ?_
  refine gS (gR ?_)
  refine GoH.bx rfl rfl rfl rfl (fun b3 => ?_)
  refine gAs ?_; refine gE (gS (gR ?_))
  refine GoH.v (Vop.ldB rfl rfl rfl rfl Tryd.isAgg35 0 rfl Tryd.sizeOf35 rfl) ?_
  refine GoH.callP rfl rfl rfl rfl rfl (fun _ _ => Tryd.call49 _ _) (fun w _ hS => (by exact rmCheck_c m w (hm.ex0 hS.ext))) ?_
  refine gAs ?_; refine gE (gS (gS (gR ?_))); refine gMv ?_; refine gBi bNe ?_; refine gE ?_
  refine GoH.cond rfl (fun hc => ?_) (fun hc => ?_)
  ·
   have h1 : checkM m.n m.val m.rel ≠ 0 := by simpa using hc
   refine gS (gR ?_); refine gMv ?_; refine gAs ?_; refine gE ?_
   refine GoH.ret Tryd.f55 Tryd.func55 rfl (fun w' hS => ?_)
   exact ⟨hS.ext, by rw [holdE, if_pos h1]; rfl⟩
  ·
   have h1 : ¬ checkM m.n m.val m.rel ≠ 0 := by simpa using hc
   refine gK (gS (gR ?_)); refine gMv ?_
   refine GoH.callP rfl rfl rfl rfl rfl (fun _ _ => Tryd.call25 _ _) (fun w _ hS => (by exact rchk_c a ca f w (ha.ex0 hS.ext) hl)) ?_
   refine gAs ?_; refine gE (gS (gS (gR ?_))); refine gMv ?_; refine gBi bNe ?_; refine gE ?_
   refine GoH.cond rfl (fun hc => ?_) (fun hc => ?_)
   ·
    have h2 : chkF f ≠ 0 := by simpa using hc
    refine gS (gR ?_); refine gMv ?_; refine gAs ?_; refine gE ?_
    refine GoH.ret Tryd.f55 Tryd.func55 rfl (fun w' hS => ?_)
    exact ⟨hS.ext, by rw [holdE, if_neg h1, if_pos h2]; rfl⟩
   ·
    have h2 : ¬ chkF f ≠ 0 := by simpa using hc
    refine gK (gS (gS (gR ?_))); refine gMv ?_
    refine GoH.callP rfl rfl rfl rfl rfl (fun _ _ => Tryd.call96 _ _) (fun w _ hS => (by exact rfrags_c a ca f w (ha.ex0 hS.ext) hl)) ?_
    refine gMv ?_
    refine GoH.v (Vop.bin rfl rfl rfl rfl (bAndNotI hfl (by omega : (15 : Nat) < 512)) rfl) ?_
    refine gBi bNe ?_; refine gE ?_
    refine GoH.cond rfl (fun hc => ?_) (fun hc => ?_)
    ·
     have h3 : andN (frgL (compF f)) 15 ≠ 0 := by simpa using hc
     refine gS (gR ?_); refine gAs ?_; refine gE ?_
     refine GoH.ret Tryd.f55 Tryd.func55 rfl (fun w' hS => ?_)
     exact ⟨hS.ext, by rw [holdE, if_neg h1, if_neg h2, if_pos h3]; rfl⟩
    ·
     have h3 : ¬ andN (frgL (compF f)) 15 ≠ 0 := by simpa using hc
     refine gK (gS (gS (gR ?_))); refine gMv ?_; refine gFp Tryd.underlying35 Tryd.sizeOf33 2 ?_
     refine GoH.v (Vop.ldo (v := .slice m.ra m.rows.length m.rc) rfl rfl rfl rfl Tryd.isAgg33 0 rfl rfl) ?_
     refine gBl Tryd.underlying33 ?_; refine gFp Tryd.underlying35 Tryd.sizeOf32 1 ?_
     refine GoH.v (Vop.ldo (v := .slice m.va m.val.length m.vc) rfl rfl rfl rfl Tryd.isAgg32 0 rfl rfl) ?_
     refine gBl Tryd.underlying32 ?_
     refine GoH.callP rfl rfl rfl rfl rfl (fun _ _ => Tryd.call23 _ _) (fun w _ hS => (by exact rfitsF_c a ca f m.rows.length m.val.length w (ha.ex0 hS.ext) hl)) ?_
     refine gUn uNot ?_; refine gE ?_
     refine GoH.cond rfl (fun hc => ?_) (fun hc => ?_)
     ·
      have h4 : fitB f m.rel.length m.val.length = false := by rw [hrl]; simpa using hc
      refine gS (gR ?_); refine gAs ?_; refine gE ?_
      refine GoH.ret Tryd.f55 Tryd.func55 rfl (fun w' hS => ?_)
      exact ⟨hS.ext, by rw [holdE, if_neg h1, if_neg h2, if_neg h3, if_pos h4]; rfl⟩
     ·
      have h4 : ¬ fitB f m.rel.length m.val.length = false := by rw [hrl]; simpa using hc
      refine gK (gS (gR ?_)); refine gAs ?_; refine gE ?_
      refine GoH.ret Tryd.f55 Tryd.func55 rfl (fun w' hS => ?_)
      exact ⟨hS.ext, by rw [holdE, if_neg h1, if_neg h2, if_neg h3, if_neg h4]; rfl⟩
end Go.Proofs.YtlihcmknfdckdaaDoor
namespace Go.Proofs.YtlihcmknfdckdaaDoor
open Go.RowKit Go.Proofs.Wit
/-! the reference's checker: all nodes -/
theorem wfits_c (m : MV) (a : Option Addr) (ca : Nat) (f : List NV) (i : Nat) (w : World) (_hm : m.At w) (ha : FA w a f) (hl : f.length ≤ maxLen) (hy1 : andN (frgL (compF (subF f i))) 15 = 0) (hy2 : fitB (subF f i) m.rows.length m.val.length = true) (hsl : (subF f i).length ≤ 200) :
    Cn Tryd.prog 91 [m.v, .slice a f.length ca, .int .i64 i] w (fun v _ => v = .bool true) := by
  have hfl := frgL_lt (compF (subF f i))
  have hsm : (subF f i).length ≤ maxLen := by unfold maxLen; omega
  refine Cn.of Tryd.func91 rfl rfl ?_
  refine gS (gR ?_)
  refine GoH.bx rfl rfl rfl rfl (fun b3 => ?_)
  refine gAs ?_; refine gE (gS (gR ?_))
  iterate 2 refine gMv ?_
  refine GoH.callM _ rfl rfl rfl rfl rfl (fun _ _ => Tryd.call95 _ _) (fun w _ hS => rsub_c a ca f i w (ha.ex0 hS.ext) hl) ?_
  rintro v w1 w2 Y' hS he ho
  obtain ⟨q, cap, sp, rfl, hq, hcap, hS'⟩ := gainN hS he ho
  refine ⟨_, hS', ?_⟩
  refine gAs ?_; refine gE (gS (gR ?_)); refine gMv ?_
  refine GoH.callP rfl rfl rfl rfl rfl (fun _ _ => Tryd.call96 _ _) (fun w _ hS => (by exact rfrags_c (q.map (fun b => ⟨b, 0, none⟩)) cap (subF f i) w (faAt hS 0 rfl (fun e => (hq e).1)) hsm)) ?_
  refine GoH.v (Vop.bin rfl rfl rfl rfl (bAndNotI hfl (by omega : (15 : Nat) < 512)) rfl) ?_
  refine GoH.v (Vop.bin rfl rfl rfl rfl (bEqV (v := true) (by rw [hy1]; rfl)) rfl) ?_
  iterate 2 refine gMv ?_
  refine gFp Tryd.underlying35 Tryd.sizeOf33 2 ?_
  refine GoH.v (Vop.ldo (v := .slice m.ra m.rows.length m.rc) rfl rfl rfl rfl Tryd.isAgg33 1 rfl rfl) ?_
  refine gBl Tryd.underlying33 ?_; refine gFp Tryd.underlying35 Tryd.sizeOf32 1 ?_
  refine GoH.v (Vop.ldo (v := .slice m.va m.val.length m.vc) rfl rfl rfl rfl Tryd.isAgg32 1 rfl rfl) ?_
  refine gBl Tryd.underlying32 ?_
  refine GoH.callP rfl rfl rfl rfl rfl (fun _ _ => Tryd.call23 _ _) (fun w _ hS => (by have := rfitsF_c (q.map (fun b => ⟨b, 0, none⟩)) cap (subF f i) m.rows.length m.val.length w (faAt hS 0 rfl (fun e => (hq e).1)) hsm; rw [hy2] at this; exact this)) ?_
  refine gPt ?_; refine gAs ?_; refine gE ?_
  refine GoH.ret Tryd.f91 Tryd.func91 rfl (fun w' hS => ?_)
  exact ⟨hS.ext, rfl⟩
def setsR (m : MV) (n : Nat) (g : List NV) : List W64 := if holdE m.n m.val m.rel g = 0 then setsL n m.val m.rel g g.length else []
def SetsIs (w w' : World) (v : Value) (m : MV) (n : Nat) (g : List NV) : Prop := ∃ sv, v = .tuple #[sv, .int .i64 (holdE m.n m.val m.rel g)] ∧ Own w w' sv (setsR m n g)
set_option maxRecDepth 8000 in
theorem wSets_c (m : MV) (n : Nat) (a : Option Addr) (ca : Nat) (g : List NV) (w : World) (hm : m.At w) (hn : m.n = (n : Int)) (ha : FA w a g) (hgl : g.length ≤ maxLen) (hcan : chkF g = 0 → CanF g) :
    Cn Tryd.prog 53 [m.v, .slice a g.length ca] w (fun v w' => SetsIs w w' v m n g) := by
  obtain ⟨i0, hi, hz, hsz, hby⟩ := info_parts infoU
  have hrl : m.rel.length = m.rows.length := by simp [MV.rel]
  refine Cn.of Tryd.func53 rfl rfl ?_
  refine gS (gR ?_)
  refine GoH.bx rfl rfl rfl rfl (fun b2 => ?_)
  iterate 2 refine gAs ?_
  refine gE (gS (gR ?_))
  refine GoH.v (Vop.ldB rfl rfl rfl rfl Tryd.isAgg35 0 rfl Tryd.sizeOf35 rfl) ?_
  refine gMv ?_
  refine GoH.callP rfl rfl rfl rfl rfl (fun _ _ => Tryd.call55 _ _) (fun w _ hS => (by exact wCheck_c m a ca g w (hm.ex0 hS.ext) (ha.ex0 hS.ext) hgl)) ?_
  refine gAs ?_; refine gE (gS (gS (gR ?_))); refine gMv ?_; refine gBi bNe ?_; refine gE ?_
  refine GoH.cond rfl (fun hc => ?_) (fun hc => ?_)
  ·
   have h0 : holdE m.n m.val m.rel g ≠ 0 := by simpa using hc
   refine gS (gR ?_); refine gMv ?_
   iterate 2 refine gAs ?_
   refine gE ?_
   refine GoH.ret Tryd.f53 Tryd.func53 rfl (fun w' hS => ?_)
   exact ⟨hS.ext, _, rfl, by rw [setsR, if_neg h0]; exact own_nil _ _⟩
  ·
   have h0 : holdE m.n m.val m.rel g = 0 := by simpa using hc
   obtain ⟨hv, hck, hst⟩ := holdE_zero.1 h0
   rw [hrl] at hst
   have hC := hcan hck
   have hglen := hC.len
   refine gK (gS (gR ?_)); refine gAs ?_; refine gE (gS (gS (gR ?_))); refine gAs ?_; refine gE (gB ?_)
   refine GoH.addNone (ob U 37 [] []) ?_
   refine GoH.loop (σ := Nat × Option Nat × Nat × List Value) (fun z => [(1, .slice a g.length ca), (2, .pointer (some ⟨b2, 0, none⟩)), (7, osv z.2.1 (setsL n m.val m.rel g z.1).length z.2.2.1), (8, .int .i64 z.1)]) (fun z => [(z.2.1, ob U 37 (setsL n m.val m.rel g z.1) z.2.2.2), (some b2, .cells m.v.cells 35 (0, 0))])
     (fun z => z.1 ≤ g.length ∧ (z.2.1 = none → (setsL n m.val m.rel g z.1).length = 0 ∧ z.2.2.1 = 0) ∧ ((setsL n m.val m.rel g z.1).map U ++ z.2.2.2).length = z.2.2.1) (fun z => g.length - z.1) (0, none, 0, [])
     ⟨Nat.zero_le _, fun _ => ⟨rfl, rfl⟩, rfl⟩ ⟨rfl, rfl, rfl, rfl, trivial⟩ (List.Sublist.refl _) (fun z hI IH => ?_)
   obtain ⟨k, q, cap, sp⟩ := z
   obtain ⟨hk, hq, hcap⟩ := hI
   dsimp only at hk hq hcap IH ⊢
   refine gS (gS (gR ?_))
   iterate 2 refine gMv ?_
   refine gBl Tryd.underlying23 ?_; refine gBi bLt ?_; refine gE ?_
   refine GoH.cond rfl (fun hc => ?_) (fun hc => ?_)
   ·
    have hlt : k < g.length := by simpa using hc
    have hy := hC.stat hst hlt
    have hsub := (hC.sub hlt).1.len
    have hnd := hC.node hst hlt
    have hord := hC.nodes.ord k hlt
    have hsl : (setsL n m.val m.rel g k).length = k := setsL_len
    have hsn := semT_node (n := n) (val := m.val) (rel := m.rel) hC.nodes hlt
    refine gK (gS (gB (gS (gS (gR ?_)))))
    refine GoH.v (Vop.ldB rfl rfl rfl rfl Tryd.isAgg35 1 rfl Tryd.sizeOf35 rfl) ?_
    iterate 2 refine gMv ?_
    refine GoH.callP rfl rfl rfl rfl rfl (fun _ _ => Tryd.call91 _ _) (fun w _ hS => (by exact wfits_c m a ca g k w (hm.ex0 hS.ext) (ha.ex0 hS.ext) hgl hy.1 hy.2 hsub)) ?_
    refine gUn uNot ?_; refine gE (GoH.condF rfl (gK (gS (gR ?_))))
    iterate 2 refine GoH.v (Vop.asg (v := U 0#64) rfl rfl rfl rfl) ?_
    refine gE (gS (gS (gR ?_)))
    iterate 2 refine gMv ?_
    refine GoH.v (Vop.idxN rfl rfl rfl rfl rfl Tryd.underlying23 Tryd.sizeOf80 ⟨_, (ha).at_⟩ (flat_len (enc := NV.cells) (sz := 6) (fun _ => rfl)) (by decide) (k) ⟨rfl, hlt⟩) ?_
    refine GoH.v (Vop.fldA rfl rfl rfl rfl Tryd.underlying80 rfl Tryd.sizeOf3 ((k) * 6 + 0) rfl) ?_
    refine GoH.v (Vop.ld rfl rfl rfl rfl Tryd.isAgg3 (fun w _ hS => Sl.fld (enc := NV.cells) (sz := 6) ((ha).ex0 hS.ext).at_ (fun _ => rfl) hlt rfl)) ?_
    refine GoH.callP rfl rfl rfl rfl rfl (fun _ _ => Tryd.call92 _ _) (fun w _ hS => (by exact usesX_c g[k].op w)) ?_
    refine gE ?_
    refine GoH.cond rfl (fun hc => ?_) (fun hc => ?_)
    ·
     have hx := hord.1 hc
     rw [if_pos hc] at hsn
     obtain ⟨b, rfl⟩ : ∃ b, q = some b := by
       cases q with
       | none => have := (hq rfl).1; omega
       | some b => exact ⟨b, rfl⟩
     have hget : (setsL n m.val m.rel g k).getD g[k].x.toNat 0#64 = semT n m.val m.rel (treeAt g g[k].x.toNat) := setsL_get (by omega)
     refine gR ?_
     iterate 3 refine gMv ?_
     refine GoH.v (Vop.idxN rfl rfl rfl rfl rfl Tryd.underlying23 Tryd.sizeOf80 ⟨_, (ha).at_⟩ (flat_len (enc := NV.cells) (sz := 6) (fun _ => rfl)) (by decide) (k) ⟨rfl, hlt⟩) ?_
     refine GoH.v (Vop.fldA rfl rfl rfl rfl Tryd.underlying80 rfl Tryd.sizeOf3 ((k) * 6 + 4) rfl) ?_
     refine GoH.v (Vop.ld rfl rfl rfl rfl Tryd.isAgg3 (fun w _ hS => Sl.fld (enc := NV.cells) (sz := 6) ((ha).ex0 hS.ext).at_ (fun _ => rfl) hlt rfl)) ?_
     refine GoH.v (Vop.idxS rfl rfl rfl rfl rfl Tryd.underlying32 Tryd.sizeOf37 (g[k].x.toNat) ⟨(Int.toNat_of_nonneg hx.1).symm, (by rw [hsl]; omega)⟩) ?_
     refine GoH.v (Vop.ldE U 0#64 rfl rfl rfl rfl Tryd.isAgg37 0 rfl (by rw [hsl]; omega)) ?_
     refine gAs ?_; refine gE (gS (gS (gR ?_)))
     iterate 2 refine gMv ?_
     refine GoH.v (Vop.idxN rfl rfl rfl rfl rfl Tryd.underlying23 Tryd.sizeOf80 ⟨_, (ha).at_⟩ (flat_len (enc := NV.cells) (sz := 6) (fun _ => rfl)) (by decide) (k) ⟨rfl, hlt⟩) ?_
     refine GoH.v (Vop.fldA rfl rfl rfl rfl Tryd.underlying80 rfl Tryd.sizeOf3 ((k) * 6 + 0) rfl) ?_
     refine GoH.v (Vop.ld rfl rfl rfl rfl Tryd.isAgg3 (fun w _ hS => Sl.fld (enc := NV.cells) (sz := 6) ((ha).ex0 hS.ext).at_ (fun _ => rfl) hlt rfl)) ?_
     refine GoH.callP rfl rfl rfl rfl rfl (fun _ _ => Tryd.call93 _ _) (fun w _ hS => (by exact usesY_c g[k].op w)) ?_
     refine gE ?_
     refine GoH.cond rfl (fun hc => ?_) (fun hc => ?_)
     ·
      have hy2 := hord.2 hc
      rw [if_pos hc] at hsn
      have hget2 : (setsL n m.val m.rel g k).getD g[k].y.toNat 0#64 = semT n m.val m.rel (treeAt g g[k].y.toNat) := setsL_get (by omega)
      rw [← hget, ← hget2] at hsn
      refine gR ?_
      iterate 3 refine gMv ?_
      refine GoH.v (Vop.idxN rfl rfl rfl rfl rfl Tryd.underlying23 Tryd.sizeOf80 ⟨_, (ha).at_⟩ (flat_len (enc := NV.cells) (sz := 6) (fun _ => rfl)) (by decide) (k) ⟨rfl, hlt⟩) ?_
      refine GoH.v (Vop.fldA rfl rfl rfl rfl Tryd.underlying80 rfl Tryd.sizeOf3 ((k) * 6 + 5) rfl) ?_
      refine GoH.v (Vop.ld rfl rfl rfl rfl Tryd.isAgg3 (fun w _ hS => Sl.fld (enc := NV.cells) (sz := 6) ((ha).ex0 hS.ext).at_ (fun _ => rfl) hlt rfl)) ?_
      refine GoH.v (Vop.idxS rfl rfl rfl rfl rfl Tryd.underlying32 Tryd.sizeOf37 (g[k].y.toNat) ⟨(Int.toNat_of_nonneg hy2.1).symm, (by rw [hsl]; omega)⟩) ?_
      refine GoH.v (Vop.ldE U 0#64 rfl rfl rfl rfl Tryd.isAgg37 0 rfl (by rw [hsl]; omega)) ?_
      refine gAs ?_; refine gE ?_
      refine GoH.drawT 9 13 mixed rfl ?_
      refine RdT.v (Vop.mv rfl rfl rfl rfl) ?_
      refine RdT.v (Vop.ldB rfl rfl rfl rfl Tryd.isAgg35 1 rfl Tryd.sizeOf35 rfl) ?_
      iterate 2 refine RdT.v (Vop.mv rfl rfl rfl rfl) ?_
      refine RdT.v (Vop.idxN rfl rfl rfl rfl rfl Tryd.underlying23 Tryd.sizeOf80 ⟨_, (ha).at_⟩ (flat_len (enc := NV.cells) (sz := 6) (fun _ => rfl)) (by decide) (k) ⟨rfl, hlt⟩) ?_
      refine RdT.v (Vop.ldN (cs := NV.cells g[k]) rfl rfl rfl rfl Tryd.isAgg80 Tryd.sizeOf80 (fun w _ hS => Sl.many (enc := NV.cells) (sz := 6) (ha.ex0 hS.ext).at_ (fun _ => rfl) hlt)) ?_
      iterate 2 refine RdT.v (Vop.mv rfl rfl rfl rfl) ?_
      refine RdT.callP rfl rfl rfl rfl rfl (fun _ _ => Tryd.call94 _ _) (fun w _ hS => (by have := wOne_c m n g[k] ((setsL n m.val m.rel g k).getD g[k].x.toNat 0#64) ((setsL n m.val m.rel g k).getD g[k].y.toNat 0#64) w (hm.ex0 hS.ext) hv hn hnd; rw [← hsn] at this; exact this)) ?_
      refine RdT.nil ?_
      refine Tl.one (d := 68) rfl ?_
      refine Mop.bsN (c := [_]) rfl rfl rfl rfl Tryd.underlying32 Tryd.sizeOf37 Tryd.zeroValue37 rfl rfl (fun b68 => ⟨by repeat (first | exact List.Sublist.refl _ | exact List.nil_sublist _ | refine List.Sublist.cons_cons _ ?_ | refine List.Sublist.cons _ ?_), ?_⟩)
      refine Tl.sw [10, 11] rfl rfl ?_
      refine GoH.appE U (xs := setsL n m.val m.rel g k) (sp := sp) (q := some b) (news := [semT n m.val m.rel (treeAt g k)]) (spn := []) rfl rfl rfl rfl rfl Tryd.underlying32 hi hz hsz rfl hq 1 rfl 0 rfl hcap rfl (by decide) (fun _ => rfl) (by unfold maxLen; rw [hsl]; omega) (by rw [hby, hsl]; omega) (fun b' sp' cap' hlen2 => ?_)
      rw [← setsL_succ] at hlen2 ⊢
      refine gAs ?_; refine gE (gIb (gR ?_)); refine gMv ?_
      refine GoH.v (Vop.bin rfl rfl rfl rfl (bAdd (by omega)) rfl) ?_
      refine gAs ?_; refine gE ?_
      exact IH (k + 1, some b', cap', sp') _ _ ⟨hlt, (fun e => by cases e), hlen2⟩ (by dsimp only; omega) ⟨rfl, rfl, rfl, rfl, trivial⟩ (.cons _ (List.Sublist.refl _))
     ·
      rw [if_neg (by rw [hc]; simp), ← hget] at hsn
      refine gK ?_
      refine GoH.drawT 9 13 mixed rfl ?_
      refine RdT.v (Vop.mv rfl rfl rfl rfl) ?_
      refine RdT.v (Vop.ldB rfl rfl rfl rfl Tryd.isAgg35 1 rfl Tryd.sizeOf35 rfl) ?_
      iterate 2 refine RdT.v (Vop.mv rfl rfl rfl rfl) ?_
      refine RdT.v (Vop.idxN rfl rfl rfl rfl rfl Tryd.underlying23 Tryd.sizeOf80 ⟨_, (ha).at_⟩ (flat_len (enc := NV.cells) (sz := 6) (fun _ => rfl)) (by decide) (k) ⟨rfl, hlt⟩) ?_
      refine RdT.v (Vop.ldN (cs := NV.cells g[k]) rfl rfl rfl rfl Tryd.isAgg80 Tryd.sizeOf80 (fun w _ hS => Sl.many (enc := NV.cells) (sz := 6) (ha.ex0 hS.ext).at_ (fun _ => rfl) hlt)) ?_
      iterate 2 refine RdT.v (Vop.mv rfl rfl rfl rfl) ?_
      refine RdT.callP rfl rfl rfl rfl rfl (fun _ _ => Tryd.call94 _ _) (fun w _ hS => (by have := wOne_c m n g[k] ((setsL n m.val m.rel g k).getD g[k].x.toNat 0#64) 0#64 w (hm.ex0 hS.ext) hv hn hnd; rw [← hsn] at this; exact this)) ?_
      refine RdT.nil ?_
      refine Tl.one (d := 68) rfl ?_
      refine Mop.bsN (c := [_]) rfl rfl rfl rfl Tryd.underlying32 Tryd.sizeOf37 Tryd.zeroValue37 rfl rfl (fun b68 => ⟨by repeat (first | exact List.Sublist.refl _ | exact List.nil_sublist _ | refine List.Sublist.cons_cons _ ?_ | refine List.Sublist.cons _ ?_), ?_⟩)
      refine Tl.sw [10, 11] rfl rfl ?_
      refine GoH.appE U (xs := setsL n m.val m.rel g k) (sp := sp) (q := some b) (news := [semT n m.val m.rel (treeAt g k)]) (spn := []) rfl rfl rfl rfl rfl Tryd.underlying32 hi hz hsz rfl hq 1 rfl 0 rfl hcap rfl (by decide) (fun _ => rfl) (by unfold maxLen; rw [hsl]; omega) (by rw [hby, hsl]; omega) (fun b' sp' cap' hlen2 => ?_)
      rw [← setsL_succ] at hlen2 ⊢
      refine gAs ?_; refine gE (gIb (gR ?_)); refine gMv ?_
      refine GoH.v (Vop.bin rfl rfl rfl rfl (bAdd (by omega)) rfl) ?_
      refine gAs ?_; refine gE ?_
      exact IH (k + 1, some b', cap', sp') _ _ ⟨hlt, (fun e => by cases e), hlen2⟩ (by dsimp only; omega) ⟨rfl, rfl, rfl, rfl, trivial⟩ (.cons _ (List.Sublist.refl _))
    ·
     have hc0 := hc
     rw [if_neg (by rw [hc]; simp)] at hsn
     refine gK (gS (gS (gR ?_)))
     iterate 2 refine gMv ?_
     refine GoH.v (Vop.idxN rfl rfl rfl rfl rfl Tryd.underlying23 Tryd.sizeOf80 ⟨_, (ha).at_⟩ (flat_len (enc := NV.cells) (sz := 6) (fun _ => rfl)) (by decide) (k) ⟨rfl, hlt⟩) ?_
     refine GoH.v (Vop.fldA rfl rfl rfl rfl Tryd.underlying80 rfl Tryd.sizeOf3 ((k) * 6 + 0) rfl) ?_
     refine GoH.v (Vop.ld rfl rfl rfl rfl Tryd.isAgg3 (fun w _ hS => Sl.fld (enc := NV.cells) (sz := 6) ((ha).ex0 hS.ext).at_ (fun _ => rfl) hlt rfl)) ?_
     refine GoH.callP rfl rfl rfl rfl rfl (fun _ _ => Tryd.call93 _ _) (fun w _ hS => (by exact usesY_c g[k].op w)) ?_
     refine gE ?_
     refine GoH.cond rfl (fun hc => ?_) (fun hc => ?_)
     ·
      rw [usY_X hc] at hc0; cases hc0
     ·
      rw [if_neg (by rw [hc]; simp)] at hsn
      refine gK ?_
      refine GoH.drawT 9 13 mixed rfl ?_
      refine RdT.v (Vop.mv rfl rfl rfl rfl) ?_
      refine RdT.v (Vop.ldB rfl rfl rfl rfl Tryd.isAgg35 1 rfl Tryd.sizeOf35 rfl) ?_
      iterate 2 refine RdT.v (Vop.mv rfl rfl rfl rfl) ?_
      refine RdT.v (Vop.idxN rfl rfl rfl rfl rfl Tryd.underlying23 Tryd.sizeOf80 ⟨_, (ha).at_⟩ (flat_len (enc := NV.cells) (sz := 6) (fun _ => rfl)) (by decide) (k) ⟨rfl, hlt⟩) ?_
      refine RdT.v (Vop.ldN (cs := NV.cells g[k]) rfl rfl rfl rfl Tryd.isAgg80 Tryd.sizeOf80 (fun w _ hS => Sl.many (enc := NV.cells) (sz := 6) (ha.ex0 hS.ext).at_ (fun _ => rfl) hlt)) ?_
      iterate 2 refine RdT.v (Vop.mv rfl rfl rfl rfl) ?_
      refine RdT.callP rfl rfl rfl rfl rfl (fun _ _ => Tryd.call94 _ _) (fun w _ hS => (by have := wOne_c m n g[k] 0#64 0#64 w (hm.ex0 hS.ext) hv hn hnd; rw [← hsn] at this; exact this)) ?_
      refine RdT.nil ?_
      refine Tl.one (d := 68) rfl ?_
      refine Mop.bsN (c := [_]) rfl rfl rfl rfl Tryd.underlying32 Tryd.sizeOf37 Tryd.zeroValue37 rfl rfl (fun b68 => ⟨by repeat (first | exact List.Sublist.refl _ | exact List.nil_sublist _ | refine List.Sublist.cons_cons _ ?_ | refine List.Sublist.cons _ ?_), ?_⟩)
      refine Tl.sw [10, 11] rfl rfl ?_
      refine GoH.appE U (xs := setsL n m.val m.rel g k) (sp := sp) (q := q) (news := [semT n m.val m.rel (treeAt g k)]) (spn := []) rfl rfl rfl rfl rfl Tryd.underlying32 hi hz hsz rfl hq 1 rfl 0 rfl hcap rfl (by decide) (fun _ => rfl) (by unfold maxLen; rw [hsl]; omega) (by rw [hby, hsl]; omega) (fun b' sp' cap' hlen2 => ?_)
      rw [← setsL_succ] at hlen2 ⊢
      refine gAs ?_; refine gE (gIb (gR ?_)); refine gMv ?_
      refine GoH.v (Vop.bin rfl rfl rfl rfl (bAdd (by omega)) rfl) ?_
      refine gAs ?_; refine gE ?_
      exact IH (k + 1, some b', cap', sp') _ _ ⟨hlt, (fun e => by cases e), hlen2⟩ (by dsimp only; omega) ⟨rfl, rfl, rfl, rfl, trivial⟩ (.cons _ (List.Sublist.refl _))
   ·
    have hge : ¬ k < g.length := by simpa using hc
    obtain rfl : k = g.length := by omega
    refine GoH.exit rfl (gS (gR ?_))
    refine gMv ?_
    iterate 2 refine gAs ?_
    refine gE ?_
    refine GoH.ret Tryd.f53 Tryd.func53 rfl (fun w' hS => ?_)
    refine ⟨hS.ext, _, by rw [h0]; rfl, ?_⟩
    rw [setsR, if_pos h0]
    exact ⟨q, cap, sp, rfl, hq, hcap, fun b' hb => by subst hb; exact ⟨hS.fresh (j := 0) rfl, hS.get (j := 0) rfl⟩⟩
/-- the worlds in which a formula holds, or none -/
def holdS (m : MV) (n : Nat) (f : List NV) : W64 := if holdE m.n m.val m.rel f = 0 then semT n m.val m.rel (topT f) else 0#64
set_option maxRecDepth 8000 in
theorem wHolds_c (m : MV) (n : Nat) (a : Option Addr) (ca : Nat) (f : List NV) (w : World) (hm : m.At w) (hn : m.n = (n : Int)) (ha : FA w a f) (hl : f.length ≤ maxLen) :
    Cn Tryd.prog 24 [m.v, .slice a f.length ca] w (fun v _ => v = .tuple #[U (holdS m n f), .int .i64 (holdE m.n m.val m.rel f)]) := by
  have hcl := compF_le f
  have hcm : (compF f).length ≤ maxLen := by unfold maxLen; omega
  have hcan : chkF (compF f) = 0 → CanF (compF f) := fun h => by
    by_cases h0 : chkF f = 0
    · exact CanF.compF h0
    · rw [compF, if_pos h0] at h; cases h
  have hE : holdE m.n m.val m.rel (compF f) = 0 ↔ holdE m.n m.val m.rel f = 0 := by
    by_cases h0 : chkF f = 0
    · rw [holdE_comp h0]
    · constructor
      · intro h; rw [compF, if_pos h0] at h; exact absurd (holdE_zero.1 h).2.1 (by decide)
      · intro h; exact absurd (holdE_zero.1 h).2.1 h0
  refine Cn.of Tryd.func24 rfl rfl ?_
  refine gS (gR ?_)
  refine GoH.bx rfl rfl rfl rfl (fun b2 => ?_)
  refine GoH.v (Vop.asg (v := U 0#64) rfl rfl rfl rfl) ?_
  refine gAs ?_; refine gE (gS ?_)
  refine GoH.drawO mixed (os := [[0, 1, 2, 3, 4, 5, 6, 7, 8], [0, 1, 2, 3, 4, 5, 7, 6, 8], [0, 1, 2, 3, 4, 6, 5, 7, 8], [1, 0, 2, 3, 4, 5, 6, 7, 8], [1, 0, 2, 3, 4, 5, 7, 6, 8], [1, 0, 2, 3, 4, 6, 5, 7, 8], [1, 2, 0, 3, 4, 5, 6, 7, 8], [1, 2, 0, 3, 4, 5, 7, 6, 8], [1, 2, 0, 3, 4, 6, 5, 7, 8]]) rfl ?_
  refine List.forall_mem_cons.2 ⟨?_, ?_⟩
  · -- order [0, 1, 2, 3, 4, 5, 6, 7, 8]
   refine GoH.v (Vop.ldB rfl rfl rfl rfl Tryd.isAgg35 0 rfl Tryd.sizeOf35 rfl) ?_
   refine gMv ?_
   refine GoH.callM _ rfl rfl rfl rfl rfl (fun _ _ => Tryd.call54 _ _) (fun w _ hS => rcompact_c a ca f w (ha.ex0 hS.ext) hl) ?_
   rintro v w1 w2 Y' hS he ho
   rw [subF_top] at ho
   obtain ⟨q, cap, sp, rfl, hq, hcap, hS'⟩ := gainN hS he ho
   refine ⟨_, hS', ?_⟩
   refine GoH.callM _ rfl rfl rfl rfl rfl (fun _ _ => Tryd.call53 _ _) (fun w _ hS => (by exact wSets_c m n (q.map (fun b => ⟨b, 0, none⟩)) cap (compF f) w (hm.ex0 hS.ext) hn (faAt hS 0 rfl (fun e => (hq e).1)) hcm hcan)) ?_
   rintro v w1 w2 Y' hS he ⟨sv, rfl, h2⟩
   obtain ⟨q2, cap2, sp2, rfl, hq2, hcap2, hS'⟩ := gainO hS he h2
   refine ⟨_, hS', ?_⟩
   refine gMv ?_
   iterate 2 refine gEx ?_
   iterate 2 refine gAs ?_
   refine gE (gS (gS (gR ?_))); refine gMv ?_; refine gBi bNe ?_; refine gMv ?_
   refine GoH.cases (d := 17) rfl (fun hc => ?_) (fun hc => ?_)
   ·
    have h0 : holdE m.n m.val m.rel f ≠ 0 := fun h => by simp [hE.2 h] at hc
    iterate 3 refine gNo ?_
    refine gPt ?_; refine gE (GoH.condT rfl (gS (gR ?_)))
    refine GoH.v (Vop.ldB rfl rfl rfl rfl Tryd.isAgg35 2 rfl Tryd.sizeOf35 rfl) ?_
    refine gMv ?_
    refine GoH.callP rfl rfl rfl rfl rfl (fun _ _ => Tryd.call55 _ _) (fun w _ hS => (by exact wCheck_c m a ca f w (hm.ex0 hS.ext) (ha.ex0 hS.ext) hl)) ?_
    refine GoH.v (Vop.asg (v := U 0#64) rfl rfl rfl rfl) ?_
    refine gAs ?_; refine gE ?_
    refine GoH.ret Tryd.f24 Tryd.func24 rfl (fun w' hS => ?_)
    exact ⟨hS.ext, by rw [holdS, if_neg h0]; rfl⟩
   ·
    have h0c : holdE m.n m.val m.rel (compF f) = 0 := by simpa using hc
    have h0 := hE.1 h0c
    have hf1 := (holdE_zero.1 h0).2.1
    have hC := CanF.compF hf1
    have hpos := (chkF_zero.1 hC.chk).pos
    have htop := sets_top (n := n) (val := m.val) (rel := m.rel) hC
    rw [topT_comp hf1] at htop
    have hsl : (setsR m n (compF f)).length = (compF f).length := by rw [setsR, if_pos h0c, setsL_len]
    have hget : (setsR m n (compF f)).getD ((compF f).length - 1) 0#64 = holdS m n f := by rw [setsR, if_pos h0c, htop, holdS, if_pos h0]
    obtain ⟨b, rfl⟩ : ∃ b, q2 = some b := by
      cases q2 with
      | none => have := (hq2 rfl).1; omega
      | some b => exact ⟨b, rfl⟩
    refine gMv ?_; refine gBl Tryd.underlying32 ?_
    refine GoH.v (Vop.bin rfl rfl rfl rfl (bEqV (v := false) (beq_eq_false_iff_ne.2 (by omega))) rfl) ?_
    refine gPf ?_; refine gE (GoH.condF rfl (gK (gS (gR ?_))))
    iterate 2 refine gMv ?_
    refine gBl Tryd.underlying32 ?_
    refine GoH.v (Vop.bin rfl rfl rfl rfl (bSub (by omega)) rfl) ?_
    refine GoH.v (Vop.idxS rfl rfl rfl rfl rfl Tryd.underlying32 Tryd.sizeOf37 ((compF f).length - 1) ⟨(by rw [hsl]; omega), (by rw [hsl]; omega)⟩) ?_
    refine GoH.v (Vop.ldE U 0#64 rfl rfl rfl rfl Tryd.isAgg37 0 rfl (by rw [hsl]; omega)) ?_
    iterate 2 refine gAs ?_
    refine gE ?_
    refine GoH.ret Tryd.f24 Tryd.func24 rfl (fun w' hS => ?_)
    exact ⟨hS.ext, by rw [h0, ← hget]; rfl⟩
  refine List.forall_mem_cons.2 ⟨?_, ?_⟩
  · -- order [0, 1, 2, 3, 4, 5, 7, 6, 8]
   refine GoH.v (Vop.ldB rfl rfl rfl rfl Tryd.isAgg35 0 rfl Tryd.sizeOf35 rfl) ?_
   refine gMv ?_
   refine GoH.callM _ rfl rfl rfl rfl rfl (fun _ _ => Tryd.call54 _ _) (fun w _ hS => rcompact_c a ca f w (ha.ex0 hS.ext) hl) ?_
   rintro v w1 w2 Y' hS he ho
   rw [subF_top] at ho
   obtain ⟨q, cap, sp, rfl, hq, hcap, hS'⟩ := gainN hS he ho
   refine ⟨_, hS', ?_⟩
   refine GoH.callM _ rfl rfl rfl rfl rfl (fun _ _ => Tryd.call53 _ _) (fun w _ hS => (by exact wSets_c m n (q.map (fun b => ⟨b, 0, none⟩)) cap (compF f) w (hm.ex0 hS.ext) hn (faAt hS 0 rfl (fun e => (hq e).1)) hcm hcan)) ?_
   rintro v w1 w2 Y' hS he ⟨sv, rfl, h2⟩
   obtain ⟨q2, cap2, sp2, rfl, hq2, hcap2, hS'⟩ := gainO hS he h2
   refine ⟨_, hS', ?_⟩
   refine gMv ?_; refine gEx ?_; refine gAs ?_; refine gEx ?_; refine gAs ?_; refine gE (gS (gS (gR ?_))); refine gMv ?_; refine gBi bNe ?_; refine gMv ?_
   refine GoH.cases (d := 17) rfl (fun hc => ?_) (fun hc => ?_)
   ·
    have h0 : holdE m.n m.val m.rel f ≠ 0 := fun h => by simp [hE.2 h] at hc
    iterate 3 refine gNo ?_
    refine gPt ?_; refine gE (GoH.condT rfl (gS (gR ?_)))
    refine GoH.v (Vop.ldB rfl rfl rfl rfl Tryd.isAgg35 2 rfl Tryd.sizeOf35 rfl) ?_
    refine gMv ?_
    refine GoH.callP rfl rfl rfl rfl rfl (fun _ _ => Tryd.call55 _ _) (fun w _ hS => (by exact wCheck_c m a ca f w (hm.ex0 hS.ext) (ha.ex0 hS.ext) hl)) ?_
    refine GoH.v (Vop.asg (v := U 0#64) rfl rfl rfl rfl) ?_
    refine gAs ?_; refine gE ?_
    refine GoH.ret Tryd.f24 Tryd.func24 rfl (fun w' hS => ?_)
    exact ⟨hS.ext, by rw [holdS, if_neg h0]; rfl⟩
   ·
    have h0c : holdE m.n m.val m.rel (compF f) = 0 := by simpa using hc
    have h0 := hE.1 h0c
    have hf1 := (holdE_zero.1 h0).2.1
    have hC := CanF.compF hf1
    have hpos := (chkF_zero.1 hC.chk).pos
    have htop := sets_top (n := n) (val := m.val) (rel := m.rel) hC
    rw [topT_comp hf1] at htop
    have hsl : (setsR m n (compF f)).length = (compF f).length := by rw [setsR, if_pos h0c, setsL_len]
    have hget : (setsR m n (compF f)).getD ((compF f).length - 1) 0#64 = holdS m n f := by rw [setsR, if_pos h0c, htop, holdS, if_pos h0]
    obtain ⟨b, rfl⟩ : ∃ b, q2 = some b := by
      cases q2 with
      | none => have := (hq2 rfl).1; omega
      | some b => exact ⟨b, rfl⟩
    refine gMv ?_; refine gBl Tryd.underlying32 ?_
    refine GoH.v (Vop.bin rfl rfl rfl rfl (bEqV (v := false) (beq_eq_false_iff_ne.2 (by omega))) rfl) ?_
    refine gPf ?_; refine gE (GoH.condF rfl (gK (gS (gR ?_))))
    iterate 2 refine gMv ?_
    refine gBl Tryd.underlying32 ?_
    refine GoH.v (Vop.bin rfl rfl rfl rfl (bSub (by omega)) rfl) ?_
    refine GoH.v (Vop.idxS rfl rfl rfl rfl rfl Tryd.underlying32 Tryd.sizeOf37 ((compF f).length - 1) ⟨(by rw [hsl]; omega), (by rw [hsl]; omega)⟩) ?_
    refine GoH.v (Vop.ldE U 0#64 rfl rfl rfl rfl Tryd.isAgg37 0 rfl (by rw [hsl]; omega)) ?_
    iterate 2 refine gAs ?_
    refine gE ?_
    refine GoH.ret Tryd.f24 Tryd.func24 rfl (fun w' hS => ?_)
    exact ⟨hS.ext, by rw [h0, ← hget]; rfl⟩
  refine List.forall_mem_cons.2 ⟨?_, ?_⟩
  · -- order [0, 1, 2, 3, 4, 6, 5, 7, 8]
   refine GoH.v (Vop.ldB rfl rfl rfl rfl Tryd.isAgg35 0 rfl Tryd.sizeOf35 rfl) ?_
   refine gMv ?_
   refine GoH.callM _ rfl rfl rfl rfl rfl (fun _ _ => Tryd.call54 _ _) (fun w _ hS => rcompact_c a ca f w (ha.ex0 hS.ext) hl) ?_
   rintro v w1 w2 Y' hS he ho
   rw [subF_top] at ho
   obtain ⟨q, cap, sp, rfl, hq, hcap, hS'⟩ := gainN hS he ho
   refine ⟨_, hS', ?_⟩
   refine GoH.callM _ rfl rfl rfl rfl rfl (fun _ _ => Tryd.call53 _ _) (fun w _ hS => (by exact wSets_c m n (q.map (fun b => ⟨b, 0, none⟩)) cap (compF f) w (hm.ex0 hS.ext) hn (faAt hS 0 rfl (fun e => (hq e).1)) hcm hcan)) ?_
   rintro v w1 w2 Y' hS he ⟨sv, rfl, h2⟩
   obtain ⟨q2, cap2, sp2, rfl, hq2, hcap2, hS'⟩ := gainO hS he h2
   refine ⟨_, hS', ?_⟩
   refine gMv ?_
   iterate 2 refine gEx ?_
   iterate 2 refine gAs ?_
   refine gE (gS (gS (gR ?_))); refine gMv ?_; refine gBi bNe ?_; refine gMv ?_
   refine GoH.cases (d := 17) rfl (fun hc => ?_) (fun hc => ?_)
   ·
    have h0 : holdE m.n m.val m.rel f ≠ 0 := fun h => by simp [hE.2 h] at hc
    iterate 3 refine gNo ?_
    refine gPt ?_; refine gE (GoH.condT rfl (gS (gR ?_)))
    refine GoH.v (Vop.ldB rfl rfl rfl rfl Tryd.isAgg35 2 rfl Tryd.sizeOf35 rfl) ?_
    refine gMv ?_
    refine GoH.callP rfl rfl rfl rfl rfl (fun _ _ => Tryd.call55 _ _) (fun w _ hS => (by exact wCheck_c m a ca f w (hm.ex0 hS.ext) (ha.ex0 hS.ext) hl)) ?_
    refine GoH.v (Vop.asg (v := U 0#64) rfl rfl rfl rfl) ?_
    refine gAs ?_; refine gE ?_
    refine GoH.ret Tryd.f24 Tryd.func24 rfl (fun w' hS => ?_)
    exact ⟨hS.ext, by rw [holdS, if_neg h0]; rfl⟩
   ·
    have h0c : holdE m.n m.val m.rel (compF f) = 0 := by simpa using hc
    have h0 := hE.1 h0c
    have hf1 := (holdE_zero.1 h0).2.1
    have hC := CanF.compF hf1
    have hpos := (chkF_zero.1 hC.chk).pos
    have htop := sets_top (n := n) (val := m.val) (rel := m.rel) hC
    rw [topT_comp hf1] at htop
    have hsl : (setsR m n (compF f)).length = (compF f).length := by rw [setsR, if_pos h0c, setsL_len]
    have hget : (setsR m n (compF f)).getD ((compF f).length - 1) 0#64 = holdS m n f := by rw [setsR, if_pos h0c, htop, holdS, if_pos h0]
    obtain ⟨b, rfl⟩ : ∃ b, q2 = some b := by
      cases q2 with
      | none => have := (hq2 rfl).1; omega
      | some b => exact ⟨b, rfl⟩
    refine gMv ?_; refine gBl Tryd.underlying32 ?_
    refine GoH.v (Vop.bin rfl rfl rfl rfl (bEqV (v := false) (beq_eq_false_iff_ne.2 (by omega))) rfl) ?_
    refine gPf ?_; refine gE (GoH.condF rfl (gK (gS (gR ?_))))
    iterate 2 refine gMv ?_
    refine gBl Tryd.underlying32 ?_
    refine GoH.v (Vop.bin rfl rfl rfl rfl (bSub (by omega)) rfl) ?_
    refine GoH.v (Vop.idxS rfl rfl rfl rfl rfl Tryd.underlying32 Tryd.sizeOf37 ((compF f).length - 1) ⟨(by rw [hsl]; omega), (by rw [hsl]; omega)⟩) ?_
    refine GoH.v (Vop.ldE U 0#64 rfl rfl rfl rfl Tryd.isAgg37 0 rfl (by rw [hsl]; omega)) ?_
    iterate 2 refine gAs ?_
    refine gE ?_
    refine GoH.ret Tryd.f24 Tryd.func24 rfl (fun w' hS => ?_)
    exact ⟨hS.ext, by rw [h0, ← hget]; rfl⟩
  refine List.forall_mem_cons.2 ⟨?_, ?_⟩
  · -- order [1, 0, 2, 3, 4, 5, 6, 7, 8]
   refine gMv ?_
   refine GoH.v (Vop.ldB rfl rfl rfl rfl Tryd.isAgg35 0 rfl Tryd.sizeOf35 rfl) ?_
   refine GoH.callM _ rfl rfl rfl rfl rfl (fun _ _ => Tryd.call54 _ _) (fun w _ hS => rcompact_c a ca f w (ha.ex0 hS.ext) hl) ?_
   rintro v w1 w2 Y' hS he ho
   rw [subF_top] at ho
   obtain ⟨q, cap, sp, rfl, hq, hcap, hS'⟩ := gainN hS he ho
   refine ⟨_, hS', ?_⟩
   refine GoH.callM _ rfl rfl rfl rfl rfl (fun _ _ => Tryd.call53 _ _) (fun w _ hS => (by exact wSets_c m n (q.map (fun b => ⟨b, 0, none⟩)) cap (compF f) w (hm.ex0 hS.ext) hn (faAt hS 0 rfl (fun e => (hq e).1)) hcm hcan)) ?_
   rintro v w1 w2 Y' hS he ⟨sv, rfl, h2⟩
   obtain ⟨q2, cap2, sp2, rfl, hq2, hcap2, hS'⟩ := gainO hS he h2
   refine ⟨_, hS', ?_⟩
   refine gMv ?_
   iterate 2 refine gEx ?_
   iterate 2 refine gAs ?_
   refine gE (gS (gS (gR ?_))); refine gMv ?_; refine gBi bNe ?_; refine gMv ?_
   refine GoH.cases (d := 17) rfl (fun hc => ?_) (fun hc => ?_)
   ·
    have h0 : holdE m.n m.val m.rel f ≠ 0 := fun h => by simp [hE.2 h] at hc
    iterate 3 refine gNo ?_
    refine gPt ?_; refine gE (GoH.condT rfl (gS (gR ?_)))
    refine GoH.v (Vop.ldB rfl rfl rfl rfl Tryd.isAgg35 2 rfl Tryd.sizeOf35 rfl) ?_
    refine gMv ?_
    refine GoH.callP rfl rfl rfl rfl rfl (fun _ _ => Tryd.call55 _ _) (fun w _ hS => (by exact wCheck_c m a ca f w (hm.ex0 hS.ext) (ha.ex0 hS.ext) hl)) ?_
    refine GoH.v (Vop.asg (v := U 0#64) rfl rfl rfl rfl) ?_
    refine gAs ?_; refine gE ?_
    refine GoH.ret Tryd.f24 Tryd.func24 rfl (fun w' hS => ?_)
    exact ⟨hS.ext, by rw [holdS, if_neg h0]; rfl⟩
   ·
    have h0c : holdE m.n m.val m.rel (compF f) = 0 := by simpa using hc
    have h0 := hE.1 h0c
    have hf1 := (holdE_zero.1 h0).2.1
    have hC := CanF.compF hf1
    have hpos := (chkF_zero.1 hC.chk).pos
    have htop := sets_top (n := n) (val := m.val) (rel := m.rel) hC
    rw [topT_comp hf1] at htop
    have hsl : (setsR m n (compF f)).length = (compF f).length := by rw [setsR, if_pos h0c, setsL_len]
    have hget : (setsR m n (compF f)).getD ((compF f).length - 1) 0#64 = holdS m n f := by rw [setsR, if_pos h0c, htop, holdS, if_pos h0]
    obtain ⟨b, rfl⟩ : ∃ b, q2 = some b := by
      cases q2 with
      | none => have := (hq2 rfl).1; omega
      | some b => exact ⟨b, rfl⟩
    refine gMv ?_; refine gBl Tryd.underlying32 ?_
    refine GoH.v (Vop.bin rfl rfl rfl rfl (bEqV (v := false) (beq_eq_false_iff_ne.2 (by omega))) rfl) ?_
    refine gPf ?_; refine gE (GoH.condF rfl (gK (gS (gR ?_))))
    iterate 2 refine gMv ?_
    refine gBl Tryd.underlying32 ?_
    refine GoH.v (Vop.bin rfl rfl rfl rfl (bSub (by omega)) rfl) ?_
    refine GoH.v (Vop.idxS rfl rfl rfl rfl rfl Tryd.underlying32 Tryd.sizeOf37 ((compF f).length - 1) ⟨(by rw [hsl]; omega), (by rw [hsl]; omega)⟩) ?_
    refine GoH.v (Vop.ldE U 0#64 rfl rfl rfl rfl Tryd.isAgg37 0 rfl (by rw [hsl]; omega)) ?_
    iterate 2 refine gAs ?_
    refine gE ?_
    refine GoH.ret Tryd.f24 Tryd.func24 rfl (fun w' hS => ?_)
    exact ⟨hS.ext, by rw [h0, ← hget]; rfl⟩
  refine List.forall_mem_cons.2 ⟨?_, ?_⟩
  · -- order [1, 0, 2, 3, 4, 5, 7, 6, 8]
   refine gMv ?_
   refine GoH.v (Vop.ldB rfl rfl rfl rfl Tryd.isAgg35 0 rfl Tryd.sizeOf35 rfl) ?_
   refine GoH.callM _ rfl rfl rfl rfl rfl (fun _ _ => Tryd.call54 _ _) (fun w _ hS => rcompact_c a ca f w (ha.ex0 hS.ext) hl) ?_
   rintro v w1 w2 Y' hS he ho
   rw [subF_top] at ho
   obtain ⟨q, cap, sp, rfl, hq, hcap, hS'⟩ := gainN hS he ho
   refine ⟨_, hS', ?_⟩
   refine GoH.callM _ rfl rfl rfl rfl rfl (fun _ _ => Tryd.call53 _ _) (fun w _ hS => (by exact wSets_c m n (q.map (fun b => ⟨b, 0, none⟩)) cap (compF f) w (hm.ex0 hS.ext) hn (faAt hS 0 rfl (fun e => (hq e).1)) hcm hcan)) ?_
   rintro v w1 w2 Y' hS he ⟨sv, rfl, h2⟩
   obtain ⟨q2, cap2, sp2, rfl, hq2, hcap2, hS'⟩ := gainO hS he h2
   refine ⟨_, hS', ?_⟩
   refine gMv ?_; refine gEx ?_; refine gAs ?_; refine gEx ?_; refine gAs ?_; refine gE (gS (gS (gR ?_))); refine gMv ?_; refine gBi bNe ?_; refine gMv ?_
   refine GoH.cases (d := 17) rfl (fun hc => ?_) (fun hc => ?_)
   ·
    have h0 : holdE m.n m.val m.rel f ≠ 0 := fun h => by simp [hE.2 h] at hc
    iterate 3 refine gNo ?_
    refine gPt ?_; refine gE (GoH.condT rfl (gS (gR ?_)))
    refine GoH.v (Vop.ldB rfl rfl rfl rfl Tryd.isAgg35 2 rfl Tryd.sizeOf35 rfl) ?_
    refine gMv ?_
    refine GoH.callP rfl rfl rfl rfl rfl (fun _ _ => Tryd.call55 _ _) (fun w _ hS => (by exact wCheck_c m a ca f w (hm.ex0 hS.ext) (ha.ex0 hS.ext) hl)) ?_
    refine GoH.v (Vop.asg (v := U 0#64) rfl rfl rfl rfl) ?_
    refine gAs ?_; refine gE ?_
    refine GoH.ret Tryd.f24 Tryd.func24 rfl (fun w' hS => ?_)
    exact ⟨hS.ext, by rw [holdS, if_neg h0]; rfl⟩
   ·
    have h0c : holdE m.n m.val m.rel (compF f) = 0 := by simpa using hc
    have h0 := hE.1 h0c
    have hf1 := (holdE_zero.1 h0).2.1
    have hC := CanF.compF hf1
    have hpos := (chkF_zero.1 hC.chk).pos
    have htop := sets_top (n := n) (val := m.val) (rel := m.rel) hC
    rw [topT_comp hf1] at htop
    have hsl : (setsR m n (compF f)).length = (compF f).length := by rw [setsR, if_pos h0c, setsL_len]
    have hget : (setsR m n (compF f)).getD ((compF f).length - 1) 0#64 = holdS m n f := by rw [setsR, if_pos h0c, htop, holdS, if_pos h0]
    obtain ⟨b, rfl⟩ : ∃ b, q2 = some b := by
      cases q2 with
      | none => have := (hq2 rfl).1; omega
      | some b => exact ⟨b, rfl⟩
    refine gMv ?_; refine gBl Tryd.underlying32 ?_
    refine GoH.v (Vop.bin rfl rfl rfl rfl (bEqV (v := false) (beq_eq_false_iff_ne.2 (by omega))) rfl) ?_
    refine gPf ?_; refine gE (GoH.condF rfl (gK (gS (gR ?_))))
    iterate 2 refine gMv ?_
    refine gBl Tryd.underlying32 ?_
    refine GoH.v (Vop.bin rfl rfl rfl rfl (bSub (by omega)) rfl) ?_
    refine GoH.v (Vop.idxS rfl rfl rfl rfl rfl Tryd.underlying32 Tryd.sizeOf37 ((compF f).length - 1) ⟨(by rw [hsl]; omega), (by rw [hsl]; omega)⟩) ?_
    refine GoH.v (Vop.ldE U 0#64 rfl rfl rfl rfl Tryd.isAgg37 0 rfl (by rw [hsl]; omega)) ?_
    iterate 2 refine gAs ?_
    refine gE ?_
    refine GoH.ret Tryd.f24 Tryd.func24 rfl (fun w' hS => ?_)
    exact ⟨hS.ext, by rw [h0, ← hget]; rfl⟩
  refine List.forall_mem_cons.2 ⟨?_, ?_⟩
  · -- order [1, 0, 2, 3, 4, 6, 5, 7, 8]
   refine gMv ?_
   refine GoH.v (Vop.ldB rfl rfl rfl rfl Tryd.isAgg35 0 rfl Tryd.sizeOf35 rfl) ?_
   refine GoH.callM _ rfl rfl rfl rfl rfl (fun _ _ => Tryd.call54 _ _) (fun w _ hS => rcompact_c a ca f w (ha.ex0 hS.ext) hl) ?_
   rintro v w1 w2 Y' hS he ho
   rw [subF_top] at ho
   obtain ⟨q, cap, sp, rfl, hq, hcap, hS'⟩ := gainN hS he ho
   refine ⟨_, hS', ?_⟩
   refine GoH.callM _ rfl rfl rfl rfl rfl (fun _ _ => Tryd.call53 _ _) (fun w _ hS => (by exact wSets_c m n (q.map (fun b => ⟨b, 0, none⟩)) cap (compF f) w (hm.ex0 hS.ext) hn (faAt hS 0 rfl (fun e => (hq e).1)) hcm hcan)) ?_
   rintro v w1 w2 Y' hS he ⟨sv, rfl, h2⟩
   obtain ⟨q2, cap2, sp2, rfl, hq2, hcap2, hS'⟩ := gainO hS he h2
   refine ⟨_, hS', ?_⟩
   refine gMv ?_
   iterate 2 refine gEx ?_
   iterate 2 refine gAs ?_
   refine gE (gS (gS (gR ?_))); refine gMv ?_; refine gBi bNe ?_; refine gMv ?_
   refine GoH.cases (d := 17) rfl (fun hc => ?_) (fun hc => ?_)
   ·
    have h0 : holdE m.n m.val m.rel f ≠ 0 := fun h => by simp [hE.2 h] at hc
    iterate 3 refine gNo ?_
    refine gPt ?_; refine gE (GoH.condT rfl (gS (gR ?_)))
    refine GoH.v (Vop.ldB rfl rfl rfl rfl Tryd.isAgg35 2 rfl Tryd.sizeOf35 rfl) ?_
    refine gMv ?_
    refine GoH.callP rfl rfl rfl rfl rfl (fun _ _ => Tryd.call55 _ _) (fun w _ hS => (by exact wCheck_c m a ca f w (hm.ex0 hS.ext) (ha.ex0 hS.ext) hl)) ?_
    refine GoH.v (Vop.asg (v := U 0#64) rfl rfl rfl rfl) ?_
    refine gAs ?_; refine gE ?_
    refine GoH.ret Tryd.f24 Tryd.func24 rfl (fun w' hS => ?_)
    exact ⟨hS.ext, by rw [holdS, if_neg h0]; rfl⟩
   ·
    have h0c : holdE m.n m.val m.rel (compF f) = 0 := by simpa using hc
    have h0 := hE.1 h0c
    have hf1 := (holdE_zero.1 h0).2.1
    have hC := CanF.compF hf1
    have hpos := (chkF_zero.1 hC.chk).pos
    have htop := sets_top (n := n) (val := m.val) (rel := m.rel) hC
    rw [topT_comp hf1] at htop
    have hsl : (setsR m n (compF f)).length = (compF f).length := by rw [setsR, if_pos h0c, setsL_len]
    have hget : (setsR m n (compF f)).getD ((compF f).length - 1) 0#64 = holdS m n f := by rw [setsR, if_pos h0c, htop, holdS, if_pos h0]
    obtain ⟨b, rfl⟩ : ∃ b, q2 = some b := by
      cases q2 with
      | none => have := (hq2 rfl).1; omega
      | some b => exact ⟨b, rfl⟩
    refine gMv ?_; refine gBl Tryd.underlying32 ?_
    refine GoH.v (Vop.bin rfl rfl rfl rfl (bEqV (v := false) (beq_eq_false_iff_ne.2 (by omega))) rfl) ?_
    refine gPf ?_; refine gE (GoH.condF rfl (gK (gS (gR ?_))))
    iterate 2 refine gMv ?_
    refine gBl Tryd.underlying32 ?_
    refine GoH.v (Vop.bin rfl rfl rfl rfl (bSub (by omega)) rfl) ?_
    refine GoH.v (Vop.idxS rfl rfl rfl rfl rfl Tryd.underlying32 Tryd.sizeOf37 ((compF f).length - 1) ⟨(by rw [hsl]; omega), (by rw [hsl]; omega)⟩) ?_
    refine GoH.v (Vop.ldE U 0#64 rfl rfl rfl rfl Tryd.isAgg37 0 rfl (by rw [hsl]; omega)) ?_
    iterate 2 refine gAs ?_
    refine gE ?_
    refine GoH.ret Tryd.f24 Tryd.func24 rfl (fun w' hS => ?_)
    exact ⟨hS.ext, by rw [h0, ← hget]; rfl⟩
  refine List.forall_mem_cons.2 ⟨?_, ?_⟩
  · -- order [1, 2, 0, 3, 4, 5, 6, 7, 8]
   refine gMv ?_
   refine GoH.callM _ rfl rfl rfl rfl rfl (fun _ _ => Tryd.call54 _ _) (fun w _ hS => rcompact_c a ca f w (ha.ex0 hS.ext) hl) ?_
   rintro v w1 w2 Y' hS he ho
   rw [subF_top] at ho
   obtain ⟨q, cap, sp, rfl, hq, hcap, hS'⟩ := gainN hS he ho
   refine ⟨_, hS', ?_⟩
   refine GoH.v (Vop.ldB rfl rfl rfl rfl Tryd.isAgg35 1 rfl Tryd.sizeOf35 rfl) ?_
   refine GoH.callM _ rfl rfl rfl rfl rfl (fun _ _ => Tryd.call53 _ _) (fun w _ hS => (by exact wSets_c m n (q.map (fun b => ⟨b, 0, none⟩)) cap (compF f) w (hm.ex0 hS.ext) hn (faAt hS 0 rfl (fun e => (hq e).1)) hcm hcan)) ?_
   rintro v w1 w2 Y' hS he ⟨sv, rfl, h2⟩
   obtain ⟨q2, cap2, sp2, rfl, hq2, hcap2, hS'⟩ := gainO hS he h2
   refine ⟨_, hS', ?_⟩
   refine gMv ?_
   iterate 2 refine gEx ?_
   iterate 2 refine gAs ?_
   refine gE (gS (gS (gR ?_))); refine gMv ?_; refine gBi bNe ?_; refine gMv ?_
   refine GoH.cases (d := 17) rfl (fun hc => ?_) (fun hc => ?_)
   ·
    have h0 : holdE m.n m.val m.rel f ≠ 0 := fun h => by simp [hE.2 h] at hc
    iterate 3 refine gNo ?_
    refine gPt ?_; refine gE (GoH.condT rfl (gS (gR ?_)))
    refine GoH.v (Vop.ldB rfl rfl rfl rfl Tryd.isAgg35 2 rfl Tryd.sizeOf35 rfl) ?_
    refine gMv ?_
    refine GoH.callP rfl rfl rfl rfl rfl (fun _ _ => Tryd.call55 _ _) (fun w _ hS => (by exact wCheck_c m a ca f w (hm.ex0 hS.ext) (ha.ex0 hS.ext) hl)) ?_
    refine GoH.v (Vop.asg (v := U 0#64) rfl rfl rfl rfl) ?_
    refine gAs ?_; refine gE ?_
    refine GoH.ret Tryd.f24 Tryd.func24 rfl (fun w' hS => ?_)
    exact ⟨hS.ext, by rw [holdS, if_neg h0]; rfl⟩
   ·
    have h0c : holdE m.n m.val m.rel (compF f) = 0 := by simpa using hc
    have h0 := hE.1 h0c
    have hf1 := (holdE_zero.1 h0).2.1
    have hC := CanF.compF hf1
    have hpos := (chkF_zero.1 hC.chk).pos
    have htop := sets_top (n := n) (val := m.val) (rel := m.rel) hC
    rw [topT_comp hf1] at htop
    have hsl : (setsR m n (compF f)).length = (compF f).length := by rw [setsR, if_pos h0c, setsL_len]
    have hget : (setsR m n (compF f)).getD ((compF f).length - 1) 0#64 = holdS m n f := by rw [setsR, if_pos h0c, htop, holdS, if_pos h0]
    obtain ⟨b, rfl⟩ : ∃ b, q2 = some b := by
      cases q2 with
      | none => have := (hq2 rfl).1; omega
      | some b => exact ⟨b, rfl⟩
    refine gMv ?_; refine gBl Tryd.underlying32 ?_
    refine GoH.v (Vop.bin rfl rfl rfl rfl (bEqV (v := false) (beq_eq_false_iff_ne.2 (by omega))) rfl) ?_
    refine gPf ?_; refine gE (GoH.condF rfl (gK (gS (gR ?_))))
    iterate 2 refine gMv ?_
    refine gBl Tryd.underlying32 ?_
    refine GoH.v (Vop.bin rfl rfl rfl rfl (bSub (by omega)) rfl) ?_
    refine GoH.v (Vop.idxS rfl rfl rfl rfl rfl Tryd.underlying32 Tryd.sizeOf37 ((compF f).length - 1) ⟨(by rw [hsl]; omega), (by rw [hsl]; omega)⟩) ?_
    refine GoH.v (Vop.ldE U 0#64 rfl rfl rfl rfl Tryd.isAgg37 0 rfl (by rw [hsl]; omega)) ?_
    iterate 2 refine gAs ?_
    refine gE ?_
    refine GoH.ret Tryd.f24 Tryd.func24 rfl (fun w' hS => ?_)
    exact ⟨hS.ext, by rw [h0, ← hget]; rfl⟩
  refine List.forall_mem_cons.2 ⟨?_, ?_⟩
  · -- order [1, 2, 0, 3, 4, 5, 7, 6, 8]
   refine gMv ?_
   refine GoH.callM _ rfl rfl rfl rfl rfl (fun _ _ => Tryd.call54 _ _) (fun w _ hS => rcompact_c a ca f w (ha.ex0 hS.ext) hl) ?_
   rintro v w1 w2 Y' hS he ho
   rw [subF_top] at ho
   obtain ⟨q, cap, sp, rfl, hq, hcap, hS'⟩ := gainN hS he ho
   refine ⟨_, hS', ?_⟩
   refine GoH.v (Vop.ldB rfl rfl rfl rfl Tryd.isAgg35 1 rfl Tryd.sizeOf35 rfl) ?_
   refine GoH.callM _ rfl rfl rfl rfl rfl (fun _ _ => Tryd.call53 _ _) (fun w _ hS => (by exact wSets_c m n (q.map (fun b => ⟨b, 0, none⟩)) cap (compF f) w (hm.ex0 hS.ext) hn (faAt hS 0 rfl (fun e => (hq e).1)) hcm hcan)) ?_
   rintro v w1 w2 Y' hS he ⟨sv, rfl, h2⟩
   obtain ⟨q2, cap2, sp2, rfl, hq2, hcap2, hS'⟩ := gainO hS he h2
   refine ⟨_, hS', ?_⟩
   refine gMv ?_; refine gEx ?_; refine gAs ?_; refine gEx ?_; refine gAs ?_; refine gE (gS (gS (gR ?_))); refine gMv ?_; refine gBi bNe ?_; refine gMv ?_
   refine GoH.cases (d := 17) rfl (fun hc => ?_) (fun hc => ?_)
   ·
    have h0 : holdE m.n m.val m.rel f ≠ 0 := fun h => by simp [hE.2 h] at hc
    iterate 3 refine gNo ?_
    refine gPt ?_; refine gE (GoH.condT rfl (gS (gR ?_)))
    refine GoH.v (Vop.ldB rfl rfl rfl rfl Tryd.isAgg35 2 rfl Tryd.sizeOf35 rfl) ?_
    refine gMv ?_
    refine GoH.callP rfl rfl rfl rfl rfl (fun _ _ => Tryd.call55 _ _) (fun w _ hS => (by exact wCheck_c m a ca f w (hm.ex0 hS.ext) (ha.ex0 hS.ext) hl)) ?_
    refine GoH.v (Vop.asg (v := U 0#64) rfl rfl rfl rfl) ?_
    refine gAs ?_; refine gE ?_
    refine GoH.ret Tryd.f24 Tryd.func24 rfl (fun w' hS => ?_)
    exact ⟨hS.ext, by rw [holdS, if_neg h0]; rfl⟩
   ·
    have h0c : holdE m.n m.val m.rel (compF f) = 0 := by simpa using hc
    have h0 := hE.1 h0c
    have hf1 := (holdE_zero.1 h0).2.1
    have hC := CanF.compF hf1
    have hpos := (chkF_zero.1 hC.chk).pos
    have htop := sets_top (n := n) (val := m.val) (rel := m.rel) hC
    rw [topT_comp hf1] at htop
    have hsl : (setsR m n (compF f)).length = (compF f).length := by rw [setsR, if_pos h0c, setsL_len]
    have hget : (setsR m n (compF f)).getD ((compF f).length - 1) 0#64 = holdS m n f := by rw [setsR, if_pos h0c, htop, holdS, if_pos h0]
    obtain ⟨b, rfl⟩ : ∃ b, q2 = some b := by
      cases q2 with
      | none => have := (hq2 rfl).1; omega
      | some b => exact ⟨b, rfl⟩
    refine gMv ?_; refine gBl Tryd.underlying32 ?_
    refine GoH.v (Vop.bin rfl rfl rfl rfl (bEqV (v := false) (beq_eq_false_iff_ne.2 (by omega))) rfl) ?_
    refine gPf ?_; refine gE (GoH.condF rfl (gK (gS (gR ?_))))
    iterate 2 refine gMv ?_
    refine gBl Tryd.underlying32 ?_
    refine GoH.v (Vop.bin rfl rfl rfl rfl (bSub (by omega)) rfl) ?_
    refine GoH.v (Vop.idxS rfl rfl rfl rfl rfl Tryd.underlying32 Tryd.sizeOf37 ((compF f).length - 1) ⟨(by rw [hsl]; omega), (by rw [hsl]; omega)⟩) ?_
    refine GoH.v (Vop.ldE U 0#64 rfl rfl rfl rfl Tryd.isAgg37 0 rfl (by rw [hsl]; omega)) ?_
    iterate 2 refine gAs ?_
    refine gE ?_
    refine GoH.ret Tryd.f24 Tryd.func24 rfl (fun w' hS => ?_)
    exact ⟨hS.ext, by rw [h0, ← hget]; rfl⟩
  refine List.forall_mem_cons.2 ⟨?_, ?_⟩
  · -- order [1, 2, 0, 3, 4, 6, 5, 7, 8]
   refine gMv ?_
   refine GoH.callM _ rfl rfl rfl rfl rfl (fun _ _ => Tryd.call54 _ _) (fun w _ hS => rcompact_c a ca f w (ha.ex0 hS.ext) hl) ?_
   rintro v w1 w2 Y' hS he ho
   rw [subF_top] at ho
   obtain ⟨q, cap, sp, rfl, hq, hcap, hS'⟩ := gainN hS he ho
   refine ⟨_, hS', ?_⟩
   refine GoH.v (Vop.ldB rfl rfl rfl rfl Tryd.isAgg35 1 rfl Tryd.sizeOf35 rfl) ?_
   refine GoH.callM _ rfl rfl rfl rfl rfl (fun _ _ => Tryd.call53 _ _) (fun w _ hS => (by exact wSets_c m n (q.map (fun b => ⟨b, 0, none⟩)) cap (compF f) w (hm.ex0 hS.ext) hn (faAt hS 0 rfl (fun e => (hq e).1)) hcm hcan)) ?_
   rintro v w1 w2 Y' hS he ⟨sv, rfl, h2⟩
   obtain ⟨q2, cap2, sp2, rfl, hq2, hcap2, hS'⟩ := gainO hS he h2
   refine ⟨_, hS', ?_⟩
   refine gMv ?_
   iterate 2 refine gEx ?_
   iterate 2 refine gAs ?_
   refine gE (gS (gS (gR ?_))); refine gMv ?_; refine gBi bNe ?_; refine gMv ?_
   refine GoH.cases (d := 17) rfl (fun hc => ?_) (fun hc => ?_)
   ·
    have h0 : holdE m.n m.val m.rel f ≠ 0 := fun h => by simp [hE.2 h] at hc
    iterate 3 refine gNo ?_
    refine gPt ?_; refine gE (GoH.condT rfl (gS (gR ?_)))
    refine GoH.v (Vop.ldB rfl rfl rfl rfl Tryd.isAgg35 2 rfl Tryd.sizeOf35 rfl) ?_
    refine gMv ?_
    refine GoH.callP rfl rfl rfl rfl rfl (fun _ _ => Tryd.call55 _ _) (fun w _ hS => (by exact wCheck_c m a ca f w (hm.ex0 hS.ext) (ha.ex0 hS.ext) hl)) ?_
    refine GoH.v (Vop.asg (v := U 0#64) rfl rfl rfl rfl) ?_
    refine gAs ?_; refine gE ?_
    refine GoH.ret Tryd.f24 Tryd.func24 rfl (fun w' hS => ?_)
    exact ⟨hS.ext, by rw [holdS, if_neg h0]; rfl⟩
   ·
    have h0c : holdE m.n m.val m.rel (compF f) = 0 := by simpa using hc
    have h0 := hE.1 h0c
    have hf1 := (holdE_zero.1 h0).2.1
    have hC := CanF.compF hf1
    have hpos := (chkF_zero.1 hC.chk).pos
    have htop := sets_top (n := n) (val := m.val) (rel := m.rel) hC
    rw [topT_comp hf1] at htop
    have hsl : (setsR m n (compF f)).length = (compF f).length := by rw [setsR, if_pos h0c, setsL_len]
    have hget : (setsR m n (compF f)).getD ((compF f).length - 1) 0#64 = holdS m n f := by rw [setsR, if_pos h0c, htop, holdS, if_pos h0]
    obtain ⟨b, rfl⟩ : ∃ b, q2 = some b := by
      cases q2 with
      | none => have := (hq2 rfl).1; omega
      | some b => exact ⟨b, rfl⟩
    refine gMv ?_; refine gBl Tryd.underlying32 ?_
    refine GoH.v (Vop.bin rfl rfl rfl rfl (bEqV (v := false) (beq_eq_false_iff_ne.2 (by omega))) rfl) ?_
    refine gPf ?_; refine gE (GoH.condF rfl (gK (gS (gR ?_))))
    iterate 2 refine gMv ?_
    refine gBl Tryd.underlying32 ?_
    refine GoH.v (Vop.bin rfl rfl rfl rfl (bSub (by omega)) rfl) ?_
    refine GoH.v (Vop.idxS rfl rfl rfl rfl rfl Tryd.underlying32 Tryd.sizeOf37 ((compF f).length - 1) ⟨(by rw [hsl]; omega), (by rw [hsl]; omega)⟩) ?_
    refine GoH.v (Vop.ldE U 0#64 rfl rfl rfl rfl Tryd.isAgg37 0 rfl (by rw [hsl]; omega)) ?_
    iterate 2 refine gAs ?_
    refine gE ?_
    refine GoH.ret Tryd.f24 Tryd.func24 rfl (fun w' hS => ?_)
    exact ⟨hS.ext, by rw [h0, ← hget]; rfl⟩
  intro _ hx; cases hx
end Go.Proofs.YtlihcmknfdckdaaDoor
