/- What calls of the program return, under the conditions that each theorem states. -/
import Derived.Test.YtcljmlnnfdaljaaDoorF07
import Derived.Test.YtcljmlnnfdaljaaDoorF08
namespace Go.Proofs.YtcljmlnnfdaljaaDoor
open Go.RowKit Go.Proofs.Wit
/-! models: what Check says; logics -/
theorem mall_c (n : Nat) (w : World) (h : n ≤ 64) : Cn Tryd.prog 84 [.int .i64 n] w (fun v _ => v = U (allW n)) := by
  refine Cn.of Tryd.func84 rfl rfl ?_
  refine GoH.seq (GoH.region ?_)
  refine GoH.v (Vop.asg (v := U 0#64) rfl rfl rfl rfl) ?_
  refine GoH.regionEnd (GoH.seq (GoH.seq (GoH.region ?_)))
  refine GoH.v (Vop.mv rfl rfl rfl rfl) ?_
  refine GoH.v (Vop.bin rfl rfl rfl rfl bGe rfl) ?_
  refine GoH.regionEnd ?_
  refine GoH.cond rfl (fun hc => ?_) (fun hc => ?_)
  ·
   have h2 : 64 ≤ n := by simp at hc; omega
   refine GoH.seq (GoH.region ?_)
   refine GoH.v (Vop.asg (v := U 18446744073709551615#64) rfl rfl rfl rfl) ?_
   refine GoH.regionEnd ?_
   refine GoH.ret Tryd.f84 Tryd.func84 rfl (fun w' hS => ?_)
   exact ⟨hS.ext, by rw [allW, if_pos h2]; rfl⟩
  ·
   have h2 : ¬ 64 ≤ n := by simp at hc; omega
   refine GoH.skip (GoH.seq (GoH.region ?_))
   refine GoH.v (Vop.mv rfl rfl rfl rfl) ?_
   refine GoH.v (Vop.bin (a := U 1#64) rfl rfl rfl rfl (bShl _ rfl) rfl) ?_
   refine GoH.v (Vop.bin (b := U 1#64) rfl rfl rfl rfl bSubU rfl) ?_
   refine GoH.v (Vop.asg rfl rfl rfl rfl) ?_
   refine GoH.regionEnd ?_
   refine GoH.ret Tryd.f84 Tryd.func84 rfl (fun w' hS => ?_)
   exact ⟨hS.ext, by rw [allW, if_neg h2]; rfl⟩
theorem outside1_c (s : W64) (n : Int) (hn : 0 ≤ n ∧ n ≤ 64) (b : Nat) (w : World) (hb : w.heap[b]? = some (.cells #[.int .i64 n] 3 (0, 0))) :
    Cn Tryd.prog 83 [U s, .pointer (some ⟨b, 0, none⟩)] w (fun v _ => v = .bool (s &&& ~~~ allW n.toNat != 0#64)) := by
  obtain ⟨N, rfl⟩ : ∃ N : Nat, n = N := ⟨n.toNat, by omega⟩
  refine Cn.of Tryd.func83 rfl rfl ?_
  refine GoH.seq (GoH.region ?_)
  refine GoH.v (Vop.asg rfl rfl rfl rfl) ?_
  refine GoH.regionEnd (GoH.seq (GoH.region ?_))
  refine GoH.v (Vop.mv rfl rfl rfl rfl) ?_
  refine GoH.v (Vop.ld rfl rfl rfl rfl Tryd.isAgg3 (fun w _ hS => (hS.ext.cell hb rfl))) ?_
  refine GoH.callP rfl rfl rfl rfl rfl (fun _ _ => Tryd.call84 _ _) (fun w _ hS => mall_c N w (by omega)) ?_
  refine GoH.v (Vop.bin rfl rfl rfl rfl bAndNot rfl) ?_
  refine GoH.v (Vop.bin (b := U 0#64) rfl rfl rfl rfl bNeU rfl) ?_
  refine GoH.v (Vop.asg rfl rfl rfl rfl) ?_
  refine GoH.regionEnd ?_
  refine GoH.ret Tryd.f83 Tryd.func83 rfl (fun w' hS => ?_)
  exact ⟨hS.ext, rfl⟩
theorem outside_c (a : Option Addr) (ca : Nat) (xs : List W64) (n : Int) (hn : 0 ≤ n ∧ n ≤ 64) (w : World) (ha : SlU w a xs) (hl : xs.length ≤ maxLen) :
    Cn Tryd.prog 61 [.slice a xs.length ca, .int .i64 n] w (fun v _ => v = .bool (outB n.toNat xs)) := by
  refine Cn.of Tryd.func61 rfl rfl ?_
  refine GoH.seq (GoH.region ?_)
  refine GoH.bx rfl rfl rfl rfl (fun b3 => ?_)
  refine GoH.v (Vop.asg rfl rfl rfl rfl) ?_
  refine GoH.regionEnd (GoH.seq (GoH.region ?_))
  refine GoH.v (Vop.mv rfl rfl rfl rfl) ?_
  refine GoH.v (Vop.mkFunc rfl rfl rfl rfl rfl) ?_
  refine GoH.callP rfl rfl rfl rfl rfl (fun _ _ => Tryd.call82 _ _) (fun w _ hS => cfU_c [.pointer (some ⟨b3, 0, none⟩)] (fun s => s &&& ~~~ allW n.toNat != 0#64) (fun _ _ => Tryd.call83 _ _) a ca xs w (ha.ex0 hS.ext) hl (fun w' he x _ => outside1_c x n hn b3 w' (he.keep (hS.get (j := 0) rfl)))) ?_
  refine GoH.v (Vop.asg rfl rfl rfl rfl) ?_
  refine GoH.regionEnd ?_
  refine GoH.ret Tryd.f61 Tryd.func61 rfl (fun w' hS => ?_)
  exact ⟨hS.ext, rfl⟩
theorem check1_c (r : Row) (m : MV) (hn : 0 ≤ m.n ∧ m.n ≤ 64) (b : Nat) (w : World) (hr : r.At w) (hb : w.heap[b]? = some (.cells m.v.cells 25 (0, 0))) :
    Cn Tryd.prog 63 [r.v, .pointer (some ⟨b, 0, none⟩)] w (fun v _ => v = .bool (outB m.n.toNat r.xs)) := by
  refine Cn.of Tryd.func63 rfl rfl ?_
  refine GoH.seq (GoH.region ?_)
  refine GoH.v (Vop.asg rfl rfl rfl rfl) ?_
  refine GoH.regionEnd (GoH.seq (GoH.region ?_))
  refine GoH.v (Vop.mv rfl rfl rfl rfl) ?_
  refine GoH.v (Vop.fldP rfl rfl rfl rfl Tryd.underlying25 rfl (by exact Tryd.sizeOf3) 0 rfl) ?_
  refine GoH.v (Vop.ld rfl rfl rfl rfl Tryd.isAgg3 (fun w _ hS => (hS.ext.cell hb (v := .int .i64 m.n) rfl))) ?_
  refine GoH.callP rfl rfl rfl rfl rfl (fun _ _ => Tryd.call61 _ _) (fun w _ hS => outside_c r.a r.cap r.xs m.n hn w (hr.at_.ex0 hS.ext) hr.len) ?_
  refine GoH.v (Vop.asg rfl rfl rfl rfl) ?_
  refine GoH.regionEnd ?_
  refine GoH.ret Tryd.f63 Tryd.func63 rfl (fun w' hS => ?_)
  exact ⟨hS.ext, rfl⟩
set_option maxRecDepth 16000 in
theorem mcheck_c (m : MV) (w : World) (hm : m.At w) : Cn Tryd.prog 35 [m.v] w (fun v _ => v = .int .i64 (checkM m.n m.val m.rel)) := by
  have hlr := hm.lr
  unfold maxLen at hlr
  have hrl : m.rel.length = m.rows.length := by simp [MV.rel]
  refine Cn.of Tryd.func35 rfl rfl ?_
  refine GoH.seq (GoH.region ?_)
  refine GoH.bx rfl rfl rfl rfl (fun b1 => ?_)
  refine GoH.v (Vop.asg rfl rfl rfl rfl) ?_
  refine GoH.regionEnd (GoH.seq (GoH.seq (GoH.region ?_)))
  refine GoH.v (Vop.fldP rfl rfl rfl rfl Tryd.underlying25 rfl (by exact Tryd.sizeOf3) 0 rfl) ?_
  refine GoH.v (Vop.ldo rfl rfl rfl rfl Tryd.isAgg3 0 rfl rfl) ?_
  refine GoH.v (Vop.bin rfl rfl rfl rfl bLt rfl) ?_
  refine GoH.v (Vop.mv rfl rfl rfl rfl) ?_
  refine GoH.cases (d := 8) rfl (fun hc => ?_) (fun hc => ?_)
  ·
   have h1 : m.n < 1 := by simpa using hc
   iterate 3 refine GoH.no rfl rfl rfl rfl ?_
   refine GoH.v (Vop.pickT rfl rfl rfl rfl rfl) ?_
   refine GoH.regionEnd (GoH.condT rfl (GoH.seq (GoH.region ?_)))
   refine GoH.v (Vop.asg rfl rfl rfl rfl) ?_
   refine GoH.regionEnd ?_
   refine GoH.ret Tryd.f35 Tryd.func35 rfl (fun w' hS => ?_)
   exact ⟨hS.ext, by rw [checkM, if_pos (.inl h1)]; rfl⟩
  ·
   have h1 : ¬ m.n < 1 := by simpa using hc
   refine GoH.v (Vop.fldP rfl rfl rfl rfl Tryd.underlying25 rfl (by exact Tryd.sizeOf3) 0 rfl) ?_
   refine GoH.v (Vop.ldo rfl rfl rfl rfl Tryd.isAgg3 0 rfl rfl) ?_
   refine GoH.v (Vop.bin rfl rfl rfl rfl bGt rfl) ?_
   refine GoH.v (Vop.pickF rfl rfl rfl rfl rfl) ?_
   refine GoH.regionEnd ?_
   refine GoH.cond rfl (fun hc => ?_) (fun hc => ?_)
   ·
    have h2 : 64 < m.n := by simpa using hc
    refine GoH.seq (GoH.region ?_)
    refine GoH.v (Vop.asg rfl rfl rfl rfl) ?_
    refine GoH.regionEnd ?_
    refine GoH.ret Tryd.f35 Tryd.func35 rfl (fun w' hS => ?_)
    exact ⟨hS.ext, by rw [checkM, if_pos (.inr h2)]; rfl⟩
   ·
    have h2 : ¬ 64 < m.n := by simpa using hc
    have h3 : ¬ (m.n < 1 ∨ 64 < m.n) := by omega
    have hn : 0 ≤ m.n ∧ m.n ≤ 64 := by omega
    refine GoH.skip (GoH.seq (GoH.seq (GoH.region ?_)))
    refine GoH.v (Vop.fldP rfl rfl rfl rfl Tryd.underlying25 rfl (by exact Tryd.sizeOf23) 2 rfl) ?_
    refine GoH.v (Vop.ldo rfl rfl rfl rfl Tryd.isAgg23 0 rfl rfl) ?_
    refine GoH.v (Vop.blt rfl rfl rfl (blt_len_slice Tryd.underlying23) rfl) ?_
    refine GoH.v (Vop.bin rfl rfl rfl rfl bGt rfl) ?_
    refine GoH.v (Vop.mv rfl rfl rfl rfl) ?_
    refine GoH.cases (d := 17) rfl (fun hc => ?_) (fun hc => ?_)
    ·
     have h4 : 4 < m.rel.length := by simp at hc; omega
     iterate 4 refine GoH.no rfl rfl rfl rfl ?_
     refine GoH.v (Vop.pickT rfl rfl rfl rfl rfl) ?_
     refine GoH.regionEnd (GoH.condT rfl (GoH.seq (GoH.region ?_)))
     refine GoH.v (Vop.asg rfl rfl rfl rfl) ?_
     refine GoH.regionEnd ?_
     refine GoH.ret Tryd.f35 Tryd.func35 rfl (fun w' hS => ?_)
     exact ⟨hS.ext, by rw [checkM, if_neg h3, if_pos (.inl h4)]; rfl⟩
    ·
     have h4 : ¬ 4 < m.rel.length := by simp at hc; omega
     refine GoH.v (Vop.fldP rfl rfl rfl rfl Tryd.underlying25 rfl (by exact Tryd.sizeOf22) 1 rfl) ?_
     refine GoH.v (Vop.ldo rfl rfl rfl rfl Tryd.isAgg22 0 rfl rfl) ?_
     refine GoH.v (Vop.blt rfl rfl rfl (blt_len_slice Tryd.underlying22) rfl) ?_
     refine GoH.v (Vop.bin rfl rfl rfl rfl bGt rfl) ?_
     refine GoH.v (Vop.pickF rfl rfl rfl rfl rfl) ?_
     refine GoH.regionEnd ?_
     refine GoH.cond rfl (fun hc => ?_) (fun hc => ?_)
     ·
      have h5 : 8 < m.val.length := by simp at hc; omega
      refine GoH.seq (GoH.region ?_)
      refine GoH.v (Vop.asg rfl rfl rfl rfl) ?_
      refine GoH.regionEnd ?_
      refine GoH.ret Tryd.f35 Tryd.func35 rfl (fun w' hS => ?_)
      exact ⟨hS.ext, by rw [checkM, if_neg h3, if_pos (.inr h5)]; rfl⟩
     ·
      have h5 : ¬ 8 < m.val.length := by simp at hc; omega
      have h6 : ¬ (4 < m.rel.length ∨ 8 < m.val.length) := by omega
      refine GoH.skip (GoH.seq (GoH.seq (GoH.region ?_)))
      refine GoH.v (Vop.fldP rfl rfl rfl rfl Tryd.underlying25 rfl (by exact Tryd.sizeOf23) 2 rfl) ?_
      refine GoH.v (Vop.ldo rfl rfl rfl rfl Tryd.isAgg23 0 rfl rfl) ?_
      refine GoH.v (Vop.blt rfl rfl rfl (blt_len_slice Tryd.underlying23) rfl) ?_
      refine GoH.v (Vop.mv rfl rfl rfl rfl) ?_
      refine GoH.regionEnd (GoH.block ?_)
      refine GoH.loop (σ := Nat) (fun k => [(1, .pointer (some ⟨b1, 0, none⟩)), (24, .slice m.ra m.rows.length m.rc), (25, .int .i64 m.rows.length), (26, .int .i64 k)]) (fun _ => [(some b1, .cells m.v.cells 25 (0, 0))])
        (fun k => k ≤ m.rows.length ∧ ∀ i y, i < k → m.rows[i]? = some y → (y.xs.length : Int) = m.n) (fun k => m.rows.length - k) 0 ⟨Nat.zero_le _, fun i y hi => by omega⟩ ⟨rfl, rfl, rfl, rfl, trivial⟩ (List.Sublist.refl _) (fun k hI IH => ?_)
      obtain ⟨hk, hall⟩ := hI
      refine GoH.seq (GoH.region ?_)
      refine GoH.v (Vop.bin rfl rfl rfl rfl bLt rfl) ?_
      refine GoH.regionEnd (GoH.seq ?_)
      refine GoH.cond rfl (fun hc => ?_) (fun hc => ?_)
      ·
       have hlt : k < m.rows.length := by simpa using hc
       refine GoH.skip (GoH.seq (GoH.block (GoH.seq (GoH.region ?_))))
       refine GoH.v (Vop.idx rfl rfl rfl rfl rfl Tryd.underlying23 Tryd.sizeOf22 ⟨_, hm.rel⟩ (by simp) (k) ⟨rfl, by simpa using hlt⟩) ?_
       refine GoH.v (Vop.ld rfl rfl rfl rfl Tryd.isAgg22 (fun w _ hS => (SlR.ex0 hm.rel hS.ext).at (k) hlt)) ?_
       refine GoH.v (Vop.asg rfl rfl rfl rfl) ?_
       refine GoH.regionEnd (GoH.seq (GoH.region ?_))
       refine GoH.v (Vop.mv rfl rfl rfl rfl) ?_
       refine GoH.v (Vop.blt rfl rfl rfl (blt_len_slice Tryd.underlying22) rfl) ?_
       refine GoH.v (Vop.fldP rfl rfl rfl rfl Tryd.underlying25 rfl (by exact Tryd.sizeOf3) 0 rfl) ?_
       refine GoH.v (Vop.ldo rfl rfl rfl rfl Tryd.isAgg3 0 rfl rfl) ?_
       refine GoH.v (Vop.bin rfl rfl rfl rfl bNe rfl) ?_
       refine GoH.regionEnd ?_
       refine GoH.cond rfl (fun hc => ?_) (fun hc => ?_)
       ·
        have h7 : m.rel.any (fun r => (r.length : Int) != m.n) = true := by
          rw [List.any_eq_true]
          exact ⟨_, List.mem_map.2 ⟨m.rows[k], List.getElem_mem hlt, rfl⟩, hc⟩
        refine GoH.seq (GoH.region ?_)
        refine GoH.v (Vop.asg rfl rfl rfl rfl) ?_
        refine GoH.regionEnd ?_
        refine GoH.ret Tryd.f35 Tryd.func35 rfl (fun w' hS => ?_)
        exact ⟨hS.ext, by rw [checkM, if_neg h3, if_neg h6, if_pos h7]; rfl⟩
       ·
        refine GoH.skip (GoH.inBlock (GoH.region ?_))
        refine GoH.v (Vop.bin rfl rfl rfl rfl (bAdd (by omega)) rfl) ?_
        refine GoH.v (Vop.mv rfl rfl rfl rfl) ?_
        refine GoH.regionEnd ?_
        exact IH (k + 1) _ _ ⟨hlt, fun i y hi hy => by
        by_cases e : i = k
        · subst e; rw [List.getElem?_eq_getElem hlt] at hy; cases hy; simpa using hc
        · exact hall i y (by omega) hy⟩ (by omega) ⟨rfl, rfl, rfl, rfl, trivial⟩ (List.Sublist.refl _)
      ·
       have hge : ¬ k < m.rows.length := by simpa using hc
       obtain rfl : k = m.rows.length := by omega
       have h7 : ¬ m.rel.any (fun r => (r.length : Int) != m.n) = true := by
         rw [Bool.not_eq_true, List.any_eq_false]
         intro r hr
         obtain ⟨y, hy, rfl⟩ := List.mem_map.1 hr
         obtain ⟨i, hi, rfl⟩ := List.mem_iff_getElem.1 hy
         simpa using hall i _ hi (List.getElem?_eq_getElem hi)
       refine GoH.exit rfl (GoH.seq (GoH.seq (GoH.region ?_)))
       refine GoH.v (Vop.fldP rfl rfl rfl rfl Tryd.underlying25 rfl (by exact Tryd.sizeOf22) 1 rfl) ?_
       refine GoH.v (Vop.ldo rfl rfl rfl rfl Tryd.isAgg22 0 rfl rfl) ?_
       refine GoH.v (Vop.fldP rfl rfl rfl rfl Tryd.underlying25 rfl (by exact Tryd.sizeOf3) 0 rfl) ?_
       refine GoH.v (Vop.ldo rfl rfl rfl rfl Tryd.isAgg3 0 rfl rfl) ?_
       refine GoH.callP rfl rfl rfl rfl rfl (fun _ _ => Tryd.call61 _ _) (fun w _ hS => outside_c m.va m.vc m.val m.n hn w (hm.val.ex0 hS.ext) hm.lv) ?_
       refine GoH.v (Vop.mv rfl rfl rfl rfl) ?_
       refine GoH.cases (d := 41) rfl (fun hc => ?_) (fun hc => ?_)
       ·
        iterate 4 refine GoH.no rfl rfl rfl rfl ?_
        refine GoH.v (Vop.pickT rfl rfl rfl rfl rfl) ?_
        refine GoH.regionEnd (GoH.condT rfl (GoH.seq (GoH.region ?_)))
        refine GoH.v (Vop.asg rfl rfl rfl rfl) ?_
        refine GoH.regionEnd ?_
        refine GoH.ret Tryd.f35 Tryd.func35 rfl (fun w' hS => ?_)
        exact ⟨hS.ext, by rw [checkM, if_neg h3, if_neg h6, if_neg h7, if_pos (by rw [hc]; rfl)]; rfl⟩
       ·
        have h8 := hc
        refine GoH.v (Vop.fldP rfl rfl rfl rfl Tryd.underlying25 rfl (by exact Tryd.sizeOf23) 2 rfl) ?_
        refine GoH.v (Vop.ldo rfl rfl rfl rfl Tryd.isAgg23 0 rfl rfl) ?_
        refine GoH.v (Vop.mkFunc rfl rfl rfl rfl rfl) ?_
        refine GoH.callP rfl rfl rfl rfl rfl (fun _ _ => Tryd.call62 _ _) (fun w _ hS => cfR_c [.pointer (some ⟨b1, 0, none⟩)] (fun r => outB m.n.toNat r.xs) (fun _ _ => Tryd.call63 _ _) m.ra m.rc m.rows w (hm.rel.ex0 hS.ext) hm.lr (fun w' he x hx => check1_c x m hn b1 w' ((hm.row x hx).ex0 (hS.ext.trans he (by simp))) (he.keep (hS.get (j := 0) rfl)))) ?_
        refine GoH.v (Vop.pickF rfl rfl rfl rfl rfl) ?_
        refine GoH.regionEnd ?_
        refine GoH.cond rfl (fun hc => ?_) (fun hc => ?_)
        ·
         refine GoH.seq (GoH.region ?_)
         refine GoH.v (Vop.asg rfl rfl rfl rfl) ?_
         refine GoH.regionEnd ?_
         refine GoH.ret Tryd.f35 Tryd.func35 rfl (fun w' hS => ?_)
         exact ⟨hS.ext, by rw [checkM, if_neg h3, if_neg h6, if_neg h7, if_pos (by rw [MV.rel, List.any_map, show m.rows.any (outB m.n.toNat ∘ Row.xs) = _ from hc]; simp)]; rfl⟩
        ·
         refine GoH.skip (GoH.seq (GoH.region ?_))
         refine GoH.v (Vop.asg rfl rfl rfl rfl) ?_
         refine GoH.regionEnd ?_
         refine GoH.ret Tryd.f35 Tryd.func35 rfl (fun w' hS => ?_)
         exact ⟨hS.ext, by rw [checkM, if_neg h3, if_neg h6, if_neg h7, if_neg (by rw [h8, MV.rel, List.any_map, show m.rows.any (outB m.n.toNat ∘ Row.xs) = _ from hc]; simp)]; rfl⟩
end Go.Proofs.YtcljmlnnfdaljaaDoor
namespace Go.Proofs.YtcljmlnnfdaljaaDoor
open Go.RowKit Go.Proofs.Wit
/-! the reference on models and logics -/
theorem rmAll_c (n : Nat) (w : World) (h : n ≤ 64) : Cn Tryd.prog 52 [.int .i64 n] w (fun v _ => v = U (allW n)) := by
  refine Cn.of Tryd.func52 rfl rfl ?_
  refine GoH.seq (GoH.region ?_)
  refine GoH.v (Vop.asg (v := U 0#64) rfl rfl rfl rfl) ?_
  refine GoH.regionEnd (GoH.seq (GoH.seq (GoH.region ?_)))
  refine GoH.v (Vop.mv rfl rfl rfl rfl) ?_
  refine GoH.v (Vop.bin rfl rfl rfl rfl bGe rfl) ?_
  refine GoH.regionEnd ?_
  refine GoH.cond rfl (fun hc => ?_) (fun hc => ?_)
  ·
   have h2 : 64 ≤ n := by simp at hc; omega
   refine GoH.seq (GoH.region ?_)
   refine GoH.v (Vop.asg (v := U 18446744073709551615#64) rfl rfl rfl rfl) ?_
   refine GoH.regionEnd ?_
   refine GoH.ret Tryd.f52 Tryd.func52 rfl (fun w' hS => ?_)
   exact ⟨hS.ext, by rw [allW, if_pos h2]; rfl⟩
  ·
   have h2 : ¬ 64 ≤ n := by simp at hc; omega
   refine GoH.skip (GoH.seq (GoH.region ?_))
   refine GoH.v (Vop.mv rfl rfl rfl rfl) ?_
   refine GoH.v (Vop.bin (a := U 1#64) rfl rfl rfl rfl (bShl _ rfl) rfl) ?_
   refine GoH.v (Vop.bin (b := U 1#64) rfl rfl rfl rfl bSubU rfl) ?_
   refine GoH.v (Vop.asg rfl rfl rfl rfl) ?_
   refine GoH.regionEnd ?_
   refine GoH.ret Tryd.f52 Tryd.func52 rfl (fun w' hS => ?_)
   exact ⟨hS.ext, by rw [allW, if_neg h2]; rfl⟩
theorem beyond_c (a : Option Addr) (ca : Nat) (xs : List W64) (n : Int) (hn : 0 ≤ n ∧ n ≤ 64) (w : World) (ha : SlU w a xs) (hl : xs.length ≤ maxLen) :
    Cn Tryd.prog 25 [.slice a xs.length ca, .int .i64 n] w (fun v _ => v = .bool (outB n.toNat xs)) := by
  obtain ⟨N, rfl⟩ : ∃ N : Nat, n = N := ⟨n.toNat, by omega⟩
  unfold maxLen at hl
  refine Cn.of Tryd.func25 rfl rfl ?_
  refine GoH.seq (GoH.region ?_)
  refine GoH.v (Vop.asg rfl rfl rfl rfl) ?_
  refine GoH.regionEnd (GoH.seq (GoH.seq (GoH.region ?_)))
  refine GoH.v (Vop.asg rfl rfl rfl rfl) ?_
  refine GoH.regionEnd (GoH.block ?_)
  refine GoH.loop (σ := Nat) (fun k => [(0, .slice a xs.length ca), (1, .int .i64 N), (5, .int .i64 k)]) (fun _ => []) (fun k => k ≤ xs.length ∧ ∀ i, i < k → xs.getD i 0#64 &&& ~~~ allW N = 0#64) (fun k => xs.length - k) 0 ⟨Nat.zero_le _, fun i hi => by omega⟩ ⟨rfl, rfl, rfl, trivial⟩ .slnil (fun k hI IH => ?_)
  obtain ⟨hk, hall⟩ := hI
  refine GoH.seq (GoH.seq (GoH.region ?_))
  iterate 2 refine GoH.v (Vop.mv rfl rfl rfl rfl) ?_
  refine GoH.v (Vop.blt rfl rfl rfl (blt_len_slice Tryd.underlying22) rfl) ?_
  refine GoH.v (Vop.bin rfl rfl rfl rfl bLt rfl) ?_
  refine GoH.regionEnd ?_
  refine GoH.cond rfl (fun hc => ?_) (fun hc => ?_)
  ·
   have hlt : k < xs.length := by simpa using hc
   refine GoH.skip (GoH.seq (GoH.block (GoH.seq ?_)))
   refine GoH.draw 8 mixed rfl ?_
   iterate 2 refine RdGo.v (Vop.mv rfl rfl rfl rfl) ?_
   refine RdGo.v (Vop.idx rfl rfl rfl rfl rfl Tryd.underlying22 Tryd.sizeOf33 ⟨_, ha⟩ (by simp) (k) ⟨rfl, by simpa using hlt⟩) ?_
   refine RdGo.v (Vop.ld rfl rfl rfl rfl Tryd.isAgg33 (fun w _ hS => (SlU.ex0 ha hS.ext).at (k) hlt)) ?_
   refine RdGo.v (Vop.mv rfl rfl rfl rfl) ?_
   refine RdGo.callP rfl rfl rfl rfl rfl (fun _ _ => Tryd.call52 _ _) (fun w _ hS => rmAll_c N w (by omega)) ?_
   refine RdGo.v (Vop.bin rfl rfl rfl rfl bAndNot rfl) ?_
   refine RdGo.v (Vop.bin (b := U 0#64) rfl rfl rfl rfl bNeU rfl) ?_
   refine RdGo.nil ?_
   refine GoH.regionEnd ?_
   refine GoH.cond rfl (fun hc => ?_) (fun hc => ?_)
   ·
    refine GoH.seq (GoH.region ?_)
    refine GoH.v (Vop.asg rfl rfl rfl rfl) ?_
    refine GoH.regionEnd ?_
    refine GoH.ret Tryd.f25 Tryd.func25 rfl (fun w' hS => ?_)
    exact ⟨hS.ext, by rw [Int.toNat_natCast, show outB N xs = true from by unfold outB; rw [List.any_eq_true]; exact ⟨_, by rw [List.getD_eq_getElem?_getD, List.getElem?_eq_getElem hlt]; exact List.getElem_mem hlt, hc⟩]; rfl⟩
   ·
    refine GoH.skip (GoH.inBlock (GoH.region ?_))
    refine GoH.v (Vop.mv rfl rfl rfl rfl) ?_
    refine GoH.v (Vop.bin rfl rfl rfl rfl (bAdd (by omega)) rfl) ?_
    refine GoH.v (Vop.asg rfl rfl rfl rfl) ?_
    refine GoH.regionEnd ?_
    exact IH (k + 1) _ _ ⟨hlt, fun i hi => by
    by_cases e : i = k
    · subst e; simpa using hc
    · exact hall i (by omega)⟩ (by omega) ⟨rfl, rfl, rfl, trivial⟩ .slnil
  ·
   have hge : ¬ k < xs.length := by simpa using hc
   obtain rfl : k = xs.length := by omega
   refine GoH.exit rfl (GoH.seq (GoH.region ?_))
   refine GoH.v (Vop.asg rfl rfl rfl rfl) ?_
   refine GoH.regionEnd ?_
   refine GoH.ret Tryd.f25 Tryd.func25 rfl (fun w' hS => ?_)
   exact ⟨hS.ext, by rw [Int.toNat_natCast, show outB N xs = false from outB_false.2 (fun s hs => by
   obtain ⟨i, hi, rfl⟩ := List.mem_iff_getElem.1 hs
   simpa [List.getD_eq_getElem?_getD, hi] using hall i hi)]; rfl⟩
theorem beyondR_c (r : Row) (n : Int) (hn : 0 ≤ n ∧ n ≤ 64) (w : World) (h : r.At w) : Cn Tryd.prog 25 [r.v, .int .i64 n] w (fun v _ => v = .bool (outB n.toNat r.xs)) := beyond_c r.a r.cap r.xs n hn w h.at_ h.len
set_option maxRecDepth 4000 in
theorem rmCheck_c (m : MV) (w : World) (hm : m.At w) : Cn Tryd.prog 8 [m.v] w (fun v _ => v = .int .i64 (checkM m.n m.val m.rel)) := by
  have hlr := hm.lr
  unfold maxLen at hlr
  have hrl : m.rel.length = m.rows.length := by simp [MV.rel]
  refine Cn.of Tryd.func8 rfl rfl ?_
  refine GoH.seq (GoH.region ?_)
  refine GoH.bx rfl rfl rfl rfl (fun b1 => ?_)
  refine GoH.v (Vop.asg rfl rfl rfl rfl) ?_
  refine GoH.regionEnd (GoH.seq (GoH.seq (GoH.region ?_)))
  refine GoH.v (Vop.fldP rfl rfl rfl rfl Tryd.underlying25 rfl (by exact Tryd.sizeOf3) 0 rfl) ?_
  refine GoH.v (Vop.ldo (v := .int .i64 m.n) rfl rfl rfl rfl Tryd.isAgg3 0 rfl rfl) ?_
  refine GoH.v (Vop.bin rfl rfl rfl rfl bLt rfl) ?_
  refine GoH.v (Vop.mv rfl rfl rfl rfl) ?_
  refine GoH.cases (d := 8) rfl (fun hc => ?_) (fun hc => ?_)
  ·
   have h1 : m.n < 1 := by simpa using hc
   iterate 3 refine GoH.no rfl rfl rfl rfl ?_
   refine GoH.v (Vop.pickT rfl rfl rfl rfl rfl) ?_
   refine GoH.regionEnd (GoH.condT rfl (GoH.seq (GoH.region ?_)))
   refine GoH.v (Vop.asg rfl rfl rfl rfl) ?_
   refine GoH.regionEnd ?_
   refine GoH.ret Tryd.f8 Tryd.func8 rfl (fun w' hS => ?_)
   exact ⟨hS.ext, by rw [checkM, if_pos (.inl h1)]; rfl⟩
  ·
   have h1 : ¬ m.n < 1 := by simpa using hc
   refine GoH.v (Vop.fldP rfl rfl rfl rfl Tryd.underlying25 rfl (by exact Tryd.sizeOf3) 0 rfl) ?_
   refine GoH.v (Vop.ldo (v := .int .i64 m.n) rfl rfl rfl rfl Tryd.isAgg3 0 rfl rfl) ?_
   refine GoH.v (Vop.bin rfl rfl rfl rfl bGt rfl) ?_
   refine GoH.v (Vop.pickF rfl rfl rfl rfl rfl) ?_
   refine GoH.regionEnd ?_
   refine GoH.cond rfl (fun hc => ?_) (fun hc => ?_)
   ·
    have h2 : 64 < m.n := by simpa using hc
    refine GoH.seq (GoH.region ?_)
    refine GoH.v (Vop.asg rfl rfl rfl rfl) ?_
    refine GoH.regionEnd ?_
    refine GoH.ret Tryd.f8 Tryd.func8 rfl (fun w' hS => ?_)
    exact ⟨hS.ext, by rw [checkM, if_pos (.inr h2)]; rfl⟩
   ·
    have h2 : ¬ 64 < m.n := by simpa using hc
    have h3 : ¬ (m.n < 1 ∨ 64 < m.n) := by omega
    have hn : 0 ≤ m.n ∧ m.n ≤ 64 := by omega
    refine GoH.skip (GoH.seq (GoH.seq (GoH.region ?_)))
    refine GoH.v (Vop.fldP rfl rfl rfl rfl Tryd.underlying25 rfl (by exact Tryd.sizeOf23) 2 rfl) ?_
    refine GoH.v (Vop.ldo (v := .slice m.ra m.rows.length m.rc) rfl rfl rfl rfl Tryd.isAgg23 0 rfl rfl) ?_
    refine GoH.v (Vop.blt rfl rfl rfl (blt_len_slice Tryd.underlying23) rfl) ?_
    refine GoH.v (Vop.bin rfl rfl rfl rfl bGt rfl) ?_
    refine GoH.v (Vop.mv rfl rfl rfl rfl) ?_
    refine GoH.cases (d := 17) rfl (fun hc => ?_) (fun hc => ?_)
    ·
     have h4 : 4 < m.rel.length := by simp at hc; omega
     iterate 4 refine GoH.no rfl rfl rfl rfl ?_
     refine GoH.v (Vop.pickT rfl rfl rfl rfl rfl) ?_
     refine GoH.regionEnd (GoH.condT rfl (GoH.seq (GoH.region ?_)))
     refine GoH.v (Vop.asg rfl rfl rfl rfl) ?_
     refine GoH.regionEnd ?_
     refine GoH.ret Tryd.f8 Tryd.func8 rfl (fun w' hS => ?_)
     exact ⟨hS.ext, by rw [checkM, if_neg h3, if_pos (.inl h4)]; rfl⟩
    ·
     have h4 : ¬ 4 < m.rel.length := by simp at hc; omega
     refine GoH.v (Vop.fldP rfl rfl rfl rfl Tryd.underlying25 rfl (by exact Tryd.sizeOf22) 1 rfl) ?_
     refine GoH.v (Vop.ldo (v := .slice m.va m.val.length m.vc) rfl rfl rfl rfl Tryd.isAgg22 0 rfl rfl) ?_
     refine GoH.v (Vop.blt rfl rfl rfl (blt_len_slice Tryd.underlying22) rfl) ?_
     refine GoH.v (Vop.bin rfl rfl rfl rfl bGt rfl) ?_
     refine GoH.v (Vop.pickF rfl rfl rfl rfl rfl) ?_
     refine GoH.regionEnd ?_
     refine GoH.cond rfl (fun hc => ?_) (fun hc => ?_)
     ·
      have h5 : 8 < m.val.length := by simp at hc; omega
      refine GoH.seq (GoH.region ?_)
      refine GoH.v (Vop.asg rfl rfl rfl rfl) ?_
      refine GoH.regionEnd ?_
      refine GoH.ret Tryd.f8 Tryd.func8 rfl (fun w' hS => ?_)
      exact ⟨hS.ext, by rw [checkM, if_neg h3, if_pos (.inr h5)]; rfl⟩
     ·
      have h5 : ¬ 8 < m.val.length := by simp at hc; omega
      have h6 : ¬ (4 < m.rel.length ∨ 8 < m.val.length) := by omega
      refine GoH.skip (GoH.seq (GoH.seq (GoH.region ?_)))
      refine GoH.v (Vop.asg rfl rfl rfl rfl) ?_
      refine GoH.regionEnd (GoH.block ?_)
      refine GoH.loop (σ := Nat) (fun k => [(1, .pointer (some ⟨b1, 0, none⟩)), (3, .int .i64 k)]) (fun _ => [(some b1, .cells m.cs 25 (0, 0))])
        (fun k => k ≤ m.rows.length ∧ ∀ i y, i < k → m.rows[i]? = some y → (y.xs.length : Int) = m.n) (fun k => m.rows.length - k) 0 ⟨Nat.zero_le _, fun i y hi => by omega⟩ ⟨rfl, rfl, trivial⟩ (List.Sublist.refl _) (fun k hI IH => ?_)
      obtain ⟨hk, hall⟩ := hI
      refine GoH.seq (GoH.seq (GoH.region ?_))
      refine GoH.v (Vop.mv rfl rfl rfl rfl) ?_
      refine GoH.v (Vop.fldP rfl rfl rfl rfl Tryd.underlying25 rfl (by exact Tryd.sizeOf23) 2 rfl) ?_
      refine GoH.v (Vop.ldo (v := .slice m.ra m.rows.length m.rc) rfl rfl rfl rfl Tryd.isAgg23 0 rfl rfl) ?_
      refine GoH.v (Vop.blt rfl rfl rfl (blt_len_slice Tryd.underlying23) rfl) ?_
      refine GoH.v (Vop.bin rfl rfl rfl rfl bLt rfl) ?_
      refine GoH.regionEnd ?_
      refine GoH.cond rfl (fun hc => ?_) (fun hc => ?_)
      ·
       have hlt : k < m.rows.length := by simpa using hc
       refine GoH.skip (GoH.seq (GoH.block (GoH.seq ?_)))
       refine GoH.draw 9 mixed rfl ?_
       refine RdGo.v (Vop.fldP rfl rfl rfl rfl Tryd.underlying25 rfl (by exact Tryd.sizeOf23) 2 rfl) ?_
       refine RdGo.v (Vop.ldo (v := .slice m.ra m.rows.length m.rc) rfl rfl rfl rfl Tryd.isAgg23 0 rfl rfl) ?_
       refine RdGo.v (Vop.mv rfl rfl rfl rfl) ?_
       refine RdGo.v (Vop.idx rfl rfl rfl rfl rfl Tryd.underlying23 Tryd.sizeOf22 ⟨_, hm.rel⟩ (by simp) (k) ⟨rfl, by simpa using hlt⟩) ?_
       refine RdGo.v (Vop.ld rfl rfl rfl rfl Tryd.isAgg22 (fun w _ hS => (SlR.ex0 hm.rel hS.ext).at (k) hlt)) ?_
       refine RdGo.v (Vop.blt rfl rfl rfl (blt_len_slice Tryd.underlying22) rfl) ?_
       refine RdGo.v (Vop.fldP rfl rfl rfl rfl Tryd.underlying25 rfl (by exact Tryd.sizeOf3) 0 rfl) ?_
       refine RdGo.v (Vop.ldo (v := .int .i64 m.n) rfl rfl rfl rfl Tryd.isAgg3 0 rfl rfl) ?_
       refine RdGo.v (Vop.bin rfl rfl rfl rfl bNe rfl) ?_
       refine RdGo.nil ?_
       refine GoH.regionEnd ?_
       refine GoH.cond rfl (fun hc => ?_) (fun hc => ?_)
       ·
        have h7 : m.rel.any (fun r => (r.length : Int) != m.n) = true := by
          rw [List.any_eq_true]
          exact ⟨_, List.mem_map.2 ⟨m.rows[k], List.getElem_mem hlt, rfl⟩, hc⟩
        refine GoH.seq (GoH.region ?_)
        refine GoH.v (Vop.asg rfl rfl rfl rfl) ?_
        refine GoH.regionEnd ?_
        refine GoH.ret Tryd.f8 Tryd.func8 rfl (fun w' hS => ?_)
        exact ⟨hS.ext, by rw [checkM, if_neg h3, if_neg h6, if_pos h7]; rfl⟩
       ·
        refine GoH.skip (GoH.inBlock (GoH.region ?_))
        refine GoH.v (Vop.mv rfl rfl rfl rfl) ?_
        refine GoH.v (Vop.bin rfl rfl rfl rfl (bAdd (by omega)) rfl) ?_
        refine GoH.v (Vop.asg rfl rfl rfl rfl) ?_
        refine GoH.regionEnd ?_
        exact IH (k + 1) _ _ ⟨hlt, fun i y hi hy => by
        by_cases e : i = k
        · subst e; rw [List.getElem?_eq_getElem hlt] at hy; cases hy; simpa using hc
        · exact hall i y (by omega) hy⟩ (by omega) ⟨rfl, rfl, trivial⟩ (List.Sublist.refl _)
      ·
       have hge : ¬ k < m.rows.length := by simpa using hc
       obtain rfl : k = m.rows.length := by omega
       have h7 : ¬ m.rel.any (fun r => (r.length : Int) != m.n) = true := by
         rw [Bool.not_eq_true, List.any_eq_false]
         intro r hr
         obtain ⟨y, hy, rfl⟩ := List.mem_map.1 hr
         obtain ⟨i, hi, rfl⟩ := List.mem_iff_getElem.1 hy
         simpa using hall i _ hi (List.getElem?_eq_getElem hi)
       refine GoH.exit rfl (GoH.seq (GoH.seq (GoH.region ?_)))
       refine GoH.v (Vop.fldP rfl rfl rfl rfl Tryd.underlying25 rfl (by exact Tryd.sizeOf22) 1 rfl) ?_
       refine GoH.v (Vop.ldo (v := .slice m.va m.val.length m.vc) rfl rfl rfl rfl Tryd.isAgg22 0 rfl rfl) ?_
       refine GoH.v (Vop.fldP rfl rfl rfl rfl Tryd.underlying25 rfl (by exact Tryd.sizeOf3) 0 rfl) ?_
       refine GoH.v (Vop.ldo (v := .int .i64 m.n) rfl rfl rfl rfl Tryd.isAgg3 0 rfl rfl) ?_
       refine GoH.callP rfl rfl rfl rfl rfl (fun _ _ => Tryd.call25 _ _) (fun w _ hS => beyond_c m.va m.vc m.val m.n hn w (hm.val.ex0 hS.ext) hm.lv) ?_
       refine GoH.regionEnd ?_
       refine GoH.cond rfl (fun hc => ?_) (fun hc => ?_)
       ·
        refine GoH.seq (GoH.region ?_)
        refine GoH.v (Vop.asg rfl rfl rfl rfl) ?_
        refine GoH.regionEnd ?_
        refine GoH.ret Tryd.f8 Tryd.func8 rfl (fun w' hS => ?_)
        exact ⟨hS.ext, by rw [checkM, if_neg h3, if_neg h6, if_neg h7, if_pos (by rw [hc]; rfl)]; rfl⟩
       ·
        have h8 := hc
        refine GoH.skip (GoH.seq (GoH.seq (GoH.region ?_)))
        refine GoH.v (Vop.asg rfl rfl rfl rfl) ?_
        refine GoH.regionEnd (GoH.block ?_)
        refine GoH.loop (σ := Nat) (fun k => [(1, .pointer (some ⟨b1, 0, none⟩)), (4, .int .i64 k)]) (fun _ => [(some b1, .cells m.cs 25 (0, 0))])
          (fun k => k ≤ m.rows.length ∧ ∀ i y, i < k → m.rows[i]? = some y → outB m.n.toNat y.xs = false) (fun k => m.rows.length - k) 0 ⟨Nat.zero_le _, fun i y hi => by omega⟩ ⟨rfl, rfl, trivial⟩ (List.Sublist.refl _) (fun k hI IH => ?_)
        obtain ⟨hk, hout⟩ := hI
        refine GoH.seq (GoH.seq (GoH.region ?_))
        refine GoH.v (Vop.mv rfl rfl rfl rfl) ?_
        refine GoH.v (Vop.fldP rfl rfl rfl rfl Tryd.underlying25 rfl (by exact Tryd.sizeOf23) 2 rfl) ?_
        refine GoH.v (Vop.ldo (v := .slice m.ra m.rows.length m.rc) rfl rfl rfl rfl Tryd.isAgg23 0 rfl rfl) ?_
        refine GoH.v (Vop.blt rfl rfl rfl (blt_len_slice Tryd.underlying23) rfl) ?_
        refine GoH.v (Vop.bin rfl rfl rfl rfl bLt rfl) ?_
        refine GoH.regionEnd ?_
        refine GoH.cond rfl (fun hc => ?_) (fun hc => ?_)
        ·
         have hlt : k < m.rows.length := by simpa using hc
         have hrow := hm.row m.rows[k] (List.getElem_mem hlt)
         refine GoH.skip (GoH.seq (GoH.block (GoH.seq ?_)))
         refine GoH.draw 8 mixed rfl ?_
         refine RdGo.v (Vop.fldP rfl rfl rfl rfl Tryd.underlying25 rfl (by exact Tryd.sizeOf23) 2 rfl) ?_
         refine RdGo.v (Vop.ldo (v := .slice m.ra m.rows.length m.rc) rfl rfl rfl rfl Tryd.isAgg23 0 rfl rfl) ?_
         refine RdGo.v (Vop.mv rfl rfl rfl rfl) ?_
         refine RdGo.v (Vop.idx rfl rfl rfl rfl rfl Tryd.underlying23 Tryd.sizeOf22 ⟨_, hm.rel⟩ (by simp) (k) ⟨rfl, by simpa using hlt⟩) ?_
         refine RdGo.v (Vop.ld rfl rfl rfl rfl Tryd.isAgg22 (fun w _ hS => (SlR.ex0 hm.rel hS.ext).at (k) hlt)) ?_
         refine RdGo.v (Vop.fldP rfl rfl rfl rfl Tryd.underlying25 rfl (by exact Tryd.sizeOf3) 0 rfl) ?_
         refine RdGo.v (Vop.ldo (v := .int .i64 m.n) rfl rfl rfl rfl Tryd.isAgg3 0 rfl rfl) ?_
         refine RdGo.callP rfl rfl rfl rfl rfl (fun _ _ => Tryd.call25 _ _) (fun w _ hS => beyondR_c m.rows[k] m.n hn w (hrow.ex0 hS.ext)) ?_
         refine RdGo.nil ?_
         refine GoH.regionEnd ?_
         refine GoH.cond rfl (fun hc => ?_) (fun hc => ?_)
         ·
          refine GoH.seq (GoH.region ?_)
          refine GoH.v (Vop.asg rfl rfl rfl rfl) ?_
          refine GoH.regionEnd ?_
          refine GoH.ret Tryd.f8 Tryd.func8 rfl (fun w' hS => ?_)
          exact ⟨hS.ext, by rw [checkM, if_neg h3, if_neg h6, if_neg h7, if_pos (by rw [Bool.or_eq_true, List.any_eq_true]; exact .inr ⟨_, List.mem_map.2 ⟨m.rows[k], List.getElem_mem hlt, rfl⟩, hc⟩)]; rfl⟩
         ·
          refine GoH.skip (GoH.inBlock (GoH.region ?_))
          refine GoH.v (Vop.mv rfl rfl rfl rfl) ?_
          refine GoH.v (Vop.bin rfl rfl rfl rfl (bAdd (by omega)) rfl) ?_
          refine GoH.v (Vop.asg rfl rfl rfl rfl) ?_
          refine GoH.regionEnd ?_
          exact IH (k + 1) _ _ ⟨hlt, fun i y hi hy => by
          by_cases e : i = k
          · subst e; rw [List.getElem?_eq_getElem hlt] at hy; cases hy; exact hc
          · exact hout i y (by omega) hy⟩ (by omega) ⟨rfl, rfl, trivial⟩ (List.Sublist.refl _)
        ·
         have hge : ¬ k < m.rows.length := by simpa using hc
         obtain rfl : k = m.rows.length := by omega
         have h9 : m.rel.any (outB m.n.toNat) = false := by
           rw [List.any_eq_false]
           intro r hr
           obtain ⟨y, hy, rfl⟩ := List.mem_map.1 hr
           obtain ⟨i, hi, rfl⟩ := List.mem_iff_getElem.1 hy
           rw [hout i _ hi (List.getElem?_eq_getElem hi)]; simp
         refine GoH.exit rfl (GoH.seq (GoH.region ?_))
         refine GoH.v (Vop.asg rfl rfl rfl rfl) ?_
         refine GoH.regionEnd ?_
         refine GoH.ret Tryd.f8 Tryd.func8 rfl (fun w' hS => ?_)
         exact ⟨hS.ext, by rw [checkM, if_neg h3, if_neg h6, if_neg h7, if_neg (by rw [h8, h9]; simp)]; rfl⟩
end Go.Proofs.YtcljmlnnfdaljaaDoor
