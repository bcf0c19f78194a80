/- Contracts of functions of the program: what each call returns and that nothing else of memory is turned, under the conditions that each theorem states. -/
import Derived.Test.YtbjopkllkoomkaaDoorF1
import Derived.Test.YtbjopkllkoomkaaDoorWC
namespace Go.Proofs.YtbjopkllkoomkaaDoor
open Go.RowKit Go.Proofs.Wit
/-! models: what Check says; logics -/
theorem mall_c (n : Nat) (w : World) (h : n ≤ 64) : Cn Tryd.prog 91 [.int .i64 n] w (fun v _ => v = U (allW n)) := by
  refine Cn.of Tryd.func91 rfl rfl ?_
  refine GoH.seq ?_
  refine GoH.region ?_
  refine GoH.v (Vop.asg (v := U 0#64) rfl rfl rfl rfl) ?_
  refine GoH.regionEnd ?_
  refine GoH.seq ?_
  refine GoH.seq ?_
  refine GoH.region ?_
  refine GoH.v (Vop.mv rfl rfl rfl rfl) ?_
  refine GoH.v (Vop.bin rfl rfl rfl rfl bGe rfl) ?_
  refine GoH.regionEnd ?_
  refine GoH.cond rfl (fun hc => ?_) (fun hc => ?_)
  · -- yes
    have h2 : 64 ≤ n := by simp at hc; omega
    refine GoH.seq ?_
    refine GoH.region ?_
    refine GoH.v (Vop.asg (v := U 18446744073709551615#64) rfl rfl rfl rfl) ?_
    refine GoH.regionEnd ?_
    refine GoH.ret Tryd.f91 Tryd.func91 rfl (fun w' hS => ?_)
    exact ⟨hS.ext, by rw [allW, if_pos h2]; rfl⟩
  · -- no
    have h2 : ¬ 64 ≤ n := by simp at hc; omega
    refine GoH.skip ?_
    refine GoH.seq ?_
    refine GoH.region ?_
    refine GoH.v (Vop.mv rfl rfl rfl rfl) ?_
    refine GoH.v (Vop.bin (a := U 1#64) rfl rfl rfl rfl (bShl _ rfl) rfl) ?_
    refine GoH.v (Vop.bin (b := U 1#64) rfl rfl rfl rfl bSubU rfl) ?_
    refine GoH.v (Vop.asg rfl rfl rfl rfl) ?_
    refine GoH.regionEnd ?_
    refine GoH.ret Tryd.f91 Tryd.func91 rfl (fun w' hS => ?_)
    exact ⟨hS.ext, by rw [allW, if_neg h2]; rfl⟩
theorem outside1_c (s : W64) (n : Int) (hn : 0 ≤ n ∧ n ≤ 64) (b : Nat) (w : World) (hb : w.heap[b]? = some (.cells #[.int .i64 n] 3 (0, 0))) :
    Cn Tryd.prog 90 [U s, .pointer (some ⟨b, 0, none⟩)] w (fun v _ => v = .bool (s &&& ~~~ allW n.toNat != 0#64)) := by
  obtain ⟨N, rfl⟩ : ∃ N : Nat, n = N := ⟨n.toNat, by omega⟩
  refine Cn.of Tryd.func90 rfl rfl ?_
  refine GoH.seq ?_
  refine GoH.region ?_
  refine GoH.v (Vop.asg rfl rfl rfl rfl) ?_
  refine GoH.regionEnd ?_
  refine GoH.seq ?_
  refine GoH.region ?_
  refine GoH.v (Vop.mv rfl rfl rfl rfl) ?_
  refine GoH.v (Vop.ld rfl rfl rfl rfl Tryd.isAgg3 (fun w _ hS => (hS.ext.cell hb rfl))) ?_
  refine GoH.callP rfl rfl rfl rfl rfl (fun _ _ => Tryd.call91 _ _) (fun w _ hS => mall_c N w (by omega)) ?_
  refine GoH.v (Vop.bin rfl rfl rfl rfl bAndNot rfl) ?_
  refine GoH.v (Vop.bin (b := U 0#64) rfl rfl rfl rfl bNeU rfl) ?_
  refine GoH.v (Vop.asg rfl rfl rfl rfl) ?_
  refine GoH.regionEnd ?_
  refine GoH.ret Tryd.f90 Tryd.func90 rfl (fun w' hS => ?_)
  exact ⟨hS.ext, rfl⟩
theorem outside_c (a : Option Addr) (ca : Nat) (xs : List W64) (n : Int) (hn : 0 ≤ n ∧ n ≤ 64) (w : World) (ha : SlU w a xs) (hl : xs.length ≤ maxLen) :
    Cn Tryd.prog 60 [.slice a xs.length ca, .int .i64 n] w (fun v _ => v = .bool (outB n.toNat xs)) := by
  refine Cn.of Tryd.func60 rfl rfl ?_
  refine GoH.seq ?_
  refine GoH.region ?_
  refine GoH.bx rfl rfl rfl rfl (fun b3 => ?_)
  refine GoH.v (Vop.asg rfl rfl rfl rfl) ?_
  refine GoH.regionEnd ?_
  refine GoH.seq ?_
  refine GoH.region ?_
  refine GoH.v (Vop.mv rfl rfl rfl rfl) ?_
  refine GoH.v (Vop.mkFunc rfl rfl rfl rfl rfl) ?_
  refine GoH.callP rfl rfl rfl rfl rfl (fun _ _ => Tryd.call89 _ _) (fun w _ hS => cfU_c [.pointer (some ⟨b3, 0, none⟩)] (fun s => s &&& ~~~ allW n.toNat != 0#64) (fun _ _ => Tryd.call90 _ _) a ca xs w (ha.ex0 hS.ext) hl (fun w' he x _ => outside1_c x n hn b3 w' (he.keep (hS.get (j := 0) rfl)))) ?_
  refine GoH.v (Vop.asg rfl rfl rfl rfl) ?_
  refine GoH.regionEnd ?_
  refine GoH.ret Tryd.f60 Tryd.func60 rfl (fun w' hS => ?_)
  exact ⟨hS.ext, rfl⟩
theorem check1_c (r : Row) (m : MV) (hn : 0 ≤ m.n ∧ m.n ≤ 64) (b : Nat) (w : World) (hr : r.At w) (hb : w.heap[b]? = some (.cells m.v.cells 35 (0, 0))) :
    Cn Tryd.prog 61 [r.v, .pointer (some ⟨b, 0, none⟩)] w (fun v _ => v = .bool (outB m.n.toNat r.xs)) := by
  refine Cn.of Tryd.func61 rfl rfl ?_
  refine GoH.seq ?_
  refine GoH.region ?_
  refine GoH.v (Vop.asg rfl rfl rfl rfl) ?_
  refine GoH.regionEnd ?_
  refine GoH.seq ?_
  refine GoH.region ?_
  refine GoH.v (Vop.mv rfl rfl rfl rfl) ?_
  refine GoH.v (Vop.fldP rfl rfl rfl rfl Tryd.underlying35 rfl (by exact Tryd.sizeOf3) 0 rfl) ?_
  refine GoH.v (Vop.ld rfl rfl rfl rfl Tryd.isAgg3 (fun w _ hS => (hS.ext.cell hb (v := .int .i64 m.n) rfl))) ?_
  refine GoH.callP rfl rfl rfl rfl rfl (fun _ _ => Tryd.call60 _ _) (fun w _ hS => outside_c r.a r.cap r.xs m.n hn w (hr.at_.ex0 hS.ext) hr.len) ?_
  refine GoH.v (Vop.asg rfl rfl rfl rfl) ?_
  refine GoH.regionEnd ?_
  refine GoH.ret Tryd.f61 Tryd.func61 rfl (fun w' hS => ?_)
  exact ⟨hS.ext, rfl⟩
set_option maxRecDepth 16000 in
theorem mcheck_c (m : MV) (w : World) (hm : m.At w) : Cn Tryd.prog 36 [m.v] w (fun v _ => v = .int .i64 (checkM m.n m.val m.rel)) := by
  have hlr := hm.lr
  unfold maxLen at hlr
  have hrl : m.rel.length = m.rows.length := by simp [MV.rel]
  refine Cn.of Tryd.func36 rfl rfl ?_
  refine GoH.seq ?_
  refine GoH.region ?_
  refine GoH.bx rfl rfl rfl rfl (fun b1 => ?_)
  refine GoH.v (Vop.asg rfl rfl rfl rfl) ?_
  refine GoH.regionEnd ?_
  refine GoH.seq ?_
  refine GoH.seq ?_
  refine GoH.region ?_
  refine GoH.v (Vop.fldP rfl rfl rfl rfl Tryd.underlying35 rfl (by exact Tryd.sizeOf3) 0 rfl) ?_
  refine GoH.v (Vop.ldo rfl rfl rfl rfl Tryd.isAgg3 0 rfl rfl) ?_
  refine GoH.v (Vop.bin rfl rfl rfl rfl bLt rfl) ?_
  refine GoH.v (Vop.mv rfl rfl rfl rfl) ?_
  -- guard on slot 8 (model.go:26)
  refine GoH.cases (d := 8) rfl (fun hc => ?_) (fun hc => ?_)
  · -- yes
    have h1 : m.n < 1 := by simpa using hc
    refine GoH.no rfl rfl rfl rfl ?_
    refine GoH.no rfl rfl rfl rfl ?_
    refine GoH.no rfl rfl rfl rfl ?_
    refine GoH.v (Vop.pickT rfl rfl rfl rfl rfl) ?_
    refine GoH.regionEnd ?_
    refine GoH.condT rfl ?_
    refine GoH.seq ?_
    refine GoH.region ?_
    refine GoH.v (Vop.asg rfl rfl rfl rfl) ?_
    refine GoH.regionEnd ?_
    refine GoH.ret Tryd.f36 Tryd.func36 rfl (fun w' hS => ?_)
    exact ⟨hS.ext, by rw [checkM, if_pos (.inl h1)]; rfl⟩
  · -- no
    have h1 : ¬ m.n < 1 := by simpa using hc
    refine GoH.v (Vop.fldP rfl rfl rfl rfl Tryd.underlying35 rfl (by exact Tryd.sizeOf3) 0 rfl) ?_
    refine GoH.v (Vop.ldo rfl rfl rfl rfl Tryd.isAgg3 0 rfl rfl) ?_
    refine GoH.v (Vop.bin rfl rfl rfl rfl bGt rfl) ?_
    refine GoH.v (Vop.pickF rfl rfl rfl rfl rfl) ?_
    refine GoH.regionEnd ?_
    refine GoH.cond rfl (fun hc => ?_) (fun hc => ?_)
    · -- yes
      have h2 : 64 < m.n := by simpa using hc
      refine GoH.seq ?_
      refine GoH.region ?_
      refine GoH.v (Vop.asg rfl rfl rfl rfl) ?_
      refine GoH.regionEnd ?_
      refine GoH.ret Tryd.f36 Tryd.func36 rfl (fun w' hS => ?_)
      exact ⟨hS.ext, by rw [checkM, if_pos (.inr h2)]; rfl⟩
    · -- no
      have h2 : ¬ 64 < m.n := by simpa using hc
      have h3 : ¬ (m.n < 1 ∨ 64 < m.n) := by omega
      have hn : 0 ≤ m.n ∧ m.n ≤ 64 := by omega
      refine GoH.skip ?_
      refine GoH.seq ?_
      refine GoH.seq ?_
      refine GoH.region ?_
      refine GoH.v (Vop.fldP rfl rfl rfl rfl Tryd.underlying35 rfl (by exact Tryd.sizeOf33) 2 rfl) ?_
      refine GoH.v (Vop.ldo rfl rfl rfl rfl Tryd.isAgg33 0 rfl rfl) ?_
      refine GoH.v (Vop.blt rfl rfl rfl (blt_len_slice Tryd.underlying33) rfl) ?_
      refine GoH.v (Vop.bin rfl rfl rfl rfl bGt rfl) ?_
      refine GoH.v (Vop.mv rfl rfl rfl rfl) ?_
      -- guard on slot 17 (model.go:29)
      refine GoH.cases (d := 17) rfl (fun hc => ?_) (fun hc => ?_)
      · -- yes
        have h4 : 4 < m.rel.length := by simp at hc; omega
        refine GoH.no rfl rfl rfl rfl ?_
        refine GoH.no rfl rfl rfl rfl ?_
        refine GoH.no rfl rfl rfl rfl ?_
        refine GoH.no rfl rfl rfl rfl ?_
        refine GoH.v (Vop.pickT rfl rfl rfl rfl rfl) ?_
        refine GoH.regionEnd ?_
        refine GoH.condT rfl ?_
        refine GoH.seq ?_
        refine GoH.region ?_
        refine GoH.v (Vop.asg rfl rfl rfl rfl) ?_
        refine GoH.regionEnd ?_
        refine GoH.ret Tryd.f36 Tryd.func36 rfl (fun w' hS => ?_)
        exact ⟨hS.ext, by rw [checkM, if_neg h3, if_pos (.inl h4)]; rfl⟩
      · -- no
        have h4 : ¬ 4 < m.rel.length := by simp at hc; omega
        refine GoH.v (Vop.fldP rfl rfl rfl rfl Tryd.underlying35 rfl (by exact Tryd.sizeOf22) 1 rfl) ?_
        refine GoH.v (Vop.ldo rfl rfl rfl rfl Tryd.isAgg22 0 rfl rfl) ?_
        refine GoH.v (Vop.blt rfl rfl rfl (blt_len_slice Tryd.underlying22) rfl) ?_
        refine GoH.v (Vop.bin rfl rfl rfl rfl bGt rfl) ?_
        refine GoH.v (Vop.pickF rfl rfl rfl rfl rfl) ?_
        refine GoH.regionEnd ?_
        refine GoH.cond rfl (fun hc => ?_) (fun hc => ?_)
        · -- yes
          have h5 : 8 < m.val.length := by simp at hc; omega
          refine GoH.seq ?_
          refine GoH.region ?_
          refine GoH.v (Vop.asg rfl rfl rfl rfl) ?_
          refine GoH.regionEnd ?_
          refine GoH.ret Tryd.f36 Tryd.func36 rfl (fun w' hS => ?_)
          exact ⟨hS.ext, by rw [checkM, if_neg h3, if_pos (.inr h5)]; rfl⟩
        · -- no
          have h5 : ¬ 8 < m.val.length := by simp at hc; omega
          have h6 : ¬ (4 < m.rel.length ∨ 8 < m.val.length) := by omega
          refine GoH.skip ?_
          refine GoH.seq ?_
          refine GoH.seq ?_
          refine GoH.region ?_
          refine GoH.v (Vop.fldP rfl rfl rfl rfl Tryd.underlying35 rfl (by exact Tryd.sizeOf33) 2 rfl) ?_
          refine GoH.v (Vop.ldo rfl rfl rfl rfl Tryd.isAgg33 0 rfl rfl) ?_
          refine GoH.v (Vop.blt rfl rfl rfl (blt_len_slice Tryd.underlying33) rfl) ?_
          refine GoH.v (Vop.mv rfl rfl rfl rfl) ?_
          refine GoH.regionEnd ?_
          refine GoH.block ?_
          refine GoH.loop (σ := Nat) (fun k => [(1, .pointer (some ⟨b1, 0, none⟩)), (24, .slice m.ra m.rows.length m.rc), (25, .int .i64 m.rows.length), (26, .int .i64 k)]) (fun _ => [(some b1, .cells m.v.cells 35 (0, 0))])
            (fun k => k ≤ m.rows.length ∧ ∀ i y, i < k → m.rows[i]? = some y → (y.xs.length : Int) = m.n) (fun k => m.rows.length - k) 0 ⟨Nat.zero_le _, fun i y hi => by omega⟩ ⟨rfl, rfl, rfl, rfl, trivial⟩ (List.Sublist.refl _) (fun k hI IH => ?_)
          obtain ⟨hk, hall⟩ := hI
          -- heap: b1
          -- ptr: 1=b1
          refine GoH.seq ?_
          refine GoH.region ?_
          refine GoH.v (Vop.bin rfl rfl rfl rfl bLt rfl) ?_
          refine GoH.regionEnd ?_
          refine GoH.seq ?_
          refine GoH.cond rfl (fun hc => ?_) (fun hc => ?_)
          · -- yes
            have hlt : k < m.rows.length := by simpa using hc
            refine GoH.skip ?_
            refine GoH.seq ?_
            refine GoH.block ?_
            refine GoH.seq ?_
            refine GoH.region ?_
            refine GoH.v (Vop.idx rfl rfl rfl rfl rfl Tryd.underlying33 Tryd.sizeOf22 ⟨_, hm.rel⟩ (by simp) (k) ⟨rfl, by simpa using hlt⟩) ?_
            refine GoH.v (Vop.ld rfl rfl rfl rfl Tryd.isAgg22 (fun w _ hS => (SlR.ex0 hm.rel hS.ext).at (k) hlt)) ?_
            refine GoH.v (Vop.asg rfl rfl rfl rfl) ?_
            refine GoH.regionEnd ?_
            refine GoH.seq ?_
            refine GoH.region ?_
            refine GoH.v (Vop.mv rfl rfl rfl rfl) ?_
            refine GoH.v (Vop.blt rfl rfl rfl (blt_len_slice Tryd.underlying22) rfl) ?_
            refine GoH.v (Vop.fldP rfl rfl rfl rfl Tryd.underlying35 rfl (by exact Tryd.sizeOf3) 0 rfl) ?_
            refine GoH.v (Vop.ldo rfl rfl rfl rfl Tryd.isAgg3 0 rfl rfl) ?_
            refine GoH.v (Vop.bin rfl rfl rfl rfl bNe rfl) ?_
            refine GoH.regionEnd ?_
            refine GoH.cond rfl (fun hc => ?_) (fun hc => ?_)
            · -- yes
              have h7 : m.rel.any (fun r => (r.length : Int) != m.n) = true := by
                rw [List.any_eq_true]
                exact ⟨_, List.mem_map.2 ⟨m.rows[k], List.getElem_mem hlt, rfl⟩, hc⟩
              refine GoH.seq ?_
              refine GoH.region ?_
              refine GoH.v (Vop.asg rfl rfl rfl rfl) ?_
              refine GoH.regionEnd ?_
              refine GoH.ret Tryd.f36 Tryd.func36 rfl (fun w' hS => ?_)
              exact ⟨hS.ext, by rw [checkM, if_neg h3, if_neg h6, if_pos h7]; rfl⟩
            · -- no
              refine GoH.skip ?_
              refine GoH.inBlock ?_
              refine GoH.region ?_
              refine GoH.v (Vop.bin rfl rfl rfl rfl (bAdd (by omega)) rfl) ?_
              refine GoH.v (Vop.mv rfl rfl rfl rfl) ?_
              refine GoH.regionEnd ?_
              exact IH (k + 1) _ _ ⟨hlt, fun i y hi hy => by
              by_cases e : i = k
              · subst e; rw [List.getElem?_eq_getElem hlt] at hy; cases hy; simpa using hc
              · exact hall i y (by omega) hy⟩ (by omega) ⟨rfl, rfl, rfl, rfl, trivial⟩ (List.Sublist.refl _)
          · -- no
            have hge : ¬ k < m.rows.length := by simpa using hc
            obtain rfl : k = m.rows.length := by omega
            have h7 : ¬ m.rel.any (fun r => (r.length : Int) != m.n) = true := by
              rw [Bool.not_eq_true, List.any_eq_false]
              intro r hr
              obtain ⟨y, hy, rfl⟩ := List.mem_map.1 hr
              obtain ⟨i, hi, rfl⟩ := List.mem_iff_getElem.1 hy
              simpa using hall i _ hi (List.getElem?_eq_getElem hi)
            refine GoH.exit rfl ?_
            refine GoH.seq ?_
            refine GoH.seq ?_
            refine GoH.region ?_
            refine GoH.v (Vop.fldP rfl rfl rfl rfl Tryd.underlying35 rfl (by exact Tryd.sizeOf22) 1 rfl) ?_
            refine GoH.v (Vop.ldo rfl rfl rfl rfl Tryd.isAgg22 0 rfl rfl) ?_
            refine GoH.v (Vop.fldP rfl rfl rfl rfl Tryd.underlying35 rfl (by exact Tryd.sizeOf3) 0 rfl) ?_
            refine GoH.v (Vop.ldo rfl rfl rfl rfl Tryd.isAgg3 0 rfl rfl) ?_
            refine GoH.callP rfl rfl rfl rfl rfl (fun _ _ => Tryd.call60 _ _) (fun w _ hS => outside_c m.va m.vc m.val m.n hn w (hm.val.ex0 hS.ext) hm.lv) ?_
            refine GoH.v (Vop.mv rfl rfl rfl rfl) ?_
            -- guard on slot 41 (model.go:37)
            refine GoH.cases (d := 41) rfl (fun hc => ?_) (fun hc => ?_)
            · -- yes
              refine GoH.no rfl rfl rfl rfl ?_
              refine GoH.no rfl rfl rfl rfl ?_
              refine GoH.no rfl rfl rfl rfl ?_
              refine GoH.no rfl rfl rfl rfl ?_
              refine GoH.v (Vop.pickT rfl rfl rfl rfl rfl) ?_
              refine GoH.regionEnd ?_
              refine GoH.condT rfl ?_
              refine GoH.seq ?_
              refine GoH.region ?_
              refine GoH.v (Vop.asg rfl rfl rfl rfl) ?_
              refine GoH.regionEnd ?_
              refine GoH.ret Tryd.f36 Tryd.func36 rfl (fun w' hS => ?_)
              exact ⟨hS.ext, by rw [checkM, if_neg h3, if_neg h6, if_neg h7, if_pos (by rw [hc]; rfl)]; rfl⟩
            · -- no
              have h8 := hc
              refine GoH.v (Vop.fldP rfl rfl rfl rfl Tryd.underlying35 rfl (by exact Tryd.sizeOf33) 2 rfl) ?_
              refine GoH.v (Vop.ldo rfl rfl rfl rfl Tryd.isAgg33 0 rfl rfl) ?_
              refine GoH.v (Vop.mkFunc rfl rfl rfl rfl rfl) ?_
              refine GoH.callP rfl rfl rfl rfl rfl (fun _ _ => Tryd.call37 _ _) (fun w _ hS => cfR_c [.pointer (some ⟨b1, 0, none⟩)] (fun r => outB m.n.toNat r.xs) (fun _ _ => Tryd.call61 _ _) m.ra m.rc m.rows w (hm.rel.ex0 hS.ext) hm.lr (fun w' he x hx => check1_c x m hn b1 w' ((hm.row x hx).ex0 (hS.ext.trans he (by simp))) (he.keep (hS.get (j := 0) rfl)))) ?_
              refine GoH.v (Vop.pickF rfl rfl rfl rfl rfl) ?_
              refine GoH.regionEnd ?_
              refine GoH.cond rfl (fun hc => ?_) (fun hc => ?_)
              · -- yes
                refine GoH.seq ?_
                refine GoH.region ?_
                refine GoH.v (Vop.asg rfl rfl rfl rfl) ?_
                refine GoH.regionEnd ?_
                refine GoH.ret Tryd.f36 Tryd.func36 rfl (fun w' hS => ?_)
                exact ⟨hS.ext, by rw [checkM, if_neg h3, if_neg h6, if_neg h7, if_pos (by rw [MV.rel, List.any_map, show m.rows.any (outB m.n.toNat ∘ Row.xs) = _ from hc]; simp)]; rfl⟩
              · -- no
                refine GoH.skip ?_
                refine GoH.seq ?_
                refine GoH.region ?_
                refine GoH.v (Vop.asg rfl rfl rfl rfl) ?_
                refine GoH.regionEnd ?_
                refine GoH.ret Tryd.f36 Tryd.func36 rfl (fun w' hS => ?_)
                exact ⟨hS.ext, by rw [checkM, if_neg h3, if_neg h6, if_neg h7, if_neg (by rw [h8, MV.rel, List.any_map, show m.rows.any (outB m.n.toNat ∘ Row.xs) = _ from hc]; simp)]; rfl⟩
end Go.Proofs.YtbjopkllkoomkaaDoor
