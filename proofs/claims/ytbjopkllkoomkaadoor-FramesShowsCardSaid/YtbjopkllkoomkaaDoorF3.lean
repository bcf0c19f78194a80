/- Contracts of functions of the program: what each call returns and that nothing else of memory is turned, under the conditions that each theorem states. -/
import Derived.Test.YtbjopkllkoomkaaDoorF2
namespace Go.Proofs.YtbjopkllkoomkaaDoor
open Go.RowKit Go.Proofs.Wit
/-! logics -/
def PropsIs (w w' : World) (v : Value) (l : Int) : Prop := ∃ sv, v = .tuple #[sv, .int .i64 (propsE l)] ∧ OwnS I64 3 w w' sv (propsL l)
theorem gainP {w0 w w' : World} {S : List Nat} {h : Hl} {Y : List (Nat × Obj)} (s : St w0 S w h Y) (e : Ex [] w w') {v : Value} {l : Int} (ho : PropsIs w w' v l) :
    ∃ q cap sp, v = .tuple #[osv q (propsL l).length cap, .int .i64 (propsE l)] ∧ (q = none → (propsL l).length = 0 ∧ cap = 0) ∧ ((propsL l).map I64 ++ sp).length = cap ∧ St w0 S w' ((q, ob I64 3 (propsL l) sp) :: h) Y := by
  obtain ⟨sv, rfl, ho⟩ := ho
  obtain ⟨q, cap, sp, rfl, h⟩ := gainS s e ho
  exact ⟨q, cap, sp, rfl, h⟩
theorem props_c (l : Int) (w : World) : Cn Tryd.prog 35 [.int .i64 l] w (fun v w' => PropsIs w w' v l) := by
  refine Cn.of Tryd.func35 rfl rfl ?_
  refine GoH.seq ?_
  refine GoH.region ?_
  refine GoH.v (Vop.asg rfl rfl rfl rfl) ?_
  refine GoH.v (Vop.asg rfl rfl rfl rfl) ?_
  refine GoH.regionEnd ?_
  refine GoH.seq ?_
  refine GoH.seq ?_
  refine GoH.region ?_
  refine GoH.v (Vop.mv rfl rfl rfl rfl) ?_
  refine GoH.regionEnd ?_
  refine GoH.block ?_
  refine GoH.seq ?_
  refine GoH.region ?_
  refine GoH.v (Vop.bin rfl rfl rfl rfl bEq rfl) ?_
  refine GoH.v (Vop.asg rfl rfl rfl rfl) ?_
  refine GoH.regionEnd ?_
  refine GoH.cond rfl (fun hc => ?_) (fun hc => ?_)
  · -- yes
    have e0 : l = 0 := by simpa using hc
    subst e0
    refine GoH.seq ?_
    refine GoH.region ?_
    refine GoH.v (Vop.asg rfl rfl rfl rfl) ?_
    refine GoH.v (Vop.asg rfl rfl rfl rfl) ?_
    refine GoH.regionEnd ?_
    refine GoH.ret Tryd.f35 Tryd.func35 rfl (fun w' hS => ?_)
    exact ⟨hS.ext, _, rfl, none, 0, [], rfl, fun _ => ⟨rfl, rfl⟩, rfl, fun b h => by cases h⟩
  · -- no
    have e0 : l ≠ 0 := by simpa using hc
    refine GoH.seq ?_
    refine GoH.region ?_
    refine GoH.v (Vop.bin rfl rfl rfl rfl bEq rfl) ?_
    refine GoH.v (Vop.asg rfl rfl rfl rfl) ?_
    refine GoH.regionEnd ?_
    refine GoH.cond rfl (fun hc => ?_) (fun hc => ?_)
    · -- yes
      have e1 : l = 1 := by simpa using hc
      subst e1
      refine GoH.seq ?_
      refine GoH.region ?_
      refine GoH.bsN (c := [_]) rfl rfl rfl rfl Tryd.underlying42 Tryd.sizeOf3 Tryd.zeroValue3 rfl rfl (fun b9 => ?_)
      refine GoH.v (Vop.asg rfl rfl rfl rfl) ?_
      refine GoH.v (Vop.asg rfl rfl rfl rfl) ?_
      refine GoH.regionEnd ?_
      refine GoH.ret Tryd.f35 Tryd.func35 rfl (fun w' hS => ?_)
      exact ⟨hS.ext, _, rfl, OwnS.mk hS 0 (q := some b9) (xs := [1]) (sp := []) (cap := 1) rfl rfl (fun h => by cases h) rfl⟩
    · -- no
      have e1 : l ≠ 1 := by simpa using hc
      refine GoH.seq ?_
      refine GoH.region ?_
      refine GoH.v (Vop.bin rfl rfl rfl rfl bEq rfl) ?_
      refine GoH.v (Vop.asg rfl rfl rfl rfl) ?_
      refine GoH.regionEnd ?_
      refine GoH.cond rfl (fun hc => ?_) (fun hc => ?_)
      · -- yes
        have e2 : l = 2 := by simpa using hc
        subst e2
        refine GoH.seq ?_
        refine GoH.region ?_
        refine GoH.bsN (c := [_]) rfl rfl rfl rfl Tryd.underlying42 Tryd.sizeOf3 Tryd.zeroValue3 rfl rfl (fun b12 => ?_)
        refine GoH.v (Vop.asg rfl rfl rfl rfl) ?_
        refine GoH.v (Vop.asg rfl rfl rfl rfl) ?_
        refine GoH.regionEnd ?_
        refine GoH.ret Tryd.f35 Tryd.func35 rfl (fun w' hS => ?_)
        exact ⟨hS.ext, _, rfl, OwnS.mk hS 0 (q := some b12) (xs := [2]) (sp := []) (cap := 1) rfl rfl (fun h => by cases h) rfl⟩
      · -- no
        have e2 : l ≠ 2 := by simpa using hc
        refine GoH.seq ?_
        refine GoH.region ?_
        refine GoH.v (Vop.bin rfl rfl rfl rfl bEq rfl) ?_
        refine GoH.v (Vop.asg rfl rfl rfl rfl) ?_
        refine GoH.regionEnd ?_
        refine GoH.cond rfl (fun hc => ?_) (fun hc => ?_)
        · -- yes
          have e3 : l = 3 := by simpa using hc
          subst e3
          refine GoH.seq ?_
          refine GoH.region ?_
          refine GoH.bsN (c := [_]) rfl rfl rfl rfl Tryd.underlying42 Tryd.sizeOf3 Tryd.zeroValue3 rfl rfl (fun b15 => ?_)
          refine GoH.v (Vop.asg rfl rfl rfl rfl) ?_
          refine GoH.v (Vop.asg rfl rfl rfl rfl) ?_
          refine GoH.regionEnd ?_
          refine GoH.ret Tryd.f35 Tryd.func35 rfl (fun w' hS => ?_)
          exact ⟨hS.ext, _, rfl, OwnS.mk hS 0 (q := some b15) (xs := [4]) (sp := []) (cap := 1) rfl rfl (fun h => by cases h) rfl⟩
        · -- no
          have e3 : l ≠ 3 := by simpa using hc
          refine GoH.seq ?_
          refine GoH.region ?_
          refine GoH.v (Vop.bin rfl rfl rfl rfl bEq rfl) ?_
          refine GoH.v (Vop.asg rfl rfl rfl rfl) ?_
          refine GoH.regionEnd ?_
          refine GoH.cond rfl (fun hc => ?_) (fun hc => ?_)
          · -- yes
            have e4 : l = 4 := by simpa using hc
            subst e4
            refine GoH.seq ?_
            refine GoH.region ?_
            refine GoH.bsN (c := [_, _]) rfl rfl rfl rfl Tryd.underlying42 Tryd.sizeOf3 Tryd.zeroValue3 rfl rfl (fun b18 => ?_)
            refine GoH.v (Vop.asg rfl rfl rfl rfl) ?_
            refine GoH.v (Vop.asg rfl rfl rfl rfl) ?_
            refine GoH.regionEnd ?_
            refine GoH.ret Tryd.f35 Tryd.func35 rfl (fun w' hS => ?_)
            exact ⟨hS.ext, _, rfl, OwnS.mk hS 0 (q := some b18) (xs := [2, 4]) (sp := []) (cap := 2) rfl rfl (fun h => by cases h) rfl⟩
          · -- no
            have e4 : l ≠ 4 := by simpa using hc
            refine GoH.seq ?_
            refine GoH.region ?_
            refine GoH.v (Vop.bin rfl rfl rfl rfl bEq rfl) ?_
            refine GoH.v (Vop.asg rfl rfl rfl rfl) ?_
            refine GoH.regionEnd ?_
            refine GoH.cond rfl (fun hc => ?_) (fun hc => ?_)
            · -- yes
              have e5 : l = 5 := by simpa using hc
              subst e5
              refine GoH.seq ?_
              refine GoH.region ?_
              refine GoH.bsN (c := [_, _, _]) rfl rfl rfl rfl Tryd.underlying42 Tryd.sizeOf3 Tryd.zeroValue3 rfl rfl (fun b21 => ?_)
              refine GoH.v (Vop.asg rfl rfl rfl rfl) ?_
              refine GoH.v (Vop.asg rfl rfl rfl rfl) ?_
              refine GoH.regionEnd ?_
              refine GoH.ret Tryd.f35 Tryd.func35 rfl (fun w' hS => ?_)
              exact ⟨hS.ext, _, rfl, OwnS.mk hS 0 (q := some b21) (xs := [1, 4, 5]) (sp := []) (cap := 3) rfl rfl (fun h => by cases h) rfl⟩
            · -- no
              have e5 : l ≠ 5 := by simpa using hc
              refine GoH.seq ?_
              refine GoH.region ?_
              refine GoH.v (Vop.bin rfl rfl rfl rfl bEq rfl) ?_
              refine GoH.v (Vop.asg rfl rfl rfl rfl) ?_
              refine GoH.regionEnd ?_
              refine GoH.cond rfl (fun hc => ?_) (fun hc => ?_)
              · -- yes
                have e6 : l = 6 := by simpa using hc
                subst e6
                refine GoH.seq ?_
                refine GoH.region ?_
                refine GoH.bsN (c := [_, _, _]) rfl rfl rfl rfl Tryd.underlying42 Tryd.sizeOf3 Tryd.zeroValue3 rfl rfl (fun b24 => ?_)
                refine GoH.v (Vop.asg rfl rfl rfl rfl) ?_
                refine GoH.v (Vop.asg rfl rfl rfl rfl) ?_
                refine GoH.regionEnd ?_
                refine GoH.ret Tryd.f35 Tryd.func35 rfl (fun w' hS => ?_)
                exact ⟨hS.ext, _, rfl, OwnS.mk hS 0 (q := some b24) (xs := [2, 4, 5]) (sp := []) (cap := 3) rfl rfl (fun h => by cases h) rfl⟩
              · -- no
                have e6 : l ≠ 6 := by simpa using hc
                refine GoH.skip ?_
                refine GoH.inBlock ?_
                refine GoH.seq ?_
                refine GoH.region ?_
                refine GoH.v (Vop.asg rfl rfl rfl rfl) ?_
                refine GoH.v (Vop.asg rfl rfl rfl rfl) ?_
                refine GoH.regionEnd ?_
                refine GoH.ret Tryd.f35 Tryd.func35 rfl (fun w' hS => ?_)
                exact ⟨hS.ext, .slice none 0 0, by rw [show propsE l = 1 from by unfold propsE; rw [if_neg (by omega)]]; rfl, none, 0, [], by rw [show propsL l = [] from by simp [propsL, e1, e2, e3, e4, e5, e6]]; rfl, fun _ => ⟨by simp [propsL, e1, e2, e3, e4, e5, e6], rfl⟩, by simp [propsL, e1, e2, e3, e4, e5, e6], fun b h => by cases h⟩
theorem has1_c (a : Option Addr) (ca : Nat) (r : List W64) (p : Int) (b : Nat) (w : World) (hT : Tab w) (ha : SlU w a r) (hl : r.length ≤ maxLen) (hb : w.heap[b]? = some (.cells #[.slice a r.length ca] 22 (0, 0))) :
    Cn Tryd.prog 64 [.int .i64 p, .pointer (some ⟨b, 0, none⟩)] w (fun v _ => v = .bool (!hasB r p)) := by
  refine Cn.of Tryd.func64 rfl rfl ?_
  refine GoH.seq ?_
  refine GoH.region ?_
  refine GoH.v (Vop.asg rfl rfl rfl rfl) ?_
  refine GoH.regionEnd ?_
  refine GoH.seq ?_
  refine GoH.region ?_
  refine GoH.v (Vop.ld rfl rfl rfl rfl Tryd.isAgg22 (fun w _ hS => (hS.ext.cell hb rfl))) ?_
  refine GoH.v (Vop.mv rfl rfl rfl rfl) ?_
  refine GoH.callP rfl rfl rfl rfl rfl (fun _ _ => Tryd.call15 _ _) (fun w _ hS => has_c a ca r p w (hT.ex hS.ext) (ha.ex0 hS.ext) hl) ?_
  refine GoH.v (Vop.un rfl rfl rfl uNot rfl) ?_
  refine GoH.v (Vop.asg rfl rfl rfl rfl) ?_
  refine GoH.regionEnd ?_
  refine GoH.ret Tryd.f64 Tryd.func64 rfl (fun w' hS => ?_)
  exact ⟨hS.ext, rfl⟩
theorem hasL_c (a : Option Addr) (ca : Nat) (r : List W64) (l : Int) (w : World) (hT : Tab w) (ha : SlU w a r) (hl : r.length ≤ maxLen) :
    Cn Tryd.prog 39 [.slice a r.length ca, .int .i64 l] w (fun v _ => v = .bool (hasL r l)) := by
  refine Cn.of Tryd.func39 rfl rfl ?_
  refine GoH.seq ?_
  refine GoH.region ?_
  refine GoH.bx rfl rfl rfl rfl (fun b2 => ?_)
  refine GoH.v (Vop.asg rfl rfl rfl rfl) ?_
  refine GoH.regionEnd ?_
  refine GoH.seq ?_
  refine GoH.region ?_
  refine GoH.v (Vop.mv rfl rfl rfl rfl) ?_
  refine GoH.callM _ rfl rfl rfl rfl rfl (fun _ _ => Tryd.call35 _ _) (fun w _ hS => props_c l w) ?_
  rintro v w1 w2 Y' hS he ho
  obtain ⟨q, cap, sp, rfl, hq, hcap, hS'⟩ := gainP hS he ho
  refine ⟨_, hS', ?_⟩
  -- heap: q b2
  refine GoH.v (Vop.mv rfl rfl rfl rfl) ?_
  refine GoH.v (Vop.ext rfl rfl rfl rfl rfl) ?_
  refine GoH.v (Vop.ext rfl rfl rfl rfl rfl) ?_
  refine GoH.v (Vop.asg rfl rfl rfl rfl) ?_
  refine GoH.v (Vop.asg rfl rfl rfl rfl) ?_
  refine GoH.regionEnd ?_
  refine GoH.seq ?_
  refine GoH.seq ?_
  refine GoH.region ?_
  refine GoH.v (Vop.mv rfl rfl rfl rfl) ?_
  refine GoH.v (Vop.bin rfl rfl rfl rfl bNe rfl) ?_
  refine GoH.v (Vop.mv rfl rfl rfl rfl) ?_
  -- guard on slot 14 (frames.go:37)
  refine GoH.cases (d := 14) rfl (fun hc => ?_) (fun hc => ?_)
  · -- yes
    have h1 : propsE l ≠ 0 := by simpa using hc
    refine GoH.no rfl rfl rfl rfl ?_
    refine GoH.no rfl rfl rfl rfl ?_
    refine GoH.no rfl rfl rfl rfl ?_
    refine GoH.no rfl rfl rfl rfl ?_
    refine GoH.no rfl rfl rfl rfl ?_
    refine GoH.v (Vop.pickT rfl rfl rfl rfl rfl) ?_
    refine GoH.regionEnd ?_
    refine GoH.condT rfl ?_
    refine GoH.seq ?_
    refine GoH.region ?_
    refine GoH.v (Vop.asg rfl rfl rfl rfl) ?_
    refine GoH.regionEnd ?_
    refine GoH.ret Tryd.f39 Tryd.func39 rfl (fun w' hS => ?_)
    exact ⟨hS.ext, by rw [hasL, beq_false_of_ne h1]; rfl⟩
  · -- no
    have h1 : propsE l = 0 := by simpa using hc
    refine GoH.v (Vop.ldo rfl rfl rfl rfl Tryd.isAgg22 1 rfl rfl) ?_
    refine GoH.v (Vop.blt rfl rfl rfl (blt_len_slice Tryd.underlying22) rfl) ?_
    refine GoH.v (Vop.ldo rfl rfl rfl rfl Tryd.isAgg22 1 rfl rfl) ?_
    refine GoH.callP rfl rfl rfl rfl rfl (fun _ _ => Tryd.call30 _ _) (fun w _ hS => check_c _ a ca r w (ha.ex0 hS.ext) hl) ?_
    refine GoH.v (Vop.bin rfl rfl rfl rfl bNe rfl) ?_
    refine GoH.v (Vop.pickF rfl rfl rfl rfl rfl) ?_
    refine GoH.regionEnd ?_
    refine GoH.cond rfl (fun hc => ?_) (fun hc => ?_)
    · -- yes
      have h2 : checkR r.length r ≠ 0 := by simpa using hc
      refine GoH.seq ?_
      refine GoH.region ?_
      refine GoH.v (Vop.asg rfl rfl rfl rfl) ?_
      refine GoH.regionEnd ?_
      refine GoH.ret Tryd.f39 Tryd.func39 rfl (fun w' hS => ?_)
      exact ⟨hS.ext, by rw [hasL, beq_false_of_ne h2, Bool.and_false]; rfl⟩
    · -- no
      have h2 : checkR r.length r = 0 := by simpa using hc
      refine GoH.skip ?_
      refine GoH.seq ?_
      refine GoH.region ?_
      refine GoH.v (Vop.mv rfl rfl rfl rfl) ?_
      refine GoH.v (Vop.mkFunc rfl rfl rfl rfl rfl) ?_
      refine GoH.callP rfl rfl rfl rfl rfl (fun _ _ => Tryd.call63 _ _) (fun w _ hS => cfI_c [.pointer (some ⟨b2, 0, none⟩)] (fun p => !hasB r p) (fun _ _ => Tryd.call64 _ _) (q.map (fun b => ⟨b, 0, none⟩)) cap (propsL l) w (sliAt hS 0 rfl (fun e => (hq e).1)) (by have := propsL_len l; unfold maxLen; omega) (fun w' he x _ => has1_c a ca r x b2 w' (hT.ex (hS.ext.trans he (by simp))) (ha.ex0 (hS.ext.trans he (by simp))) hl (he.keep (hS.get (j := 1) rfl)))) ?_
      refine GoH.v (Vop.un rfl rfl rfl uNot rfl) ?_
      refine GoH.v (Vop.asg rfl rfl rfl rfl) ?_
      refine GoH.regionEnd ?_
      refine GoH.ret Tryd.f39 Tryd.func39 rfl (fun w' hS => ?_)
      exact ⟨hS.ext, by rw [hasL, h1, h2, ← all_of_any]; rfl⟩
theorem in1_c (r : Row) (l : Int) (b : Nat) (w : World) (hT : Tab w) (hr : r.At w) (hb : w.heap[b]? = some (.cells #[.int .i64 l] 3 (0, 0))) :
    Cn Tryd.prog 38 [r.v, .pointer (some ⟨b, 0, none⟩)] w (fun v _ => v = .bool (!hasL r.xs l)) := by
  refine Cn.of Tryd.func38 rfl rfl ?_
  refine GoH.seq ?_
  refine GoH.region ?_
  refine GoH.v (Vop.asg rfl rfl rfl rfl) ?_
  refine GoH.regionEnd ?_
  refine GoH.seq ?_
  refine GoH.region ?_
  refine GoH.v (Vop.mv rfl rfl rfl rfl) ?_
  refine GoH.v (Vop.ld rfl rfl rfl rfl Tryd.isAgg3 (fun w _ hS => (hS.ext.cell hb rfl))) ?_
  refine GoH.callP rfl rfl rfl rfl rfl (fun _ _ => Tryd.call39 _ _) (fun w _ hS => hasL_c r.a r.cap r.xs l w (hT.ex hS.ext) (hr.at_.ex0 hS.ext) hr.len) ?_
  refine GoH.v (Vop.un rfl rfl rfl uNot rfl) ?_
  refine GoH.v (Vop.asg rfl rfl rfl rfl) ?_
  refine GoH.regionEnd ?_
  refine GoH.ret Tryd.f38 Tryd.func38 rfl (fun w' hS => ?_)
  exact ⟨hS.ext, rfl⟩
theorem in_c (m : MV) (l : Int) (w : World) (hT : Tab w) (hm : m.At w) : Cn Tryd.prog 13 [m.v, .int .i64 l] w (fun v _ => v = .bool (inM m.n m.val m.rel l)) := by
  refine Cn.of Tryd.func13 rfl rfl ?_
  refine GoH.seq ?_
  refine GoH.region ?_
  refine GoH.bx rfl rfl rfl rfl (fun b2 => ?_)
  refine GoH.bx rfl rfl rfl rfl (fun b3 => ?_)
  refine GoH.v (Vop.asg rfl rfl rfl rfl) ?_
  refine GoH.regionEnd ?_
  refine GoH.seq ?_
  refine GoH.region ?_
  refine GoH.v (Vop.ldo rfl rfl rfl rfl Tryd.isAgg3 0 rfl rfl) ?_
  refine GoH.callM _ rfl rfl rfl rfl rfl (fun _ _ => Tryd.call35 _ _) (fun w _ hS => props_c l w) ?_
  rintro v w1 w2 Y' hS he ho
  obtain ⟨q, cap, sp, rfl, hq, hcap, hS'⟩ := gainP hS he ho
  refine ⟨_, hS', ?_⟩
  -- heap: q b3 b2
  refine GoH.v (Vop.mv rfl rfl rfl rfl) ?_
  refine GoH.v (Vop.ext rfl rfl rfl rfl rfl) ?_
  refine GoH.v (Vop.ext rfl rfl rfl rfl rfl) ?_
  refine GoH.v (Vop.asg rfl rfl rfl rfl) ?_
  refine GoH.v (Vop.asg rfl rfl rfl rfl) ?_
  refine GoH.regionEnd ?_
  refine GoH.seq ?_
  refine GoH.region ?_
  refine GoH.v (Vop.mv rfl rfl rfl rfl) ?_
  refine GoH.v (Vop.bin rfl rfl rfl rfl bEq rfl) ?_
  refine GoH.v (Vop.mv rfl rfl rfl rfl) ?_
  -- guard on slot 14 (frames.go:46)
  refine GoH.cases (d := 14) rfl (fun hc => ?_) (fun hc => ?_)
  · -- yes
    have h1 : propsE l = 0 := by simpa using hc
    refine GoH.v (Vop.ldB rfl rfl rfl rfl Tryd.isAgg35 2 rfl Tryd.sizeOf35 rfl) ?_
    refine GoH.callP rfl rfl rfl rfl rfl (fun _ _ => Tryd.call36 _ _) (fun w _ hS => mcheck_c m w (hm.ex0 hS.ext)) ?_
    refine GoH.v (Vop.bin rfl rfl rfl rfl bEq rfl) ?_
    refine GoH.v (Vop.pickT rfl rfl rfl rfl rfl) ?_
    refine GoH.v (Vop.mv rfl rfl rfl rfl) ?_
    -- guard on slot 19 (frames.go:46)
    refine GoH.cases (d := 19) rfl (fun hc => ?_) (fun hc => ?_)
    · -- yes
      have h2 : checkM m.n m.val m.rel = 0 := by simpa using hc
      refine GoH.v (Vop.fldP rfl rfl rfl rfl Tryd.underlying35 rfl (by exact Tryd.sizeOf33) 2 rfl) ?_
      refine GoH.v (Vop.ldo rfl rfl rfl rfl Tryd.isAgg33 2 rfl rfl) ?_
      refine GoH.v (Vop.mkFunc rfl rfl rfl rfl rfl) ?_
      refine GoH.callP rfl rfl rfl rfl rfl (fun _ _ => Tryd.call37 _ _) (fun w _ hS => cfR_c [.pointer (some ⟨b3, 0, none⟩)] (fun r => !hasL r.xs l) (fun _ _ => Tryd.call38 _ _) m.ra m.rc m.rows w (hm.rel.ex0 hS.ext) hm.lr (fun w' he x hx => in1_c x l b3 w' (hT.ex (hS.ext.trans he (by simp))) ((hm.row x hx).ex0 (hS.ext.trans he (by simp))) (he.keep (hS.get (j := 1) rfl)))) ?_
      refine GoH.v (Vop.un rfl rfl rfl uNot rfl) ?_
      refine GoH.v (Vop.pickT rfl rfl rfl rfl rfl) ?_
      refine GoH.v (Vop.asg rfl rfl rfl rfl) ?_
      refine GoH.regionEnd ?_
      refine GoH.ret Tryd.f13 Tryd.func13 rfl (fun w' hS => ?_)
      exact ⟨hS.ext, by rw [inM, h1, h2, MV.rel, List.all_map, ← all_of_any]; rfl⟩
    · -- no
      have h2 : checkM m.n m.val m.rel ≠ 0 := by simpa using hc
      refine GoH.no rfl rfl rfl rfl ?_
      refine GoH.no rfl rfl rfl rfl ?_
      refine GoH.no rfl rfl rfl rfl ?_
      refine GoH.no rfl rfl rfl rfl ?_
      refine GoH.no rfl rfl rfl rfl ?_
      refine GoH.v (Vop.pickF rfl rfl rfl rfl rfl) ?_
      refine GoH.v (Vop.asg rfl rfl rfl rfl) ?_
      refine GoH.regionEnd ?_
      refine GoH.ret Tryd.f13 Tryd.func13 rfl (fun w' hS => ?_)
      exact ⟨hS.ext, by rw [inM, beq_false_of_ne h2, Bool.and_false]; rfl⟩
  · -- no
    have h1 : propsE l ≠ 0 := by simpa using hc
    refine GoH.no rfl rfl rfl rfl ?_
    refine GoH.no rfl rfl rfl rfl ?_
    refine GoH.no rfl rfl rfl rfl ?_
    refine GoH.v (Vop.pickF rfl rfl rfl rfl rfl) ?_
    refine GoH.v (Vop.mv rfl rfl rfl rfl) ?_
    refine GoH.no rfl rfl rfl rfl ?_
    refine GoH.no rfl rfl rfl rfl ?_
    refine GoH.no rfl rfl rfl rfl ?_
    refine GoH.no rfl rfl rfl rfl ?_
    refine GoH.no rfl rfl rfl rfl ?_
    refine GoH.v (Vop.pickF rfl rfl rfl rfl rfl) ?_
    refine GoH.v (Vop.asg rfl rfl rfl rfl) ?_
    refine GoH.regionEnd ?_
    refine GoH.ret Tryd.f13 Tryd.func13 rfl (fun w' hS => ?_)
    exact ⟨hS.ext, by rw [inM, beq_false_of_ne h1]; rfl⟩
def ErrsIs (w w' : World) (v : Value) (m : MV) (l : Int) : Prop := ∃ sv, v = .tuple #[sv, .int .i64 (errE m.n m.val m.rel l)] ∧ OwnS I64 3 w w' sv (errP m.n m.val m.rel l)
theorem errors_c (m : MV) (l : Int) (w : World) (hm : m.At w) : Cn Tryd.prog 34 [m.v, .int .i64 l] w (fun v w' => ErrsIs w w' v m l) := by
  refine Cn.of Tryd.func34 rfl rfl ?_
  refine GoH.seq ?_
  refine GoH.region ?_
  refine GoH.bx rfl rfl rfl rfl (fun b2 => ?_)
  refine GoH.v (Vop.asg rfl rfl rfl rfl) ?_
  refine GoH.v (Vop.asg rfl rfl rfl rfl) ?_
  refine GoH.regionEnd ?_
  refine GoH.seq ?_
  refine GoH.seq ?_
  refine GoH.region ?_
  refine GoH.v (Vop.ldB rfl rfl rfl rfl Tryd.isAgg35 0 rfl Tryd.sizeOf35 rfl) ?_
  refine GoH.callP rfl rfl rfl rfl rfl (fun _ _ => Tryd.call36 _ _) (fun w _ hS => mcheck_c m w (hm.ex0 hS.ext)) ?_
  refine GoH.v (Vop.asg rfl rfl rfl rfl) ?_
  refine GoH.regionEnd ?_
  refine GoH.seq ?_
  refine GoH.region ?_
  refine GoH.v (Vop.mv rfl rfl rfl rfl) ?_
  refine GoH.v (Vop.bin rfl rfl rfl rfl bNe rfl) ?_
  refine GoH.regionEnd ?_
  refine GoH.cond rfl (fun hc => ?_) (fun hc => ?_)
  · -- yes
    have h1 : checkM m.n m.val m.rel ≠ 0 := by simpa using hc
    have e1 : errP m.n m.val m.rel l = [] := by rw [errP, if_pos h1]
    refine GoH.seq ?_
    refine GoH.region ?_
    refine GoH.v (Vop.mv rfl rfl rfl rfl) ?_
    refine GoH.v (Vop.asg rfl rfl rfl rfl) ?_
    refine GoH.v (Vop.asg rfl rfl rfl rfl) ?_
    refine GoH.regionEnd ?_
    refine GoH.ret Tryd.f34 Tryd.func34 rfl (fun w' hS => ?_)
    exact ⟨hS.ext, .slice none 0 0, by rw [errE, if_pos h1]; rfl, none, 0, [], by rw [e1]; rfl, fun _ => ⟨by rw [e1]; rfl, rfl⟩, by rw [e1]; rfl, fun b h => by cases h⟩
  · -- no
    have h1 : ¬ checkM m.n m.val m.rel ≠ 0 := by simpa using hc
    refine GoH.skip ?_
    refine GoH.seq ?_
    refine GoH.region ?_
    refine GoH.v (Vop.mv rfl rfl rfl rfl) ?_
    refine GoH.callM _ rfl rfl rfl rfl rfl (fun _ _ => Tryd.call35 _ _) (fun w _ hS => props_c l w) ?_
    rintro v w1 w2 Y' hS he ho
    obtain ⟨q, cap, sp, rfl, hq, hcap, hS'⟩ := gainP hS he ho
    refine ⟨_, hS', ?_⟩
    -- heap: q b2
    refine GoH.v (Vop.ext rfl rfl rfl rfl rfl) ?_
    refine GoH.v (Vop.ext rfl rfl rfl rfl rfl) ?_
    refine GoH.v (Vop.asg rfl rfl rfl rfl) ?_
    refine GoH.v (Vop.asg rfl rfl rfl rfl) ?_
    refine GoH.regionEnd ?_
    refine GoH.ret Tryd.f34 Tryd.func34 rfl (fun w' hS => ?_)
    exact ⟨hS.ext, _, by rw [errE, if_neg h1]; rfl, by rw [errP, if_neg h1]; exact OwnS.mk hS 0 rfl rfl hq hcap⟩
theorem few_c (m : MV) (x : Int) (w : World) (hm : m.At w) : Cn Tryd.prog 11 [m.v, .int .i64 x] w (fun v _ => ∃ b, v = .bool b) := by
  have hlr := hm.lr
  unfold maxLen at hlr
  refine Cn.of Tryd.func11 rfl rfl ?_
  refine GoH.seq ?_
  refine GoH.region ?_
  refine GoH.bx rfl rfl rfl rfl (fun b2 => ?_)
  refine GoH.v (Vop.asg rfl rfl rfl rfl) ?_
  refine GoH.regionEnd ?_
  refine GoH.seq ?_
  refine GoH.seq ?_
  refine GoH.regionK (α := Bool) [] (fun b => [(2, .pointer (some ⟨b2, 0, none⟩)), (26, .bool b)]) (fun _ => [(some b2, .cells m.v.cells 35 (0, 0))]) (fun b => ?_) (fun K => ?_)
  -- at: ref.go:278
  -- rest:
  -- heap: b2
  -- ptr: 2=b2
  · -- what comes behind the region
    refine GoH.regionEnd ?_
    refine GoH.cond rfl (fun hc => ?_) (fun hc => ?_)
    · -- yes
      refine GoH.seq ?_
      refine GoH.region ?_
      refine GoH.v (Vop.asg rfl rfl rfl rfl) ?_
      refine GoH.regionEnd ?_
      refine GoH.ret Tryd.f11 Tryd.func11 rfl (fun w' hS => ?_)
      exact ⟨hS.ext, _, rfl⟩
    · -- no
      refine GoH.skip ?_
      refine GoH.seq ?_
      refine GoH.seq ?_
      refine GoH.region ?_
      refine GoH.v (Vop.asg rfl rfl rfl rfl) ?_
      refine GoH.regionEnd ?_
      refine GoH.block ?_
      refine GoH.loop (σ := Nat) (fun k => [(2, .pointer (some ⟨b2, 0, none⟩)), (5, .int .i64 k)]) (fun _ => [(some b2, .cells m.v.cells 35 (0, 0))])
        (fun k => k ≤ m.rows.length) (fun k => m.rows.length - k) 0 (Nat.zero_le _) ⟨rfl, rfl, trivial⟩ (List.Sublist.refl _) (fun k hI IH => ?_)
      -- heap: b2
      -- ptr: 2=b2
      refine GoH.seq ?_
      refine GoH.seq ?_
      refine GoH.region ?_
      refine GoH.v (Vop.mv rfl rfl rfl rfl) ?_
      refine GoH.v (Vop.fldP rfl rfl rfl rfl Tryd.underlying35 rfl (by exact Tryd.sizeOf33) 2 rfl) ?_
      refine GoH.v (Vop.ldo rfl rfl rfl rfl Tryd.isAgg33 0 rfl rfl) ?_
      refine GoH.v (Vop.blt rfl rfl rfl (blt_len_slice Tryd.underlying33) rfl) ?_
      refine GoH.v (Vop.bin rfl rfl rfl rfl bLt rfl) ?_
      refine GoH.regionEnd ?_
      refine GoH.cond rfl (fun hc => ?_) (fun hc => ?_)
      · -- yes
        have hlt : k < m.rows.length := by simpa using hc
        refine GoH.skip ?_
        refine GoH.seq ?_
        refine GoH.block ?_
        refine GoH.seq ?_
        refine GoH.region ?_
        refine GoH.v (Vop.fldP rfl rfl rfl rfl Tryd.underlying35 rfl (by exact Tryd.sizeOf33) 2 rfl) ?_
        refine GoH.v (Vop.ldo rfl rfl rfl rfl Tryd.isAgg33 0 rfl rfl) ?_
        refine GoH.v (Vop.mv rfl rfl rfl rfl) ?_
        refine GoH.v (Vop.idx rfl rfl rfl rfl rfl Tryd.underlying33 Tryd.sizeOf22 ⟨_, hm.rel⟩ (by simp) (k) ⟨rfl, by simpa using hlt⟩) ?_
        refine GoH.v (Vop.ld rfl rfl rfl rfl Tryd.isAgg22 (fun w _ hS => (SlR.ex0 hm.rel hS.ext).at (k) hlt)) ?_
        refine GoH.v (Vop.blt rfl rfl rfl (blt_len_slice Tryd.underlying22) rfl) ?_
        refine GoH.v (Vop.bin rfl rfl rfl rfl bGt rfl) ?_
        refine GoH.regionEnd ?_
        refine GoH.cond rfl (fun hc => ?_) (fun hc => ?_)
        · -- yes
          refine GoH.seq ?_
          refine GoH.region ?_
          refine GoH.v (Vop.asg rfl rfl rfl rfl) ?_
          refine GoH.regionEnd ?_
          refine GoH.ret Tryd.f11 Tryd.func11 rfl (fun w' hS => ?_)
          exact ⟨hS.ext, _, rfl⟩
        · -- no
          refine GoH.skip ?_
          refine GoH.inBlock ?_
          refine GoH.region ?_
          refine GoH.v (Vop.mv rfl rfl rfl rfl) ?_
          refine GoH.v (Vop.bin rfl rfl rfl rfl (bAdd (by omega)) rfl) ?_
          refine GoH.v (Vop.asg rfl rfl rfl rfl) ?_
          refine GoH.regionEnd ?_
          exact IH (k + 1) _ _ hlt (by omega) ⟨rfl, rfl, trivial⟩ (List.Sublist.refl _)
      · -- no
        refine GoH.exit rfl ?_
        refine GoH.seq ?_
        refine GoH.region ?_
        refine GoH.v (Vop.asg rfl rfl rfl rfl) ?_
        refine GoH.regionEnd ?_
        refine GoH.ret Tryd.f11 Tryd.func11 rfl (fun w' hS => ?_)
        exact ⟨hS.ext, _, rfl⟩
  · -- the region
    refine GoH.region ?_
    refine GoH.v (Vop.fldP rfl rfl rfl rfl Tryd.underlying35 rfl (by exact Tryd.sizeOf3) 0 rfl) ?_
    refine GoH.v (Vop.ldo rfl rfl rfl rfl Tryd.isAgg3 0 rfl rfl) ?_
    refine GoH.v (Vop.mv rfl rfl rfl rfl) ?_
    refine GoH.v (Vop.bin rfl rfl rfl rfl bGt rfl) ?_
    refine GoH.v (Vop.mv rfl rfl rfl rfl) ?_
    -- guard on slot 10 (ref.go:278)
    refine GoH.cases (d := 10) rfl (fun hc => ?_) (fun hc => ?_)
    · -- yes
      refine GoH.v (Vop.fldP rfl rfl rfl rfl Tryd.underlying35 rfl (by exact Tryd.sizeOf3) 0 rfl) ?_
      refine GoH.v (Vop.ldo rfl rfl rfl rfl Tryd.isAgg3 0 rfl rfl) ?_
      refine GoH.v (Vop.bin rfl rfl rfl rfl bLe rfl) ?_
      refine GoH.v (Vop.pickT rfl rfl rfl rfl rfl) ?_
      refine GoH.v (Vop.mv rfl rfl rfl rfl) ?_
      -- guard on slot 15 (ref.go:278)
      refine GoH.cases (d := 15) rfl (fun hc => ?_) (fun hc => ?_)
      · -- yes
        refine GoH.no rfl rfl rfl rfl ?_
        refine GoH.no rfl rfl rfl rfl ?_
        refine GoH.no rfl rfl rfl rfl ?_
        refine GoH.no rfl rfl rfl rfl ?_
        refine GoH.v (Vop.pickT rfl rfl rfl rfl rfl) ?_
        refine GoH.v (Vop.mv rfl rfl rfl rfl) ?_
        refine GoH.no rfl rfl rfl rfl ?_
        refine GoH.no rfl rfl rfl rfl ?_
        refine GoH.no rfl rfl rfl rfl ?_
        refine GoH.no rfl rfl rfl rfl ?_
        refine GoH.v (Vop.pickT rfl rfl rfl rfl rfl) ?_
        exact K _ _ _ (by repeat (first | exact SubF.nil | refine SubF.cons rfl ?_)) (fun _ _ hS => hS)
      · -- no
        refine GoH.v (Vop.fldP rfl rfl rfl rfl Tryd.underlying35 rfl (by exact Tryd.sizeOf22) 1 rfl) ?_
        refine GoH.v (Vop.ldo rfl rfl rfl rfl Tryd.isAgg22 0 rfl rfl) ?_
        refine GoH.v (Vop.blt rfl rfl rfl (blt_len_slice Tryd.underlying22) rfl) ?_
        refine GoH.v (Vop.bin rfl rfl rfl rfl bGt rfl) ?_
        refine GoH.v (Vop.pickF rfl rfl rfl rfl rfl) ?_
        refine GoH.v (Vop.mv rfl rfl rfl rfl) ?_
        -- guard on slot 21 (ref.go:278)
        refine GoH.cases (d := 21) rfl (fun hc => ?_) (fun hc => ?_)
        · -- yes
          refine GoH.no rfl rfl rfl rfl ?_
          refine GoH.no rfl rfl rfl rfl ?_
          refine GoH.no rfl rfl rfl rfl ?_
          refine GoH.no rfl rfl rfl rfl ?_
          refine GoH.v (Vop.pickT rfl rfl rfl rfl rfl) ?_
          exact K _ _ _ (by repeat (first | exact SubF.nil | refine SubF.cons rfl ?_)) (fun _ _ hS => hS)
        · -- no
          refine GoH.v (Vop.fldP rfl rfl rfl rfl Tryd.underlying35 rfl (by exact Tryd.sizeOf33) 2 rfl) ?_
          refine GoH.v (Vop.ldo rfl rfl rfl rfl Tryd.isAgg33 0 rfl rfl) ?_
          refine GoH.v (Vop.blt rfl rfl rfl (blt_len_slice Tryd.underlying33) rfl) ?_
          refine GoH.v (Vop.bin rfl rfl rfl rfl bGt rfl) ?_
          refine GoH.v (Vop.pickF rfl rfl rfl rfl rfl) ?_
          exact K _ _ _ (by repeat (first | exact SubF.nil | refine SubF.cons rfl ?_)) (fun _ _ hS => hS)
    · -- no
      refine GoH.no rfl rfl rfl rfl ?_
      refine GoH.no rfl rfl rfl rfl ?_
      refine GoH.no rfl rfl rfl rfl ?_
      refine GoH.v (Vop.pickF rfl rfl rfl rfl rfl) ?_
      refine GoH.v (Vop.mv rfl rfl rfl rfl) ?_
      refine GoH.v (Vop.fldP rfl rfl rfl rfl Tryd.underlying35 rfl (by exact Tryd.sizeOf22) 1 rfl) ?_
      refine GoH.v (Vop.ldo rfl rfl rfl rfl Tryd.isAgg22 0 rfl rfl) ?_
      refine GoH.v (Vop.blt rfl rfl rfl (blt_len_slice Tryd.underlying22) rfl) ?_
      refine GoH.v (Vop.bin rfl rfl rfl rfl bGt rfl) ?_
      refine GoH.v (Vop.pickF rfl rfl rfl rfl rfl) ?_
      refine GoH.v (Vop.mv rfl rfl rfl rfl) ?_
      -- guard on slot 21 (ref.go:278)
      refine GoH.cases (d := 21) rfl (fun hc => ?_) (fun hc => ?_)
      · -- yes
        refine GoH.no rfl rfl rfl rfl ?_
        refine GoH.no rfl rfl rfl rfl ?_
        refine GoH.no rfl rfl rfl rfl ?_
        refine GoH.no rfl rfl rfl rfl ?_
        refine GoH.v (Vop.pickT rfl rfl rfl rfl rfl) ?_
        exact K _ _ _ (by repeat (first | exact SubF.nil | refine SubF.cons rfl ?_)) (fun _ _ hS => hS)
      · -- no
        refine GoH.v (Vop.fldP rfl rfl rfl rfl Tryd.underlying35 rfl (by exact Tryd.sizeOf33) 2 rfl) ?_
        refine GoH.v (Vop.ldo rfl rfl rfl rfl Tryd.isAgg33 0 rfl rfl) ?_
        refine GoH.v (Vop.blt rfl rfl rfl (blt_len_slice Tryd.underlying33) rfl) ?_
        refine GoH.v (Vop.bin rfl rfl rfl rfl bGt rfl) ?_
        refine GoH.v (Vop.pickF rfl rfl rfl rfl rfl) ?_
        exact K _ _ _ (by repeat (first | exact SubF.nil | refine SubF.cons rfl ?_)) (fun _ _ hS => hS)
end Go.Proofs.YtbjopkllkoomkaaDoor
