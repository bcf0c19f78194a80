/- Contracts of functions of the program: what each call returns and that nothing else of memory is turned, under the conditions that each theorem states. -/
import Derived.Test.YtbjopkllkoomkaaDoorF15
namespace Go.Proofs.YtbjopkllkoomkaaDoor
open Go.RowKit Go.Proofs.Wit
/-! the laws of chapter 15, 5 -/
theorem rWorlds_c (p : Int) (w : World) : Cn Tryd.prog 27 [.int .i64 p] w (fun v _ => v = .int .i64 (cnt p)) := by
  refine Cn.of Tryd.func27 rfl rfl ?_
  refine GoH.seq ?_
  refine GoH.region ?_
  refine GoH.v (Vop.asg rfl rfl rfl rfl) ?_
  refine GoH.regionEnd ?_
  refine GoH.seq ?_
  refine GoH.seq ?_
  refine GoH.region ?_
  refine GoH.v (Vop.mv rfl rfl rfl rfl) ?_
  refine GoH.regionEnd ?_
  refine GoH.block ?_
  refine GoH.seq ?_
  refine GoH.seq ?_
  refine GoH.region ?_
  refine GoH.v (Vop.bin rfl rfl rfl rfl bEq rfl) ?_
  refine GoH.v (Vop.asg rfl rfl rfl rfl) ?_
  refine GoH.regionEnd ?_
  refine GoH.cond rfl (fun hc => ?_) (fun hc => ?_)
  · -- yes
    have h1 : p = 1 := by simpa using hc
    subst h1
    refine GoH.skip ?_
    
    refine GoH.cond rfl (fun _ => ?_) (fun hc => by exfalso; cases hc)
    refine GoH.seq ?_
    refine GoH.region ?_
    refine GoH.v (Vop.asg rfl rfl rfl rfl) ?_
    refine GoH.regionEnd ?_
    refine GoH.ret Tryd.f27 Tryd.func27 rfl (fun w' hS => ?_)
    exact ⟨hS.ext, rfl⟩
  · -- no
    have h1 : p ≠ 1 := by simpa using hc
    refine GoH.region ?_
    refine GoH.v (Vop.bin rfl rfl rfl rfl bEq rfl) ?_
    refine GoH.v (Vop.asg rfl rfl rfl rfl) ?_
    refine GoH.regionEnd ?_
    refine GoH.cond rfl (fun hc => ?_) (fun hc => ?_)
    · -- yes
      have h2 : p = 2 := by simpa using hc
      subst h2
      refine GoH.seq ?_
      refine GoH.region ?_
      refine GoH.v (Vop.asg rfl rfl rfl rfl) ?_
      refine GoH.regionEnd ?_
      refine GoH.ret Tryd.f27 Tryd.func27 rfl (fun w' hS => ?_)
      exact ⟨hS.ext, rfl⟩
    · -- no
      have h2 : p ≠ 2 := by simpa using hc
      refine GoH.seq ?_
      refine GoH.region ?_
      refine GoH.v (Vop.bin rfl rfl rfl rfl bEq rfl) ?_
      refine GoH.v (Vop.asg rfl rfl rfl rfl) ?_
      refine GoH.regionEnd ?_
      refine GoH.cond rfl (fun hc => ?_) (fun hc => ?_)
      · -- yes
        have h3 : p = 3 := by simpa using hc
        subst h3
        refine GoH.seq ?_
        refine GoH.region ?_
        refine GoH.v (Vop.asg rfl rfl rfl rfl) ?_
        refine GoH.regionEnd ?_
        refine GoH.ret Tryd.f27 Tryd.func27 rfl (fun w' hS => ?_)
        exact ⟨hS.ext, rfl⟩
      · -- no
        have h3 : p ≠ 3 := by simpa using hc
        refine GoH.seq ?_
        refine GoH.seq ?_
        refine GoH.region ?_
        refine GoH.v (Vop.bin rfl rfl rfl rfl bEq rfl) ?_
        refine GoH.v (Vop.asg rfl rfl rfl rfl) ?_
        refine GoH.regionEnd ?_
        refine GoH.cond rfl (fun hc => ?_) (fun hc => ?_)
        · -- yes
          have h4 : p = 4 := by simpa using hc
          subst h4
          refine GoH.skip ?_
          
          refine GoH.cond rfl (fun _ => ?_) (fun hc => by exfalso; cases hc)
          refine GoH.seq ?_
          refine GoH.region ?_
          refine GoH.v (Vop.asg rfl rfl rfl rfl) ?_
          refine GoH.regionEnd ?_
          refine GoH.ret Tryd.f27 Tryd.func27 rfl (fun w' hS => ?_)
          exact ⟨hS.ext, rfl⟩
        · -- no
          have h4 : p ≠ 4 := by simpa using hc
          refine GoH.region ?_
          refine GoH.v (Vop.bin rfl rfl rfl rfl bEq rfl) ?_
          refine GoH.v (Vop.asg rfl rfl rfl rfl) ?_
          refine GoH.regionEnd ?_
          refine GoH.cond rfl (fun hc => ?_) (fun hc => ?_)
          · -- yes
            have h5 : p = 5 := by simpa using hc
            subst h5
            refine GoH.seq ?_
            refine GoH.region ?_
            refine GoH.v (Vop.asg rfl rfl rfl rfl) ?_
            refine GoH.regionEnd ?_
            refine GoH.ret Tryd.f27 Tryd.func27 rfl (fun w' hS => ?_)
            exact ⟨hS.ext, rfl⟩
          · -- no
            have h5 : p ≠ 5 := by simpa using hc
            refine GoH.skip ?_
            refine GoH.inBlock ?_
            refine GoH.seq ?_
            refine GoH.region ?_
            refine GoH.v (Vop.asg rfl rfl rfl rfl) ?_
            refine GoH.regionEnd ?_
            refine GoH.ret Tryd.f27 Tryd.func27 rfl (fun w' hS => ?_)
            exact ⟨hS.ext, by rw [show cnt p = 0 from by simp [cnt, h1, h2, h3, h4, h5]]; rfl⟩
set_option maxRecDepth 4000 in
theorem rShows_c (a : Option Addr) (ca : Nat) (r : List W64) (p : Int) (x u v : Nat) (w : World) (ha : SlU w a r) (hx : x < r.length) (hu : u < r.length) (hv : v < r.length) (hn : r.length ≤ 64) :
    Cn Tryd.prog 59 [.slice a r.length ca, .int .i64 p, .int .i64 x, .int .i64 u, .int .i64 v] w (fun y _ => y = .bool (showsB p r x u v)) := by
  refine Cn.of Tryd.func59 rfl rfl ?_
  refine GoH.seq ?_
  refine GoH.region ?_
  refine GoH.v (Vop.asg rfl rfl rfl rfl) ?_
  refine GoH.regionEnd ?_
  refine GoH.seq ?_
  refine GoH.draw 28 mixed rfl ?_
  refine RdGo.v (Vop.mv rfl rfl rfl rfl) ?_
  refine RdGo.v (Vop.mv rfl rfl rfl rfl) ?_
  refine RdGo.v (Vop.idx rfl rfl rfl rfl rfl Tryd.underlying22 Tryd.sizeOf28 ⟨_, ha⟩ (by simp) (x) ⟨rfl, by simpa using hx⟩) ?_
  refine RdGo.v (Vop.ld rfl rfl rfl rfl Tryd.isAgg28 (fun w _ hS => (SlU.ex0 ha hS.ext).at (x) hx)) ?_
  refine RdGo.v (Vop.mv rfl rfl rfl rfl) ?_
  refine RdGo.callP rfl rfl rfl rfl rfl (fun _ _ => Tryd.call88 _ _) (fun w _ hS => rIn_c (r.getD x 0#64) u w (by omega)) ?_
  refine RdGo.v (Vop.mv rfl rfl rfl rfl) ?_
  refine RdGo.v (Vop.mv rfl rfl rfl rfl) ?_
  refine RdGo.v (Vop.idx rfl rfl rfl rfl rfl Tryd.underlying22 Tryd.sizeOf28 ⟨_, ha⟩ (by simp) (x) ⟨rfl, by simpa using hx⟩) ?_
  refine RdGo.v (Vop.ld rfl rfl rfl rfl Tryd.isAgg28 (fun w _ hS => (SlU.ex0 ha hS.ext).at (x) hx)) ?_
  refine RdGo.v (Vop.mv rfl rfl rfl rfl) ?_
  refine RdGo.callP rfl rfl rfl rfl rfl (fun _ _ => Tryd.call88 _ _) (fun w _ hS => rIn_c (r.getD x 0#64) v w (by omega)) ?_
  refine RdGo.v (Vop.mv rfl rfl rfl rfl) ?_
  refine RdGo.v (Vop.mv rfl rfl rfl rfl) ?_
  refine RdGo.v (Vop.idx rfl rfl rfl rfl rfl Tryd.underlying22 Tryd.sizeOf28 ⟨_, ha⟩ (by simp) (u) ⟨rfl, by simpa using hu⟩) ?_
  refine RdGo.v (Vop.ld rfl rfl rfl rfl Tryd.isAgg28 (fun w _ hS => (SlU.ex0 ha hS.ext).at (u) hu)) ?_
  refine RdGo.v (Vop.mv rfl rfl rfl rfl) ?_
  refine RdGo.callP rfl rfl rfl rfl rfl (fun _ _ => Tryd.call88 _ _) (fun w _ hS => rIn_c (r.getD u 0#64) v w (by omega)) ?_
  refine RdGo.v (Vop.mv rfl rfl rfl rfl) ?_
  refine RdGo.v (Vop.mv rfl rfl rfl rfl) ?_
  refine RdGo.v (Vop.idx rfl rfl rfl rfl rfl Tryd.underlying22 Tryd.sizeOf28 ⟨_, ha⟩ (by simp) (u) ⟨rfl, by simpa using hu⟩) ?_
  refine RdGo.v (Vop.ld rfl rfl rfl rfl Tryd.isAgg28 (fun w _ hS => (SlU.ex0 ha hS.ext).at (u) hu)) ?_
  refine RdGo.v (Vop.mv rfl rfl rfl rfl) ?_
  refine RdGo.callP rfl rfl rfl rfl rfl (fun _ _ => Tryd.call88 _ _) (fun w _ hS => rIn_c (r.getD u 0#64) x w (by omega)) ?_
  refine RdGo.v (Vop.asg rfl rfl rfl rfl) ?_
  refine RdGo.v (Vop.asg rfl rfl rfl rfl) ?_
  refine RdGo.v (Vop.asg rfl rfl rfl rfl) ?_
  refine RdGo.v (Vop.asg rfl rfl rfl rfl) ?_
  refine RdGo.nil ?_
  refine GoH.regionEnd ?_
  refine GoH.seq ?_
  refine GoH.seq ?_
  refine GoH.region ?_
  refine GoH.v (Vop.mv rfl rfl rfl rfl) ?_
  refine GoH.regionEnd ?_
  refine GoH.block ?_
  refine GoH.seq ?_
  refine GoH.region ?_
  refine GoH.v (Vop.bin rfl rfl rfl rfl bEq rfl) ?_
  refine GoH.v (Vop.asg rfl rfl rfl rfl) ?_
  refine GoH.regionEnd ?_
  refine GoH.cond rfl (fun hc => ?_) (fun hc => ?_)
  · -- yes
    have h1 : p = 1 := by simpa using hc
    subst h1
    refine GoH.seq ?_
    refine GoH.region ?_
    refine GoH.v (Vop.mv rfl rfl rfl rfl) ?_
    refine GoH.v (Vop.mv rfl rfl rfl rfl) ?_
    refine GoH.v (Vop.idx rfl rfl rfl rfl rfl Tryd.underlying22 Tryd.sizeOf28 ⟨_, ha⟩ (by simp) (x) ⟨rfl, by simpa using hx⟩) ?_
    refine GoH.v (Vop.ld rfl rfl rfl rfl Tryd.isAgg28 (fun w _ hS => (SlU.ex0 ha hS.ext).at (x) hx)) ?_
    refine GoH.v (Vop.bin (b := U 0#64) rfl rfl rfl rfl bEqU rfl) ?_
    refine GoH.v (Vop.asg rfl rfl rfl rfl) ?_
    refine GoH.regionEnd ?_
    refine GoH.ret Tryd.f59 Tryd.func59 rfl (fun w' hS => ?_)
    exact ⟨hS.ext, rfl⟩
  · -- no
    have h1 : p ≠ 1 := by simpa using hc
    refine GoH.seq ?_
    refine GoH.region ?_
    refine GoH.v (Vop.bin rfl rfl rfl rfl bEq rfl) ?_
    refine GoH.v (Vop.asg rfl rfl rfl rfl) ?_
    refine GoH.regionEnd ?_
    refine GoH.cond rfl (fun hc => ?_) (fun hc => ?_)
    · -- yes
      have h2 : p = 2 := by simpa using hc
      subst h2
      refine GoH.seq ?_
      refine GoH.region ?_
      refine GoH.v (Vop.mv rfl rfl rfl rfl) ?_
      refine GoH.v (Vop.mv rfl rfl rfl rfl) ?_
      refine GoH.v (Vop.idx rfl rfl rfl rfl rfl Tryd.underlying22 Tryd.sizeOf28 ⟨_, ha⟩ (by simp) (x) ⟨rfl, by simpa using hx⟩) ?_
      refine GoH.v (Vop.ld rfl rfl rfl rfl Tryd.isAgg28 (fun w _ hS => (SlU.ex0 ha hS.ext).at (x) hx)) ?_
      refine GoH.v (Vop.mv rfl rfl rfl rfl) ?_
      refine GoH.callP rfl rfl rfl rfl rfl (fun _ _ => Tryd.call88 _ _) (fun w _ hS => rIn_c (r.getD x 0#64) x w (by omega)) ?_
      refine GoH.v (Vop.un rfl rfl rfl uNot rfl) ?_
      refine GoH.v (Vop.asg rfl rfl rfl rfl) ?_
      refine GoH.regionEnd ?_
      refine GoH.ret Tryd.f59 Tryd.func59 rfl (fun w' hS => ?_)
      exact ⟨hS.ext, rfl⟩
    · -- no
      have h2 : p ≠ 2 := by simpa using hc
      refine GoH.seq ?_
      refine GoH.region ?_
      refine GoH.v (Vop.bin rfl rfl rfl rfl bEq rfl) ?_
      refine GoH.v (Vop.asg rfl rfl rfl rfl) ?_
      refine GoH.regionEnd ?_
      refine GoH.cond rfl (fun hc => ?_) (fun hc => ?_)
      · -- yes
        have h3 : p = 3 := by simpa using hc
        subst h3
        refine GoH.seq ?_
        refine GoH.region ?_
        refine GoH.v (Vop.mv rfl rfl rfl rfl) ?_
        refine GoH.v (Vop.mv rfl rfl rfl rfl) ?_
        -- guard on slot 59 (ref.go:122)
        refine GoH.cases (d := 59) rfl (fun hc => ?_) (fun hc => ?_)
        · -- yes
          have e1 : bitR r x u = true := hc
          refine GoH.v (Vop.mv rfl rfl rfl rfl) ?_
          refine GoH.v (Vop.un rfl rfl rfl uNot rfl) ?_
          refine GoH.v (Vop.pickT rfl rfl rfl rfl rfl) ?_
          refine GoH.v (Vop.asg rfl rfl rfl rfl) ?_
          refine GoH.regionEnd ?_
          refine GoH.ret Tryd.f59 Tryd.func59 rfl (fun w' hS => ?_)
          exact ⟨hS.ext, by simp [retV, showsB, e1]; rfl⟩
        · -- no
          have e1 : bitR r x u = false := hc
          refine GoH.no rfl rfl rfl rfl ?_
          refine GoH.no rfl rfl rfl rfl ?_
          refine GoH.v (Vop.pickF rfl rfl rfl rfl rfl) ?_
          refine GoH.v (Vop.asg rfl rfl rfl rfl) ?_
          refine GoH.regionEnd ?_
          refine GoH.ret Tryd.f59 Tryd.func59 rfl (fun w' hS => ?_)
          exact ⟨hS.ext, by simp [retV, showsB, e1]⟩
      · -- no
        have h3 : p ≠ 3 := by simpa using hc
        refine GoH.seq ?_
        refine GoH.region ?_
        refine GoH.v (Vop.bin rfl rfl rfl rfl bEq rfl) ?_
        refine GoH.v (Vop.asg rfl rfl rfl rfl) ?_
        refine GoH.regionEnd ?_
        refine GoH.cond rfl (fun hc => ?_) (fun hc => ?_)
        · -- yes
          have h4 : p = 4 := by simpa using hc
          subst h4
          refine GoH.seq ?_
          refine GoH.region ?_
          refine GoH.v (Vop.mv rfl rfl rfl rfl) ?_
          refine GoH.v (Vop.mv rfl rfl rfl rfl) ?_
          -- guard on slot 66 (ref.go:124)
          refine GoH.cases (d := 66) rfl (fun hc => ?_) (fun hc => ?_)
          · -- yes
            have e1 : bitR r x u = true := hc
            refine GoH.v (Vop.mv rfl rfl rfl rfl) ?_
            refine GoH.v (Vop.pickT rfl rfl rfl rfl rfl) ?_
            refine GoH.v (Vop.mv rfl rfl rfl rfl) ?_
            -- guard on slot 69 (ref.go:124)
            refine GoH.cases (d := 69) rfl (fun hc => ?_) (fun hc => ?_)
            · -- yes
              have e2 : bitR r u v = true := hc
              refine GoH.v (Vop.mv rfl rfl rfl rfl) ?_
              refine GoH.v (Vop.un rfl rfl rfl uNot rfl) ?_
              refine GoH.v (Vop.pickT rfl rfl rfl rfl rfl) ?_
              refine GoH.v (Vop.asg rfl rfl rfl rfl) ?_
              refine GoH.regionEnd ?_
              refine GoH.ret Tryd.f59 Tryd.func59 rfl (fun w' hS => ?_)
              exact ⟨hS.ext, by simp [retV, showsB, e1, e2]; rfl⟩
            · -- no
              have e2 : bitR r u v = false := hc
              refine GoH.no rfl rfl rfl rfl ?_
              refine GoH.no rfl rfl rfl rfl ?_
              refine GoH.v (Vop.pickF rfl rfl rfl rfl rfl) ?_
              refine GoH.v (Vop.asg rfl rfl rfl rfl) ?_
              refine GoH.regionEnd ?_
              refine GoH.ret Tryd.f59 Tryd.func59 rfl (fun w' hS => ?_)
              exact ⟨hS.ext, by simp [retV, showsB, e1, e2]⟩
          · -- no
            have e1 : bitR r x u = false := hc
            refine GoH.no rfl rfl rfl rfl ?_
            refine GoH.v (Vop.pickF rfl rfl rfl rfl rfl) ?_
            refine GoH.v (Vop.mv rfl rfl rfl rfl) ?_
            refine GoH.no rfl rfl rfl rfl ?_
            refine GoH.no rfl rfl rfl rfl ?_
            refine GoH.v (Vop.pickF rfl rfl rfl rfl rfl) ?_
            refine GoH.v (Vop.asg rfl rfl rfl rfl) ?_
            refine GoH.regionEnd ?_
            refine GoH.ret Tryd.f59 Tryd.func59 rfl (fun w' hS => ?_)
            exact ⟨hS.ext, by simp [retV, showsB, e1]⟩
        · -- no
          have h4 : p ≠ 4 := by simpa using hc
          refine GoH.seq ?_
          refine GoH.region ?_
          refine GoH.v (Vop.bin rfl rfl rfl rfl bEq rfl) ?_
          refine GoH.v (Vop.asg rfl rfl rfl rfl) ?_
          refine GoH.regionEnd ?_
          refine GoH.cond rfl (fun hc => ?_) (fun hc => ?_)
          · -- yes
            have h5 : p = 5 := by simpa using hc
            subst h5
            refine GoH.seq ?_
            refine GoH.region ?_
            refine GoH.v (Vop.mv rfl rfl rfl rfl) ?_
            refine GoH.v (Vop.mv rfl rfl rfl rfl) ?_
            -- guard on slot 76 (ref.go:126)
            refine GoH.cases (d := 76) rfl (fun hc => ?_) (fun hc => ?_)
            · -- yes
              have e1 : bitR r x u = true := hc
              refine GoH.v (Vop.mv rfl rfl rfl rfl) ?_
              refine GoH.v (Vop.pickT rfl rfl rfl rfl rfl) ?_
              refine GoH.v (Vop.mv rfl rfl rfl rfl) ?_
              -- guard on slot 79 (ref.go:126)
              refine GoH.cases (d := 79) rfl (fun hc => ?_) (fun hc => ?_)
              · -- yes
                have e2 : bitR r x v = true := hc
                refine GoH.v (Vop.mv rfl rfl rfl rfl) ?_
                refine GoH.v (Vop.un rfl rfl rfl uNot rfl) ?_
                refine GoH.v (Vop.pickT rfl rfl rfl rfl rfl) ?_
                refine GoH.v (Vop.asg rfl rfl rfl rfl) ?_
                refine GoH.regionEnd ?_
                refine GoH.ret Tryd.f59 Tryd.func59 rfl (fun w' hS => ?_)
                exact ⟨hS.ext, by simp [retV, showsB, e1, e2]; rfl⟩
              · -- no
                have e2 : bitR r x v = false := hc
                refine GoH.no rfl rfl rfl rfl ?_
                refine GoH.no rfl rfl rfl rfl ?_
                refine GoH.v (Vop.pickF rfl rfl rfl rfl rfl) ?_
                refine GoH.v (Vop.asg rfl rfl rfl rfl) ?_
                refine GoH.regionEnd ?_
                refine GoH.ret Tryd.f59 Tryd.func59 rfl (fun w' hS => ?_)
                exact ⟨hS.ext, by simp [retV, showsB, e1, e2]⟩
            · -- no
              have e1 : bitR r x u = false := hc
              refine GoH.no rfl rfl rfl rfl ?_
              refine GoH.v (Vop.pickF rfl rfl rfl rfl rfl) ?_
              refine GoH.v (Vop.mv rfl rfl rfl rfl) ?_
              refine GoH.no rfl rfl rfl rfl ?_
              refine GoH.no rfl rfl rfl rfl ?_
              refine GoH.v (Vop.pickF rfl rfl rfl rfl rfl) ?_
              refine GoH.v (Vop.asg rfl rfl rfl rfl) ?_
              refine GoH.regionEnd ?_
              refine GoH.ret Tryd.f59 Tryd.func59 rfl (fun w' hS => ?_)
              exact ⟨hS.ext, by simp [retV, showsB, e1]⟩
          · -- no
            have h5 : p ≠ 5 := by simpa using hc
            refine GoH.skip ?_
            refine GoH.inBlock ?_
            refine GoH.seq ?_
            refine GoH.region ?_
            refine GoH.v (Vop.asg rfl rfl rfl rfl) ?_
            refine GoH.regionEnd ?_
            refine GoH.ret Tryd.f59 Tryd.func59 rfl (fun w' hS => ?_)
            exact ⟨hS.ext, by rw [show showsB p r x u v = false from by simp [showsB, h1, h2, h3, h4, h5]]; rfl⟩
theorem shows_cnt {p : Int} {r : List W64} {x u v : Nat} (h : showsB p r x u v = true) : cnt p ≠ 0 := by
  rw [cnt_pos]
  unfold showsB at h
  repeat' (split at h)
  all_goals first | omega | cases h
set_option maxRecDepth 4000 in
theorem rWitness_c (a : Option Addr) (ca : Nat) (r : List W64) (p : Int) (w : World) (ha : SlU w a r) (hv : Val r) :
    Cn Tryd.prog 33 [.slice a r.length ca, .int .i64 p] w (fun v w' => OwnS I64 3 w w' v (witL r p)) := by
  have hn64 := hv.len
  have hc3 := cnt_le p
  refine Cn.of Tryd.func33 rfl rfl ?_
  refine GoH.seq ?_
  refine GoH.region ?_
  refine GoH.v (Vop.asg rfl rfl rfl rfl) ?_
  refine GoH.regionEnd ?_
  refine GoH.seq ?_
  refine GoH.region ?_
  refine GoH.v (Vop.mv rfl rfl rfl rfl) ?_
  refine GoH.callP rfl rfl rfl rfl rfl (fun _ _ => Tryd.call27 _ _) (fun w _ hS => rWorlds_c p w) ?_
  refine GoH.v (Vop.asg rfl rfl rfl rfl) ?_
  refine GoH.regionEnd ?_
  refine GoH.seq ?_
  refine GoH.seq ?_
  refine GoH.region ?_
  refine GoH.v (Vop.asg rfl rfl rfl rfl) ?_
  refine GoH.regionEnd ?_
  refine GoH.block ?_
  refine GoH.loop (σ := Nat) (fun k => [(0, .slice a r.length ca), (1, .int .i64 p), (5, .int .i64 (cnt p)), (6, .int .i64 k)]) (fun _ => [])
    (fun k => k ≤ r.length ∧ firstTo (witW p r) k = none) (fun k => r.length - k) 0 ⟨Nat.zero_le _, rfl⟩ ⟨rfl, rfl, rfl, rfl, trivial⟩ .slnil (fun x hI IH => ?_)
  obtain ⟨hxk, hxn⟩ := hI
  refine GoH.seq ?_
  refine GoH.seq ?_
  refine GoH.region ?_
  refine GoH.v (Vop.mv rfl rfl rfl rfl) ?_
  refine GoH.v (Vop.mv rfl rfl rfl rfl) ?_
  refine GoH.v (Vop.blt rfl rfl rfl (blt_len_slice Tryd.underlying22) rfl) ?_
  refine GoH.v (Vop.bin rfl rfl rfl rfl bLt rfl) ?_
  refine GoH.regionEnd ?_
  refine GoH.cond rfl (fun hc => ?_) (fun hc => ?_)
  · -- yes
    have hx : x < r.length := by simpa using hc
    refine GoH.skip ?_
    refine GoH.seq ?_
    refine GoH.block ?_
    refine GoH.seq ?_
    refine GoH.region ?_
    refine GoH.v (Vop.asg rfl rfl rfl rfl) ?_
    refine GoH.regionEnd ?_
    refine GoH.block ?_
    refine GoH.loop (σ := Nat) (fun k => [(0, .slice a r.length ca), (1, .int .i64 p), (5, .int .i64 (cnt p)), (6, .int .i64 x), (7, .int .i64 k)]) (fun _ => [])
      (fun k => k ≤ r.length ∧ firstTo (witU p r x) k = none ∧ (cnt p < 2 → k ≤ 1)) (fun k => r.length - k) 0 ⟨Nat.zero_le _, rfl, fun _ => Nat.zero_le _⟩ ⟨rfl, rfl, rfl, rfl, rfl, trivial⟩ .slnil (fun u hI IH2 => ?_)
    obtain ⟨huk, hun, hu2⟩ := hI
    refine GoH.seq ?_
    refine GoH.seq ?_
    refine GoH.regionK (α := {b : Bool // b = true ↔ u < r.length ∧ (u = 0 ∨ 1 < cnt p)}) [] (fun b => [(0, .slice a r.length ca), (1, .int .i64 p), (5, .int .i64 (cnt p)), (6, .int .i64 x), (7, .int .i64 u), (28, .bool b.1)]) (fun _ => []) (fun b => ?_) (fun K => ?_)
    -- at: ref.go:148
    -- rest:
    -- heap:
    · -- what comes behind the region
      refine GoH.regionEnd ?_
      refine GoH.cond rfl (fun hc => ?_) (fun hc => ?_)
      · -- yes
        obtain ⟨hu, hu1⟩ := b.2.1 hc
        have hu2' : cnt p < 2 → u = 0 := fun h => by omega
        refine GoH.skip ?_
        refine GoH.seq ?_
        refine GoH.block ?_
        refine GoH.seq ?_
        refine GoH.region ?_
        refine GoH.v (Vop.asg rfl rfl rfl rfl) ?_
        refine GoH.regionEnd ?_
        refine GoH.block ?_
        refine GoH.loop (σ := Nat) (fun k => [(0, .slice a r.length ca), (1, .int .i64 p), (5, .int .i64 (cnt p)), (6, .int .i64 x), (7, .int .i64 u), (8, .int .i64 k)]) (fun _ => [])
          (fun k => k ≤ r.length ∧ firstTo (witV p r x u) k = none ∧ (cnt p < 3 → k ≤ 1)) (fun k => r.length - k) 0 ⟨Nat.zero_le _, rfl, fun _ => Nat.zero_le _⟩ ⟨rfl, rfl, rfl, rfl, rfl, rfl, trivial⟩ .slnil (fun v hI IH3 => ?_)
        obtain ⟨hvk, hvn, hv3⟩ := hI
        refine GoH.seq ?_
        refine GoH.seq ?_
        refine GoH.regionK (α := {b : Bool // b = true ↔ v < r.length ∧ (v = 0 ∨ 2 < cnt p)}) [] (fun b => [(0, .slice a r.length ca), (1, .int .i64 p), (5, .int .i64 (cnt p)), (6, .int .i64 x), (7, .int .i64 u), (8, .int .i64 v), (42, .bool b.1)]) (fun _ => []) (fun b2 => ?_) (fun K => ?_)
        -- at: ref.go:149
        -- rest:
        -- heap:
        · -- what comes behind the region
          refine GoH.regionEnd ?_
          refine GoH.cond rfl (fun hc => ?_) (fun hc => ?_)
          · -- yes
            obtain ⟨hvl, hv1⟩ := b2.2.1 hc
            have hv3' : cnt p < 3 → v = 0 := fun h => by omega
            refine GoH.skip ?_
            refine GoH.seq ?_
            refine GoH.block ?_
            refine GoH.seq ?_
            refine GoH.region ?_
            refine GoH.v (Vop.mv rfl rfl rfl rfl) ?_
            refine GoH.v (Vop.mv rfl rfl rfl rfl) ?_
            refine GoH.v (Vop.mv rfl rfl rfl rfl) ?_
            refine GoH.v (Vop.mv rfl rfl rfl rfl) ?_
            refine GoH.v (Vop.mv rfl rfl rfl rfl) ?_
            refine GoH.callP rfl rfl rfl rfl rfl (fun _ _ => Tryd.call59 _ _) (fun w _ hS => (by exact rShows_c a ca r p x u v w (ha.ex0 hS.ext) hx hu hvl hn64)) ?_
            refine GoH.regionEnd ?_
            refine GoH.cond rfl (fun hc => ?_) (fun hc => ?_)
            · -- yes
              have hc0 := shows_cnt hc
              have hV1 : witV p r x u v = some (x, u, v) := by rw [witV, if_pos hc]
              have hU1 : witU p r x u = some (x, u, v) := firstTo_hit hvn hV1 _ (by
                split
                · rename_i h; rw [hv3' h]; exact Nat.one_pos
                · exact hvl)
              have hW1 : witW p r x = some (x, u, v) := firstTo_hit hun hU1 _ (by
                split
                · rename_i h; rw [hu2' h]; exact Nat.one_pos
                · exact hu)
              have hO : witO r p = some (x, u, v) := by rw [witO, if_neg hc0]; exact firstTo_hit hxn hW1 _ hx
              refine GoH.seq ?_
              refine GoH.region ?_
              refine GoH.v (Vop.mv rfl rfl rfl rfl) ?_
              refine GoH.v (Vop.mv rfl rfl rfl rfl) ?_
              refine GoH.v (Vop.mv rfl rfl rfl rfl) ?_
              refine GoH.bsN (c := [_, _, _]) rfl rfl rfl rfl Tryd.underlying42 Tryd.sizeOf3 Tryd.zeroValue3 rfl rfl (fun b54 => ?_)
              refine GoH.v (Vop.mv rfl rfl rfl rfl) ?_
              refine GoH.v (Vop.slHi (hi := cnt p) rfl rfl rfl rfl rfl Tryd.underlying42 Tryd.sizeOf3 rfl hc3) ?_
              refine GoH.v (Vop.asg rfl rfl rfl rfl) ?_
              refine GoH.regionEnd ?_
              refine GoH.ret Tryd.f33 Tryd.func33 rfl (fun w' hS => ?_)
              exact ⟨hS.ext, witL_own hO (hS.fresh (j := 0) rfl) (hS.get (j := 0) rfl) rfl⟩
            · -- no
              have hV0 : witV p r x u v = none := by rw [witV, if_neg (by rw [hc]; simp)]
              have hvn1 := firstTo_step hvn hV0
              refine GoH.skip ?_
              refine GoH.inBlock ?_
              refine GoH.region ?_
              refine GoH.v (Vop.mv rfl rfl rfl rfl) ?_
              refine GoH.v (Vop.bin rfl rfl rfl rfl (bAdd (by omega)) rfl) ?_
              refine GoH.v (Vop.asg rfl rfl rfl rfl) ?_
              refine GoH.regionEnd ?_
              exact IH3 (v + 1) _ _ ⟨hvl, hvn1, fun h => by have := hv3' h; omega⟩ (by omega) ⟨rfl, rfl, rfl, rfl, rfl, rfl, trivial⟩ .slnil
          · -- no
            have hno : ¬ (v < r.length ∧ (v = 0 ∨ 2 < cnt p)) := fun h => by have := b2.2.2 h; rw [hc] at this; cases this
            have hU0 : witU p r x u = none := by
              by_cases h3 : cnt p < 3
              · have e : v = 1 := by have := hv3 h3; omega
                rw [witU, if_pos h3, ← e]; exact hvn
              · have e : v = r.length := by omega
                rw [witU, if_neg h3, ← e]; exact hvn
            have hun1 := firstTo_step hun hU0
            refine GoH.exit rfl ?_
            refine GoH.inBlock ?_
            refine GoH.region ?_
            refine GoH.v (Vop.mv rfl rfl rfl rfl) ?_
            refine GoH.v (Vop.bin rfl rfl rfl rfl (bAdd (by omega)) rfl) ?_
            refine GoH.v (Vop.asg rfl rfl rfl rfl) ?_
            refine GoH.regionEnd ?_
            exact IH2 (u + 1) _ _ ⟨hu, hun1, fun h => by have := hu2' h; omega⟩ (by omega) ⟨rfl, rfl, rfl, rfl, rfl, trivial⟩ .slnil
        · -- the region
          refine GoH.region ?_
          refine GoH.v (Vop.mv rfl rfl rfl rfl) ?_
          refine GoH.v (Vop.mv rfl rfl rfl rfl) ?_
          refine GoH.v (Vop.blt rfl rfl rfl (blt_len_slice Tryd.underlying22) rfl) ?_
          refine GoH.v (Vop.bin rfl rfl rfl rfl bLt rfl) ?_
          refine GoH.v (Vop.mv rfl rfl rfl rfl) ?_
          -- guard on slot 35 (ref.go:149)
          refine GoH.cases (d := 35) rfl (fun hc => ?_) (fun hc => ?_)
          · -- yes
            have hvl : v < r.length := by simpa using hc
            refine GoH.v (Vop.mv rfl rfl rfl rfl) ?_
            refine GoH.v (Vop.bin rfl rfl rfl rfl bEq rfl) ?_
            refine GoH.v (Vop.mv rfl rfl rfl rfl) ?_
            -- guard on slot 38 (ref.go:149)
            refine GoH.cases (d := 38) rfl (fun hc => ?_) (fun hc => ?_)
            · -- yes
              have hv0 : v = 0 := by simpa using hc
              refine GoH.no rfl rfl rfl rfl ?_
              refine GoH.no rfl rfl rfl rfl ?_
              refine GoH.v (Vop.pickT rfl rfl rfl rfl rfl) ?_
              refine GoH.v (Vop.pickT rfl rfl rfl rfl rfl) ?_
              exact K ⟨true, ⟨fun _ => ⟨hvl, .inl hv0⟩, fun _ => rfl⟩⟩ _ _ (by repeat (first | exact SubF.nil | refine SubF.cons rfl ?_)) (fun _ _ hS => hS)
            · -- no
              have hv0 : v ≠ 0 := by simpa using hc
              refine GoH.v (Vop.mv rfl rfl rfl rfl) ?_
              refine GoH.v (Vop.bin rfl rfl rfl rfl bGt rfl) ?_
              refine GoH.v (Vop.pickF rfl rfl rfl rfl rfl) ?_
              refine GoH.v (Vop.pickT rfl rfl rfl rfl rfl) ?_
              exact K ⟨decide ((cnt p : Int) > 2), by rw [decide_eq_true_eq]; omega⟩ _ _ (by repeat (first | exact SubF.nil | refine SubF.cons rfl ?_)) (fun _ _ hS => hS)
          · -- no
            have hvl : ¬ v < r.length := by simpa using hc
            refine GoH.no rfl rfl rfl rfl ?_
            refine GoH.no rfl rfl rfl rfl ?_
            refine GoH.no rfl rfl rfl rfl ?_
            refine GoH.no rfl rfl rfl rfl ?_
            refine GoH.no rfl rfl rfl rfl ?_
            refine GoH.no rfl rfl rfl rfl ?_
            refine GoH.v (Vop.pickF rfl rfl rfl rfl rfl) ?_
            exact K ⟨false, ⟨fun h => (by cases h), fun h => absurd h.1 hvl⟩⟩ _ _ (by repeat (first | exact SubF.nil | refine SubF.cons rfl ?_)) (fun _ _ hS => hS)
      · -- no
        have hno : ¬ (u < r.length ∧ (u = 0 ∨ 1 < cnt p)) := fun h => by have := b.2.2 h; rw [hc] at this; cases this
        have hW0 : witW p r x = none := by
          by_cases h2 : cnt p < 2
          · have e : u = 1 := by have := hu2 h2; omega
            rw [witW, if_pos h2, ← e]; exact hun
          · have e : u = r.length := by omega
            rw [witW, if_neg h2, ← e]; exact hun
        refine GoH.exit rfl ?_
        refine GoH.inBlock ?_
        refine GoH.region ?_
        refine GoH.v (Vop.mv rfl rfl rfl rfl) ?_
        refine GoH.v (Vop.bin rfl rfl rfl rfl (bAdd (by omega)) rfl) ?_
        refine GoH.v (Vop.asg rfl rfl rfl rfl) ?_
        refine GoH.regionEnd ?_
        exact IH (x + 1) _ _ ⟨hx, firstTo_step hxn hW0⟩ (by omega) ⟨rfl, rfl, rfl, rfl, trivial⟩ .slnil
    · -- the region
      refine GoH.region ?_
      refine GoH.v (Vop.mv rfl rfl rfl rfl) ?_
      refine GoH.v (Vop.mv rfl rfl rfl rfl) ?_
      refine GoH.v (Vop.blt rfl rfl rfl (blt_len_slice Tryd.underlying22) rfl) ?_
      refine GoH.v (Vop.bin rfl rfl rfl rfl bLt rfl) ?_
      refine GoH.v (Vop.mv rfl rfl rfl rfl) ?_
      -- guard on slot 21 (ref.go:148)
      refine GoH.cases (d := 21) rfl (fun hc => ?_) (fun hc => ?_)
      · -- yes
        have hu : u < r.length := by simpa using hc
        refine GoH.v (Vop.mv rfl rfl rfl rfl) ?_
        refine GoH.v (Vop.bin rfl rfl rfl rfl bEq rfl) ?_
        refine GoH.v (Vop.mv rfl rfl rfl rfl) ?_
        -- guard on slot 24 (ref.go:148)
        refine GoH.cases (d := 24) rfl (fun hc => ?_) (fun hc => ?_)
        · -- yes
          have hu0 : u = 0 := by simpa using hc
          refine GoH.no rfl rfl rfl rfl ?_
          refine GoH.no rfl rfl rfl rfl ?_
          refine GoH.v (Vop.pickT rfl rfl rfl rfl rfl) ?_
          refine GoH.v (Vop.pickT rfl rfl rfl rfl rfl) ?_
          exact K ⟨true, ⟨fun _ => ⟨hu, .inl hu0⟩, fun _ => rfl⟩⟩ _ _ (by repeat (first | exact SubF.nil | refine SubF.cons rfl ?_)) (fun _ _ hS => hS)
        · -- no
          have hu0 : u ≠ 0 := by simpa using hc
          refine GoH.v (Vop.mv rfl rfl rfl rfl) ?_
          refine GoH.v (Vop.bin rfl rfl rfl rfl bGt rfl) ?_
          refine GoH.v (Vop.pickF rfl rfl rfl rfl rfl) ?_
          refine GoH.v (Vop.pickT rfl rfl rfl rfl rfl) ?_
          exact K ⟨decide ((cnt p : Int) > 1), by rw [decide_eq_true_eq]; omega⟩ _ _ (by repeat (first | exact SubF.nil | refine SubF.cons rfl ?_)) (fun _ _ hS => hS)
      · -- no
        have hu : ¬ u < r.length := by simpa using hc
        refine GoH.no rfl rfl rfl rfl ?_
        refine GoH.no rfl rfl rfl rfl ?_
        refine GoH.no rfl rfl rfl rfl ?_
        refine GoH.no rfl rfl rfl rfl ?_
        refine GoH.no rfl rfl rfl rfl ?_
        refine GoH.no rfl rfl rfl rfl ?_
        refine GoH.v (Vop.pickF rfl rfl rfl rfl rfl) ?_
        exact K ⟨false, ⟨fun h => (by cases h), fun h => absurd h.1 hu⟩⟩ _ _ (by repeat (first | exact SubF.nil | refine SubF.cons rfl ?_)) (fun _ _ hS => hS)
  · -- no
    have hxl : ¬ x < r.length := by simpa using hc
    obtain rfl : x = r.length := by omega
    have e1 : witL r p = [] := witL_nil.2 (by
      rw [witO]; split
      · rfl
      · exact hxn)
    refine GoH.exit rfl ?_
    refine GoH.seq ?_
    refine GoH.region ?_
    refine GoH.v (Vop.asg rfl rfl rfl rfl) ?_
    refine GoH.regionEnd ?_
    refine GoH.ret Tryd.f33 Tryd.func33 rfl (fun w' hS => ?_)
    exact ⟨hS.ext, none, 0, [], by rw [e1]; rfl, fun _ => ⟨by rw [e1]; rfl, rfl⟩, by rw [e1]; rfl, fun b h => by cases h⟩
end Go.Proofs.YtbjopkllkoomkaaDoor
