/- Contracts of functions of the program: what each call returns and that nothing else of memory is turned, under the conditions that each theorem states. -/
import Derived.Test.YtbjopkllkoomkaaDoorF6
import Derived.Test.YtbjopkllkoomkaaDoorWC
namespace Go.Proofs.YtbjopkllkoomkaaDoor
open Go.RowKit Go.Proofs.Wit
/-! witnesses -/
theorem hasW_c (a : Option Addr) (ca : Nat) (r : List W64) (u v : Nat) (w : World) (ha : SlU w a r) (hu : u < r.length) : Cn Tryd.prog 84 [.slice a r.length ca, .int .i64 u, .int .i64 v] w (fun x _ => x = .bool (bitR r u v)) := by
  refine Cn.of Tryd.func84 rfl rfl ?_
  refine GoH.seq ?_
  refine GoH.region ?_
  refine GoH.v (Vop.asg rfl rfl rfl rfl) ?_
  refine GoH.regionEnd ?_
  refine GoH.seq ?_
  refine GoH.region ?_
  refine GoH.v (Vop.mv rfl rfl rfl rfl) ?_
  refine GoH.v (Vop.mv rfl rfl rfl rfl) ?_
  refine GoH.v (Vop.idx rfl rfl rfl rfl rfl Tryd.underlying22 Tryd.sizeOf28 ⟨_, ha⟩ (by simp) (u) ⟨rfl, by simpa using hu⟩) ?_
  refine GoH.v (Vop.ld rfl rfl rfl rfl Tryd.isAgg28 (fun w _ hS => (SlU.ex0 ha hS.ext).at (u) hu)) ?_
  refine GoH.v (Vop.mv rfl rfl rfl rfl) ?_
  refine GoH.v (Vop.bin rfl rfl rfl rfl (bShr _ rfl) rfl) ?_
  refine GoH.v (Vop.bin (b := U 1#64) rfl rfl rfl rfl bAnd rfl) ?_
  refine GoH.v (Vop.bin (b := U 1#64) rfl rfl rfl rfl bEqU rfl) ?_
  refine GoH.v (Vop.asg rfl rfl rfl rfl) ?_
  refine GoH.regionEnd ?_
  refine GoH.ret Tryd.f84 Tryd.func84 rfl (fun w' hS => ?_)
  exact ⟨hS.ext, by rw [bitR, ← shr_bit]; rfl⟩
theorem sh1_c (a : Option Addr) (ca : Nat) (r : List W64) (x u v : Nat) (w : World) (ha : SlU w a r) (hx : x < r.length) (_hu : u < r.length) (_hv : v < r.length) : Cn Tryd.prog 82 [.slice a r.length ca, .int .i64 x, .int .i64 u, .int .i64 v] w (fun y _ => y = .bool (showsB 1 r x u v)) := by
  refine Cn.of Tryd.func82 rfl rfl ?_
  refine GoH.seq ?_
  refine GoH.region ?_
  refine GoH.v (Vop.asg rfl rfl rfl rfl) ?_
  refine GoH.regionEnd ?_
  refine GoH.seq ?_
  refine GoH.region ?_
  refine GoH.v (Vop.mv rfl rfl rfl rfl) ?_
  refine GoH.v (Vop.mv rfl rfl rfl rfl) ?_
  refine GoH.v (Vop.idx rfl rfl rfl rfl rfl Tryd.underlying22 Tryd.sizeOf28 ⟨_, ha⟩ (by simp) (x) ⟨rfl, by simpa using hx⟩) ?_
  refine GoH.v (Vop.ld rfl rfl rfl rfl Tryd.isAgg28 (fun w _ hS => (SlU.ex0 ha hS.ext).at (x) hx)) ?_
  refine GoH.v (Vop.bin (b := U 0#64) rfl rfl rfl rfl bEqU rfl) ?_
  refine GoH.v (Vop.asg rfl rfl rfl rfl) ?_
  refine GoH.regionEnd ?_
  refine GoH.ret Tryd.f82 Tryd.func82 rfl (fun w' hS => ?_)
  exact ⟨hS.ext, rfl⟩
theorem sh2_c (a : Option Addr) (ca : Nat) (r : List W64) (x u v : Nat) (w : World) (ha : SlU w a r) (hx : x < r.length) (_hu : u < r.length) (_hv : v < r.length) : Cn Tryd.prog 83 [.slice a r.length ca, .int .i64 x, .int .i64 u, .int .i64 v] w (fun y _ => y = .bool (showsB 2 r x u v)) := by
  refine Cn.of Tryd.func83 rfl rfl ?_
  refine GoH.seq ?_
  refine GoH.region ?_
  refine GoH.v (Vop.asg rfl rfl rfl rfl) ?_
  refine GoH.regionEnd ?_
  refine GoH.seq ?_
  refine GoH.region ?_
  refine GoH.v (Vop.mv rfl rfl rfl rfl) ?_
  refine GoH.v (Vop.mv rfl rfl rfl rfl) ?_
  refine GoH.v (Vop.mv rfl rfl rfl rfl) ?_
  refine GoH.callP rfl rfl rfl rfl rfl (fun _ _ => Tryd.call84 _ _) (fun w _ hS => hasW_c a ca r x x w (ha.ex0 hS.ext) hx) ?_
  refine GoH.v (Vop.un rfl rfl rfl uNot rfl) ?_
  refine GoH.v (Vop.asg rfl rfl rfl rfl) ?_
  refine GoH.regionEnd ?_
  refine GoH.ret Tryd.f83 Tryd.func83 rfl (fun w' hS => ?_)
  exact ⟨hS.ext, rfl⟩
theorem sh3_c (a : Option Addr) (ca : Nat) (r : List W64) (x u v : Nat) (w : World) (ha : SlU w a r) (hx : x < r.length) (hu : u < r.length) (_hv : v < r.length) : Cn Tryd.prog 85 [.slice a r.length ca, .int .i64 x, .int .i64 u, .int .i64 v] w (fun y _ => y = .bool (showsB 3 r x u v)) := by
  refine Cn.of Tryd.func85 rfl rfl ?_
  refine GoH.seq ?_
  refine GoH.region ?_
  refine GoH.v (Vop.asg rfl rfl rfl rfl) ?_
  refine GoH.regionEnd ?_
  refine GoH.seq ?_
  refine GoH.region ?_
  refine GoH.v (Vop.mv rfl rfl rfl rfl) ?_
  refine GoH.v (Vop.mv rfl rfl rfl rfl) ?_
  refine GoH.v (Vop.mv rfl rfl rfl rfl) ?_
  refine GoH.callP rfl rfl rfl rfl rfl (fun _ _ => Tryd.call84 _ _) (fun w _ hS => hasW_c a ca r x u w (ha.ex0 hS.ext) hx) ?_
  refine GoH.v (Vop.mv rfl rfl rfl rfl) ?_
  -- guard on slot 13 (frames.go:112)
  refine GoH.cases (d := 13) rfl (fun hc => ?_) (fun hc => ?_)
  · -- yes
    have h1 := hc
    refine GoH.v (Vop.mv rfl rfl rfl rfl) ?_
    refine GoH.v (Vop.mv rfl rfl rfl rfl) ?_
    refine GoH.v (Vop.mv rfl rfl rfl rfl) ?_
    refine GoH.callP rfl rfl rfl rfl rfl (fun _ _ => Tryd.call84 _ _) (fun w _ hS => hasW_c a ca r u x w (ha.ex0 hS.ext) hu) ?_
    refine GoH.v (Vop.un rfl rfl rfl uNot rfl) ?_
    refine GoH.v (Vop.pickT rfl rfl rfl rfl rfl) ?_
    refine GoH.v (Vop.asg rfl rfl rfl rfl) ?_
    refine GoH.regionEnd ?_
    refine GoH.ret Tryd.f85 Tryd.func85 rfl (fun w' hS => ?_)
    exact ⟨hS.ext, by simp [retV, showsB, h1]⟩
  · -- no
    have h1 := hc
    refine GoH.no rfl rfl rfl rfl ?_
    refine GoH.no rfl rfl rfl rfl ?_
    refine GoH.no rfl rfl rfl rfl ?_
    refine GoH.no rfl rfl rfl rfl ?_
    refine GoH.no rfl rfl rfl rfl ?_
    refine GoH.v (Vop.pickF rfl rfl rfl rfl rfl) ?_
    refine GoH.v (Vop.asg rfl rfl rfl rfl) ?_
    refine GoH.regionEnd ?_
    refine GoH.ret Tryd.f85 Tryd.func85 rfl (fun w' hS => ?_)
    exact ⟨hS.ext, by simp [retV, showsB, h1]⟩
theorem sh4_c (a : Option Addr) (ca : Nat) (r : List W64) (x u v : Nat) (w : World) (ha : SlU w a r) (hx : x < r.length) (hu : u < r.length) (_hv : v < r.length) : Cn Tryd.prog 86 [.slice a r.length ca, .int .i64 x, .int .i64 u, .int .i64 v] w (fun y _ => y = .bool (showsB 4 r x u v)) := by
  refine Cn.of Tryd.func86 rfl rfl ?_
  refine GoH.seq ?_
  refine GoH.region ?_
  refine GoH.v (Vop.asg rfl rfl rfl rfl) ?_
  refine GoH.regionEnd ?_
  refine GoH.seq ?_
  refine GoH.region ?_
  refine GoH.v (Vop.mv rfl rfl rfl rfl) ?_
  refine GoH.v (Vop.mv rfl rfl rfl rfl) ?_
  refine GoH.v (Vop.mv rfl rfl rfl rfl) ?_
  refine GoH.callP rfl rfl rfl rfl rfl (fun _ _ => Tryd.call84 _ _) (fun w _ hS => hasW_c a ca r x u w (ha.ex0 hS.ext) hx) ?_
  refine GoH.v (Vop.mv rfl rfl rfl rfl) ?_
  -- guard on slot 13 (frames.go:113)
  refine GoH.cases (d := 13) rfl (fun hc => ?_) (fun hc => ?_)
  · -- yes
    have h1 := hc
    refine GoH.v (Vop.mv rfl rfl rfl rfl) ?_
    refine GoH.v (Vop.mv rfl rfl rfl rfl) ?_
    refine GoH.v (Vop.mv rfl rfl rfl rfl) ?_
    refine GoH.callP rfl rfl rfl rfl rfl (fun _ _ => Tryd.call84 _ _) (fun w _ hS => hasW_c a ca r u v w (ha.ex0 hS.ext) hu) ?_
    refine GoH.v (Vop.pickT rfl rfl rfl rfl rfl) ?_
    refine GoH.v (Vop.mv rfl rfl rfl rfl) ?_
    -- guard on slot 19 (frames.go:113)
    refine GoH.cases (d := 19) rfl (fun hc => ?_) (fun hc => ?_)
    · -- yes
      have h2 := hc
      refine GoH.v (Vop.mv rfl rfl rfl rfl) ?_
      refine GoH.v (Vop.mv rfl rfl rfl rfl) ?_
      refine GoH.v (Vop.mv rfl rfl rfl rfl) ?_
      refine GoH.callP rfl rfl rfl rfl rfl (fun _ _ => Tryd.call84 _ _) (fun w _ hS => hasW_c a ca r x v w (ha.ex0 hS.ext) hx) ?_
      refine GoH.v (Vop.un rfl rfl rfl uNot rfl) ?_
      refine GoH.v (Vop.pickT rfl rfl rfl rfl rfl) ?_
      refine GoH.v (Vop.asg rfl rfl rfl rfl) ?_
      refine GoH.regionEnd ?_
      refine GoH.ret Tryd.f86 Tryd.func86 rfl (fun w' hS => ?_)
      exact ⟨hS.ext, by simp [retV, showsB, h1, h2]⟩
    · -- no
      have h2 := hc
      refine GoH.no rfl rfl rfl rfl ?_
      refine GoH.no rfl rfl rfl rfl ?_
      refine GoH.no rfl rfl rfl rfl ?_
      refine GoH.no rfl rfl rfl rfl ?_
      refine GoH.no rfl rfl rfl rfl ?_
      refine GoH.v (Vop.pickF rfl rfl rfl rfl rfl) ?_
      refine GoH.v (Vop.asg rfl rfl rfl rfl) ?_
      refine GoH.regionEnd ?_
      refine GoH.ret Tryd.f86 Tryd.func86 rfl (fun w' hS => ?_)
      exact ⟨hS.ext, by simp [retV, showsB, h1, h2]⟩
  · -- no
    have h1 := hc
    refine GoH.no rfl rfl rfl rfl ?_
    refine GoH.no rfl rfl rfl rfl ?_
    refine GoH.no rfl rfl rfl rfl ?_
    refine GoH.no rfl rfl rfl rfl ?_
    refine GoH.v (Vop.pickF rfl rfl rfl rfl rfl) ?_
    refine GoH.v (Vop.mv rfl rfl rfl rfl) ?_
    refine GoH.no rfl rfl rfl rfl ?_
    refine GoH.no rfl rfl rfl rfl ?_
    refine GoH.no rfl rfl rfl rfl ?_
    refine GoH.no rfl rfl rfl rfl ?_
    refine GoH.no rfl rfl rfl rfl ?_
    refine GoH.v (Vop.pickF rfl rfl rfl rfl rfl) ?_
    refine GoH.v (Vop.asg rfl rfl rfl rfl) ?_
    refine GoH.regionEnd ?_
    refine GoH.ret Tryd.f86 Tryd.func86 rfl (fun w' hS => ?_)
    exact ⟨hS.ext, by simp [retV, showsB, h1]⟩
theorem sh5_c (a : Option Addr) (ca : Nat) (r : List W64) (x u v : Nat) (w : World) (ha : SlU w a r) (hx : x < r.length) (hu : u < r.length) (_hv : v < r.length) : Cn Tryd.prog 87 [.slice a r.length ca, .int .i64 x, .int .i64 u, .int .i64 v] w (fun y _ => y = .bool (showsB 5 r x u v)) := by
  refine Cn.of Tryd.func87 rfl rfl ?_
  refine GoH.seq ?_
  refine GoH.region ?_
  refine GoH.v (Vop.asg rfl rfl rfl rfl) ?_
  refine GoH.regionEnd ?_
  refine GoH.seq ?_
  refine GoH.region ?_
  refine GoH.v (Vop.mv rfl rfl rfl rfl) ?_
  refine GoH.v (Vop.mv rfl rfl rfl rfl) ?_
  refine GoH.v (Vop.mv rfl rfl rfl rfl) ?_
  refine GoH.callP rfl rfl rfl rfl rfl (fun _ _ => Tryd.call84 _ _) (fun w _ hS => hasW_c a ca r x u w (ha.ex0 hS.ext) hx) ?_
  refine GoH.v (Vop.mv rfl rfl rfl rfl) ?_
  -- guard on slot 13 (frames.go:114)
  refine GoH.cases (d := 13) rfl (fun hc => ?_) (fun hc => ?_)
  · -- yes
    have h1 := hc
    refine GoH.v (Vop.mv rfl rfl rfl rfl) ?_
    refine GoH.v (Vop.mv rfl rfl rfl rfl) ?_
    refine GoH.v (Vop.mv rfl rfl rfl rfl) ?_
    refine GoH.callP rfl rfl rfl rfl rfl (fun _ _ => Tryd.call84 _ _) (fun w _ hS => hasW_c a ca r x v w (ha.ex0 hS.ext) hx) ?_
    refine GoH.v (Vop.pickT rfl rfl rfl rfl rfl) ?_
    refine GoH.v (Vop.mv rfl rfl rfl rfl) ?_
    -- guard on slot 19 (frames.go:114)
    refine GoH.cases (d := 19) rfl (fun hc => ?_) (fun hc => ?_)
    · -- yes
      have h2 := hc
      refine GoH.v (Vop.mv rfl rfl rfl rfl) ?_
      refine GoH.v (Vop.mv rfl rfl rfl rfl) ?_
      refine GoH.v (Vop.mv rfl rfl rfl rfl) ?_
      refine GoH.callP rfl rfl rfl rfl rfl (fun _ _ => Tryd.call84 _ _) (fun w _ hS => hasW_c a ca r u v w (ha.ex0 hS.ext) hu) ?_
      refine GoH.v (Vop.un rfl rfl rfl uNot rfl) ?_
      refine GoH.v (Vop.pickT rfl rfl rfl rfl rfl) ?_
      refine GoH.v (Vop.asg rfl rfl rfl rfl) ?_
      refine GoH.regionEnd ?_
      refine GoH.ret Tryd.f87 Tryd.func87 rfl (fun w' hS => ?_)
      exact ⟨hS.ext, by simp [retV, showsB, h1, h2]⟩
    · -- no
      have h2 := hc
      refine GoH.no rfl rfl rfl rfl ?_
      refine GoH.no rfl rfl rfl rfl ?_
      refine GoH.no rfl rfl rfl rfl ?_
      refine GoH.no rfl rfl rfl rfl ?_
      refine GoH.no rfl rfl rfl rfl ?_
      refine GoH.v (Vop.pickF rfl rfl rfl rfl rfl) ?_
      refine GoH.v (Vop.asg rfl rfl rfl rfl) ?_
      refine GoH.regionEnd ?_
      refine GoH.ret Tryd.f87 Tryd.func87 rfl (fun w' hS => ?_)
      exact ⟨hS.ext, by simp [retV, showsB, h1, h2]⟩
  · -- no
    have h1 := hc
    refine GoH.no rfl rfl rfl rfl ?_
    refine GoH.no rfl rfl rfl rfl ?_
    refine GoH.no rfl rfl rfl rfl ?_
    refine GoH.no rfl rfl rfl rfl ?_
    refine GoH.v (Vop.pickF rfl rfl rfl rfl rfl) ?_
    refine GoH.v (Vop.mv rfl rfl rfl rfl) ?_
    refine GoH.no rfl rfl rfl rfl ?_
    refine GoH.no rfl rfl rfl rfl ?_
    refine GoH.no rfl rfl rfl rfl ?_
    refine GoH.no rfl rfl rfl rfl ?_
    refine GoH.no rfl rfl rfl rfl ?_
    refine GoH.v (Vop.pickF rfl rfl rfl rfl rfl) ?_
    refine GoH.v (Vop.asg rfl rfl rfl rfl) ?_
    refine GoH.regionEnd ?_
    refine GoH.ret Tryd.f87 Tryd.func87 rfl (fun w' hS => ?_)
    exact ⟨hS.ext, by simp [retV, showsB, h1]⟩
def tRow (x : Int × Int × FuncId) : List Value := [.int .i64 x.1, .int .i64 x.2.1, .func (.func x.2.2) #[] #[]]
def testL : List (Int × Int × FuncId) := [(1, 1, 82), (2, 1, 83), (3, 2, 85), (4, 3, 86), (5, 3, 87)]
theorem test_mem {x : Int × Int × FuncId} (h : x ∈ testL) : x.2.1 = cnt x.1 ∧ 1 ≤ x.1 ∧ x.1 ≤ 5 ∧ (∀ args w, (callFunc x.2.2 args).run Tryd.prog w = .ok (.enter x.2.2 args) w) ∧
    ∀ (a : Option Addr) (ca : Nat) (r : List W64) (y u v : Nat) (w : World), SlU w a r → y < r.length → u < r.length → v < r.length → Cn Tryd.prog x.2.2 [.slice a r.length ca, .int .i64 y, .int .i64 u, .int .i64 v] w (fun z _ => z = .bool (showsB x.1 r y u v)) := by
  simp only [testL, List.mem_cons, List.not_mem_nil, or_false] at h
  rcases h with rfl | rfl | rfl | rfl | rfl
  · exact ⟨rfl, by decide, by decide, (fun _ _ => Tryd.call82 _ _), fun a ca r y u v w h1 h2 h3 h4 => sh1_c a ca r y u v w h1 h2 h3 h4⟩
  · exact ⟨rfl, by decide, by decide, (fun _ _ => Tryd.call83 _ _), fun a ca r y u v w h1 h2 h3 h4 => sh2_c a ca r y u v w h1 h2 h3 h4⟩
  · exact ⟨rfl, by decide, by decide, (fun _ _ => Tryd.call85 _ _), fun a ca r y u v w h1 h2 h3 h4 => sh3_c a ca r y u v w h1 h2 h3 h4⟩
  · exact ⟨rfl, by decide, by decide, (fun _ _ => Tryd.call86 _ _), fun a ca r y u v w h1 h2 h3 h4 => sh4_c a ca r y u v w h1 h2 h3 h4⟩
  · exact ⟨rfl, by decide, by decide, (fun _ _ => Tryd.call87 _ _), fun a ca r y u v w h1 h2 h3 h4 => sh5_c a ca r y u v w h1 h2 h3 h4⟩
theorem test_all {p : Int} (h : ∀ x ∈ testL, x.1 ≠ p) : cnt p = 0 := by
  have := fun x hx => h x hx
  by_cases hp : cnt p = 0
  · exact hp
  · have h1 := cnt_pos.1 hp
    exfalso
    have e1 := h (1, 1, 82) (by simp [testL])
    have e2 := h (2, 1, 83) (by simp [testL])
    have e3 := h (3, 2, 85) (by simp [testL])
    have e4 := h (4, 3, 86) (by simp [testL])
    have e5 := h (5, 3, 87) (by simp [testL])
    simp only at e1 e2 e3 e4 e5
    omega
theorem tests_c (w : World) : Cn Tryd.prog 56 [] w (fun v w' => ∃ b, v = .slice (some ⟨b, 0, none⟩) 5 5 ∧ w.heap.size ≤ b ∧ w'.heap[b]? = some (.cells (testL.flatMap tRow ++ []).toArray 88 (0, 0))) := by
  refine Cn.of Tryd.func56 rfl rfl ?_
  refine GoH.seq ?_
  refine GoH.region ?_
  refine GoH.v (Vop.asg rfl rfl rfl rfl) ?_
  refine GoH.regionEnd ?_
  refine GoH.seq ?_
  refine GoH.region ?_
  refine GoH.v (Vop.bld rfl rfl rfl rfl (bld (c := [_, _, _]) Tryd.underlying88 (Szs.cons Tryd.sizeOf3 (Szs.cons Tryd.sizeOf3 (Szs.cons Tryd.sizeOf86 Szs.nil))) Tryd.zeroValue88 rfl)) ?_
  refine GoH.v (Vop.bld rfl rfl rfl rfl (bld (c := [_, _, _]) Tryd.underlying88 (Szs.cons Tryd.sizeOf3 (Szs.cons Tryd.sizeOf3 (Szs.cons Tryd.sizeOf86 Szs.nil))) Tryd.zeroValue88 rfl)) ?_
  refine GoH.v (Vop.bld rfl rfl rfl rfl (bld (c := [_, _, _]) Tryd.underlying88 (Szs.cons Tryd.sizeOf3 (Szs.cons Tryd.sizeOf3 (Szs.cons Tryd.sizeOf86 Szs.nil))) Tryd.zeroValue88 rfl)) ?_
  refine GoH.v (Vop.bld rfl rfl rfl rfl (bld (c := [_, _, _]) Tryd.underlying88 (Szs.cons Tryd.sizeOf3 (Szs.cons Tryd.sizeOf3 (Szs.cons Tryd.sizeOf86 Szs.nil))) Tryd.zeroValue88 rfl)) ?_
  refine GoH.v (Vop.bld rfl rfl rfl rfl (bld (c := [_, _, _]) Tryd.underlying88 (Szs.cons Tryd.sizeOf3 (Szs.cons Tryd.sizeOf3 (Szs.cons Tryd.sizeOf86 Szs.nil))) Tryd.zeroValue88 rfl)) ?_
  refine GoH.bsN (c := [_, _, _, _, _, _, _, _, _, _, _, _, _, _, _]) rfl rfl rfl rfl Tryd.underlying85 Tryd.sizeOf88 Tryd.zeroValue88 rfl rfl (fun b6 => ?_)
  refine GoH.v (Vop.asg rfl rfl rfl rfl) ?_
  refine GoH.regionEnd ?_
  refine GoH.ret Tryd.f56 Tryd.func56 rfl (fun w' hS => ?_)
  exact ⟨hS.ext, b6, rfl, hS.fresh (j := 0) rfl, hS.get (j := 0) rfl⟩
theorem wit1_c (x : Int × Int × FuncId) (p : Int) (b : Nat) (w : World) (hb : w.heap[b]? = some (.cells #[.int .i64 p] 3 (0, 0))) : Cn Tryd.prog 57 [.agg (tRow x).toArray, .pointer (some ⟨b, 0, none⟩)] w (fun v _ => v = .bool (x.1 == p)) := by
  refine Cn.of Tryd.func57 rfl rfl ?_
  refine GoH.seq ?_
  refine GoH.region ?_
  refine GoH.bx rfl rfl rfl rfl (fun b2 => ?_)
  refine GoH.v (Vop.asg rfl rfl rfl rfl) ?_
  refine GoH.regionEnd ?_
  refine GoH.seq ?_
  refine GoH.region ?_
  refine GoH.v (Vop.fldP rfl rfl rfl rfl Tryd.underlying88 rfl (by exact Tryd.sizeOf3) 0 rfl) ?_
  refine GoH.v (Vop.ldo rfl rfl rfl rfl Tryd.isAgg3 0 rfl rfl) ?_
  refine GoH.v (Vop.ld rfl rfl rfl rfl Tryd.isAgg3 (fun w _ hS => (hS.ext.cell hb rfl))) ?_
  refine GoH.v (Vop.bin rfl rfl rfl rfl bEq rfl) ?_
  refine GoH.v (Vop.asg rfl rfl rfl rfl) ?_
  refine GoH.regionEnd ?_
  refine GoH.ret Tryd.f57 Tryd.func57 rfl (fun w' hS => ?_)
  exact ⟨hS.ext, rfl⟩
theorem ixT_c (b : Nat) (p : Int) (a : Option Addr) (ca : Nat) (xs : List (Int × Int × FuncId)) (w : World) (ha : Sl w a (xs.flatMap tRow)) (hl : xs.length ≤ 1000) (hb : w.heap[b]? = some (.cells #[.int .i64 p] 3 (0, 0))) :
    Cn Tryd.prog 55 [.slice a xs.length ca, .func (.func 57) ([] : List Value).toArray ([.pointer (some ⟨b, 0, none⟩)] : List Value).toArray] w (fun v _ => ∃ j : Int, v = .int .i64 j ∧ ((j = -1 ∧ ∀ x ∈ xs, x.1 ≠ p) ∨ ∃ (k : Nat) (x : Int × Int × FuncId), j = k ∧ xs[k]? = some x ∧ x.1 = p)) := by
  refine Cn.of Tryd.func55 rfl rfl ?_
  refine GoH.seq ?_
  refine GoH.region ?_
  refine GoH.v (Vop.asg rfl rfl rfl rfl) ?_
  refine GoH.regionEnd ?_
  refine GoH.seq ?_
  refine GoH.seq ?_
  refine GoH.region ?_
  refine GoH.v (Vop.mv rfl rfl rfl rfl) ?_
  refine GoH.v (Vop.blt rfl rfl rfl (blt_len_slice Tryd.underlying85) rfl) ?_
  refine GoH.v (Vop.mv rfl rfl rfl rfl) ?_
  refine GoH.regionEnd ?_
  refine GoH.block ?_
  refine GoH.loop (σ := Nat) (fun k => [(0, .slice a xs.length ca), (1, .func (.func 57) ([] : List Value).toArray ([.pointer (some ⟨b, 0, none⟩)] : List Value).toArray), (7, .int .i64 xs.length), (8, .int .i64 k)]) (fun _ => [])
    (fun k => k ≤ xs.length ∧ ∀ (i : Nat) (y : Int × Int × FuncId), i < k → xs[i]? = some y → y.1 ≠ p) (fun k => xs.length - k) 0 ⟨Nat.zero_le _, fun i y hi => by omega⟩ ⟨rfl, rfl, rfl, rfl, trivial⟩ .slnil (fun k hI IH => ?_)
  obtain ⟨hk, hno⟩ := hI
  refine GoH.seq ?_
  refine GoH.region ?_
  refine GoH.v (Vop.bin rfl rfl rfl rfl bLt rfl) ?_
  refine GoH.regionEnd ?_
  refine GoH.seq ?_
  refine GoH.cond rfl (fun hc => ?_) (fun hc => ?_)
  · -- yes
    have hlt : k < xs.length := by simpa using hc
    refine GoH.skip ?_
    refine GoH.seq ?_
    refine GoH.block ?_
    refine GoH.seq ?_
    refine GoH.region ?_
    refine GoH.v (Vop.mv rfl rfl rfl rfl) ?_
    refine GoH.v (Vop.asg rfl rfl rfl rfl) ?_
    refine GoH.regionEnd ?_
    refine GoH.seq ?_
    refine GoH.region ?_
    refine GoH.v (Vop.mv rfl rfl rfl rfl) ?_
    refine GoH.v (Vop.mv rfl rfl rfl rfl) ?_
    refine GoH.v (Vop.mv rfl rfl rfl rfl) ?_
    refine GoH.v (Vop.idxN rfl rfl rfl rfl rfl Tryd.underlying85 Tryd.sizeOf88 ⟨_, ha⟩ (flat_len (enc := tRow) (sz := 3) (fun _ => rfl)) (by decide) k ⟨rfl, hlt⟩) ?_
    refine GoH.v (Vop.ldN (cs := tRow xs[k]) rfl rfl rfl rfl Tryd.isAgg88 Tryd.sizeOf88 (fun w _ hS => Sl.many (enc := tRow) (sz := 3) (ha.ex0 hS.ext) (fun _ => rfl) hlt)) ?_
    refine GoH.callCP (fs := []) rfl rfl rfl rfl rfl (fun _ _ => Tryd.call57 _ _) (fun w _ hS => by exact wit1_c xs[k] p b w (hS.ext.keep hb)) ?_
    refine GoH.regionEnd ?_
    refine GoH.cond rfl (fun hc => ?_) (fun hc => ?_)
    · -- yes
      have e1 : xs[k].1 = p := by simpa using hc
      refine GoH.seq ?_
      refine GoH.region ?_
      refine GoH.v (Vop.mv rfl rfl rfl rfl) ?_
      refine GoH.v (Vop.asg rfl rfl rfl rfl) ?_
      refine GoH.regionEnd ?_
      refine GoH.ret Tryd.f55 Tryd.func55 rfl (fun w' hS => ?_)
      exact ⟨hS.ext, _, rfl, .inr ⟨k, xs[k], rfl, List.getElem?_eq_getElem hlt, e1⟩⟩
    · -- no
      have e1 : xs[k].1 ≠ p := by simpa using hc
      refine GoH.skip ?_
      refine GoH.inBlock ?_
      refine GoH.region ?_
      refine GoH.v (Vop.bin rfl rfl rfl rfl (bAdd (by omega)) rfl) ?_
      refine GoH.v (Vop.mv rfl rfl rfl rfl) ?_
      refine GoH.regionEnd ?_
      exact IH (k + 1) _ _ ⟨hlt, fun i y hi hy => by
      by_cases e : i = k
      · subst e; rw [List.getElem?_eq_getElem hlt] at hy; cases hy; exact e1
      · exact hno i y (by omega) hy⟩ (by omega) ⟨rfl, rfl, rfl, rfl, trivial⟩ .slnil
  · -- no
    have hge : ¬ k < xs.length := by simpa using hc
    obtain rfl : k = xs.length := by omega
    refine GoH.exit rfl ?_
    refine GoH.seq ?_
    refine GoH.region ?_
    refine GoH.v (Vop.asg rfl rfl rfl rfl) ?_
    refine GoH.regionEnd ?_
    refine GoH.ret Tryd.f55 Tryd.func55 rfl (fun w' hS => ?_)
    exact ⟨hS.ext, _, rfl, .inl ⟨rfl, fun x hx => by
    obtain ⟨i, hi, e⟩ := List.mem_iff_getElem.1 hx
    exact hno i x hi (by rw [List.getElem?_eq_getElem hi, e])⟩⟩
end Go.Proofs.YtbjopkllkoomkaaDoor
