/- Contracts of functions of the program: what each call returns and that nothing else of memory is turned, under the conditions that each theorem states. -/
import Derived.Test.YtbjopkllkoomkaaDoorT2
namespace Go.Proofs.YtbjopkllkoomkaaDoor
open Go.RowKit Go.Proofs.Wit

/-! the library's functions on lists of words -/
theorem getD_ext {xs ys : List W64} (hl : xs.length = ys.length) (h : ∀ k, k < xs.length → xs.getD k 0#64 = ys.getD k 0#64) : xs = ys := by
  apply List.ext_getElem hl
  intro k h1 h2
  have := h k h1
  simpa [List.getD_eq_getElem?_getD, h1, h2] using this
theorem beq_of_any {xs ys : List W64} (hl : xs.length = ys.length) (h : anyTo (fun k => xs.getD k 0#64 != ys.getD k 0#64) xs.length = false) : (xs == ys) = true := by
  rw [beq_iff_eq]; exact getD_ext hl (fun k hk => by simpa using anyTo_false.1 h k hk)
theorem beq_false_at {xs ys : List W64} {k : Nat} (h : (xs.getD k 0#64 != ys.getD k 0#64) = true) : (xs == ys) = false := by
  rw [beq_eq_false_iff_ne]; rintro rfl; simp at h

theorem equal_c (a : Option Addr) (ca : Nat) (xs : List W64) (b : Option Addr) (cb : Nat) (ys : List W64) (w : World) (ha : SlU w a xs) (hb : SlU w b ys) (hl : xs.length ≤ 9223372036854775807) :
    Cn Tryd.prog 43 [.slice a xs.length ca, .slice b ys.length cb] w (fun v _ => v = .bool (xs == ys)) := by
  refine Cn.of Tryd.func43 rfl rfl ?_
  refine GoH.seq ?_
  refine GoH.region ?_
  refine GoH.v (Vop.asg rfl rfl rfl rfl) ?_
  refine GoH.regionEnd ?_
  refine GoH.seq ?_
  refine GoH.seq ?_
  refine GoH.region ?_
  refine GoH.v (Vop.mv rfl rfl rfl rfl) ?_
  refine GoH.v (Vop.blt rfl rfl rfl (blt_len_slice Tryd.underlying22) rfl) ?_
  refine GoH.v (Vop.mv rfl rfl rfl rfl) ?_
  refine GoH.v (Vop.blt rfl rfl rfl (blt_len_slice Tryd.underlying22) rfl) ?_
  refine GoH.v (Vop.bin rfl rfl rfl rfl bNe rfl) ?_
  refine GoH.regionEnd ?_
  refine GoH.cond rfl (fun hc => ?_) (fun hc => ?_)
  · -- yes
    have h1 : xs.length ≠ ys.length := by simp at hc; omega
    refine GoH.seq ?_
    refine GoH.region ?_
    refine GoH.v (Vop.asg rfl rfl rfl rfl) ?_
    refine GoH.regionEnd ?_
    refine GoH.ret Tryd.f43 Tryd.func43 rfl (fun w' hS => ?_)
    exact ⟨hS.ext, by rw [show (xs == ys) = false from by rw [beq_eq_false_iff_ne]; rintro rfl; exact h1 rfl]; rfl⟩
  · -- no
    have h1 : xs.length = ys.length := by simp at hc; omega
    refine GoH.skip ?_
    refine GoH.seq ?_
    refine GoH.seq ?_
    refine GoH.region ?_
    refine GoH.v (Vop.mv rfl rfl rfl rfl) ?_
    refine GoH.v (Vop.blt rfl rfl rfl (blt_len_slice Tryd.underlying22) rfl) ?_
    refine GoH.v (Vop.mv rfl rfl rfl rfl) ?_
    refine GoH.regionEnd ?_
    refine GoH.block ?_
    refine GoH.loop (σ := Nat) (fun k => [(0, .slice a xs.length ca), (1, .slice b ys.length cb), (12, .int .i64 xs.length), (13, .int .i64 k)]) (fun _ => []) (fun k => k ≤ xs.length ∧ anyTo (fun k => xs.getD k 0#64 != ys.getD k 0#64) k = false) (fun k => xs.length - k) 0 ⟨Nat.zero_le _, rfl⟩ ⟨rfl, rfl, rfl, rfl, trivial⟩ .slnil (fun k hI IH => ?_)
    obtain ⟨hk, hany⟩ := hI
    refine GoH.seq ?_
    refine GoH.region ?_
    refine GoH.v (Vop.bin rfl rfl rfl rfl bLt rfl) ?_
    refine GoH.regionEnd ?_
    refine GoH.seq ?_
    refine GoH.cond rfl (fun hc => ?_) (fun hc => ?_)
    · -- yes
      have hlt : k < xs.length := by simpa using hc
      refine GoH.skip ?_
      refine GoH.seq ?_
      refine GoH.block ?_
      refine GoH.seq ?_
      refine GoH.region ?_
      refine GoH.v (Vop.mv rfl rfl rfl rfl) ?_
      refine GoH.v (Vop.asg rfl rfl rfl rfl) ?_
      refine GoH.regionEnd ?_
      refine GoH.seq ?_
      refine GoH.draw 9 mixed rfl ?_
      refine RdGo.v (Vop.mv rfl rfl rfl rfl) ?_
      refine RdGo.v (Vop.mv rfl rfl rfl rfl) ?_
      refine RdGo.v (Vop.idx rfl rfl rfl rfl rfl Tryd.underlying22 Tryd.sizeOf28 ⟨_, ha⟩ (by simp) (k) ⟨rfl, by simpa using hlt⟩) ?_
      refine RdGo.v (Vop.ld rfl rfl rfl rfl Tryd.isAgg28 (fun w _ hS => (SlU.ex0 ha hS.ext).at (k) hlt)) ?_
      refine RdGo.v (Vop.mv rfl rfl rfl rfl) ?_
      refine RdGo.v (Vop.mv rfl rfl rfl rfl) ?_
      refine RdGo.v (Vop.idx rfl rfl rfl rfl rfl Tryd.underlying22 Tryd.sizeOf28 ⟨_, hb⟩ (by simp) (k) ⟨rfl, by simpa using (h1 ▸ hlt)⟩) ?_
      refine RdGo.v (Vop.ld rfl rfl rfl rfl Tryd.isAgg28 (fun w _ hS => (SlU.ex0 hb hS.ext).at (k) (h1 ▸ hlt))) ?_
      refine RdGo.v (Vop.bin rfl rfl rfl rfl bNeU rfl) ?_
      refine RdGo.nil ?_
      refine GoH.regionEnd ?_
      refine GoH.cond rfl (fun hc => ?_) (fun hc => ?_)
      · -- yes
        refine GoH.seq ?_
        refine GoH.region ?_
        refine GoH.v (Vop.asg rfl rfl rfl rfl) ?_
        refine GoH.regionEnd ?_
        refine GoH.ret Tryd.f43 Tryd.func43 rfl (fun w' hS => ?_)
        exact ⟨hS.ext, by rw [beq_false_at hc]; rfl⟩
      · -- no
        refine GoH.skip ?_
        refine GoH.inBlock ?_
        refine GoH.region ?_
        refine GoH.v (Vop.bin rfl rfl rfl rfl (bAdd (by omega)) rfl) ?_
        refine GoH.v (Vop.mv rfl rfl rfl rfl) ?_
        refine GoH.regionEnd ?_
        exact IH (k + 1) _ _ ⟨hlt, anyTo_succ hany hc⟩ (by omega) ⟨rfl, rfl, rfl, rfl, trivial⟩ .slnil
    · -- no
      have hge : ¬ k < xs.length := by simpa using hc
      obtain rfl : k = xs.length := by omega
      refine GoH.exit rfl ?_
      refine GoH.seq ?_
      refine GoH.region ?_
      refine GoH.v (Vop.asg rfl rfl rfl rfl) ?_
      refine GoH.regionEnd ?_
      refine GoH.ret Tryd.f43 Tryd.func43 rfl (fun w' hS => ?_)
      exact ⟨hS.ext, by rw [beq_of_any h1 hany]; rfl⟩

/-- a list of words in a block of one's own, or nil -/
def Own (w w' : World) (v : Value) (xs : List W64) : Prop :=
  ∃ q cap sp, v = osv q xs.length cap ∧ (q = none → xs.length = 0 ∧ cap = 0) ∧ (xs.map U ++ sp).length = cap ∧ ∀ b, q = some b → w.heap.size ≤ b ∧ w'.heap[b]? = some (ob U 28 xs sp)

theorem clone_c (a : Option Addr) (ca : Nat) (xs : List W64) (w : World) (ha : SlU w a xs) (hl : xs.length ≤ 100000) (hca : xs.length ≤ ca) :
    Cn Tryd.prog 40 [.slice a xs.length ca] w (fun v w' => Own w w' v xs) := by
  obtain ⟨i0, hi, hz, hsz, hby⟩ := info_parts infoU
  refine Cn.of Tryd.func40 rfl rfl ?_
  refine GoH.seq ?_
  refine GoH.region ?_
  refine GoH.v (Vop.asg rfl rfl rfl rfl) ?_
  refine GoH.regionEnd ?_
  refine GoH.seq ?_
  refine GoH.seq ?_
  refine GoH.region ?_
  refine GoH.v (Vop.mv rfl rfl rfl rfl) ?_
  refine GoH.v (Vop.bin rfl rfl rfl rfl (bSlNil Tryd.underlying22) rfl) ?_
  refine GoH.regionEnd ?_
  refine GoH.cond rfl (fun hc => ?_) (fun hc => ?_)
  · -- yes
    obtain rfl : a = none := by simpa using hc
    have hx : xs.length = 0 := by
      rcases Nat.eq_zero_or_pos xs.length with h | h
      · exact h
      · obtain ⟨b, o, e, _⟩ := ha.isSome (by simpa using h); cases e
    refine GoH.seq ?_
    refine GoH.region ?_
    refine GoH.v (Vop.asg rfl rfl rfl rfl) ?_
    refine GoH.regionEnd ?_
    refine GoH.ret Tryd.f40 Tryd.func40 rfl (fun w' hS => ?_)
    exact ⟨hS.ext, none, 0, [], by rw [hx]; rfl, fun _ => ⟨hx, rfl⟩, by simp [hx], fun b hb => by cases hb⟩
  · -- no
    refine GoH.skip ?_
    refine GoH.seq ?_
    refine GoH.region ?_
    refine GoH.bs0 U rfl rfl rfl Tryd.underlying22 hi (fun b => ?_)
    -- heap: b
    refine GoH.v (Vop.mv rfl rfl rfl rfl) ?_
    by_cases hx : xs.length = 0
    · obtain rfl : xs = [] := List.eq_nil_of_length_eq_zero hx
      refine GoH.v (Vop.blt rfl rfl rfl (blt_app0 Tryd.underlying22 hi (Nat.le_refl 0)) rfl) ?_
      refine GoH.v (Vop.asg rfl rfl rfl rfl) (GoH.regionEnd (GoH.ret Tryd.f40 Tryd.func40 rfl (fun w' hS => ?_)))
      exact ⟨hS.ext, some b, 0, [], rfl, (fun h => by cases h), rfl, fun b' hb => by cases hb; exact ⟨hS.fresh (j := 0) rfl, hS.get (j := 0) rfl⟩⟩
    refine GoH.appS U xs rfl rfl rfl rfl rfl Tryd.underlying22 hi hz hsz rfl (fun h => by cases h) 0 rfl (fun w Y' hS => ha.ex0 hS.ext) rfl rfl (by omega) (fun _ => rfl) (by simp [maxLen]; omega) (by simp [hby]; omega) (fun b' sp' cap' hlen => ?_)
    rw [List.nil_append] at *
    refine GoH.v (Vop.asg rfl rfl rfl rfl) ?_
    refine GoH.regionEnd ?_
    refine GoH.ret Tryd.f40 Tryd.func40 rfl (fun w' hS => ?_)
    exact ⟨hS.ext, some b', cap', sp', rfl, (fun h => by cases h), hlen, fun b hb => by cases hb; exact ⟨hS.fresh (j := 0) rfl, hS.get (j := 0) rfl⟩⟩
