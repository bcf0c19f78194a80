/- What calls of the program return, under the conditions that each theorem states. -/
import Derived.Test.YtcljmlnnfdaljaaDoorF05
import Derived.Test.YtcljmlnnfdaljaaDoorF06
import Derived.Test.YtcljmlnnfdaljaaDoorF04
namespace Go.Proofs.YtcljmlnnfdaljaaDoor
open Go.RowKit Go.Proofs.Wit
/-! the library's searches by a function -/
theorem any_of_ix {α : Type} {xs : List α} {p : α → Bool} {j : Int} (h : (j = -1 ∧ ∀ x ∈ xs, p x = false) ∨ ∃ (k : Nat) (x : α), j = k ∧ xs[k]? = some x ∧ p x = true ∧ ∀ i y, i < k → xs[i]? = some y → p y = false) : xs.any p = decide (j ≥ 0) := by
  rcases h with ⟨rfl, h⟩ | ⟨k, x, rfl, h1, h2, _⟩
  · rw [show decide ((-1 : Int) ≥ 0) = false from rfl, List.any_eq_false]; exact fun x hx => by rw [h x hx]; simp
  · rw [decide_eq_true (by omega), List.any_eq_true]; exact ⟨x, List.mem_of_getElem? h1, h2⟩

theorem ixU_c {gf : FuncId} (cs : List Value) (p : W64 → Bool) (hcf : ∀ args w, (callFunc gf args).run Tryd.prog w = .ok (.enter gf args) w) (a : Option Addr) (ca : Nat) (xs : List W64) (w : World) (ha : SlU w a xs) (hl : xs.length ≤ maxLen)
    (hf : ∀ w', Ex [] w w' → ∀ x ∈ xs, Cn Tryd.prog gf ([U x] ++ cs) w' (fun v _ => v = .bool (p x))) :
    Cn Tryd.prog 101 [.slice a xs.length ca, .func (.func gf) ([] : List Value).toArray cs.toArray] w (fun v _ => ∃ j : Int, v = .int .i64 j ∧ ((j = -1 ∧ ∀ x ∈ xs, p x = false) ∨ ∃ (k : Nat) (x : W64), j = k ∧ xs[k]? = some x ∧ p x = true ∧ ∀ i y, i < k → xs[i]? = some y → p y = false)) := by
  have hl' := hl
  unfold maxLen at hl'
  refine Cn.of Tryd.func101 rfl rfl ?_
  refine GoH.seq (GoH.region ?_)
  refine GoH.v (Vop.asg rfl rfl rfl rfl) ?_
  refine GoH.regionEnd (GoH.seq (GoH.seq (GoH.region ?_)))
  refine GoH.v (Vop.mv rfl rfl rfl rfl) ?_
  refine GoH.v (Vop.blt rfl rfl rfl (blt_len_slice Tryd.underlying22) rfl) ?_
  refine GoH.v (Vop.mv rfl rfl rfl rfl) ?_
  refine GoH.regionEnd (GoH.block ?_)
  refine GoH.loop (σ := Nat) (fun k => [(0, .slice a xs.length ca), (1, .func (.func gf) ([] : List Value).toArray cs.toArray), (7, .int .i64 xs.length), (8, .int .i64 k)]) (fun _ => [])
    (fun k => k ≤ xs.length ∧ ∀ i y, i < k → xs[i]? = some y → p y = false) (fun k => xs.length - k) 0 ⟨Nat.zero_le _, fun i y hi => by omega⟩ ⟨rfl, rfl, rfl, rfl, trivial⟩ .slnil (fun k hI IH => ?_)
  obtain ⟨hk, hno⟩ := hI
  refine GoH.seq (GoH.region ?_)
  refine GoH.v (Vop.bin rfl rfl rfl rfl bLt rfl) ?_
  refine GoH.regionEnd (GoH.seq ?_)
  refine GoH.cond rfl (fun hc => ?_) (fun hc => ?_)
  ·
   have hlt : k < xs.length := by simpa using hc
   refine GoH.skip (GoH.seq (GoH.block (GoH.seq (GoH.region ?_))))
   refine GoH.v (Vop.mv rfl rfl rfl rfl) ?_
   refine GoH.v (Vop.asg rfl rfl rfl rfl) ?_
   refine GoH.regionEnd (GoH.seq (GoH.region ?_))
   iterate 3 refine GoH.v (Vop.mv rfl rfl rfl rfl) ?_
   refine GoH.v (Vop.idx rfl rfl rfl rfl rfl Tryd.underlying22 Tryd.sizeOf33 ⟨_, ha⟩ (by simp) k ⟨rfl, by simpa using hlt⟩) ?_
   refine GoH.v (Vop.ld rfl rfl rfl rfl Tryd.isAgg33 (fun w _ hS => Sl.at (enc := U) (SlU.ex0 ha hS.ext) k hlt)) ?_
   refine GoH.callCP (fs := []) rfl rfl rfl rfl rfl hcf (fun w _ hS => hf w hS.ext _ (List.getElem_mem hlt)) ?_
   refine GoH.regionEnd ?_
   refine GoH.cond rfl (fun hc => ?_) (fun hc => ?_)
   ·
    refine GoH.seq (GoH.region ?_)
    refine GoH.v (Vop.mv rfl rfl rfl rfl) ?_
    refine GoH.v (Vop.asg rfl rfl rfl rfl) ?_
    refine GoH.regionEnd ?_
    refine GoH.ret Tryd.f101 Tryd.func101 rfl (fun w' hS => ?_)
    exact ⟨hS.ext, _, rfl, .inr ⟨k, xs[k], rfl, List.getElem?_eq_getElem hlt, hc, hno⟩⟩
   ·
    refine GoH.skip (GoH.inBlock (GoH.region ?_))
    refine GoH.v (Vop.bin rfl rfl rfl rfl (bAdd (by omega)) rfl) ?_
    refine GoH.v (Vop.mv rfl rfl rfl rfl) ?_
    refine GoH.regionEnd ?_
    exact IH (k + 1) _ _ ⟨hlt, fun i y hi hy => by
    by_cases e : i = k
    · subst e; rw [List.getElem?_eq_getElem hlt] at hy; cases hy; exact hc
    · exact hno i y (by omega) hy⟩ (by omega) ⟨rfl, rfl, rfl, rfl, trivial⟩ .slnil
  ·
   have hge : ¬ k < xs.length := by simpa using hc
   obtain rfl : k = xs.length := by omega
   refine GoH.exit rfl (GoH.seq (GoH.region ?_))
   refine GoH.v (Vop.asg rfl rfl rfl rfl) ?_
   refine GoH.regionEnd ?_
   refine GoH.ret Tryd.f101 Tryd.func101 rfl (fun w' hS => ?_)
   exact ⟨hS.ext, _, rfl, .inl ⟨rfl, fun x hx => by
   obtain ⟨i, hi, e⟩ := List.mem_iff_getElem.1 hx
   exact hno i x hi (by rw [List.getElem?_eq_getElem hi, e])⟩⟩
theorem cfU_c {gf : FuncId} (cs : List Value) (p : W64 → Bool) (hcf : ∀ args w, (callFunc gf args).run Tryd.prog w = .ok (.enter gf args) w) (a : Option Addr) (ca : Nat) (xs : List W64) (w : World) (ha : SlU w a xs) (hl : xs.length ≤ maxLen)
    (hf : ∀ w', Ex [] w w' → ∀ x ∈ xs, Cn Tryd.prog gf ([U x] ++ cs) w' (fun v _ => v = .bool (p x))) :
    Cn Tryd.prog 82 [.slice a xs.length ca, .func (.func gf) ([] : List Value).toArray cs.toArray] w (fun v _ => v = .bool (xs.any p)) := by
  refine Cn.of Tryd.func82 rfl rfl ?_
  refine GoH.seq (GoH.region ?_)
  refine GoH.v (Vop.asg rfl rfl rfl rfl) ?_
  refine GoH.regionEnd (GoH.seq (GoH.region ?_))
  iterate 2 refine GoH.v (Vop.mv rfl rfl rfl rfl) ?_
  refine GoH.callM _ rfl rfl rfl rfl rfl (fun _ _ => Tryd.call101 _ _) (fun w _ hS => ixU_c cs p hcf a ca xs w (ha.ex0 hS.ext) hl (fun w' he => hf w' (hS.ext.trans he (by simp)))) ?_
  rintro v w1 w2 Y' hS he ⟨j, rfl, hj⟩
  refine ⟨_, hS.later he, ?_⟩
  refine GoH.v (Vop.bin rfl rfl rfl rfl bGe rfl) ?_
  refine GoH.v (Vop.asg rfl rfl rfl rfl) ?_
  refine GoH.regionEnd ?_
  refine GoH.ret Tryd.f82 Tryd.func82 rfl (fun w' hS => ?_)
  exact ⟨hS.ext, by rw [any_of_ix hj]; rfl⟩

theorem ixR_c {gf : FuncId} (cs : List Value) (p : Row → Bool) (hcf : ∀ args w, (callFunc gf args).run Tryd.prog w = .ok (.enter gf args) w) (a : Option Addr) (ca : Nat) (xs : List Row) (w : World) (ha : SlR w a xs) (hl : xs.length ≤ maxLen)
    (hf : ∀ w', Ex [] w w' → ∀ x ∈ xs, Cn Tryd.prog gf ([Row.v x] ++ cs) w' (fun v _ => v = .bool (p x))) :
    Cn Tryd.prog 85 [.slice a xs.length ca, .func (.func gf) ([] : List Value).toArray cs.toArray] w (fun v _ => ∃ j : Int, v = .int .i64 j ∧ ((j = -1 ∧ ∀ x ∈ xs, p x = false) ∨ ∃ (k : Nat) (x : Row), j = k ∧ xs[k]? = some x ∧ p x = true ∧ ∀ i y, i < k → xs[i]? = some y → p y = false)) := by
  have hl' := hl
  unfold maxLen at hl'
  refine Cn.of Tryd.func85 rfl rfl ?_
  refine GoH.seq (GoH.region ?_)
  refine GoH.v (Vop.asg rfl rfl rfl rfl) ?_
  refine GoH.regionEnd (GoH.seq (GoH.seq (GoH.region ?_)))
  refine GoH.v (Vop.mv rfl rfl rfl rfl) ?_
  refine GoH.v (Vop.blt rfl rfl rfl (blt_len_slice Tryd.underlying23) rfl) ?_
  refine GoH.v (Vop.mv rfl rfl rfl rfl) ?_
  refine GoH.regionEnd (GoH.block ?_)
  refine GoH.loop (σ := Nat) (fun k => [(0, .slice a xs.length ca), (1, .func (.func gf) ([] : List Value).toArray cs.toArray), (7, .int .i64 xs.length), (8, .int .i64 k)]) (fun _ => [])
    (fun k => k ≤ xs.length ∧ ∀ i y, i < k → xs[i]? = some y → p y = false) (fun k => xs.length - k) 0 ⟨Nat.zero_le _, fun i y hi => by omega⟩ ⟨rfl, rfl, rfl, rfl, trivial⟩ .slnil (fun k hI IH => ?_)
  obtain ⟨hk, hno⟩ := hI
  refine GoH.seq (GoH.region ?_)
  refine GoH.v (Vop.bin rfl rfl rfl rfl bLt rfl) ?_
  refine GoH.regionEnd (GoH.seq ?_)
  refine GoH.cond rfl (fun hc => ?_) (fun hc => ?_)
  ·
   have hlt : k < xs.length := by simpa using hc
   refine GoH.skip (GoH.seq (GoH.block (GoH.seq (GoH.region ?_))))
   refine GoH.v (Vop.mv rfl rfl rfl rfl) ?_
   refine GoH.v (Vop.asg rfl rfl rfl rfl) ?_
   refine GoH.regionEnd (GoH.seq (GoH.region ?_))
   iterate 3 refine GoH.v (Vop.mv rfl rfl rfl rfl) ?_
   refine GoH.v (Vop.idx rfl rfl rfl rfl rfl Tryd.underlying23 Tryd.sizeOf22 ⟨_, ha⟩ (by simp) k ⟨rfl, by simpa using hlt⟩) ?_
   refine GoH.v (Vop.ld rfl rfl rfl rfl Tryd.isAgg22 (fun w _ hS => Sl.at (enc := Row.v) (SlR.ex0 ha hS.ext) k hlt)) ?_
   refine GoH.callCP (fs := []) rfl rfl rfl rfl rfl hcf (fun w _ hS => hf w hS.ext _ (List.getElem_mem hlt)) ?_
   refine GoH.regionEnd ?_
   refine GoH.cond rfl (fun hc => ?_) (fun hc => ?_)
   ·
    refine GoH.seq (GoH.region ?_)
    refine GoH.v (Vop.mv rfl rfl rfl rfl) ?_
    refine GoH.v (Vop.asg rfl rfl rfl rfl) ?_
    refine GoH.regionEnd ?_
    refine GoH.ret Tryd.f85 Tryd.func85 rfl (fun w' hS => ?_)
    exact ⟨hS.ext, _, rfl, .inr ⟨k, xs[k], rfl, List.getElem?_eq_getElem hlt, hc, hno⟩⟩
   ·
    refine GoH.skip (GoH.inBlock (GoH.region ?_))
    refine GoH.v (Vop.bin rfl rfl rfl rfl (bAdd (by omega)) rfl) ?_
    refine GoH.v (Vop.mv rfl rfl rfl rfl) ?_
    refine GoH.regionEnd ?_
    exact IH (k + 1) _ _ ⟨hlt, fun i y hi hy => by
    by_cases e : i = k
    · subst e; rw [List.getElem?_eq_getElem hlt] at hy; cases hy; exact hc
    · exact hno i y (by omega) hy⟩ (by omega) ⟨rfl, rfl, rfl, rfl, trivial⟩ .slnil
  ·
   have hge : ¬ k < xs.length := by simpa using hc
   obtain rfl : k = xs.length := by omega
   refine GoH.exit rfl (GoH.seq (GoH.region ?_))
   refine GoH.v (Vop.asg rfl rfl rfl rfl) ?_
   refine GoH.regionEnd ?_
   refine GoH.ret Tryd.f85 Tryd.func85 rfl (fun w' hS => ?_)
   exact ⟨hS.ext, _, rfl, .inl ⟨rfl, fun x hx => by
   obtain ⟨i, hi, e⟩ := List.mem_iff_getElem.1 hx
   exact hno i x hi (by rw [List.getElem?_eq_getElem hi, e])⟩⟩
theorem cfR_c {gf : FuncId} (cs : List Value) (p : Row → Bool) (hcf : ∀ args w, (callFunc gf args).run Tryd.prog w = .ok (.enter gf args) w) (a : Option Addr) (ca : Nat) (xs : List Row) (w : World) (ha : SlR w a xs) (hl : xs.length ≤ maxLen)
    (hf : ∀ w', Ex [] w w' → ∀ x ∈ xs, Cn Tryd.prog gf ([Row.v x] ++ cs) w' (fun v _ => v = .bool (p x))) :
    Cn Tryd.prog 62 [.slice a xs.length ca, .func (.func gf) ([] : List Value).toArray cs.toArray] w (fun v _ => v = .bool (xs.any p)) := by
  refine Cn.of Tryd.func62 rfl rfl ?_
  refine GoH.seq (GoH.region ?_)
  refine GoH.v (Vop.asg rfl rfl rfl rfl) ?_
  refine GoH.regionEnd (GoH.seq (GoH.region ?_))
  iterate 2 refine GoH.v (Vop.mv rfl rfl rfl rfl) ?_
  refine GoH.callM _ rfl rfl rfl rfl rfl (fun _ _ => Tryd.call85 _ _) (fun w _ hS => ixR_c cs p hcf a ca xs w (ha.ex0 hS.ext) hl (fun w' he => hf w' (hS.ext.trans he (by simp)))) ?_
  rintro v w1 w2 Y' hS he ⟨j, rfl, hj⟩
  refine ⟨_, hS.later he, ?_⟩
  refine GoH.v (Vop.bin rfl rfl rfl rfl bGe rfl) ?_
  refine GoH.v (Vop.asg rfl rfl rfl rfl) ?_
  refine GoH.regionEnd ?_
  refine GoH.ret Tryd.f62 Tryd.func62 rfl (fun w' hS => ?_)
  exact ⟨hS.ext, by rw [any_of_ix hj]; rfl⟩
end Go.Proofs.YtcljmlnnfdaljaaDoor
