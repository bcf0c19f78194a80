/- What calls of the program return, under the conditions that each theorem states. -/
import Derived.Test.YtlihcmknfdckdaaDoorR02
import Derived.Test.YtlihcmknfdckdaaDoorProg
import Derived.Test.YtlihcmknfdckdaaDoorR04
import Derived.Test.YtlihcmknfdckdaaDoorR03
namespace Go.Proofs.YtlihcmknfdckdaaDoor
open Go.RowKit Go.Proofs.Wit
/-- the library's table of bit positions -/
abbrev gTab : Nat := 0
abbrev Tab := TabAt gTab
theorem mixed : Tryd.prog.follows .mixedOrders = true := by kernel_rfl
theorem infoU : (Tryd.prog.info? 37).map (fun i => (i.zero, i.size, i.bytes)) = some (some (U 0#64), 1, 8) := by kernel_rfl
theorem infoI : (Tryd.prog.info? 3).map (fun i => (i.zero, i.size, i.bytes)) = some (some (.int .i64 0), 1, 8) := by kernel_rfl
end Go.Proofs.YtlihcmknfdckdaaDoor
namespace Go.Proofs.YtlihcmknfdckdaaDoor
open Go.RowKit Go.Proofs.Wit
/-! the library's functions on lists of words -/
theorem getD_ext {xs ys : List W64} (hl : xs.length = ys.length) (h : ∀ k, k < xs.length → xs.getD k 0#64 = ys.getD k 0#64) : xs = ys := by
  apply List.ext_getElem hl
  intro k h1 h2
  have := h k h1
  simpa [List.getD_eq_getElem?_getD, h1, h2] using this
theorem beq_of_any {xs ys : List W64} (hl : xs.length = ys.length) (h : anyTo (fun k => xs.getD k 0#64 != ys.getD k 0#64) xs.length = false) : (xs == ys) = true := by
  rw [beq_iff_eq]; exact getD_ext hl (fun k hk => by simpa using anyTo_false.1 h k hk)
theorem beq_false_at {xs ys : List W64} {k : Nat} (h : (xs.getD k 0#64 != ys.getD k 0#64) = true) : (xs == ys) = false := by
  rw [beq_eq_false_iff_ne]; rintro rfl; simp at h
/-- a list of words in a block of one's own, or nil -/
def Own (w w' : World) (v : Value) (xs : List W64) : Prop :=
  ∃ q cap sp, v = osv q xs.length cap ∧ (q = none → xs.length = 0 ∧ cap = 0) ∧ (xs.map U ++ sp).length = cap ∧ ∀ b, q = some b → w.heap.size ≤ b ∧ w'.heap[b]? = some (ob U 37 xs sp)
end Go.Proofs.YtlihcmknfdckdaaDoor
namespace Go.Proofs.YtlihcmknfdckdaaDoor
open Go.RowKit Go.Proofs.Wit
/-- an owned list and a code -/
def OwnE (w w' : World) (v : Value) (p : List W64 × Int) : Prop := ∃ sv, v = .tuple #[sv, .int .i64 p.2] ∧ Own w w' sv p.1
theorem own_nil (w w' : World) : Own w w' (.slice none 0 0) [] := ⟨none, 0, [], rfl, fun _ => ⟨rfl, rfl⟩, rfl, fun _ h => by cases h⟩
theorem ownAt {w0 w : World} {h : Hl} {Y : List (Nat × Obj)} (s : St w0 [] w h Y) {q : Option Nat} {xs : List W64} {sp : List Value} (j : Nat) (hj : h[j]? = some (q, ob U 37 xs sp)) {m c : Nat} (hm : m = xs.length) (hq : q = none → xs.length = 0 ∧ c = 0) (hcap : (xs.map U ++ sp).length = c) : Own w0 w (osv q m c) xs := by
  subst hm
  exact ⟨q, c, sp, rfl, hq, hcap, fun b' hb => by subst hb; exact ⟨s.fresh hj, s.get hj⟩⟩
theorem gainO {w0 w w' : World} {S : List Nat} {h : Hl} {Y : List (Nat × Obj)} (s : St w0 S w h Y) (e : Ex [] w w') {v : Value} {xs : List W64} (ho : Own w w' v xs) :
    ∃ q cap sp, v = osv q xs.length cap ∧ (q = none → xs.length = 0 ∧ cap = 0) ∧ (xs.map U ++ sp).length = cap ∧ St w0 S w' ((q, ob U 37 xs sp) :: h) Y := by
  obtain ⟨q, cap, sp, h1, h2, h3, h4⟩ := ho
  refine ⟨q, cap, sp, h1, h2, h3, ?_⟩
  cases q with
  | none => exact (s.later e).none _
  | some b => exact s.gain e (h4 b rfl).2 rfl (h4 b rfl).1
theorem sluAt {w0 w : World} {S : List Nat} {h : Hl} {Y : List (Nat × Obj)} (s : St w0 S w h Y) {q : Option Nat} {xs : List W64} {sp : List Value} (j : Nat) (hj : h[j]? = some (q, ob U 37 xs sp)) {c : Nat} (hq : q = none → xs.length = 0 ∧ c = 0) : SlU w (q.map (fun b => ⟨b, 0, none⟩)) xs :=
  .blk (fun e => List.eq_nil_of_length_eq_zero (hq e).1) (fun b e => by subst e; exact s.get hj)
def convR (r : List W64) : List W64 × Int := if checkR r.length r ≠ 0 then ([], checkR r.length r) else (revR r, 0)
def unionR (r s : List W64) : List W64 × Int := if twoR r s ≠ 0 then ([], twoR r s) else (flm (fun w x => x ||| s.getD w 0#64) r r.length, 0)
end Go.Proofs.YtlihcmknfdckdaaDoor
namespace Go.Proofs.YtlihcmknfdckdaaDoor
open Go.RowKit Go.Proofs.Wit
/-- o is the least set that contains what a step leads to from s0, and what a step leads to from it -/
structure LeastReach (r : List W64) (s0 o : W64) : Prop where
  base : mapR r s0 &&& ~~~o = 0#64
  step : mapR r o &&& ~~~o = 0#64
  least : ∀ c, mapR r s0 &&& ~~~c = 0#64 → mapR r c &&& ~~~c = 0#64 → o &&& ~~~c = 0#64
end Go.Proofs.YtlihcmknfdckdaaDoor
namespace Go.Proofs.YtlihcmknfdckdaaDoor
open Go.RowKit Go.Proofs.Wit
/-- a step function turns the list that it is given, by g -/
def StepC (gf : FuncId) (g : List W64 → List W64) : Prop :=
  ∀ (q : Option Nat) (cap : Nat) (xs : List W64) (sp : List Value) (w : World), Tab w → (∀ b, q = some b → gTab ≠ b) → Val xs → (q = none → xs.length = 0 ∧ cap = 0) → (∀ b, q = some b → w.heap[b]? = some (ob U 37 xs sp)) →
    CnT Tryd.prog gf [osv q xs.length cap] w q (fun _ w' => ∀ b, q = some b → w'.heap[b]? = some (ob U 37 (g xs) sp))
/-- what grow gives: an owned list with the code of the relation, or the least relation that the step leaves -/
def Grown (F : List W64 → Prop) (r : List W64) (p : List W64 × Int) : Prop :=
  if checkR r.length r ≠ 0 then p = ([], checkR r.length r) else p.2 = 0 ∧ Least F r p.1
end Go.Proofs.YtlihcmknfdckdaaDoor
namespace Go.Proofs.YtlihcmknfdckdaaDoor
open Go.RowKit Go.Proofs.Wit
/-! the reference, 1 -/
theorem rAll_c (n : Nat) (w : World) (h : n ≤ 64) : Cn Tryd.prog 135 [.int .i64 n] w (fun v _ => v = U (allW n)) := by
  refine Cn.of Tryd.func135 rfl rfl ?_
  refine gS (gR ?_)
  refine GoH.v (Vop.asg (v := U 0#64) rfl rfl rfl rfl) ?_
  refine gE (gS (gS (gR ?_))); refine gMv ?_; refine gBi bGe ?_; refine gE ?_
  refine GoH.cond rfl (fun hc => ?_) (fun hc => ?_)
  ·
   have h2 : 64 ≤ n := by simp at hc; omega
   refine gS (gR ?_)
   refine GoH.v (Vop.asg (v := U 18446744073709551615#64) rfl rfl rfl rfl) ?_
   refine gE ?_
   refine GoH.ret Tryd.f135 Tryd.func135 rfl (fun w' hS => ?_)
   exact ⟨hS.ext, by rw [allW, if_pos h2]; rfl⟩
  ·
   have h2 : ¬ 64 ≤ n := by simp at hc; omega
   refine gK (gS (gR ?_)); refine gMv ?_
   refine GoH.v (Vop.conv rfl rfl rfl (cInt (k := .u64) Tryd.underlying3 Tryd.underlying96 (wrapN64 (by omega))) rfl) ?_
   refine GoH.v (Vop.bin (a := U 1#64) rfl rfl rfl rfl (bShl _ rfl) rfl) ?_
   refine GoH.v (Vop.bin (b := U 1#64) rfl rfl rfl rfl bSubU rfl) ?_
   refine gAs ?_; refine gE ?_
   refine GoH.ret Tryd.f135 Tryd.func135 rfl (fun w' hS => ?_)
   exact ⟨hS.ext, by rw [allW, if_neg h2]; rfl⟩
theorem rIn_c (s : W64) (i : Nat) (w : World) (h : i ≤ 100000) : Cn Tryd.prog 143 [U s, .int .i64 i] w (fun v _ => v = .bool (s.getLsbD i)) := by
  refine Cn.of Tryd.func143 rfl rfl ?_
  refine gS (gR ?_); refine gAs ?_; refine gE (gS (gR ?_))
  iterate 2 refine gMv ?_
  refine GoH.v (Vop.conv rfl rfl rfl (cInt (k := .u64) Tryd.underlying3 Tryd.underlying96 (wrapN64 (by omega))) rfl) ?_
  refine GoH.v (Vop.bin rfl rfl rfl rfl (bShr _ rfl) rfl) ?_
  refine GoH.v (Vop.bin (b := U 1#64) rfl rfl rfl rfl bAnd rfl) ?_
  refine GoH.v (Vop.bin (b := U 1#64) rfl rfl rfl rfl bEqU rfl) ?_
  refine gAs ?_; refine gE ?_
  refine GoH.ret Tryd.f143 Tryd.func143 rfl (fun w' hS => ?_)
  exact ⟨hS.ext, by rw [← in_bit]; rfl⟩
theorem rCheck_c (n : Int) (a : Option Addr) (cap : Nat) (xs : List W64) (w : World) (hs : SlU w a xs) (_hl : xs.length ≤ maxLen) :
    Cn Tryd.prog 113 [.int .i64 n, .slice a xs.length cap] w (fun v _ => v = .int .i64 (checkR n xs)) := by
  unfold maxLen at _hl
  refine Cn.of Tryd.func113 rfl rfl ?_
  refine gS (gR ?_); refine gAs ?_; refine gE (gS (gS (gR ?_))); refine gMv ?_; refine gBi bLt ?_; refine gMv ?_
  refine GoH.cases (d := 8) rfl (fun hc => ?_) (fun hc => ?_)
  ·
   have h1 : n < 0 := by simpa using hc
   iterate 2 refine gNo ?_
   refine gPt ?_; refine gE (GoH.condT rfl (gS (gR ?_))); refine gAs ?_; refine gE ?_
   refine GoH.ret Tryd.f113 Tryd.func113 rfl (fun w' hS => ?_)
   exact ⟨hS.ext, by rw [checkR, if_pos (.inl h1)]; rfl⟩
  ·
   have h1 : ¬ n < 0 := by simpa using hc
   refine gMv ?_; refine gBi bGt ?_; refine gPf ?_; refine gE ?_
   refine GoH.cond rfl (fun hc => ?_) (fun hc => ?_)
   ·
    have h2 : 64 < n := by simpa using hc
    refine gS (gR ?_); refine gAs ?_; refine gE ?_
    refine GoH.ret Tryd.f113 Tryd.func113 rfl (fun w' hS => ?_)
    exact ⟨hS.ext, by rw [checkR, if_pos (.inr h2)]; rfl⟩
   ·
    have h2 : ¬ 64 < n := by simpa using hc
    have h3 : ¬ (n < 0 ∨ 64 < n) := by omega
    refine gK (gS (gS (gR ?_))); refine gMv ?_; refine gBl Tryd.underlying32 ?_; refine gMv ?_; refine gBi bNe ?_; refine gE ?_
    refine GoH.cond rfl (fun hc => ?_) (fun hc => ?_)
    ·
     have h4 : (xs.length : Int) ≠ n := by simpa using hc
     refine gS (gR ?_); refine gAs ?_; refine gE ?_
     refine GoH.ret Tryd.f113 Tryd.func113 rfl (fun w' hS => ?_)
     exact ⟨hS.ext, by rw [checkR, if_neg h3, if_pos h4]; rfl⟩
    ·
     have h4 : ¬ (xs.length : Int) ≠ n := by simpa using hc
     obtain ⟨m, rfl⟩ : ∃ m : Nat, n = m := ⟨n.toNat, by omega⟩
     refine gK (gS (gS (gR ?_))); refine gAs ?_; refine gE (gB ?_)
     refine GoH.loop (σ := Nat) (fun k => [(0, .int .i64 m), (1, .slice a xs.length cap), (5, .int .i64 k)]) (fun _ => []) (fun k => k ≤ xs.length ∧ anyTo (badW m xs) k = false) (fun k => xs.length - k) 0 ⟨Nat.zero_le _, rfl⟩ ⟨rfl, rfl, rfl, trivial⟩ .slnil (fun k hI IH => ?_)
     obtain ⟨hk, hany⟩ := hI
     refine gS (gS (gR ?_))
     iterate 2 refine gMv ?_
     refine gBi bLt ?_; refine gE ?_
     refine GoH.cond rfl (fun hc => ?_) (fun hc => ?_)
     ·
      have hlt : k < xs.length := by have : (k : Int) < m := by simpa using hc
                                     omega
      refine gK (gS (gB (gS ?_)))
      refine GoH.draw 8 mixed rfl ?_
      iterate 2 refine rMv ?_
      refine RdGo.v (Vop.idx rfl rfl rfl rfl rfl Tryd.underlying32 Tryd.sizeOf37 ⟨_, hs⟩ (by simp) (k) ⟨rfl, by simpa using hlt⟩) ?_
      refine RdGo.v (Vop.ld rfl rfl rfl rfl Tryd.isAgg37 (fun w _ hS => (SlU.ex0 hs hS.ext).at (k) hlt)) ?_
      refine rMv ?_
      refine RdGo.callP rfl rfl rfl rfl rfl (fun _ _ => Tryd.call135 _ _) (fun w _ hS => rAll_c m w (by omega)) ?_
      refine rBi bAndNot ?_
      refine RdGo.v (Vop.bin (b := U 0#64) rfl rfl rfl rfl bNeU rfl) ?_
      refine RdGo.nil ?_
      refine gE ?_
      refine GoH.cond rfl (fun hc => ?_) (fun hc => ?_)
      ·
       have h5 : badW m xs k = true := hc
       refine gS (gR ?_); refine gAs ?_; refine gE ?_
       refine GoH.ret Tryd.f113 Tryd.func113 rfl (fun w' hS => ?_)
       exact ⟨hS.ext, by rw [checkR, if_neg h3, if_neg h4, Int.toNat_natCast, if_pos (anyTo_at hlt h5)]; rfl⟩
      ·
       have h5 : badW m xs k = false := hc
       refine gK (gIb (gR ?_)); refine gMv ?_
       refine GoH.v (Vop.bin rfl rfl rfl rfl (bAdd (by omega)) rfl) ?_
       refine gAs ?_; refine gE ?_
       exact IH (k + 1) _ _ ⟨hlt, anyTo_succ hany h5⟩ (by omega) ⟨rfl, rfl, rfl, trivial⟩ .slnil
     ·
      have hge : ¬ (k : Int) < m := by simpa using hc
      obtain rfl : k = xs.length := by omega
      refine GoH.exit rfl (gS (gR ?_))
      refine gAs ?_; refine gE ?_
      refine GoH.ret Tryd.f113 Tryd.func113 rfl (fun w' hS => ?_)
      exact ⟨hS.ext, by rw [checkR, if_neg h3, if_neg h4, Int.toNat_natCast, if_neg (by rw [hany]; simp)]; rfl⟩
theorem rValid_c (a : Option Addr) (ca : Nat) (r : List W64) (w : World) (ha : SlU w a r) (hl : r.length ≤ maxLen) :
    Cn Tryd.prog 88 [.slice a r.length ca] w (fun v _ => v = .bool (checkR r.length r == 0)) := by
  refine Cn.of Tryd.func88 rfl rfl ?_
  refine gS (gR ?_); refine gAs ?_; refine gE (gS (gR ?_)); refine gMv ?_; refine gBl Tryd.underlying32 ?_; refine gMv ?_
  refine GoH.callP rfl rfl rfl rfl rfl (fun _ _ => Tryd.call113 _ _) (fun w _ hS => rCheck_c _ a ca r w (ha.ex0 hS.ext) hl) ?_
  refine gBi bEq ?_; refine gAs ?_; refine gE ?_
  refine GoH.ret Tryd.f88 Tryd.func88 rfl (fun w' hS => ?_)
  exact ⟨hS.ext, rfl⟩
theorem rTwo_c (a : Option Addr) (ca : Nat) (r : List W64) (b : Option Addr) (cb : Nat) (s : List W64) (w : World) (ha : SlU w a r) (hb : SlU w b s) (hl : r.length ≤ maxLen) (hl2 : s.length ≤ maxLen) :
    Cn Tryd.prog 144 [.slice a r.length ca, .slice b s.length cb] w (fun v _ => v = .int .i64 (twoR r s)) := by
  refine Cn.of Tryd.func144 rfl rfl ?_
  refine gS (gR ?_); refine gAs ?_; refine gE (gS (gS (gR ?_))); refine gMv ?_; refine gBl Tryd.underlying32 ?_; refine gMv ?_
  refine GoH.callP rfl rfl rfl rfl rfl (fun _ _ => Tryd.call113 _ _) (fun w _ hS => rCheck_c _ a ca r w (ha.ex0 hS.ext) hl) ?_
  refine gAs ?_; refine gE (gS (gR ?_)); refine gMv ?_; refine gBi bNe ?_; refine gE ?_
  refine GoH.cond rfl (fun hc => ?_) (fun hc => ?_)
  ·
   have h1 : checkR r.length r ≠ 0 := by simpa using hc
   refine gS (gR ?_); refine gMv ?_; refine gAs ?_; refine gE ?_
   refine GoH.ret Tryd.f144 Tryd.func144 rfl (fun w' hS => ?_)
   exact ⟨hS.ext, by rw [twoR, if_pos h1]; rfl⟩
  ·
   have h1 : ¬ checkR r.length r ≠ 0 := by simpa using hc
   refine gK (gS (gS (gR ?_))); refine gMv ?_; refine gBl Tryd.underlying32 ?_; refine gMv ?_
   refine GoH.callP rfl rfl rfl rfl rfl (fun _ _ => Tryd.call113 _ _) (fun w _ hS => rCheck_c _ b cb s w (hb.ex0 hS.ext) hl2) ?_
   refine gAs ?_; refine gE (gS (gR ?_)); refine gMv ?_; refine gBi bNe ?_; refine gE ?_
   refine GoH.cond rfl (fun hc => ?_) (fun hc => ?_)
   ·
    have h2 : checkR s.length s ≠ 0 := by simpa using hc
    refine gS (gR ?_); refine gMv ?_; refine gAs ?_; refine gE ?_
    refine GoH.ret Tryd.f144 Tryd.func144 rfl (fun w' hS => ?_)
    exact ⟨hS.ext, by rw [twoR, if_neg h1, if_pos h2]; rfl⟩
   ·
    have h2 : ¬ checkR s.length s ≠ 0 := by simpa using hc
    refine gK (gS (gS (gR ?_))); refine gMv ?_; refine gBl Tryd.underlying32 ?_; refine gMv ?_; refine gBl Tryd.underlying32 ?_; refine gBi bNe ?_; refine gE ?_
    refine GoH.cond rfl (fun hc => ?_) (fun hc => ?_)
    ·
     have h3 : r.length ≠ s.length := by simp at hc; omega
     refine gS (gR ?_); refine gAs ?_; refine gE ?_
     refine GoH.ret Tryd.f144 Tryd.func144 rfl (fun w' hS => ?_)
     exact ⟨hS.ext, by rw [twoR, if_neg h1, if_neg h2, if_pos h3]; rfl⟩
    ·
     have h3 : ¬ r.length ≠ s.length := by simp at hc; omega
     refine gK (gS (gR ?_)); refine gAs ?_; refine gE ?_
     refine GoH.ret Tryd.f144 Tryd.func144 rfl (fun w' hS => ?_)
     exact ⟨hS.ext, by rw [twoR, if_neg h1, if_neg h2, if_neg h3]; rfl⟩
theorem rSame_c (a : Option Addr) (ca : Nat) (xs : List W64) (b : Option Addr) (cb : Nat) (ys : List W64) (w : World) (ha : SlU w a xs) (hb : SlU w b ys) (hl : xs.length ≤ maxLen) :
    Cn Tryd.prog 118 [.slice a xs.length ca, .slice b ys.length cb] w (fun v _ => v = .bool (xs == ys)) := by
  unfold maxLen at hl
  refine Cn.of Tryd.func118 rfl rfl ?_
  refine gS (gR ?_); refine gAs ?_; refine gE (gS (gS (gR ?_))); refine gMv ?_; refine gBl Tryd.underlying32 ?_; refine gMv ?_; refine gBl Tryd.underlying32 ?_; refine gBi bNe ?_; refine gE ?_
  refine GoH.cond rfl (fun hc => ?_) (fun hc => ?_)
  ·
   have h1 : xs.length ≠ ys.length := by simp at hc; omega
   refine gS (gR ?_); refine gAs ?_; refine gE ?_
   refine GoH.ret Tryd.f118 Tryd.func118 rfl (fun w' hS => ?_)
   exact ⟨hS.ext, by rw [show (xs == ys) = false from by rw [beq_eq_false_iff_ne]; rintro rfl; exact h1 rfl]; rfl⟩
  ·
   have h1 : xs.length = ys.length := by simp at hc; omega
   refine gK (gS (gS (gR ?_))); refine gAs ?_; refine gE (gB ?_)
   refine GoH.loop (σ := Nat) (fun k => [(0, .slice a xs.length ca), (1, .slice b ys.length cb), (5, .int .i64 k)]) (fun _ => []) (fun k => k ≤ xs.length ∧ anyTo (fun k => xs.getD k 0#64 != ys.getD k 0#64) k = false) (fun k => xs.length - k) 0 ⟨Nat.zero_le _, rfl⟩ ⟨rfl, rfl, rfl, trivial⟩ .slnil (fun k hI IH => ?_)
   obtain ⟨hk, hany⟩ := hI
   refine gS (gS (gR ?_))
   iterate 2 refine gMv ?_
   refine gBl Tryd.underlying32 ?_; refine gBi bLt ?_; refine gE ?_
   refine GoH.cond rfl (fun hc => ?_) (fun hc => ?_)
   ·
    have hlt : k < xs.length := by simpa using hc
    refine gK (gS (gB (gS ?_)))
    refine GoH.draw 9 mixed rfl ?_
    iterate 2 refine rMv ?_
    refine RdGo.v (Vop.idx rfl rfl rfl rfl rfl Tryd.underlying32 Tryd.sizeOf37 ⟨_, ha⟩ (by simp) (k) ⟨rfl, by simpa using hlt⟩) ?_
    refine RdGo.v (Vop.ld rfl rfl rfl rfl Tryd.isAgg37 (fun w _ hS => (SlU.ex0 ha hS.ext).at (k) hlt)) ?_
    iterate 2 refine rMv ?_
    refine RdGo.v (Vop.idx rfl rfl rfl rfl rfl Tryd.underlying32 Tryd.sizeOf37 ⟨_, hb⟩ (by simp) (k) ⟨rfl, by simpa using (h1 ▸ hlt)⟩) ?_
    refine RdGo.v (Vop.ld rfl rfl rfl rfl Tryd.isAgg37 (fun w _ hS => (SlU.ex0 hb hS.ext).at (k) (h1 ▸ hlt))) ?_
    refine rBi bNeU ?_
    refine RdGo.nil ?_
    refine gE ?_
    refine GoH.cond rfl (fun hc => ?_) (fun hc => ?_)
    ·
     refine gS (gR ?_); refine gAs ?_; refine gE ?_
     refine GoH.ret Tryd.f118 Tryd.func118 rfl (fun w' hS => ?_)
     exact ⟨hS.ext, by rw [beq_false_at hc]; rfl⟩
    ·
     refine gK (gIb (gR ?_)); refine gMv ?_
     refine GoH.v (Vop.bin rfl rfl rfl rfl (bAdd (by omega)) rfl) ?_
     refine gAs ?_; refine gE ?_
     exact IH (k + 1) _ _ ⟨hlt, anyTo_succ hany hc⟩ (by omega) ⟨rfl, rfl, rfl, trivial⟩ .slnil
   ·
    have hge : ¬ k < xs.length := by simpa using hc
    obtain rfl : k = xs.length := by omega
    refine GoH.exit rfl (gS (gR ?_))
    refine gAs ?_; refine gE ?_
    refine GoH.ret Tryd.f118 Tryd.func118 rfl (fun w' hS => ?_)
    exact ⟨hS.ext, by rw [beq_of_any h1 hany]; rfl⟩
theorem rConverse_c (a : Option Addr) (ca : Nat) (r : List W64) (w : World) (ha : SlU w a r) (hl : r.length ≤ maxLen) :
    Cn Tryd.prog 136 [.slice a r.length ca] w (fun v w' => OwnE w w' v (convR r)) := by
  obtain ⟨i0, hi, hz, hsz, hby⟩ := info_parts infoU
  refine Cn.of Tryd.func136 rfl rfl ?_
  refine gS (gR ?_)
  iterate 2 refine gAs ?_
  refine gE (gS (gS (gR ?_))); refine gMv ?_; refine gBl Tryd.underlying32 ?_; refine gMv ?_
  refine GoH.callP rfl rfl rfl rfl rfl (fun _ _ => Tryd.call113 _ _) (fun w _ hS => rCheck_c _ a ca r w (ha.ex0 hS.ext) hl) ?_
  refine gAs ?_; refine gE (gS (gR ?_)); refine gMv ?_; refine gBi bNe ?_; refine gE ?_
  refine GoH.cond rfl (fun hc => ?_) (fun hc => ?_)
  ·
   have h1 : checkR r.length r ≠ 0 := by simpa using hc
   refine gS (gR ?_); refine gMv ?_
   iterate 2 refine gAs ?_
   refine gE ?_
   refine GoH.ret Tryd.f136 Tryd.func136 rfl (fun w' hS => ?_)
   exact ⟨hS.ext, _, by rw [convR, if_pos h1]; rfl, by rw [convR, if_pos h1]; exact own_nil _ _⟩
  ·
   have h1 : ¬ checkR r.length r ≠ 0 := by simpa using hc
   have hv := check_zero.1 (by simpa using h1)
   have hlen := hv.len
   refine gK (gS (gR ?_)); refine gMv ?_; refine gBl Tryd.underlying32 ?_
   refine GoH.mkE U 0#64 rfl rfl rfl rfl rfl Tryd.underlying32 hi hz rfl hsz (by rw [hby]; omega) (by unfold maxLen; omega) (fun b17 => ?_)
   refine gAs ?_; refine gE (gS (gS (gR ?_))); refine gAs ?_; refine gE (gB ?_)
   refine GoH.loop (σ := Nat × List W64) (fun s => [(0, .slice a r.length ca), (5, .slice (some ⟨b17, 0, none⟩) r.length r.length), (6, .int .i64 s.1)]) (fun s => [(some b17, ob U 37 s.2 [])])
     (fun s => s.1 ≤ r.length ∧ s.2 = upTo (fun w out => revS w (r.getD w 0#64) out) (List.replicate r.length 0#64) s.1) (fun s => r.length - s.1) (0, List.replicate r.length 0#64) ⟨Nat.zero_le _, rfl⟩ ⟨rfl, rfl, rfl, trivial⟩ (List.Sublist.refl _) (fun s hs IH => ?_)
   obtain ⟨k, out⟩ := s
   obtain ⟨hk, hout⟩ := hs
   dsimp only at hk hout
   have hol : out.length = r.length := by rw [hout]; exact upTo_rev_length r k
   refine gS (gS (gR ?_))
   iterate 2 refine gMv ?_
   refine gBl Tryd.underlying32 ?_; refine gBi bLt ?_; refine gE ?_
   refine GoH.cond rfl (fun hc => ?_) (fun hc => ?_)
   ·
    have hlt : k < r.length := by simpa using hc
    refine gK (gS (gB (gS (gR ?_)))); refine gAs ?_; refine gE (gB ?_)
    refine GoH.loop (σ := Nat) (fun u => [(0, .slice a r.length ca), (5, .slice (some ⟨b17, 0, none⟩) r.length r.length), (6, .int .i64 k), (7, .int .i64 u)]) (fun u => [(some b17, ob U 37 (revU k (r.getD k 0#64) out u) [])])
      (fun u => u ≤ r.length) (fun u => r.length - u) 0 (Nat.zero_le _) ⟨rfl, rfl, rfl, rfl, trivial⟩ (List.Sublist.refl _) (fun u hu IH2 => ?_)
    refine gS (gS (gR ?_))
    iterate 2 refine gMv ?_
    refine gBl Tryd.underlying32 ?_; refine gBi bLt ?_; refine gE ?_
    refine GoH.cond rfl (fun hc => ?_) (fun hc => ?_)
    ·
     have hlt2 : u < r.length := by simpa using hc
     have hls : u < (revU k (r.getD k 0#64) out u).length := by rw [revU_length]; omega
     refine gK (gS (gB (gS (gR ?_))))
     iterate 2 refine gMv ?_
     refine GoH.v (Vop.idx rfl rfl rfl rfl rfl Tryd.underlying32 Tryd.sizeOf37 ⟨_, ha⟩ (by simp) (k) ⟨rfl, by simpa using hlt⟩) ?_
     refine GoH.v (Vop.ld rfl rfl rfl rfl Tryd.isAgg37 (fun w _ hS => (SlU.ex0 ha hS.ext).at (k) hlt)) ?_
     refine gMv ?_
     refine GoH.callP rfl rfl rfl rfl rfl (fun _ _ => Tryd.call143 _ _) (fun w _ hS => rIn_c _ u w (by omega)) ?_
     refine gE ?_
     refine GoH.cond rfl (fun hc => ?_) (fun hc => ?_)
     ·
      refine gR ?_
      iterate 2 refine gMv ?_
      refine GoH.v (Vop.idxS rfl rfl rfl rfl rfl Tryd.underlying32 Tryd.sizeOf37 (u) ⟨rfl, hlt2⟩) ?_
      refine GoH.v (Vop.ldE U 0#64 rfl rfl rfl rfl Tryd.isAgg37 0 rfl hls) ?_
      refine gMv ?_
      refine GoH.v (Vop.conv rfl rfl rfl (cInt (k := .u64) Tryd.underlying3 Tryd.underlying96 (wrapN64 (by omega))) rfl) ?_
      refine GoH.v (Vop.bin (a := U 1#64) rfl rfl rfl rfl (bShl _ rfl) rfl) ?_
      refine gBi bOr ?_
      refine GoH.v (Vop.idxS rfl rfl rfl rfl rfl Tryd.underlying32 Tryd.sizeOf37 (u) ⟨rfl, hlt2⟩) ?_
      refine GoH.stE U _ rfl rfl rfl rfl Tryd.sizeOf37 rfl 0 rfl hls ?_
      refine gE (gIb (gR ?_)); refine gMv ?_
      refine GoH.v (Vop.bin rfl rfl rfl rfl (bAdd (by omega)) rfl) ?_
      refine gAs ?_; refine gE ?_
      exact IH2 (u + 1) _ _ hlt2 (by omega) ⟨rfl, rfl, rfl, rfl, trivial⟩ (by rw [show revU k (r.getD k 0#64) out (u + 1) = _ from if_pos hc]; exact List.Sublist.refl _)
     ·
      refine gK (gIb (gR ?_)); refine gMv ?_
      refine GoH.v (Vop.bin rfl rfl rfl rfl (bAdd (by omega)) rfl) ?_
      refine gAs ?_; refine gE ?_
      exact IH2 (u + 1) _ _ hlt2 (by omega) ⟨rfl, rfl, rfl, rfl, trivial⟩ (by rw [show revU k (r.getD k 0#64) out (u + 1) = _ from if_neg (by rw [hc]; exact Bool.false_ne_true)]; exact List.Sublist.refl _)
    ·
     have hge2 : ¬ u < r.length := by simpa using hc
     obtain rfl : u = r.length := by omega
     refine GoH.exit rfl (gIb (gR ?_))
     refine gMv ?_
     refine GoH.v (Vop.bin rfl rfl rfl rfl (bAdd (by omega)) rfl) ?_
     refine gAs ?_; refine gE ?_
     exact IH (k + 1, _) _ _ ⟨hlt, by rw [upTo, ← hout]; exact revU_eq hlen (hv.lt k)⟩ (by omega) ⟨rfl, rfl, rfl, trivial⟩ (List.Sublist.refl _)
   ·
    have hge : ¬ k < r.length := by simpa using hc
    obtain rfl : k = r.length := by omega
    refine GoH.exit rfl (gS (gR ?_))
    refine gMv ?_
    iterate 2 refine gAs ?_
    refine gE ?_
    refine GoH.ret Tryd.f136 Tryd.func136 rfl (fun w' hS => ?_)
    exact ⟨hS.ext, _, by rw [convR, if_neg h1]; rfl, by rw [convR, if_neg h1, show revR r = out from hout.symm]; exact ownAt hS (q := some b17) 0 rfl hol.symm (fun h => by cases h) (by simp [hol])⟩
theorem rUnion_c (a : Option Addr) (ca : Nat) (r : List W64) (b : Option Addr) (cb : Nat) (s : List W64) (w : World) (ha : SlU w a r) (hb : SlU w b s) (hl : r.length ≤ maxLen) (hl2 : s.length ≤ maxLen) :
    Cn Tryd.prog 137 [.slice a r.length ca, .slice b s.length cb] w (fun v w' => OwnE w w' v (unionR r s)) := by
  obtain ⟨i0, hi, hz, hsz, hby⟩ := info_parts infoU
  refine Cn.of Tryd.func137 rfl rfl ?_
  refine gS (gR ?_)
  iterate 2 refine gAs ?_
  refine gE (gS (gS (gR ?_)))
  iterate 2 refine gMv ?_
  refine GoH.callP rfl rfl rfl rfl rfl (fun _ _ => Tryd.call144 _ _) (fun w _ hS => rTwo_c a ca r b cb s w (ha.ex0 hS.ext) (hb.ex0 hS.ext) hl hl2) ?_
  refine gAs ?_; refine gE (gS (gR ?_)); refine gMv ?_; refine gBi bNe ?_; refine gE ?_
  refine GoH.cond rfl (fun hc => ?_) (fun hc => ?_)
  ·
   have h1 : twoR r s ≠ 0 := by simpa using hc
   refine gS (gR ?_); refine gMv ?_
   iterate 2 refine gAs ?_
   refine gE ?_
   refine GoH.ret Tryd.f137 Tryd.func137 rfl (fun w' hS => ?_)
   exact ⟨hS.ext, _, by rw [unionR, if_pos h1]; rfl, by rw [unionR, if_pos h1]; exact own_nil _ _⟩
  ·
   have h1 : ¬ twoR r s ≠ 0 := by simpa using hc
   obtain ⟨hvr, hvs, hrs⟩ := two_zero.1 (by simpa using h1)
   have hlen := hvr.len
   refine gK (gS (gR ?_)); refine gMv ?_; refine gBl Tryd.underlying32 ?_
   refine GoH.mkE U 0#64 rfl rfl rfl rfl rfl Tryd.underlying32 hi hz rfl hsz (by rw [hby]; omega) (by unfold maxLen; omega) (fun b17 => ?_)
   refine gAs ?_; refine gE (gS (gS (gR ?_))); refine gAs ?_; refine gE (gB ?_)
   refine GoH.loop (σ := Nat) (fun k => [(0, .slice a r.length ca), (1, .slice b s.length cb), (7, .slice (some ⟨b17, 0, none⟩) r.length r.length), (8, .int .i64 k)]) (fun k => [(some b17, ob U 37 (flm (fun w _ => r.getD w 0#64 ||| s.getD w 0#64) (List.replicate r.length 0#64) k) [])])
     (fun k => k ≤ r.length) (fun k => r.length - k) 0 (Nat.zero_le _) ⟨rfl, rfl, rfl, rfl, trivial⟩ (by rw [flm_zero]; exact List.Sublist.refl _) (fun k hk IH => ?_)
   refine gS (gS (gR ?_))
   iterate 2 refine gMv ?_
   refine gBl Tryd.underlying32 ?_; refine gBi bLt ?_; refine gE ?_
   refine GoH.cond rfl (fun hc => ?_) (fun hc => ?_)
   ·
    have hlt : k < r.length := by simpa using hc
    have hlt2 : k < (flm (fun w _ => r.getD w 0#64 ||| s.getD w 0#64) (List.replicate r.length 0#64) k).length := by simp [flm_length, hlt]
    refine gK (gS (gB ?_))
    refine GoH.draw 12 mixed rfl ?_
    iterate 4 refine rMv ?_
    refine RdGo.v (Vop.idx rfl rfl rfl rfl rfl Tryd.underlying32 Tryd.sizeOf37 ⟨_, ha⟩ (by simp) (k) ⟨rfl, by simpa using hlt⟩) ?_
    refine RdGo.v (Vop.ld rfl rfl rfl rfl Tryd.isAgg37 (fun w _ hS => (SlU.ex0 ha hS.ext).at (k) hlt)) ?_
    iterate 2 refine rMv ?_
    refine RdGo.v (Vop.idx rfl rfl rfl rfl rfl Tryd.underlying32 Tryd.sizeOf37 ⟨_, hb⟩ (by simp) (k) ⟨rfl, by simpa using (hrs ▸ hlt)⟩) ?_
    refine RdGo.v (Vop.ld rfl rfl rfl rfl Tryd.isAgg37 (fun w _ hS => (SlU.ex0 hb hS.ext).at (k) (hrs ▸ hlt))) ?_
    refine rBi bOr ?_
    refine RdGo.v (Vop.idxS rfl rfl rfl rfl rfl Tryd.underlying32 Tryd.sizeOf37 (k) ⟨rfl, hlt⟩) ?_
    refine RdGo.nil ?_
    refine GoH.stE U _ rfl rfl rfl rfl Tryd.sizeOf37 rfl 0 rfl hlt2 ?_
    refine gE (gIb (gR ?_)); refine gMv ?_
    refine GoH.v (Vop.bin rfl rfl rfl rfl (bAdd (by omega)) rfl) ?_
    refine gAs ?_; refine gE ?_
    exact IH (k + 1) _ _ hlt (by omega) ⟨rfl, rfl, rfl, rfl, trivial⟩ (by rw [← flm_succ (by simpa using hlt)]; exact List.Sublist.refl _)
   ·
    have hge : ¬ k < r.length := by simpa using hc
    obtain rfl : k = r.length := by omega
    refine GoH.exit rfl (gS (gR ?_))
    refine gMv ?_
    iterate 2 refine gAs ?_
    refine gE ?_
    refine GoH.ret Tryd.f137 Tryd.func137 rfl (fun w' hS => ?_)
    exact ⟨hS.ext, _, by rw [unionR, if_neg h1]; rfl, by rw [unionR, if_neg h1, union_eq (fun x y => x ||| y)] at *; exact ownAt hS (q := some b17) 0 rfl (by simp [flm_length]) (fun h => by cases h) (by simp [flm_length])⟩
end Go.Proofs.YtlihcmknfdckdaaDoor
namespace Go.Proofs.YtlihcmknfdckdaaDoor
open Go.RowKit Go.Proofs.Wit
/-! the reference, 2 -/
theorem rReflexive_c (a : Option Addr) (ca : Nat) (r : List W64) (w : World) (ha : SlU w a r) (hl : r.length ≤ maxLen) :
    Cn Tryd.prog 114 [.slice a r.length ca] w (fun v w' => ∃ p, OwnE w w' v p ∧ Grown reflR r p) := by
  obtain ⟨i0, hi, hz, hsz, hby⟩ := info_parts infoU
  refine Cn.of Tryd.func114 rfl rfl ?_
  refine gS (gR ?_)
  iterate 2 refine gAs ?_
  refine gE (gS (gS (gR ?_))); refine gMv ?_; refine gBl Tryd.underlying32 ?_; refine gMv ?_
  refine GoH.callP rfl rfl rfl rfl rfl (fun _ _ => Tryd.call113 _ _) (fun w _ hS => rCheck_c _ a ca r w (ha.ex0 hS.ext) hl) ?_
  refine gAs ?_; refine gE (gS (gR ?_)); refine gMv ?_; refine gBi bNe ?_; refine gE ?_
  refine GoH.cond rfl (fun hc => ?_) (fun hc => ?_)
  ·
   have h1 : checkR r.length r ≠ 0 := by simpa using hc
   refine gS (gR ?_); refine gMv ?_
   iterate 2 refine gAs ?_
   refine gE ?_
   refine GoH.ret Tryd.f114 Tryd.func114 rfl (fun w' hS => ?_)
   exact ⟨hS.ext, ([], checkR r.length r), ⟨_, rfl, own_nil _ _⟩, by rw [Grown, if_pos h1]⟩
  ·
   have h1 : ¬ checkR r.length r ≠ 0 := by simpa using hc
   have hv := check_zero.1 (by simpa using h1)
   have hlen := hv.len
   refine gK (gS (gR ?_))
   refine GoH.bs0 U rfl rfl rfl Tryd.underlying32 hi (fun b0 => ?_)
   refine gMv ?_
   refine GoH.appZ U r rfl rfl rfl rfl rfl Tryd.underlying32 hi hz hsz rfl 0 rfl (fun w Y' hS => ha.ex0 hS.ext) rfl rfl (fun _ => rfl) (by simp [maxLen]; omega) (by simp [hby]; omega) (fun b sp cap hcap => ?_)
   rw [List.nil_append] at *
   refine gAs ?_; refine gE (gS (gS (gR ?_))); refine gAs ?_; refine gE (gB ?_)
   refine GoH.loop (σ := Nat) (fun k => [(0, .slice a r.length ca), (5, osv (some b) r.length cap), (6, .int .i64 k)]) (fun k => [(some b, ob U 37 (upTo reflS r k) sp)])
     (fun k => k ≤ r.length) (fun k => r.length - k) 0 (Nat.zero_le _) ⟨rfl, rfl, rfl, trivial⟩ (List.Sublist.refl _) (fun k hk IH => ?_)
   refine gS (gS (gR ?_))
   iterate 2 refine gMv ?_
   refine gBl Tryd.underlying32 ?_; refine gBi bLt ?_; refine gE ?_
   refine GoH.cond rfl (fun hc => ?_) (fun hc => ?_)
   ·
    have hlt : k < r.length := by simpa using hc
    have hlt2 : k < (upTo reflS r k).length := by rw [upTo_refl_length]; exact hlt
    refine gK (gS (gB (gR ?_)))
    iterate 2 refine gMv ?_
    refine GoH.v (Vop.idxS rfl rfl rfl rfl rfl Tryd.underlying32 Tryd.sizeOf37 (k) ⟨rfl, hlt⟩) ?_
    refine GoH.v (Vop.ldE U 0#64 rfl rfl rfl rfl Tryd.isAgg37 0 rfl hlt2) ?_
    refine gMv ?_
    refine GoH.v (Vop.conv rfl rfl rfl (cInt (k := .u64) Tryd.underlying3 Tryd.underlying96 (wrapN64 (by omega))) rfl) ?_
    refine GoH.v (Vop.bin (a := U 1#64) rfl rfl rfl rfl (bShl _ rfl) rfl) ?_
    refine gBi bOr ?_
    refine GoH.v (Vop.idxS rfl rfl rfl rfl rfl Tryd.underlying32 Tryd.sizeOf37 (k) ⟨rfl, hlt⟩) ?_
    refine GoH.stE U _ rfl rfl rfl rfl Tryd.sizeOf37 rfl 0 rfl hlt2 ?_
    refine gE (gIb (gR ?_)); refine gMv ?_
    refine GoH.v (Vop.bin rfl rfl rfl rfl (bAdd (by omega)) rfl) ?_
    refine gAs ?_; refine gE ?_
    exact IH (k + 1) _ _ hlt (by omega) ⟨rfl, rfl, rfl, trivial⟩ (List.Sublist.refl _)
   ·
    have hge : ¬ k < r.length := by simpa using hc
    obtain rfl : k = r.length := by omega
    refine GoH.exit rfl (gS (gR ?_))
    refine gMv ?_
    iterate 2 refine gAs ?_
    refine gE ?_
    refine GoH.ret Tryd.f114 Tryd.func114 rfl (fun w' hS => ?_)
    exact ⟨hS.ext, (upTo reflS r r.length, 0), ⟨_, rfl, ownAt hS (q := some b) 0 rfl upTo_refl_length.symm (fun h => by cases h) (by rw [← hcap]; simp [upTo_refl_length])⟩, by rw [Grown, if_neg h1]; exact ⟨rfl, refl_least hv⟩⟩
theorem rSymmetric_c (a : Option Addr) (ca : Nat) (r : List W64) (w : World) (ha : SlU w a r) (hl : r.length ≤ maxLen) :
    Cn Tryd.prog 115 [.slice a r.length ca] w (fun v w' => ∃ p, OwnE w w' v p ∧ Grown symmR r p) := by
  refine Cn.of Tryd.func115 rfl rfl ?_
  refine gS (gR ?_)
  iterate 2 refine gAs ?_
  refine gE (gS (gR ?_)); refine gMv ?_
  refine GoH.callM _ rfl rfl rfl rfl rfl (fun _ _ => Tryd.call136 _ _) (fun w _ hS => rConverse_c a ca r w (ha.ex0 hS.ext) hl) ?_
  rintro v w1 w2 Y' hS he ⟨sv, rfl, ho⟩
  obtain ⟨q, cap, sp, rfl, hq, hcap, hS'⟩ := gainO hS he ho
  refine ⟨_, hS', ?_⟩
  refine gMv ?_
  iterate 2 refine gEx ?_
  iterate 2 refine gAs ?_
  refine gE (gS (gS (gR ?_))); refine gMv ?_; refine gBi bNe ?_; refine gE ?_
  refine GoH.cond rfl (fun hc => ?_) (fun hc => ?_)
  ·
   have h1 : checkR r.length r ≠ 0 := by
     intro h0
     have : (convR r).2 ≠ 0 := by simpa using hc
     rw [convR, if_neg (by simp [h0])] at this
     exact this rfl
   refine gS (gR ?_); refine gMv ?_
   iterate 2 refine gAs ?_
   refine gE ?_
   refine GoH.ret Tryd.f115 Tryd.func115 rfl (fun w' hS => ?_)
   exact ⟨hS.ext, ([], checkR r.length r), ⟨_, by rw [convR, if_pos h1]; rfl, own_nil _ _⟩, by rw [Grown, if_pos h1]⟩
  ·
   have h1 : ¬ checkR r.length r ≠ 0 := by
     intro h0
     have : (convR r).2 = 0 := by simpa using hc
     rw [convR, if_pos h0] at this
     exact h0 this
   have hv := check_zero.1 (by simpa using h1)
   have hlen := hv.len
   have hr : (convR r).1 = revR r := by rw [convR, if_neg h1]
   have hvr : Val (revR r) := ⟨by rw [revR_length]; exact hlen, fun u v x => by
     have hd := x.dom
     rw [revR_length] at *
     exact ((revR_bit hv hd).1 x).dom⟩
   rw [hr] at hq hcap
   rw [hr]
   refine gK (gS (gR ?_))
   iterate 2 refine gMv ?_
   refine GoH.callM _ rfl rfl rfl rfl rfl (fun _ _ => Tryd.call137 _ _) (fun w _ hS => rUnion_c a ca r (q.map (fun b => ⟨b, 0, none⟩)) cap (revR r) w (ha.ex0 hS.ext) (sluAt hS 0 rfl hq) hl (by rw [revR_length]; exact hl)) ?_
   rintro v w1 w2 Y' hS he ⟨sv, rfl, ho⟩
   obtain ⟨q2, cap2, sp2, rfl, hq2, hcap2, hS'⟩ := gainO hS he ho
   refine ⟨_, hS', ?_⟩
   iterate 2 refine gEx ?_
   iterate 2 refine gAs ?_
   refine gE ?_
   refine GoH.ret Tryd.f115 Tryd.func115 rfl (fun w' hS => ?_)
   have e1 : unionR r (revR r) = (symmG r, 0) := by rw [unionR, if_neg (by rw [ne_eq, Classical.not_not]; exact two_zero.2 ⟨hv, hvr, (revR_length r).symm⟩)]; rfl
   exact ⟨hS.ext, unionR r (revR r), ⟨_, rfl, ownAt hS 0 rfl rfl hq2 hcap2⟩, by rw [Grown, if_neg h1, e1]; exact ⟨rfl, symm_least hv⟩⟩
theorem rGrow_c (a : Option Addr) (ca : Nat) (r : List W64) (e : Bool) (w : World) (ha : SlU w a r) (hv : Val r) :
    Cn Tryd.prog 138 [.slice a r.length ca, .bool e] w (fun v w' => ∃ out, Own w w' v out ∧ Least (allG e) r out) := by
  obtain ⟨i0, hi, hz, hsz, hby⟩ := info_parts infoU
  have hlen := hv.len
  refine Cn.of Tryd.func138 rfl rfl ?_
  refine gS (gR ?_); refine gAs ?_; refine gE (gS (gR ?_))
  refine GoH.bs0 U rfl rfl rfl Tryd.underlying32 hi (fun b0 => ?_)
  refine gMv ?_
  refine GoH.appZ U r rfl rfl rfl rfl rfl Tryd.underlying32 hi hz hsz rfl 0 rfl (fun w Y' hS => ha.ex0 hS.ext) rfl rfl (fun _ => rfl) (by simp [maxLen]; omega) (by simp [hby]; omega) (fun b sp cap hcap => ?_)
  rw [List.nil_append] at *
  refine gAs ?_; refine gE (gS (gS (gR ?_))); refine gAs ?_; refine gE (gB ?_)
  refine GoH.loop (σ := List W64 × Bool) (fun s => [(1, .bool e), (5, osv (some b) r.length cap), (6, .bool s.2)]) (fun s => [(some b, ob U 37 s.1 sp)])
    (fun s => Val s.1 ∧ Le r s.1 ∧ (∀ c, Val c → Le r c → allG e c → Le s.1 c) ∧ (s.2 = false → allG e s.1)) (fun s => 2 * room s.1 + s.2.toNat) (r, true) ⟨hv, .refl _, fun c _ h _ => h, fun h => by cases h⟩ ⟨rfl, rfl, rfl, trivial⟩ (List.Sublist.refl _) (fun s hI IH => ?_)
  obtain ⟨o0, again0⟩ := s
  obtain ⟨hvo, hle, hmin, hdone⟩ := hI
  dsimp only at hvo hle hmin hdone IH
  refine gS (gS (gR ?_)); refine gMv ?_; refine gE ?_
  refine GoH.cond rfl (fun hc => ?_) (fun hc => ?_)
  ·
   have ha0 : again0 = true := hc
   subst ha0
   refine gK (gB (gS (gR ?_))); refine gAs ?_; refine gE (gS (gR ?_)); refine gAs ?_; refine gE (gB ?_)
   refine GoH.loop (σ := Nat × List W64 × Bool) (fun s => [(1, .bool e), (5, osv (some b) r.length cap), (6, .bool s.2.2), (7, .int .i64 s.1)]) (fun s => [(some b, ob U 37 s.2.1 sp)])
     (fun s => s.1 ≤ r.length ∧ Pass e r o0 s.2.1 s.2.2 s.1 0) (fun s => r.length - s.1) (0, o0, false) ⟨Nat.zero_le _, hvo, hle, hmin, .refl _, fun h => (by cases h), fun _ => ⟨rfl, fun w u h => by omega⟩⟩ ⟨rfl, rfl, rfl, rfl, trivial⟩ (List.Sublist.refl _) (fun s hI2 IH2 => ?_)
   obtain ⟨k, o1, again1⟩ := s
   obtain ⟨hk, hp1⟩ := hI2
   dsimp only at hk hp1 IH2
   refine gS (gS (gR ?_))
   iterate 2 refine gMv ?_
   refine gBl Tryd.underlying32 ?_; refine gBi bLt ?_; refine gE ?_
   refine GoH.cond rfl (fun hc => ?_) (fun hc => ?_)
   ·
    have hlt : k < r.length := by simpa using hc
    refine gK (gS (gB (gS (gR ?_)))); refine gAs ?_; refine gE (gB ?_)
    refine GoH.loop (σ := Nat × List W64 × Bool) (fun s => [(1, .bool e), (5, osv (some b) r.length cap), (6, .bool s.2.2), (7, .int .i64 k), (8, .int .i64 s.1)]) (fun s => [(some b, ob U 37 s.2.1 sp)])
      (fun s => s.1 ≤ r.length ∧ Pass e r o0 s.2.1 s.2.2 k s.1) (fun s => r.length - s.1) (0, o1, again1) ⟨Nat.zero_le _, hp1⟩ ⟨rfl, rfl, rfl, rfl, rfl, trivial⟩ (List.Sublist.refl _) (fun s hI3 IH3 => ?_)
    obtain ⟨j, o2, again2⟩ := s
    obtain ⟨hj, hp2⟩ := hI3
    dsimp only at hj hp2 IH3
    have hol : o2.length = r.length := hp2.le.len.symm
    refine gS (gS (gR ?_))
    iterate 2 refine gMv ?_
    refine gBl Tryd.underlying32 ?_; refine gBi bLt ?_; refine gE ?_
    refine GoH.cond rfl (fun hc => ?_) (fun hc => ?_)
    ·
     have hlt2 : j < r.length := by simpa using hc
     have hk2 : k < o2.length := by omega
     have hj2 : j < o2.length := by omega
     refine gK (gS (gB (gS (gS (gR ?_)))))
     iterate 2 refine gMv ?_
     refine GoH.v (Vop.idxS rfl rfl rfl rfl rfl Tryd.underlying32 Tryd.sizeOf37 (k) ⟨rfl, hlt⟩) ?_
     refine GoH.v (Vop.ldE U 0#64 rfl rfl rfl rfl Tryd.isAgg37 0 rfl hk2) ?_
     refine gMv ?_
     refine GoH.callP rfl rfl rfl rfl rfl (fun _ _ => Tryd.call143 _ _) (fun w _ hS => rIn_c _ j w (by omega)) ?_
     refine gUn uNot ?_; refine gE ?_
     refine GoH.cond rfl (fun hc => ?_) (fun hc => ?_)
     ·
      have hno : stG e k j o2 = o2 := by rw [stG, if_neg]; intro h; rw [h] at hc; cases hc
      refine GoH.exit rfl (gR ?_)
      refine gMv ?_
      refine GoH.v (Vop.bin rfl rfl rfl rfl (bAdd (by omega)) rfl) ?_
      refine gAs ?_; refine gE ?_
      exact IH3 (j + 1, o2, again2) _ _ ⟨hlt2, hno ▸ hp2.go again2 (fun h => .inl h) (fun h => ⟨h, hno⟩)⟩ (by omega) ⟨rfl, rfl, rfl, rfl, rfl, trivial⟩ (List.Sublist.refl _)
     ·
      have hyes : stG e k j o2 = pairS e k j o2 := by rw [stG, if_pos]; simpa using hc
      refine gK (gS ?_)
      refine GoH.draw 7 mixed rfl ?_
      iterate 3 refine rMv ?_
      refine RdGo.v (Vop.idxS rfl rfl rfl rfl rfl Tryd.underlying32 Tryd.sizeOf37 (j) ⟨rfl, hlt2⟩) ?_
      refine RdGo.v (Vop.ldE U 0#64 rfl rfl rfl rfl Tryd.isAgg37 0 rfl hj2) ?_
      iterate 2 refine rAs ?_
      refine RdGo.nil ?_
      refine gE (gS (gS (gR ?_))); refine gMv ?_; refine gE ?_
      refine GoH.cond rfl (fun hc => ?_) (fun hc => ?_)
      ·
       obtain rfl : e = true := hc
       refine GoH.sub (l' := [(1, .bool true), (5, osv (some b) r.length cap), (6, .bool again2), (7, .int .i64 k), (8, .int .i64 j)]) ⟨rfl, rfl, rfl, rfl, rfl, trivial⟩ ?_
       refine GoH.draw 7 mixed rfl ?_
       iterate 3 refine rMv ?_
       refine RdGo.v (Vop.idxS rfl rfl rfl rfl rfl Tryd.underlying32 Tryd.sizeOf37 (k) ⟨rfl, hlt⟩) ?_
       refine RdGo.v (Vop.ldE U 0#64 rfl rfl rfl rfl Tryd.isAgg37 0 rfl hk2) ?_
       iterate 2 refine rAs ?_
       refine RdGo.nil ?_
       refine gE (gS ?_)
       refine GoH.draw 11 mixed rfl ?_
       iterate 2 refine rMv ?_
       refine RdGo.v (Vop.idxS rfl rfl rfl rfl rfl Tryd.underlying32 Tryd.sizeOf37 (j) ⟨rfl, hlt2⟩) ?_
       refine RdGo.v (Vop.ldE U 0#64 rfl rfl rfl rfl Tryd.isAgg37 0 rfl hj2) ?_
       refine rMv ?_; refine rBi bOr ?_
       iterate 2 refine rMv ?_
       refine RdGo.v (Vop.idxS rfl rfl rfl rfl rfl Tryd.underlying32 Tryd.sizeOf37 (j) ⟨rfl, hlt2⟩) ?_
       refine RdGo.v (Vop.ldE U 0#64 rfl rfl rfl rfl Tryd.isAgg37 0 rfl hj2) ?_
       refine rBi bNeU ?_
       refine RdGo.nil ?_
       refine gE ?_
       refine GoH.cond rfl (fun hc => ?_) (fun hc => ?_)
       ·
        have hch : stG true k j o2 ≠ o2 := by
          rw [hyes]; intro h
          have h2 := congrArg (fun l => l.getD j 0#64) h
          simp only [pairS, pairAt, pairSrc, if_true] at h2
          rw [show (o2.set j (o2.getD j 0#64 ||| o2.getD k 0#64)).getD j 0#64 = o2.getD j 0#64 ||| o2.getD k 0#64 from by simp [List.getD_eq_getElem?_getD, hj2]] at h2
          rw [h2] at hc; simp at hc
        refine gS (gR ?_)
        iterate 2 refine gMv ?_
        refine GoH.v (Vop.idxS rfl rfl rfl rfl rfl Tryd.underlying32 Tryd.sizeOf37 (j) ⟨rfl, hlt2⟩) ?_
        refine GoH.v (Vop.ldE U 0#64 rfl rfl rfl rfl Tryd.isAgg37 0 rfl hj2) ?_
        refine gMv ?_; refine gBi bOr ?_
        refine GoH.v (Vop.idxS rfl rfl rfl rfl rfl Tryd.underlying32 Tryd.sizeOf37 (j) ⟨rfl, hlt2⟩) ?_
        refine GoH.stE U _ rfl rfl rfl rfl Tryd.sizeOf37 rfl 0 rfl hj2 ?_
        refine gE (gR ?_); refine gAs ?_; refine gE (gIb (gR ?_)); refine gMv ?_
        refine GoH.v (Vop.bin rfl rfl rfl rfl (bAdd (by omega)) rfl) ?_
        refine gAs ?_; refine gE ?_
        exact IH3 (j + 1, pairS true k j o2, true) _ _ ⟨hlt2, hyes ▸ hp2.go true (fun _ => .inr hch) (fun h => by cases h)⟩ (by omega) ⟨rfl, rfl, rfl, rfl, rfl, trivial⟩ (List.Sublist.refl _)
       ·
        have hno : stG true k j o2 = o2 := by
          rw [hyes]
          simp only [pairS, pairAt, pairSrc, if_true]
          rw [show o2.getD j 0#64 ||| o2.getD k 0#64 = o2.getD j 0#64 from by simpa using hc]
          exact set_same hj2
        refine gK (gIb (gR ?_)); refine gMv ?_
        refine GoH.v (Vop.bin rfl rfl rfl rfl (bAdd (by omega)) rfl) ?_
        refine gAs ?_; refine gE ?_
        exact IH3 (j + 1, o2, again2) _ _ ⟨hlt2, hno ▸ hp2.go again2 (fun h => .inl h) (fun h => ⟨h, hno⟩)⟩ (by omega) ⟨rfl, rfl, rfl, rfl, rfl, trivial⟩ (List.Sublist.refl _)
      ·
       obtain rfl : e = false := hc
       refine gK (gS ?_)
       refine GoH.draw 11 mixed rfl ?_
       iterate 2 refine rMv ?_
       refine RdGo.v (Vop.idxS rfl rfl rfl rfl rfl Tryd.underlying32 Tryd.sizeOf37 (k) ⟨rfl, hlt⟩) ?_
       refine RdGo.v (Vop.ldE U 0#64 rfl rfl rfl rfl Tryd.isAgg37 0 rfl hk2) ?_
       refine rMv ?_; refine rBi bOr ?_
       iterate 2 refine rMv ?_
       refine RdGo.v (Vop.idxS rfl rfl rfl rfl rfl Tryd.underlying32 Tryd.sizeOf37 (k) ⟨rfl, hlt⟩) ?_
       refine RdGo.v (Vop.ldE U 0#64 rfl rfl rfl rfl Tryd.isAgg37 0 rfl hk2) ?_
       refine rBi bNeU ?_
       refine RdGo.nil ?_
       refine gE ?_
       refine GoH.cond rfl (fun hc => ?_) (fun hc => ?_)
       ·
        have hch : stG false k j o2 ≠ o2 := by
          rw [hyes]; intro h
          have h2 := congrArg (fun l => l.getD k 0#64) h
          simp only [pairS, pairAt, pairSrc, Bool.false_eq_true, if_false] at h2
          rw [show (o2.set k (o2.getD k 0#64 ||| o2.getD j 0#64)).getD k 0#64 = o2.getD k 0#64 ||| o2.getD j 0#64 from by simp [List.getD_eq_getElem?_getD, hk2]] at h2
          rw [h2] at hc; simp at hc
        refine gS (gR ?_)
        iterate 2 refine gMv ?_
        refine GoH.v (Vop.idxS rfl rfl rfl rfl rfl Tryd.underlying32 Tryd.sizeOf37 (k) ⟨rfl, hlt⟩) ?_
        refine GoH.v (Vop.ldE U 0#64 rfl rfl rfl rfl Tryd.isAgg37 0 rfl hk2) ?_
        refine gMv ?_; refine gBi bOr ?_
        refine GoH.v (Vop.idxS rfl rfl rfl rfl rfl Tryd.underlying32 Tryd.sizeOf37 (k) ⟨rfl, hlt⟩) ?_
        refine GoH.stE U _ rfl rfl rfl rfl Tryd.sizeOf37 rfl 0 rfl hk2 ?_
        refine gE (gR ?_); refine gAs ?_; refine gE (gIb (gR ?_)); refine gMv ?_
        refine GoH.v (Vop.bin rfl rfl rfl rfl (bAdd (by omega)) rfl) ?_
        refine gAs ?_; refine gE ?_
        exact IH3 (j + 1, pairS false k j o2, true) _ _ ⟨hlt2, hyes ▸ hp2.go true (fun _ => .inr hch) (fun h => by cases h)⟩ (by omega) ⟨rfl, rfl, rfl, rfl, rfl, trivial⟩ (List.Sublist.refl _)
       ·
        have hno : stG false k j o2 = o2 := by
          rw [hyes]
          simp only [pairS, pairAt, pairSrc, Bool.false_eq_true, if_false]
          rw [show o2.getD k 0#64 ||| o2.getD j 0#64 = o2.getD k 0#64 from by simpa using hc]
          exact set_same hk2
        refine gK (gIb (gR ?_)); refine gMv ?_
        refine GoH.v (Vop.bin rfl rfl rfl rfl (bAdd (by omega)) rfl) ?_
        refine gAs ?_; refine gE ?_
        exact IH3 (j + 1, o2, again2) _ _ ⟨hlt2, hno ▸ hp2.go again2 (fun h => .inl h) (fun h => ⟨h, hno⟩)⟩ (by omega) ⟨rfl, rfl, rfl, rfl, rfl, trivial⟩ (List.Sublist.refl _)
    ·
     have hge : ¬ j < r.length := by simpa using hc
     refine GoH.exit rfl (gIb (gR ?_))
     refine gMv ?_
     refine GoH.v (Vop.bin rfl rfl rfl rfl (bAdd (by omega)) rfl) ?_
     refine gAs ?_; refine gE ?_
     exact IH2 (k + 1, o2, again2) _ _ ⟨hlt, hp2.row (by omega)⟩ (by omega) ⟨rfl, rfl, rfl, rfl, trivial⟩ (List.Sublist.refl _)
   ·
    have hge : ¬ k < r.length := by simpa using hc
    have hol : o1.length = r.length := hp1.le.len.symm
    refine GoH.exit rfl (gIb ?_)
    refine IH (o1, again1) _ _ ⟨hp1.val, hp1.le, hp1.min, fun h => by subst h; exact hp1.done (by omega)⟩ ?_ ⟨rfl, rfl, rfl, trivial⟩ (List.Sublist.refl _)
    have h3 := hp1.up.room
    cases again1 with
    | false => simp; omega
    | true => have := hp1.up.room_lt (hp1.yes rfl); simp; omega
  ·
   have ha0 : again0 = false := hc
   refine GoH.exit rfl (gS (gR ?_))
   refine gMv ?_; refine gAs ?_; refine gE ?_
   refine GoH.ret Tryd.f138 Tryd.func138 rfl (fun w' hS => ?_)
   exact ⟨hS.ext, o0, ownAt hS (q := some b) 0 rfl hle.len (fun h => by cases h) (by rw [← hcap]; simp [hle.len]), hvo, hle, hdone ha0, hmin⟩
end Go.Proofs.YtlihcmknfdckdaaDoor
namespace Go.Proofs.YtlihcmknfdckdaaDoor
open Go.RowKit Go.Proofs.Wit
/-! the reference, 3 -/
theorem rTransitive_c (a : Option Addr) (ca : Nat) (r : List W64) (w : World) (ha : SlU w a r) (hl : r.length ≤ maxLen) :
    Cn Tryd.prog 116 [.slice a r.length ca] w (fun v w' => ∃ p, OwnE w w' v p ∧ Grown tranR r p) := by
  refine Cn.of Tryd.func116 rfl rfl ?_
  refine gS (gR ?_)
  iterate 2 refine gAs ?_
  refine gE (gS (gS (gR ?_))); refine gMv ?_; refine gBl Tryd.underlying32 ?_; refine gMv ?_
  refine GoH.callP rfl rfl rfl rfl rfl (fun _ _ => Tryd.call113 _ _) (fun w _ hS => rCheck_c _ a ca r w (ha.ex0 hS.ext) hl) ?_
  refine gAs ?_; refine gE (gS (gR ?_)); refine gMv ?_; refine gBi bNe ?_; refine gE ?_
  refine GoH.cond rfl (fun hc => ?_) (fun hc => ?_)
  ·
   have h1 : checkR r.length r ≠ 0 := by simpa using hc
   refine gS (gR ?_); refine gMv ?_
   iterate 2 refine gAs ?_
   refine gE ?_
   refine GoH.ret Tryd.f116 Tryd.func116 rfl (fun w' hS => ?_)
   exact ⟨hS.ext, ([], checkR r.length r), ⟨_, rfl, own_nil _ _⟩, by rw [Grown, if_pos h1]⟩
  ·
   have h1 : ¬ checkR r.length r ≠ 0 := by simpa using hc
   have hv := check_zero.1 (by simpa using h1)
   refine gK (gS (gR ?_)); refine gMv ?_
   refine GoH.callM _ rfl rfl rfl rfl rfl (fun _ _ => Tryd.call138 _ _) (fun w _ hS => rGrow_c a ca r false w (ha.ex0 hS.ext) hv) ?_
   rintro v w1 w2 Y' hS he ⟨out, ho, hlst⟩
   obtain ⟨q, cap, sp, rfl, hq, hcap, hS'⟩ := gainO hS he ho
   refine ⟨_, hS', ?_⟩
   iterate 2 refine gAs ?_
   refine gE ?_
   refine GoH.ret Tryd.f116 Tryd.func116 rfl (fun w' hS => ?_)
   exact ⟨hS.ext, (out, 0), ⟨_, rfl, ownAt hS 0 rfl rfl hq hcap⟩, by rw [Grown, if_neg h1]; exact ⟨rfl, hlst⟩⟩
theorem rEuclidean_c (a : Option Addr) (ca : Nat) (r : List W64) (w : World) (ha : SlU w a r) (hl : r.length ≤ maxLen) :
    Cn Tryd.prog 117 [.slice a r.length ca] w (fun v w' => ∃ p, OwnE w w' v p ∧ Grown euclR r p) := by
  refine Cn.of Tryd.func117 rfl rfl ?_
  refine gS (gR ?_)
  iterate 2 refine gAs ?_
  refine gE (gS (gS (gR ?_))); refine gMv ?_; refine gBl Tryd.underlying32 ?_; refine gMv ?_
  refine GoH.callP rfl rfl rfl rfl rfl (fun _ _ => Tryd.call113 _ _) (fun w _ hS => rCheck_c _ a ca r w (ha.ex0 hS.ext) hl) ?_
  refine gAs ?_; refine gE (gS (gR ?_)); refine gMv ?_; refine gBi bNe ?_; refine gE ?_
  refine GoH.cond rfl (fun hc => ?_) (fun hc => ?_)
  ·
   have h1 : checkR r.length r ≠ 0 := by simpa using hc
   refine gS (gR ?_); refine gMv ?_
   iterate 2 refine gAs ?_
   refine gE ?_
   refine GoH.ret Tryd.f117 Tryd.func117 rfl (fun w' hS => ?_)
   exact ⟨hS.ext, ([], checkR r.length r), ⟨_, rfl, own_nil _ _⟩, by rw [Grown, if_pos h1]⟩
  ·
   have h1 : ¬ checkR r.length r ≠ 0 := by simpa using hc
   have hv := check_zero.1 (by simpa using h1)
   refine gK (gS (gR ?_)); refine gMv ?_
   refine GoH.callM _ rfl rfl rfl rfl rfl (fun _ _ => Tryd.call138 _ _) (fun w _ hS => rGrow_c a ca r true w (ha.ex0 hS.ext) hv) ?_
   rintro v w1 w2 Y' hS he ⟨out, ho, hlst⟩
   obtain ⟨q, cap, sp, rfl, hq, hcap, hS'⟩ := gainO hS he ho
   refine ⟨_, hS', ?_⟩
   iterate 2 refine gAs ?_
   refine gE ?_
   refine GoH.ret Tryd.f117 Tryd.func117 rfl (fun w' hS => ?_)
   exact ⟨hS.ext, (out, 0), ⟨_, rfl, ownAt hS 0 rfl rfl hq hcap⟩, by rw [Grown, if_neg h1]; exact ⟨rfl, hlst⟩⟩
theorem rHas_c (a : Option Addr) (ca : Nat) (r : List W64) (p : Int) (w : World) (ha : SlU w a r) (hl : r.length ≤ maxLen) :
    Cn Tryd.prog 89 [.slice a r.length ca, .int .i64 p] w (fun v _ => v = .bool (hasB r p)) := by
  obtain ⟨i0, hi, hz, hsz, hby⟩ := info_parts infoU
  refine Cn.of Tryd.func89 rfl rfl ?_
  refine gS (gR ?_); refine gAs ?_; refine gE (gS (gS (gR ?_))); refine gMv ?_
  refine GoH.callP rfl rfl rfl rfl rfl (fun _ _ => Tryd.call88 _ _) (fun w _ hS => rValid_c a ca r w (ha.ex0 hS.ext) hl) ?_
  refine gUn uNot ?_; refine gE ?_
  refine GoH.cond rfl (fun hc => ?_) (fun hc => ?_)
  ·
   have h1 : checkR r.length r ≠ 0 := by simpa using hc
   refine gS (gR ?_); refine gAs ?_; refine gE ?_
   refine GoH.ret Tryd.f89 Tryd.func89 rfl (fun w' hS => ?_)
   exact ⟨hS.ext, congrArg Value.bool (hasB_iff (by simp [HasR, h1])).symm⟩
  ·
   have h1 : checkR r.length r = 0 := by simpa using hc
   have hv := check_zero.1 h1
   have hlen := hv.len
   have key : ∀ {b : Bool} {F : List W64 → Prop}, PropR p r = F r → (b = true ↔ F r) → hasB r p = b := fun e h => hasB_iff (by rw [HasR, e, h]; simp [h1])
   refine gK (gS (gR ?_))
   refine GoH.bs0 U rfl rfl rfl Tryd.underlying32 hi (fun b0 => ?_)
   refine gMv ?_
   refine GoH.appZ U r rfl rfl rfl rfl rfl Tryd.underlying32 hi hz hsz rfl 0 rfl (fun w Y' hS => ha.ex0 hS.ext) rfl rfl (fun _ => rfl) (by simp [maxLen]; omega) (by simp [hby]; omega) (fun b sp cap hcap => ?_)
   rw [List.nil_append] at *
   refine gAs ?_; refine gE (gS (gS (gR ?_))); refine gMv ?_; refine gE (gB (gS (gR ?_))); refine gBi bEq ?_; refine gAs ?_; refine gE ?_
   refine GoH.cond rfl (fun hc => ?_) (fun hc => ?_)
   ·
    have e1 : p = 1 := by simpa using hc
    subst e1
    refine gS (gR ?_); refine gAs ?_; refine gE (gB ?_)
    refine GoH.loop (σ := Nat) (fun k => [(0, .slice a r.length ca), (5, osv (some b) r.length cap), (6, .int .i64 k)]) (fun k => [(some b, ob U 37 r sp)])
      (fun k => k ≤ r.length ∧ ∀ j, j < k → r.getD j 0#64 ≠ 0#64) (fun k => r.length - k) 0 ⟨Nat.zero_le _, fun j hj => by omega⟩ ⟨rfl, rfl, rfl, trivial⟩ (List.Sublist.refl _) (fun k hI IH => ?_)
    obtain ⟨hk, hall⟩ := hI
    refine gS (gS (gR ?_))
    iterate 2 refine gMv ?_
    refine gBl Tryd.underlying32 ?_; refine gBi bLt ?_; refine gE ?_
    refine GoH.cond rfl (fun hc => ?_) (fun hc => ?_)
    ·
     have hlt : k < r.length := by simpa using hc
     refine gK (gS (gB (gS (gR ?_))))
     iterate 2 refine gMv ?_
     refine GoH.v (Vop.idx rfl rfl rfl rfl rfl Tryd.underlying32 Tryd.sizeOf37 ⟨_, ha⟩ (by simp) (k) ⟨rfl, by simpa using hlt⟩) ?_
     refine GoH.v (Vop.ld rfl rfl rfl rfl Tryd.isAgg37 (fun w _ hS => (SlU.ex0 ha hS.ext).at (k) hlt)) ?_
     refine GoH.v (Vop.bin (b := U 0#64) rfl rfl rfl rfl bEqU rfl) ?_
     refine gE ?_
     refine GoH.cond rfl (fun hc => ?_) (fun hc => ?_)
     ·
      refine gS (gR ?_); refine gAs ?_; refine gE ?_
      refine GoH.ret Tryd.f89 Tryd.func89 rfl (fun w' hS => ?_)
      exact ⟨hS.ext, congrArg Value.bool (key (b := false) (F := serR) (by simp [PropR]) ⟨fun h => (by cases h), fun h => by
      exfalso; apply h
      rw [← show r.getD k 0#64 = 0#64 from by simpa using hc, List.getD_eq_getElem?_getD, List.getElem?_eq_getElem hlt]
      exact List.getElem_mem hlt⟩).symm⟩
     ·
      refine gK (gIb (gR ?_)); refine gMv ?_
      refine GoH.v (Vop.bin rfl rfl rfl rfl (bAdd (by omega)) rfl) ?_
      refine gAs ?_; refine gE ?_
      exact IH (k + 1) _ _ ⟨hlt, fun j hj => by
      by_cases e : j = k
      · subst e; simpa using hc
      · exact hall j (by omega)⟩ (by omega) ⟨rfl, rfl, rfl, trivial⟩ (List.Sublist.refl _)
    ·
     have hge : ¬ k < r.length := by simpa using hc
     obtain rfl : k = r.length := by omega
     refine GoH.exit rfl (gIb (gS (gR ?_)))
     iterate 2 refine gMv ?_
     refine GoH.callP rfl rfl rfl rfl rfl (fun _ _ => Tryd.call118 _ _) (fun w _ hS => rSame_c (some ⟨b, 0, none⟩) cap r a ca r w (sluAt (q := some b) (c := cap) hS 0 rfl (fun h => by cases h)) (ha.ex0 hS.ext) hl) ?_
     refine gAs ?_; refine gE ?_
     refine GoH.ret Tryd.f89 Tryd.func89 rfl (fun w' hS => ?_)
     exact ⟨hS.ext, congrArg Value.bool (key (b := r == r) (F := serR) (by simp [PropR]) (by
     simp only [beq_self_eq_true, true_iff]
     intro h
     obtain ⟨j, hj, e⟩ := List.mem_iff_getElem.1 h
     exact hall j hj (by rw [List.getD_eq_getElem?_getD, List.getElem?_eq_getElem hj, Option.getD_some, e]))).symm⟩
   ·
    have e1 : p ≠ 1 := by simpa using hc
    refine gS (gR ?_); refine gBi bEq ?_; refine gAs ?_; refine gE ?_
    refine GoH.cond rfl (fun hc => ?_) (fun hc => ?_)
    ·
     have e2 : p = 2 := by simpa using hc
     subst e2
     refine gR ?_; refine gMv ?_
     refine GoH.callM _ rfl rfl rfl rfl rfl (fun _ _ => Tryd.call114 _ _) (fun w _ hS => rReflexive_c a ca r w (ha.ex0 hS.ext) hl) ?_
     rintro v w1 w2 Y' hS he ⟨⟨out, e⟩, ⟨sv, rfl, ho⟩, hg⟩
     rw [Grown, if_neg (by simp [h1])] at hg
     obtain ⟨he0, hlst⟩ := hg
     obtain ⟨q, cap2, sp2, rfl, hq, hcap2, hS'⟩ := gainO hS he ho
     refine ⟨_, hS', ?_⟩
     refine gMv ?_
     iterate 2 refine gEx ?_
     refine gAs ?_; refine gE (gIb (gS (gR ?_)))
     iterate 2 refine gMv ?_
     refine GoH.callP rfl rfl rfl rfl rfl (fun _ _ => Tryd.call118 _ _) (fun w _ hS => rSame_c (q.map (fun b => ⟨b, 0, none⟩)) cap2 out a ca r w (sluAt hS 0 rfl hq) (ha.ex0 hS.ext) (by have h : r.length = out.length := hlst.le.len; unfold maxLen at *; omega)) ?_
     refine gAs ?_; refine gE ?_
     refine GoH.ret Tryd.f89 Tryd.func89 rfl (fun w' hS => ?_)
     exact ⟨hS.ext, congrArg Value.bool (key (b := out == r) (F := reflR) (by simp [PropR]) (by rw [beq_iff_eq]; exact hlst.self hv)).symm⟩
    ·
     have e2 : p ≠ 2 := by simpa using hc
     refine gS (gR ?_); refine gBi bEq ?_; refine gAs ?_; refine gE ?_
     refine GoH.cond rfl (fun hc => ?_) (fun hc => ?_)
     ·
      have e3 : p = 3 := by simpa using hc
      subst e3
      refine gR ?_; refine gMv ?_
      refine GoH.callM _ rfl rfl rfl rfl rfl (fun _ _ => Tryd.call115 _ _) (fun w _ hS => rSymmetric_c a ca r w (ha.ex0 hS.ext) hl) ?_
      rintro v w1 w2 Y' hS he ⟨⟨out, e⟩, ⟨sv, rfl, ho⟩, hg⟩
      rw [Grown, if_neg (by simp [h1])] at hg
      obtain ⟨he0, hlst⟩ := hg
      obtain ⟨q, cap2, sp2, rfl, hq, hcap2, hS'⟩ := gainO hS he ho
      refine ⟨_, hS', ?_⟩
      refine gMv ?_
      iterate 2 refine gEx ?_
      refine gAs ?_; refine gE (gIb (gS (gR ?_)))
      iterate 2 refine gMv ?_
      refine GoH.callP rfl rfl rfl rfl rfl (fun _ _ => Tryd.call118 _ _) (fun w _ hS => rSame_c (q.map (fun b => ⟨b, 0, none⟩)) cap2 out a ca r w (sluAt hS 0 rfl hq) (ha.ex0 hS.ext) (by have h : r.length = out.length := hlst.le.len; unfold maxLen at *; omega)) ?_
      refine gAs ?_; refine gE ?_
      refine GoH.ret Tryd.f89 Tryd.func89 rfl (fun w' hS => ?_)
      exact ⟨hS.ext, congrArg Value.bool (key (b := out == r) (F := symmR) (by simp [PropR]) (by rw [beq_iff_eq]; exact hlst.self hv)).symm⟩
     ·
      have e3 : p ≠ 3 := by simpa using hc
      refine gS (gR ?_); refine gBi bEq ?_; refine gAs ?_; refine gE ?_
      refine GoH.cond rfl (fun hc => ?_) (fun hc => ?_)
      ·
       have e4 : p = 4 := by simpa using hc
       subst e4
       refine gR ?_; refine gMv ?_
       refine GoH.callM _ rfl rfl rfl rfl rfl (fun _ _ => Tryd.call116 _ _) (fun w _ hS => rTransitive_c a ca r w (ha.ex0 hS.ext) hl) ?_
       rintro v w1 w2 Y' hS he ⟨⟨out, e⟩, ⟨sv, rfl, ho⟩, hg⟩
       rw [Grown, if_neg (by simp [h1])] at hg
       obtain ⟨he0, hlst⟩ := hg
       obtain ⟨q, cap2, sp2, rfl, hq, hcap2, hS'⟩ := gainO hS he ho
       refine ⟨_, hS', ?_⟩
       refine gMv ?_
       iterate 2 refine gEx ?_
       refine gAs ?_; refine gE (gIb (gS (gR ?_)))
       iterate 2 refine gMv ?_
       refine GoH.callP rfl rfl rfl rfl rfl (fun _ _ => Tryd.call118 _ _) (fun w _ hS => rSame_c (q.map (fun b => ⟨b, 0, none⟩)) cap2 out a ca r w (sluAt hS 0 rfl hq) (ha.ex0 hS.ext) (by have h : r.length = out.length := hlst.le.len; unfold maxLen at *; omega)) ?_
       refine gAs ?_; refine gE ?_
       refine GoH.ret Tryd.f89 Tryd.func89 rfl (fun w' hS => ?_)
       exact ⟨hS.ext, congrArg Value.bool (key (b := out == r) (F := tranR) (by simp [PropR]) (by rw [beq_iff_eq]; exact hlst.self hv)).symm⟩
      ·
       have e4 : p ≠ 4 := by simpa using hc
       refine gS (gR ?_); refine gBi bEq ?_; refine gAs ?_; refine gE ?_
       refine GoH.cond rfl (fun hc => ?_) (fun hc => ?_)
       ·
        have e5 : p = 5 := by simpa using hc
        subst e5
        refine gR ?_; refine gMv ?_
        refine GoH.callM _ rfl rfl rfl rfl rfl (fun _ _ => Tryd.call117 _ _) (fun w _ hS => rEuclidean_c a ca r w (ha.ex0 hS.ext) hl) ?_
        rintro v w1 w2 Y' hS he ⟨⟨out, e⟩, ⟨sv, rfl, ho⟩, hg⟩
        rw [Grown, if_neg (by simp [h1])] at hg
        obtain ⟨he0, hlst⟩ := hg
        obtain ⟨q, cap2, sp2, rfl, hq, hcap2, hS'⟩ := gainO hS he ho
        refine ⟨_, hS', ?_⟩
        refine gMv ?_
        iterate 2 refine gEx ?_
        refine gAs ?_; refine gE (gIb (gS (gR ?_)))
        iterate 2 refine gMv ?_
        refine GoH.callP rfl rfl rfl rfl rfl (fun _ _ => Tryd.call118 _ _) (fun w _ hS => rSame_c (q.map (fun b => ⟨b, 0, none⟩)) cap2 out a ca r w (sluAt hS 0 rfl hq) (ha.ex0 hS.ext) (by have h : r.length = out.length := hlst.le.len; unfold maxLen at *; omega)) ?_
        refine gAs ?_; refine gE ?_
        refine GoH.ret Tryd.f89 Tryd.func89 rfl (fun w' hS => ?_)
        exact ⟨hS.ext, congrArg Value.bool (key (b := out == r) (F := euclR) (by simp [PropR]) (by rw [beq_iff_eq]; exact hlst.self hv)).symm⟩
       ·
        have e5 : p ≠ 5 := by simpa using hc
        refine gS (gR ?_); refine gAs ?_; refine gE ?_
        refine GoH.ret Tryd.f89 Tryd.func89 rfl (fun w' hS => ?_)
        exact ⟨hS.ext, congrArg Value.bool (key (b := false) (F := fun _ => False) (by simp [PropR, e1, e2, e3, e4, e5]) (by simp)).symm⟩
end Go.Proofs.YtlihcmknfdckdaaDoor
namespace Go.Proofs.YtlihcmknfdckdaaDoor
open Go.RowKit Go.Proofs.Wit
/-! logics -/
def PropsIs (w w' : World) (v : Value) (l : Int) : Prop := ∃ sv, v = .tuple #[sv, .int .i64 (propsE l)] ∧ OwnS I64 3 w w' sv (propsL l)
theorem gainP {w0 w w' : World} {S : List Nat} {h : Hl} {Y : List (Nat × Obj)} (s : St w0 S w h Y) (e : Ex [] w w') {v : Value} {l : Int} (ho : PropsIs w w' v l) :
    ∃ q cap sp, v = .tuple #[osv q (propsL l).length cap, .int .i64 (propsE l)] ∧ (q = none → (propsL l).length = 0 ∧ cap = 0) ∧ ((propsL l).map I64 ++ sp).length = cap ∧ St w0 S w' ((q, ob I64 3 (propsL l) sp) :: h) Y := by
  obtain ⟨sv, rfl, ho⟩ := ho
  obtain ⟨q, cap, sp, rfl, h⟩ := gainS s e ho
  exact ⟨q, cap, sp, rfl, h⟩
theorem rProps_c (l : Int) (w : World) : Cn Tryd.prog 48 [.int .i64 l] w (fun v w' => PropsIs w w' v l) := by
  refine Cn.of Tryd.func48 rfl rfl ?_
  refine gS (gR ?_)
  iterate 2 refine gAs ?_
  refine gE (gS (gS (gR ?_))); refine gMv ?_; refine gE (gB (gS (gR ?_))); refine gBi bEq ?_; refine gAs ?_; refine gE ?_
  refine GoH.cond rfl (fun hc => ?_) (fun hc => ?_)
  ·
   have e0 : l = 0 := by simpa using hc
   subst e0
   refine gS (gR ?_)
   iterate 2 refine gAs ?_
   refine gE ?_
   refine GoH.ret Tryd.f48 Tryd.func48 rfl (fun w' hS => ?_)
   exact ⟨hS.ext, _, rfl, none, 0, [], rfl, fun _ => ⟨rfl, rfl⟩, rfl, fun b h => by cases h⟩
  ·
   have e0 : l ≠ 0 := by simpa using hc
   refine gS (gR ?_); refine gBi bEq ?_; refine gAs ?_; refine gE ?_
   refine GoH.cond rfl (fun hc => ?_) (fun hc => ?_)
   ·
    have e1 : l = 1 := by simpa using hc
    subst e1
    refine gS (gR ?_)
    refine GoH.bsN (c := [_]) rfl rfl rfl rfl Tryd.underlying70 Tryd.sizeOf3 Tryd.zeroValue3 rfl rfl (fun b9 => ?_)
    iterate 2 refine gAs ?_
    refine gE ?_
    refine GoH.ret Tryd.f48 Tryd.func48 rfl (fun w' hS => ?_)
    exact ⟨hS.ext, _, rfl, OwnS.mk hS 0 (q := some b9) (xs := [1]) (sp := []) (cap := 1) rfl rfl (fun h => by cases h) rfl⟩
   ·
    have e1 : l ≠ 1 := by simpa using hc
    refine gS (gR ?_); refine gBi bEq ?_; refine gAs ?_; refine gE ?_
    refine GoH.cond rfl (fun hc => ?_) (fun hc => ?_)
    ·
     have e2 : l = 2 := by simpa using hc
     subst e2
     refine gS (gR ?_)
     refine GoH.bsN (c := [_]) rfl rfl rfl rfl Tryd.underlying70 Tryd.sizeOf3 Tryd.zeroValue3 rfl rfl (fun b12 => ?_)
     iterate 2 refine gAs ?_
     refine gE ?_
     refine GoH.ret Tryd.f48 Tryd.func48 rfl (fun w' hS => ?_)
     exact ⟨hS.ext, _, rfl, OwnS.mk hS 0 (q := some b12) (xs := [2]) (sp := []) (cap := 1) rfl rfl (fun h => by cases h) rfl⟩
    ·
     have e2 : l ≠ 2 := by simpa using hc
     refine gS (gR ?_); refine gBi bEq ?_; refine gAs ?_; refine gE ?_
     refine GoH.cond rfl (fun hc => ?_) (fun hc => ?_)
     ·
      have e3 : l = 3 := by simpa using hc
      subst e3
      refine gS (gR ?_)
      refine GoH.bsN (c := [_]) rfl rfl rfl rfl Tryd.underlying70 Tryd.sizeOf3 Tryd.zeroValue3 rfl rfl (fun b15 => ?_)
      iterate 2 refine gAs ?_
      refine gE ?_
      refine GoH.ret Tryd.f48 Tryd.func48 rfl (fun w' hS => ?_)
      exact ⟨hS.ext, _, rfl, OwnS.mk hS 0 (q := some b15) (xs := [4]) (sp := []) (cap := 1) rfl rfl (fun h => by cases h) rfl⟩
     ·
      have e3 : l ≠ 3 := by simpa using hc
      refine gS (gR ?_); refine gBi bEq ?_; refine gAs ?_; refine gE ?_
      refine GoH.cond rfl (fun hc => ?_) (fun hc => ?_)
      ·
       have e4 : l = 4 := by simpa using hc
       subst e4
       refine gS (gR ?_)
       refine GoH.bsN (c := [_, _]) rfl rfl rfl rfl Tryd.underlying70 Tryd.sizeOf3 Tryd.zeroValue3 rfl rfl (fun b18 => ?_)
       iterate 2 refine gAs ?_
       refine gE ?_
       refine GoH.ret Tryd.f48 Tryd.func48 rfl (fun w' hS => ?_)
       exact ⟨hS.ext, _, rfl, OwnS.mk hS 0 (q := some b18) (xs := [2, 4]) (sp := []) (cap := 2) rfl rfl (fun h => by cases h) rfl⟩
      ·
       have e4 : l ≠ 4 := by simpa using hc
       refine gS (gR ?_); refine gBi bEq ?_; refine gAs ?_; refine gE ?_
       refine GoH.cond rfl (fun hc => ?_) (fun hc => ?_)
       ·
        have e5 : l = 5 := by simpa using hc
        subst e5
        refine gS (gR ?_)
        refine GoH.bsN (c := [_, _, _]) rfl rfl rfl rfl Tryd.underlying70 Tryd.sizeOf3 Tryd.zeroValue3 rfl rfl (fun b21 => ?_)
        iterate 2 refine gAs ?_
        refine gE ?_
        refine GoH.ret Tryd.f48 Tryd.func48 rfl (fun w' hS => ?_)
        exact ⟨hS.ext, _, rfl, OwnS.mk hS 0 (q := some b21) (xs := [1, 4, 5]) (sp := []) (cap := 3) rfl rfl (fun h => by cases h) rfl⟩
       ·
        have e5 : l ≠ 5 := by simpa using hc
        refine gS (gR ?_); refine gBi bEq ?_; refine gAs ?_; refine gE ?_
        refine GoH.cond rfl (fun hc => ?_) (fun hc => ?_)
        ·
         have e6 : l = 6 := by simpa using hc
         subst e6
         refine gS (gR ?_)
         refine GoH.bsN (c := [_, _, _]) rfl rfl rfl rfl Tryd.underlying70 Tryd.sizeOf3 Tryd.zeroValue3 rfl rfl (fun b24 => ?_)
         iterate 2 refine gAs ?_
         refine gE ?_
         refine GoH.ret Tryd.f48 Tryd.func48 rfl (fun w' hS => ?_)
         exact ⟨hS.ext, _, rfl, OwnS.mk hS 0 (q := some b24) (xs := [2, 4, 5]) (sp := []) (cap := 3) rfl rfl (fun h => by cases h) rfl⟩
        ·
         have e6 : l ≠ 6 := by simpa using hc
         refine gK (gIb (gS (gR ?_)))
         iterate 2 refine gAs ?_
         refine gE ?_
         refine GoH.ret Tryd.f48 Tryd.func48 rfl (fun w' hS => ?_)
         exact ⟨hS.ext, .slice none 0 0, by rw [show propsE l = 1 from by unfold propsE; rw [if_neg (by omega)]]; rfl, none, 0, [], by rw [show propsL l = [] from by simp [propsL, e1, e2, e3, e4, e5, e6]]; rfl, fun _ => ⟨by simp [propsL, e1, e2, e3, e4, e5, e6], rfl⟩, by simp [propsL, e1, e2, e3, e4, e5, e6], fun b h => by cases h⟩
theorem few_c (m : MV) (x : Int) (w : World) (hm : m.At w) : Cn Tryd.prog 20 [m.v, .int .i64 x] w (fun v _ => ∃ b, v = .bool b) := by
  have hlr := hm.lr
  unfold maxLen at hlr
  refine Cn.of Tryd.func20 rfl rfl ?_
  refine gS (gR ?_)
  refine GoH.bx rfl rfl rfl rfl (fun b2 => ?_)
  refine gAs ?_; refine gE (gS (gS ?_))
  refine GoH.regionK (α := Bool) [] (fun b => [(2, .pointer (some ⟨b2, 0, none⟩)), (26, .bool b)]) (fun _ => [(some b2, .cells m.v.cells 35 (0, 0))]) (fun b => ?_) (fun K => ?_)
  · -- what comes behind the region
   refine gE ?_
   refine GoH.cond rfl (fun hc => ?_) (fun hc => ?_)
   ·
    refine gS (gR ?_); refine gAs ?_; refine gE ?_
    refine GoH.ret Tryd.f20 Tryd.func20 rfl (fun w' hS => ?_)
    exact ⟨hS.ext, _, rfl⟩
   ·
    refine gK (gS (gS (gR ?_))); refine gAs ?_; refine gE (gB ?_)
    refine GoH.loop (σ := Nat) (fun k => [(2, .pointer (some ⟨b2, 0, none⟩)), (5, .int .i64 k)]) (fun _ => [(some b2, .cells m.v.cells 35 (0, 0))])
      (fun k => k ≤ m.rows.length) (fun k => m.rows.length - k) 0 (Nat.zero_le _) ⟨rfl, rfl, trivial⟩ (List.Sublist.refl _) (fun k hI IH => ?_)
    refine gS (gS (gR ?_)); refine gMv ?_; refine gFp Tryd.underlying35 Tryd.sizeOf33 2 ?_; refine gLo Tryd.isAgg33 0 ?_; refine gBl Tryd.underlying33 ?_; refine gBi bLt ?_; refine gE ?_
    refine GoH.cond rfl (fun hc => ?_) (fun hc => ?_)
    ·
     have hlt : k < m.rows.length := by simpa using hc
     refine gK (gS (gB (gS (gR ?_)))); refine gFp Tryd.underlying35 Tryd.sizeOf33 2 ?_; refine gLo Tryd.isAgg33 0 ?_; refine gMv ?_
     refine GoH.v (Vop.idx rfl rfl rfl rfl rfl Tryd.underlying33 Tryd.sizeOf32 ⟨_, hm.rel⟩ (by simp) (k) ⟨rfl, by simpa using hlt⟩) ?_
     refine GoH.v (Vop.ld rfl rfl rfl rfl Tryd.isAgg32 (fun w _ hS => (SlR.ex0 hm.rel hS.ext).at (k) hlt)) ?_
     refine gBl Tryd.underlying32 ?_; refine gBi bGt ?_; refine gE ?_
     refine GoH.cond rfl (fun hc => ?_) (fun hc => ?_)
     ·
      refine gS (gR ?_); refine gAs ?_; refine gE ?_
      refine GoH.ret Tryd.f20 Tryd.func20 rfl (fun w' hS => ?_)
      exact ⟨hS.ext, _, rfl⟩
     ·
      refine gK (gIb (gR ?_)); refine gMv ?_
      refine GoH.v (Vop.bin rfl rfl rfl rfl (bAdd (by omega)) rfl) ?_
      refine gAs ?_; refine gE ?_
      exact IH (k + 1) _ _ hlt (by omega) ⟨rfl, rfl, trivial⟩ (List.Sublist.refl _)
    ·
     refine GoH.exit rfl (gS (gR ?_))
     refine gAs ?_; refine gE ?_
     refine GoH.ret Tryd.f20 Tryd.func20 rfl (fun w' hS => ?_)
     exact ⟨hS.ext, _, rfl⟩
  · -- the region
   refine gR ?_; refine gFp Tryd.underlying35 Tryd.sizeOf3 0 ?_; refine gLo Tryd.isAgg3 0 ?_; refine gMv ?_; refine gBi bGt ?_; refine gMv ?_
   refine GoH.cases (d := 10) rfl (fun hc => ?_) (fun hc => ?_)
   ·
    refine gFp Tryd.underlying35 Tryd.sizeOf3 0 ?_; refine gLo Tryd.isAgg3 0 ?_; refine gBi bLe ?_; refine gPt ?_; refine gMv ?_
    refine GoH.cases (d := 15) rfl (fun hc => ?_) (fun hc => ?_)
    ·
     iterate 4 refine gNo ?_
     refine gPt ?_; refine gMv ?_
     iterate 4 refine gNo ?_
     refine gPt ?_
     exact K _ _ _ (by repeat (first | exact SubF.nil | refine SubF.cons rfl ?_)) (fun _ _ hS => hS)
    ·
     refine gFp Tryd.underlying35 Tryd.sizeOf32 1 ?_; refine gLo Tryd.isAgg32 0 ?_; refine gBl Tryd.underlying32 ?_; refine gBi bGt ?_; refine gPf ?_; refine gMv ?_
     refine GoH.cases (d := 21) rfl (fun hc => ?_) (fun hc => ?_)
     ·
      iterate 4 refine gNo ?_
      refine gPt ?_
      exact K _ _ _ (by repeat (first | exact SubF.nil | refine SubF.cons rfl ?_)) (fun _ _ hS => hS)
     ·
      refine gFp Tryd.underlying35 Tryd.sizeOf33 2 ?_; refine gLo Tryd.isAgg33 0 ?_; refine gBl Tryd.underlying33 ?_; refine gBi bGt ?_; refine gPf ?_
      exact K _ _ _ (by repeat (first | exact SubF.nil | refine SubF.cons rfl ?_)) (fun _ _ hS => hS)
   ·
    iterate 3 refine gNo ?_
    refine gPf ?_; refine gMv ?_; refine gFp Tryd.underlying35 Tryd.sizeOf32 1 ?_; refine gLo Tryd.isAgg32 0 ?_; refine gBl Tryd.underlying32 ?_; refine gBi bGt ?_; refine gPf ?_; refine gMv ?_
    refine GoH.cases (d := 21) rfl (fun hc => ?_) (fun hc => ?_)
    ·
     iterate 4 refine gNo ?_
     refine gPt ?_
     exact K _ _ _ (by repeat (first | exact SubF.nil | refine SubF.cons rfl ?_)) (fun _ _ hS => hS)
    ·
     refine gFp Tryd.underlying35 Tryd.sizeOf33 2 ?_; refine gLo Tryd.isAgg33 0 ?_; refine gBl Tryd.underlying33 ?_; refine gBi bGt ?_; refine gPf ?_
     exact K _ _ _ (by repeat (first | exact SubF.nil | refine SubF.cons rfl ?_)) (fun _ _ hS => hS)
end Go.Proofs.YtlihcmknfdckdaaDoor
namespace Go.Proofs.YtlihcmknfdckdaaDoor
open Go.RowKit Go.Proofs.Wit
/-! the reference on models and logics -/
theorem rmAll_c (n : Nat) (w : World) (h : n ≤ 64) : Cn Tryd.prog 22 [.int .i64 n] w (fun v _ => v = U (allW n)) := by
  refine Cn.of Tryd.func22 rfl rfl ?_
  refine gS (gR ?_)
  refine GoH.v (Vop.asg (v := U 0#64) rfl rfl rfl rfl) ?_
  refine gE (gS (gS (gR ?_))); refine gMv ?_; refine gBi bGe ?_; refine gE ?_
  refine GoH.cond rfl (fun hc => ?_) (fun hc => ?_)
  ·
   have h2 : 64 ≤ n := by simp at hc; omega
   refine gS (gR ?_)
   refine GoH.v (Vop.asg (v := U 18446744073709551615#64) rfl rfl rfl rfl) ?_
   refine gE ?_
   refine GoH.ret Tryd.f22 Tryd.func22 rfl (fun w' hS => ?_)
   exact ⟨hS.ext, by rw [allW, if_pos h2]; rfl⟩
  ·
   have h2 : ¬ 64 ≤ n := by simp at hc; omega
   refine gK (gS (gR ?_)); refine gMv ?_
   refine GoH.v (Vop.bin (a := U 1#64) rfl rfl rfl rfl (bShl _ rfl) rfl) ?_
   refine GoH.v (Vop.bin (b := U 1#64) rfl rfl rfl rfl bSubU rfl) ?_
   refine gAs ?_; refine gE ?_
   refine GoH.ret Tryd.f22 Tryd.func22 rfl (fun w' hS => ?_)
   exact ⟨hS.ext, by rw [allW, if_neg h2]; rfl⟩
theorem beyond_c (a : Option Addr) (ca : Nat) (xs : List W64) (n : Int) (hn : 0 ≤ n ∧ n ≤ 64) (w : World) (ha : SlU w a xs) (hl : xs.length ≤ maxLen) :
    Cn Tryd.prog 87 [.slice a xs.length ca, .int .i64 n] w (fun v _ => v = .bool (outB n.toNat xs)) := by
  obtain ⟨N, rfl⟩ : ∃ N : Nat, n = N := ⟨n.toNat, by omega⟩
  unfold maxLen at hl
  refine Cn.of Tryd.func87 rfl rfl ?_
  refine gS (gR ?_); refine gAs ?_; refine gE (gS (gS (gR ?_))); refine gAs ?_; refine gE (gB ?_)
  refine GoH.loop (σ := Nat) (fun k => [(0, .slice a xs.length ca), (1, .int .i64 N), (5, .int .i64 k)]) (fun _ => []) (fun k => k ≤ xs.length ∧ ∀ i, i < k → xs.getD i 0#64 &&& ~~~ allW N = 0#64) (fun k => xs.length - k) 0 ⟨Nat.zero_le _, fun i hi => by omega⟩ ⟨rfl, rfl, rfl, trivial⟩ .slnil (fun k hI IH => ?_)
  obtain ⟨hk, hall⟩ := hI
  refine gS (gS (gR ?_))
  iterate 2 refine gMv ?_
  refine gBl Tryd.underlying32 ?_; refine gBi bLt ?_; refine gE ?_
  refine GoH.cond rfl (fun hc => ?_) (fun hc => ?_)
  ·
   have hlt : k < xs.length := by simpa using hc
   refine gK (gS (gB (gS ?_)))
   refine GoH.draw 8 mixed rfl ?_
   iterate 2 refine rMv ?_
   refine RdGo.v (Vop.idx rfl rfl rfl rfl rfl Tryd.underlying32 Tryd.sizeOf37 ⟨_, ha⟩ (by simp) (k) ⟨rfl, by simpa using hlt⟩) ?_
   refine RdGo.v (Vop.ld rfl rfl rfl rfl Tryd.isAgg37 (fun w _ hS => (SlU.ex0 ha hS.ext).at (k) hlt)) ?_
   refine rMv ?_
   refine RdGo.callP rfl rfl rfl rfl rfl (fun _ _ => Tryd.call22 _ _) (fun w _ hS => rmAll_c N w (by omega)) ?_
   refine rBi bAndNot ?_
   refine RdGo.v (Vop.bin (b := U 0#64) rfl rfl rfl rfl bNeU rfl) ?_
   refine RdGo.nil ?_
   refine gE ?_
   refine GoH.cond rfl (fun hc => ?_) (fun hc => ?_)
   ·
    refine gS (gR ?_); refine gAs ?_; refine gE ?_
    refine GoH.ret Tryd.f87 Tryd.func87 rfl (fun w' hS => ?_)
    exact ⟨hS.ext, by rw [Int.toNat_natCast, show outB N xs = true from by unfold outB; rw [List.any_eq_true]; exact ⟨_, by rw [List.getD_eq_getElem?_getD, List.getElem?_eq_getElem hlt]; exact List.getElem_mem hlt, hc⟩]; rfl⟩
   ·
    refine gK (gIb (gR ?_)); refine gMv ?_
    refine GoH.v (Vop.bin rfl rfl rfl rfl (bAdd (by omega)) rfl) ?_
    refine gAs ?_; refine gE ?_
    exact IH (k + 1) _ _ ⟨hlt, fun i hi => by
    by_cases e : i = k
    · subst e; simpa using hc
    · exact hall i (by omega)⟩ (by omega) ⟨rfl, rfl, rfl, trivial⟩ .slnil
  ·
   have hge : ¬ k < xs.length := by simpa using hc
   obtain rfl : k = xs.length := by omega
   refine GoH.exit rfl (gS (gR ?_))
   refine gAs ?_; refine gE ?_
   refine GoH.ret Tryd.f87 Tryd.func87 rfl (fun w' hS => ?_)
   exact ⟨hS.ext, by rw [Int.toNat_natCast, show outB N xs = false from outB_false.2 (fun s hs => by
   obtain ⟨i, hi, rfl⟩ := List.mem_iff_getElem.1 hs
   simpa [List.getD_eq_getElem?_getD, hi] using hall i hi)]; rfl⟩
theorem beyondR_c (r : Row) (n : Int) (hn : 0 ≤ n ∧ n ≤ 64) (w : World) (h : r.At w) : Cn Tryd.prog 87 [r.v, .int .i64 n] w (fun v _ => v = .bool (outB n.toNat r.xs)) := beyond_c r.a r.cap r.xs n hn w h.at_ h.len
set_option maxRecDepth 4000 in
theorem rmCheck_c (m : MV) (w : World) (hm : m.At w) : Cn Tryd.prog 49 [m.v] w (fun v _ => v = .int .i64 (checkM m.n m.val m.rel)) := by
  have hlr := hm.lr
  unfold maxLen at hlr
  have hrl : m.rel.length = m.rows.length := by simp [MV.rel]
  refine Cn.of Tryd.func49 rfl rfl ?_
  refine gS (gR ?_)
  refine GoH.bx rfl rfl rfl rfl (fun b1 => ?_)
  refine gAs ?_; refine gE (gS (gS (gR ?_))); refine gFp Tryd.underlying35 Tryd.sizeOf3 0 ?_
  refine GoH.v (Vop.ldo (v := .int .i64 m.n) rfl rfl rfl rfl Tryd.isAgg3 0 rfl rfl) ?_
  refine gBi bLt ?_; refine gMv ?_
  refine GoH.cases (d := 8) rfl (fun hc => ?_) (fun hc => ?_)
  ·
   have h1 : m.n < 1 := by simpa using hc
   iterate 3 refine gNo ?_
   refine gPt ?_; refine gE (GoH.condT rfl (gS (gR ?_))); refine gAs ?_; refine gE ?_
   refine GoH.ret Tryd.f49 Tryd.func49 rfl (fun w' hS => ?_)
   exact ⟨hS.ext, by rw [checkM, if_pos (.inl h1)]; rfl⟩
  ·
   have h1 : ¬ m.n < 1 := by simpa using hc
   refine gFp Tryd.underlying35 Tryd.sizeOf3 0 ?_
   refine GoH.v (Vop.ldo (v := .int .i64 m.n) rfl rfl rfl rfl Tryd.isAgg3 0 rfl rfl) ?_
   refine gBi bGt ?_; refine gPf ?_; refine gE ?_
   refine GoH.cond rfl (fun hc => ?_) (fun hc => ?_)
   ·
    have h2 : 64 < m.n := by simpa using hc
    refine gS (gR ?_); refine gAs ?_; refine gE ?_
    refine GoH.ret Tryd.f49 Tryd.func49 rfl (fun w' hS => ?_)
    exact ⟨hS.ext, by rw [checkM, if_pos (.inr h2)]; rfl⟩
   ·
    have h2 : ¬ 64 < m.n := by simpa using hc
    have h3 : ¬ (m.n < 1 ∨ 64 < m.n) := by omega
    have hn : 0 ≤ m.n ∧ m.n ≤ 64 := by omega
    refine gK (gS (gS (gR ?_))); refine gFp Tryd.underlying35 Tryd.sizeOf33 2 ?_
    refine GoH.v (Vop.ldo (v := .slice m.ra m.rows.length m.rc) rfl rfl rfl rfl Tryd.isAgg33 0 rfl rfl) ?_
    refine gBl Tryd.underlying33 ?_; refine gBi bGt ?_; refine gMv ?_
    refine GoH.cases (d := 17) rfl (fun hc => ?_) (fun hc => ?_)
    ·
     have h4 : 4 < m.rel.length := by simp at hc; omega
     iterate 4 refine gNo ?_
     refine gPt ?_; refine gE (GoH.condT rfl (gS (gR ?_))); refine gAs ?_; refine gE ?_
     refine GoH.ret Tryd.f49 Tryd.func49 rfl (fun w' hS => ?_)
     exact ⟨hS.ext, by rw [checkM, if_neg h3, if_pos (.inl h4)]; rfl⟩
    ·
     have h4 : ¬ 4 < m.rel.length := by simp at hc; omega
     refine gFp Tryd.underlying35 Tryd.sizeOf32 1 ?_
     refine GoH.v (Vop.ldo (v := .slice m.va m.val.length m.vc) rfl rfl rfl rfl Tryd.isAgg32 0 rfl rfl) ?_
     refine gBl Tryd.underlying32 ?_; refine gBi bGt ?_; refine gPf ?_; refine gE ?_
     refine GoH.cond rfl (fun hc => ?_) (fun hc => ?_)
     ·
      have h5 : 8 < m.val.length := by simp at hc; omega
      refine gS (gR ?_); refine gAs ?_; refine gE ?_
      refine GoH.ret Tryd.f49 Tryd.func49 rfl (fun w' hS => ?_)
      exact ⟨hS.ext, by rw [checkM, if_neg h3, if_pos (.inr h5)]; rfl⟩
     ·
      have h5 : ¬ 8 < m.val.length := by simp at hc; omega
      have h6 : ¬ (4 < m.rel.length ∨ 8 < m.val.length) := by omega
      refine gK (gS (gS (gR ?_))); refine gAs ?_; refine gE (gB ?_)
      refine GoH.loop (σ := Nat) (fun k => [(1, .pointer (some ⟨b1, 0, none⟩)), (3, .int .i64 k)]) (fun _ => [(some b1, .cells m.cs 35 (0, 0))])
        (fun k => k ≤ m.rows.length ∧ ∀ i y, i < k → m.rows[i]? = some y → (y.xs.length : Int) = m.n) (fun k => m.rows.length - k) 0 ⟨Nat.zero_le _, fun i y hi => by omega⟩ ⟨rfl, rfl, trivial⟩ (List.Sublist.refl _) (fun k hI IH => ?_)
      obtain ⟨hk, hall⟩ := hI
      refine gS (gS (gR ?_)); refine gMv ?_; refine gFp Tryd.underlying35 Tryd.sizeOf33 2 ?_
      refine GoH.v (Vop.ldo (v := .slice m.ra m.rows.length m.rc) rfl rfl rfl rfl Tryd.isAgg33 0 rfl rfl) ?_
      refine gBl Tryd.underlying33 ?_; refine gBi bLt ?_; refine gE ?_
      refine GoH.cond rfl (fun hc => ?_) (fun hc => ?_)
      ·
       have hlt : k < m.rows.length := by simpa using hc
       refine gK (gS (gB (gS ?_)))
       refine GoH.draw 9 mixed rfl ?_
       refine rFp Tryd.underlying35 Tryd.sizeOf33 2 ?_
       refine RdGo.v (Vop.ldo (v := .slice m.ra m.rows.length m.rc) rfl rfl rfl rfl Tryd.isAgg33 0 rfl rfl) ?_
       refine rMv ?_
       refine RdGo.v (Vop.idx rfl rfl rfl rfl rfl Tryd.underlying33 Tryd.sizeOf32 ⟨_, hm.rel⟩ (by simp) (k) ⟨rfl, by simpa using hlt⟩) ?_
       refine RdGo.v (Vop.ld rfl rfl rfl rfl Tryd.isAgg32 (fun w _ hS => (SlR.ex0 hm.rel hS.ext).at (k) hlt)) ?_
       refine rBl Tryd.underlying32 ?_; refine rFp Tryd.underlying35 Tryd.sizeOf3 0 ?_
       refine RdGo.v (Vop.ldo (v := .int .i64 m.n) rfl rfl rfl rfl Tryd.isAgg3 0 rfl rfl) ?_
       refine rBi bNe ?_
       refine RdGo.nil ?_
       refine gE ?_
       refine GoH.cond rfl (fun hc => ?_) (fun hc => ?_)
       ·
        have h7 : m.rel.any (fun r => (r.length : Int) != m.n) = true := by
          rw [List.any_eq_true]
          exact ⟨_, List.mem_map.2 ⟨m.rows[k], List.getElem_mem hlt, rfl⟩, hc⟩
        refine gS (gR ?_); refine gAs ?_; refine gE ?_
        refine GoH.ret Tryd.f49 Tryd.func49 rfl (fun w' hS => ?_)
        exact ⟨hS.ext, by rw [checkM, if_neg h3, if_neg h6, if_pos h7]; rfl⟩
       ·
        refine gK (gIb (gR ?_)); refine gMv ?_
        refine GoH.v (Vop.bin rfl rfl rfl rfl (bAdd (by omega)) rfl) ?_
        refine gAs ?_; refine gE ?_
        exact IH (k + 1) _ _ ⟨hlt, fun i y hi hy => by
        by_cases e : i = k
        · subst e; rw [List.getElem?_eq_getElem hlt] at hy; cases hy; simpa using hc
        · exact hall i y (by omega) hy⟩ (by omega) ⟨rfl, rfl, trivial⟩ (List.Sublist.refl _)
      ·
       have hge : ¬ k < m.rows.length := by simpa using hc
       obtain rfl : k = m.rows.length := by omega
       have h7 : ¬ m.rel.any (fun r => (r.length : Int) != m.n) = true := by
         rw [Bool.not_eq_true, List.any_eq_false]
         intro r hr
         obtain ⟨y, hy, rfl⟩ := List.mem_map.1 hr
         obtain ⟨i, hi, rfl⟩ := List.mem_iff_getElem.1 hy
         simpa using hall i _ hi (List.getElem?_eq_getElem hi)
       refine GoH.exit rfl (gS (gS (gR ?_)))
       refine gFp Tryd.underlying35 Tryd.sizeOf32 1 ?_
       refine GoH.v (Vop.ldo (v := .slice m.va m.val.length m.vc) rfl rfl rfl rfl Tryd.isAgg32 0 rfl rfl) ?_
       refine gFp Tryd.underlying35 Tryd.sizeOf3 0 ?_
       refine GoH.v (Vop.ldo (v := .int .i64 m.n) rfl rfl rfl rfl Tryd.isAgg3 0 rfl rfl) ?_
       refine GoH.callP rfl rfl rfl rfl rfl (fun _ _ => Tryd.call87 _ _) (fun w _ hS => beyond_c m.va m.vc m.val m.n hn w (hm.val.ex0 hS.ext) hm.lv) ?_
       refine gE ?_
       refine GoH.cond rfl (fun hc => ?_) (fun hc => ?_)
       ·
        refine gS (gR ?_); refine gAs ?_; refine gE ?_
        refine GoH.ret Tryd.f49 Tryd.func49 rfl (fun w' hS => ?_)
        exact ⟨hS.ext, by rw [checkM, if_neg h3, if_neg h6, if_neg h7, if_pos (by rw [hc]; rfl)]; rfl⟩
       ·
        have h8 := hc
        refine gK (gS (gS (gR ?_))); refine gAs ?_; refine gE (gB ?_)
        refine GoH.loop (σ := Nat) (fun k => [(1, .pointer (some ⟨b1, 0, none⟩)), (4, .int .i64 k)]) (fun _ => [(some b1, .cells m.cs 35 (0, 0))])
          (fun k => k ≤ m.rows.length ∧ ∀ i y, i < k → m.rows[i]? = some y → outB m.n.toNat y.xs = false) (fun k => m.rows.length - k) 0 ⟨Nat.zero_le _, fun i y hi => by omega⟩ ⟨rfl, rfl, trivial⟩ (List.Sublist.refl _) (fun k hI IH => ?_)
        obtain ⟨hk, hout⟩ := hI
        refine gS (gS (gR ?_)); refine gMv ?_; refine gFp Tryd.underlying35 Tryd.sizeOf33 2 ?_
        refine GoH.v (Vop.ldo (v := .slice m.ra m.rows.length m.rc) rfl rfl rfl rfl Tryd.isAgg33 0 rfl rfl) ?_
        refine gBl Tryd.underlying33 ?_; refine gBi bLt ?_; refine gE ?_
        refine GoH.cond rfl (fun hc => ?_) (fun hc => ?_)
        ·
         have hlt : k < m.rows.length := by simpa using hc
         have hrow := hm.row m.rows[k] (List.getElem_mem hlt)
         refine gK (gS (gB (gS ?_)))
         refine GoH.draw 8 mixed rfl ?_
         refine rFp Tryd.underlying35 Tryd.sizeOf33 2 ?_
         refine RdGo.v (Vop.ldo (v := .slice m.ra m.rows.length m.rc) rfl rfl rfl rfl Tryd.isAgg33 0 rfl rfl) ?_
         refine rMv ?_
         refine RdGo.v (Vop.idx rfl rfl rfl rfl rfl Tryd.underlying33 Tryd.sizeOf32 ⟨_, hm.rel⟩ (by simp) (k) ⟨rfl, by simpa using hlt⟩) ?_
         refine RdGo.v (Vop.ld rfl rfl rfl rfl Tryd.isAgg32 (fun w _ hS => (SlR.ex0 hm.rel hS.ext).at (k) hlt)) ?_
         refine rFp Tryd.underlying35 Tryd.sizeOf3 0 ?_
         refine RdGo.v (Vop.ldo (v := .int .i64 m.n) rfl rfl rfl rfl Tryd.isAgg3 0 rfl rfl) ?_
         refine RdGo.callP rfl rfl rfl rfl rfl (fun _ _ => Tryd.call87 _ _) (fun w _ hS => beyondR_c m.rows[k] m.n hn w (hrow.ex0 hS.ext)) ?_
         refine RdGo.nil ?_
         refine gE ?_
         refine GoH.cond rfl (fun hc => ?_) (fun hc => ?_)
         ·
          refine gS (gR ?_); refine gAs ?_; refine gE ?_
          refine GoH.ret Tryd.f49 Tryd.func49 rfl (fun w' hS => ?_)
          exact ⟨hS.ext, by rw [checkM, if_neg h3, if_neg h6, if_neg h7, if_pos (by rw [Bool.or_eq_true, List.any_eq_true]; exact .inr ⟨_, List.mem_map.2 ⟨m.rows[k], List.getElem_mem hlt, rfl⟩, hc⟩)]; rfl⟩
         ·
          refine gK (gIb (gR ?_)); refine gMv ?_
          refine GoH.v (Vop.bin rfl rfl rfl rfl (bAdd (by omega)) rfl) ?_
          refine gAs ?_; refine gE ?_
          exact IH (k + 1) _ _ ⟨hlt, fun i y hi hy => by
          by_cases e : i = k
          · subst e; rw [List.getElem?_eq_getElem hlt] at hy; cases hy; exact hc
          · exact hout i y (by omega) hy⟩ (by omega) ⟨rfl, rfl, trivial⟩ (List.Sublist.refl _)
        ·
         have hge : ¬ k < m.rows.length := by simpa using hc
         obtain rfl : k = m.rows.length := by omega
         have h9 : m.rel.any (outB m.n.toNat) = false := by
           rw [List.any_eq_false]
           intro r hr
           obtain ⟨y, hy, rfl⟩ := List.mem_map.1 hr
           obtain ⟨i, hi, rfl⟩ := List.mem_iff_getElem.1 hy
           rw [hout i _ hi (List.getElem?_eq_getElem hi)]; simp
         refine GoH.exit rfl (gS (gR ?_))
         refine gAs ?_; refine gE ?_
         refine GoH.ret Tryd.f49 Tryd.func49 rfl (fun w' hS => ?_)
         exact ⟨hS.ext, by rw [checkM, if_neg h3, if_neg h6, if_neg h7, if_neg (by rw [h8, h9]; simp)]; rfl⟩
end Go.Proofs.YtlihcmknfdckdaaDoor
namespace Go.Proofs.YtlihcmknfdckdaaDoor
open Go.RowKit Go.Proofs.Wit
/-! closing a relation to a logic -/
/-- where the relation lies that is being closed: still where it came from, or in a block of one's own -/
structure CurAt (a : Option Addr) (ca : Nat) (r : List W64) (A : Option Addr) (cA : Nat) (cur : List W64) (q : Option Nat) (sp : List Value) : Prop where
  cap : cur.length ≤ cA
  at_ : (A = a ∧ cur = r) ∨ (A = q.map (fun b => ⟨b, 0, none⟩) ∧ (q = none → cur.length = 0))
end Go.Proofs.YtlihcmknfdckdaaDoor
