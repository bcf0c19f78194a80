/- What calls of the program return, under the conditions that each theorem states. -/
import Derived.Test.YthojdcaojjmoaaaDoorA02
import Derived.Test.YthojdcaojjmoaaaDoorProg
import Derived.Test.YthojdcaojjmoaaaDoorA04
import Derived.Test.YthojdcaojjmoaaaDoorA03
namespace Go.Proofs.YthojdcaojjmoaaaDoor
open Go.RowKit Go.Proofs.Wit
/-- the library's table of bit positions -/
abbrev gTab : Nat := 1
abbrev Tab := TabAt gTab
theorem mixed : Tryd.prog.follows .mixedOrders = true := by kernel_rfl

theorem infoU : (Tryd.prog.info? 37).map (fun i => (i.zero, i.size, i.bytes)) = some (some (U 0#64), 1, 8) := by kernel_rfl
theorem infoI : (Tryd.prog.info? 3).map (fun i => (i.zero, i.size, i.bytes)) = some (some (.int .i64 0), 1, 8) := by kernel_rfl
theorem tz_c (s : W64) (w : World) (hT : Tab w) (hs : s ≠ 0#64) : Cn Tryd.prog 63 [U s] w (fun v _ => v = .int .i64 (tz s)) := by
  have h1 := tz_lt hs
  refine Cn.of Tryd.func63 rfl rfl ?_
  refine gS (gR ?_)
  refine gAs ?_
  refine gE (gS (gS (gR ?_)))
  refine gMv ?_
  refine GoH.v (Vop.bin (b := U 0#64) rfl rfl rfl rfl bEqU rfl) ?_
  refine gE ?_
  refine GoH.cond rfl (fun hc => ?_) (fun hc => ?_)
  ·
   exact absurd (by simpa using hc) hs
  ·
   refine gK (gS (gR ?_))
   iterate 2 refine gMv ?_
   refine GoH.v (Vop.un rfl rfl rfl uNegU rfl) ?_
   refine gBi bAnd ?_
   refine GoH.v (Vop.bin (b := U 285870213051353865#64) rfl rfl rfl rfl bMulU rfl) ?_
   refine GoH.v (Vop.bin rfl rfl rfl rfl (bShr 58 rfl) rfl) ?_
   refine GoH.v (Vop.idxA rfl rfl rfl rfl rfl Tryd.underlying119 Tryd.sizeOf5 (dbix s).toNat rfl (dbix_lt s)) ?_
   refine GoH.v (Vop.ld rfl rfl rfl rfl Tryd.isAgg5 (fun w _ hS => (by rw [Nat.zero_add, (hT.ex hS.ext).2 _ (dbix_lt s), db_tz hs]))) ?_
   refine GoH.v (Vop.conv rfl rfl rfl (cInt (a := (tz s : Int)) (k := .i64) Tryd.underlying5 Tryd.underlying3 (IntWalk.i64_in _ (by omega))) rfl) ?_
   refine gAs ?_
   refine gE ?_
   refine GoH.ret Tryd.f63 Tryd.func63 rfl (fun w' hS => ?_)
   exact ⟨hS.ext, rfl⟩
end Go.Proofs.YthojdcaojjmoaaaDoor
namespace Go.Proofs.YthojdcaojjmoaaaDoor
open Go.RowKit Go.Proofs.Wit
theorem all_c (n : Nat) (w : World) (h : n ≤ 64) : Cn Tryd.prog 68 [.int .i64 n] w (fun v _ => v = U (allW n)) := by
  refine Cn.of Tryd.func68 rfl rfl ?_
  refine gS (gR ?_)
  refine GoH.v (Vop.asg (v := U 0#64) rfl rfl rfl rfl) ?_
  refine gE (gS (gS (gR ?_)))
  refine gMv ?_
  refine gBi bGe ?_
  refine gE ?_
  refine GoH.cond rfl (fun hc => ?_) (fun hc => ?_)
  ·
   have h2 : 64 ≤ n := by simp at hc; omega
   refine gS (gR ?_)
   refine GoH.v (Vop.asg (v := U 18446744073709551615#64) rfl rfl rfl rfl) ?_
   refine gE ?_
   refine GoH.ret Tryd.f68 Tryd.func68 rfl (fun w' hS => ?_)
   exact ⟨hS.ext, by rw [allW, if_pos h2]; rfl⟩
  ·
   have h2 : ¬ 64 ≤ n := by simp at hc; omega
   refine gK (gS (gR ?_))
   refine gMv ?_
   refine GoH.v (Vop.bin (a := U 1#64) rfl rfl rfl rfl (bShl _ rfl) rfl) ?_
   refine GoH.v (Vop.bin (b := U 1#64) rfl rfl rfl rfl bSubU rfl) ?_
   refine gAs ?_
   refine gE ?_
   refine GoH.ret Tryd.f68 Tryd.func68 rfl (fun w' hS => ?_)
   exact ⟨hS.ext, by rw [allW, if_neg h2]; rfl⟩

theorem check_c (n : Int) (a : Option Addr) (cap : Nat) (xs : List W64) (w : World) (hs : SlU w a xs) (_hl : xs.length ≤ maxLen) :
    Cn Tryd.prog 67 [.int .i64 n, .slice a xs.length cap] w (fun v _ => v = .int .i64 (checkR n xs)) := by
  unfold maxLen at _hl
  refine Cn.of Tryd.func67 rfl rfl ?_
  refine gS (gR ?_)
  refine gAs ?_
  refine gE (gS (gS (gR ?_)))
  refine gMv ?_
  refine gBi bLt ?_
  refine gMv ?_
  refine GoH.cases (d := 9) rfl (fun hc => ?_) (fun hc => ?_)
  ·
   have h1 : n < 0 := by simpa using hc
   iterate 2 refine gNo ?_
   refine gPt ?_
   refine gE (GoH.condT rfl (gS (gR ?_)))
   refine gAs ?_
   refine gE ?_
   refine GoH.ret Tryd.f67 Tryd.func67 rfl (fun w' hS => ?_)
   exact ⟨hS.ext, by rw [checkR, if_pos (.inl h1)]; rfl⟩
  ·
   have h1 : ¬ n < 0 := by simpa using hc
   refine gMv ?_
   refine gBi bGt ?_
   refine gPf ?_
   refine gE ?_
   refine GoH.cond rfl (fun hc => ?_) (fun hc => ?_)
   ·
    have h2 : 64 < n := by simpa using hc
    refine gS (gR ?_)
    refine gAs ?_
    refine gE ?_
    refine GoH.ret Tryd.f67 Tryd.func67 rfl (fun w' hS => ?_)
    exact ⟨hS.ext, by rw [checkR, if_pos (.inr h2)]; rfl⟩
   ·
    have h2 : ¬ 64 < n := by simpa using hc
    have h3 : ¬ (n < 0 ∨ 64 < n) := by omega
    refine gK (gS (gS (gR ?_)))
    refine gMv ?_
    refine gBl Tryd.underlying22 ?_
    refine gMv ?_
    refine gBi bNe ?_
    refine gE ?_
    refine GoH.cond rfl (fun hc => ?_) (fun hc => ?_)
    ·
     have h4 : (xs.length : Int) ≠ n := by simpa using hc
     refine gS (gR ?_)
     refine gAs ?_
     refine gE ?_
     refine GoH.ret Tryd.f67 Tryd.func67 rfl (fun w' hS => ?_)
     exact ⟨hS.ext, by rw [checkR, if_neg h3, if_pos h4]; rfl⟩
    ·
     have h4 : ¬ (xs.length : Int) ≠ n := by simpa using hc
     obtain ⟨m, rfl⟩ : ∃ m : Nat, n = m := ⟨n.toNat, by omega⟩
     refine gK (gS (gS (gR ?_)))
     refine gMv ?_
     refine gBl Tryd.underlying22 ?_
     refine gMv ?_
     refine gE (gB ?_)
     refine GoH.loop (σ := Nat) (fun k => [(0, .int .i64 m), (17, .slice a xs.length cap), (18, .int .i64 xs.length), (19, .int .i64 k)]) (fun _ => []) (fun k => k ≤ xs.length ∧ anyTo (badW m xs) k = false) (fun k => xs.length - k) 0 ⟨Nat.zero_le _, rfl⟩ ⟨rfl, rfl, rfl, rfl, trivial⟩ .slnil (fun k hI IH => ?_)
     obtain ⟨hk, hany⟩ := hI
     refine gS (gR ?_)
     refine gBi bLt ?_
     refine gE (gS ?_)
     refine GoH.cond rfl (fun hc => ?_) (fun hc => ?_)
     ·
      have hlt : k < xs.length := by simpa using hc
      refine gK (gS (gB (gS (gR ?_))))
      refine GoH.v (Vop.idx rfl rfl rfl rfl rfl Tryd.underlying22 Tryd.sizeOf37 ⟨_, hs⟩ (by simp) (k) ⟨rfl, by simpa using hlt⟩) ?_
      refine GoH.v (Vop.ld rfl rfl rfl rfl Tryd.isAgg37 (fun w _ hS => (SlU.ex0 hs hS.ext).at (k) hlt)) ?_
      refine gAs ?_
      refine gE (gS (gR ?_))
      iterate 2 refine gMv ?_
      refine GoH.callP rfl rfl rfl rfl rfl (fun _ _ => Tryd.call68 _ _) (fun w _ hS => all_c m w (by omega)) ?_
      refine gBi bAndNot ?_
      refine GoH.v (Vop.bin (b := U 0#64) rfl rfl rfl rfl bNeU rfl) ?_
      refine gE ?_
      refine GoH.cond rfl (fun hc => ?_) (fun hc => ?_)
      ·
       have h5 : badW m xs k = true := hc
       refine gS (gR ?_)
       refine gAs ?_
       refine gE ?_
       refine GoH.ret Tryd.f67 Tryd.func67 rfl (fun w' hS => ?_)
       exact ⟨hS.ext, by rw [checkR, if_neg h3, if_neg h4, Int.toNat_natCast, if_pos (anyTo_at hlt h5)]; rfl⟩
      ·
       have h5 : badW m xs k = false := hc
       refine gK (gIb (gR ?_))
       refine GoH.v (Vop.bin rfl rfl rfl rfl (bAdd (by omega)) rfl) ?_
       refine gMv ?_
       refine gE ?_
       exact IH (k + 1) _ _ ⟨hlt, anyTo_succ hany h5⟩ (by omega) ⟨rfl, rfl, rfl, rfl, trivial⟩ .slnil
     ·
      have hge : ¬ k < xs.length := by simpa using hc
      obtain rfl : k = xs.length := by omega
      refine GoH.exit rfl (gS (gR ?_))
      refine gAs ?_
      refine gE ?_
      refine GoH.ret Tryd.f67 Tryd.func67 rfl (fun w' hS => ?_)
      exact ⟨hS.ext, by rw [checkR, if_neg h3, if_neg h4, Int.toNat_natCast, if_neg (by rw [hany]; simp)]; rfl⟩
end Go.Proofs.YthojdcaojjmoaaaDoor
namespace Go.Proofs.YthojdcaojjmoaaaDoor
open Go.RowKit Go.Proofs.Wit
/-- a list of words in a block of one's own, or nil -/
def Own (w w' : World) (v : Value) (xs : List W64) : Prop :=
  ∃ q cap sp, v = osv q xs.length cap ∧ (q = none → xs.length = 0 ∧ cap = 0) ∧ (xs.map U ++ sp).length = cap ∧ ∀ b, q = some b → w.heap.size ≤ b ∧ w'.heap[b]? = some (ob U 37 xs sp)

theorem clone_c (a : Option Addr) (ca : Nat) (xs : List W64) (w : World) (ha : SlU w a xs) (hl : xs.length ≤ 100000) (hca : xs.length ≤ ca) :
    Cn Tryd.prog 79 [.slice a xs.length ca] w (fun v w' => Own w w' v xs) := by
  obtain ⟨i0, hi, hz, hsz, hby⟩ := info_parts infoU
  refine Cn.of Tryd.func79 rfl rfl ?_
  refine gS (gR ?_)
  refine gAs ?_
  refine gE (gS (gS (gR ?_)))
  refine gMv ?_
  refine GoH.v (Vop.bin rfl rfl rfl rfl (bSlNil Tryd.underlying22) rfl) ?_
  refine gE ?_
  refine GoH.cond rfl (fun hc => ?_) (fun hc => ?_)
  ·
   obtain rfl : a = none := by simpa using hc
   have hx : xs.length = 0 := by
     rcases Nat.eq_zero_or_pos xs.length with h | h
     · exact h
     · obtain ⟨b, o, e, _⟩ := ha.isSome (by simpa using h); cases e
   refine gS (gR ?_)
   refine gAs ?_
   refine gE ?_
   refine GoH.ret Tryd.f79 Tryd.func79 rfl (fun w' hS => ?_)
   exact ⟨hS.ext, none, 0, [], by rw [hx]; rfl, fun _ => ⟨hx, rfl⟩, by simp [hx], fun b hb => by cases hb⟩
  ·
   refine gK (gS (gR ?_))
   refine GoH.bs0 U rfl rfl rfl Tryd.underlying22 hi (fun b => ?_)
   refine gMv ?_
   by_cases hx : xs.length = 0
   · obtain rfl : xs = [] := List.eq_nil_of_length_eq_zero hx
     refine GoH.v (Vop.blt rfl rfl rfl (blt_app0 Tryd.underlying22 hi (Nat.le_refl 0)) rfl) ?_
     refine GoH.v (Vop.asg rfl rfl rfl rfl) (GoH.regionEnd (GoH.ret Tryd.f79 Tryd.func79 rfl (fun w' hS => ?_)))
     exact ⟨hS.ext, some b, 0, [], rfl, (fun h => by cases h), rfl, fun b' hb => by cases hb; exact ⟨hS.fresh (j := 0) rfl, hS.get (j := 0) rfl⟩⟩
   refine GoH.appS U xs rfl rfl rfl rfl rfl Tryd.underlying22 hi hz hsz rfl (fun h => by cases h) 0 rfl (fun w Y' hS => ha.ex0 hS.ext) rfl rfl (by omega) (fun _ => rfl) (by simp [maxLen]; omega) (by simp [hby]; omega) (fun b' sp' cap' hlen => ?_)
   rw [List.nil_append] at *
   refine gAs ?_
   refine gE ?_
   refine GoH.ret Tryd.f79 Tryd.func79 rfl (fun w' hS => ?_)
   exact ⟨hS.ext, some b', cap', sp', rfl, (fun h => by cases h), hlen, fun b hb => by cases hb; exact ⟨hS.fresh (j := 0) rfl, hS.get (j := 0) rfl⟩⟩
end Go.Proofs.YthojdcaojjmoaaaDoor
namespace Go.Proofs.YthojdcaojjmoaaaDoor
open Go.RowKit Go.Proofs.Wit
theorem gainO {w0 w w' : World} {S : List Nat} {h : Hl} {Y : List (Nat × Obj)} (s : St w0 S w h Y) (e : Ex [] w w') {v : Value} {xs : List W64} (ho : Own w w' v xs) :
    ∃ q cap sp, v = osv q xs.length cap ∧ (q = none → xs.length = 0 ∧ cap = 0) ∧ (xs.map U ++ sp).length = cap ∧ St w0 S w' ((q, ob U 37 xs sp) :: h) Y := by
  obtain ⟨q, cap, sp, h1, h2, h3, h4⟩ := ho
  refine ⟨q, cap, sp, h1, h2, h3, ?_⟩
  cases q with
  | none => exact (s.later e).none _
  | some b => exact s.gain e (h4 b rfl).2 rfl (h4 b rfl).1
theorem sluAt {w0 w : World} {S : List Nat} {h : Hl} {Y : List (Nat × Obj)} (s : St w0 S w h Y) {q : Option Nat} {xs : List W64} {sp : List Value} (j : Nat) (hj : h[j]? = some (q, ob U 37 xs sp)) {c : Nat} (hq : q = none → xs.length = 0 ∧ c = 0) : SlU w (q.map (fun b => ⟨b, 0, none⟩)) xs :=
  .blk (fun e => List.eq_nil_of_length_eq_zero (hq e).1) (fun b e => by subst e; exact s.get hj)

end Go.Proofs.YthojdcaojjmoaaaDoor
namespace Go.Proofs.YthojdcaojjmoaaaDoor
open Go.RowKit Go.Proofs.Wit
def boxR (r : List W64) (s : W64) : W64 := if checkR r.length r ≠ 0 then 0#64 else upTo (fun w out => if r.getD w 0#64 &&& ~~~s == 0#64 then out ||| 1#64 <<< w else out) 0#64 r.length
theorem box_c (a : Option Addr) (ca : Nat) (r : List W64) (s : W64) (w : World) (ha : SlU w a r) (hl : r.length ≤ maxLen) :
    Cn Tryd.prog 52 [.slice a r.length ca, U s] w (fun v _ => v = U (boxR r s)) := by
  have hl' := hl
  unfold maxLen at hl'
  refine Cn.of Tryd.func52 rfl rfl ?_
  refine gS (gR ?_)
  refine GoH.v (Vop.asg (v := U 0#64) rfl rfl rfl rfl) ?_
  refine gE (gS (gS (gR ?_)))
  refine gMv ?_
  refine gBl Tryd.underlying22 ?_
  refine gMv ?_
  refine GoH.callP rfl rfl rfl rfl rfl (fun _ _ => Tryd.call67 _ _) (fun w _ hS => check_c _ a ca r w (ha.ex0 hS.ext) hl) ?_
  refine gBi bNe ?_
  refine gE ?_
  refine GoH.cond rfl (fun hc => ?_) (fun hc => ?_)
  ·
   have h1 : checkR r.length r ≠ 0 := by simpa using hc
   refine gS (gR ?_)
   refine GoH.v (Vop.asg (v := U 0#64) rfl rfl rfl rfl) ?_
   refine gE ?_
   refine GoH.ret Tryd.f52 Tryd.func52 rfl (fun w' hS => ?_)
   exact ⟨hS.ext, by rw [boxR, if_pos h1]; rfl⟩
  ·
   have h1 : ¬ checkR r.length r ≠ 0 := by simpa using hc
   refine gK (gS (gR ?_))
   refine GoH.v (Vop.asg (v := U 0#64) rfl rfl rfl rfl) ?_
   refine gE (gS (gS (gR ?_)))
   refine gMv ?_
   refine gBl Tryd.underlying22 ?_
   refine gMv ?_
   refine gE (gB ?_)
   refine GoH.loop (σ := Nat) (fun k => [(0, .slice a r.length ca), (1, U s), (5, U (upTo (fun w out => if r.getD w 0#64 &&& ~~~s == 0#64 then out ||| 1#64 <<< w else out) 0#64 k)), (13, .int .i64 r.length), (14, .int .i64 k)]) (fun _ => [])
     (fun k => k ≤ r.length) (fun k => r.length - k) 0 (Nat.zero_le _) ⟨rfl, rfl, rfl, rfl, rfl, trivial⟩ .slnil (fun k hk IH => ?_)
   refine gS (gR ?_)
   refine gBi bLt ?_
   refine gE (gS ?_)
   refine GoH.cond rfl (fun hc => ?_) (fun hc => ?_)
   ·
    have hlt : k < r.length := by simpa using hc
    refine gK (gS (gB (gS (gR ?_))))
    refine gMv ?_
    refine gAs ?_
    refine gE (gS (gR ?_))
    iterate 2 refine gMv ?_
    refine GoH.v (Vop.idx rfl rfl rfl rfl rfl Tryd.underlying22 Tryd.sizeOf37 ⟨_, ha⟩ (by simp) (k) ⟨rfl, by simpa using hlt⟩) ?_
    refine GoH.v (Vop.ld rfl rfl rfl rfl Tryd.isAgg37 (fun w _ hS => (SlU.ex0 ha hS.ext).at (k) hlt)) ?_
    refine gMv ?_
    refine gBi bAndNot ?_
    refine GoH.v (Vop.bin (b := U 0#64) rfl rfl rfl rfl bEqU rfl) ?_
    refine gE ?_
    refine GoH.cond rfl (fun hc => ?_) (fun hc => ?_)
    ·
     refine gR ?_
     iterate 2 refine gMv ?_
     refine GoH.v (Vop.bin (a := U 1#64) rfl rfl rfl rfl (bShl _ rfl) rfl) ?_
     refine gBi bOr ?_
     refine gAs ?_
     refine gE (gIb (gR ?_))
     refine GoH.v (Vop.bin rfl rfl rfl rfl (bAdd (by omega)) rfl) ?_
     refine gMv ?_
     refine gE ?_
     exact IH (k + 1) _ _ hlt (by omega) ⟨rfl, rfl, by rw [upTo, if_pos hc]; rfl, rfl, rfl, trivial⟩ .slnil
    ·
     refine gK (gIb (gR ?_))
     refine GoH.v (Vop.bin rfl rfl rfl rfl (bAdd (by omega)) rfl) ?_
     refine gMv ?_
     refine gE ?_
     exact IH (k + 1) _ _ hlt (by omega) ⟨rfl, rfl, by rw [upTo, if_neg (by rw [hc]; exact Bool.false_ne_true)]; rfl, rfl, rfl, trivial⟩ .slnil
   ·
    have hge : ¬ k < r.length := by simpa using hc
    obtain rfl : k = r.length := by omega
    refine GoH.exit rfl (gS (gR ?_))
    refine gMv ?_
    refine gAs ?_
    refine gE ?_
    refine GoH.ret Tryd.f52 Tryd.func52 rfl (fun w' hS => ?_)
    exact ⟨hS.ext, by rw [boxR, if_neg h1]; rfl⟩

def diaR (r : List W64) (s : W64) : W64 := if checkR r.length r ≠ 0 then 0#64 else allW r.length &&& ~~~ (boxR r (~~~s))
theorem diamond_c (a : Option Addr) (ca : Nat) (r : List W64) (s : W64) (w : World) (ha : SlU w a r) (hl : r.length ≤ maxLen) :
    Cn Tryd.prog 53 [.slice a r.length ca, U s] w (fun v _ => v = U (diaR r s)) := by
  refine Cn.of Tryd.func53 rfl rfl ?_
  refine gS (gR ?_)
  refine GoH.v (Vop.asg (v := U 0#64) rfl rfl rfl rfl) ?_
  refine gE (gS (gS (gR ?_)))
  refine gMv ?_
  refine gBl Tryd.underlying22 ?_
  refine gMv ?_
  refine GoH.callP rfl rfl rfl rfl rfl (fun _ _ => Tryd.call67 _ _) (fun w _ hS => check_c _ a ca r w (ha.ex0 hS.ext) hl) ?_
  refine gBi bNe ?_
  refine gE ?_
  refine GoH.cond rfl (fun hc => ?_) (fun hc => ?_)
  ·
   have h1 : checkR r.length r ≠ 0 := by simpa using hc
   refine gS (gR ?_)
   refine GoH.v (Vop.asg (v := U 0#64) rfl rfl rfl rfl) ?_
   refine gE ?_
   refine GoH.ret Tryd.f53 Tryd.func53 rfl (fun w' hS => ?_)
   exact ⟨hS.ext, by rw [diaR, if_pos h1]; rfl⟩
  ·
   have h1 : ¬ checkR r.length r ≠ 0 := by simpa using hc
   refine gK (gS (gR ?_))
   refine gMv ?_
   refine gBl Tryd.underlying22 ?_
   refine GoH.callP rfl rfl rfl rfl rfl (fun _ _ => Tryd.call68 _ _) (fun w _ hS => all_c _ w (check_zero.1 (by simpa using h1)).len) ?_
   iterate 2 refine gMv ?_
   refine GoH.v (Vop.un rfl rfl rfl uXorU rfl) ?_
   refine GoH.callP rfl rfl rfl rfl rfl (fun _ _ => Tryd.call52 _ _) (fun w _ hS => box_c a ca r _ w (ha.ex0 hS.ext) hl) ?_
   refine gBi bAndNot ?_
   refine gAs ?_
   refine gE ?_
   refine GoH.ret Tryd.f53 Tryd.func53 rfl (fun w' hS => ?_)
   exact ⟨hS.ext, by rw [diaR, if_neg h1]; rfl⟩

/-- o is the least set that contains what a step leads to from s0, and what a step leads to from it -/
structure LeastReach (r : List W64) (s0 o : W64) : Prop where
  base : mapR r s0 &&& ~~~o = 0#64
  step : mapR r o &&& ~~~o = 0#64
  least : ∀ c, mapR r s0 &&& ~~~c = 0#64 → mapR r c &&& ~~~c = 0#64 → o &&& ~~~c = 0#64
end Go.Proofs.YthojdcaojjmoaaaDoor
namespace Go.Proofs.YthojdcaojjmoaaaDoor
open Go.RowKit Go.Proofs.Wit
/-- a step function turns the list that it is given, by g -/
def StepC (gf : FuncId) (g : List W64 → List W64) : Prop :=
  ∀ (q : Option Nat) (cap : Nat) (xs : List W64) (sp : List Value) (w : World), Tab w → (∀ b, q = some b → gTab ≠ b) → Val xs → (q = none → xs.length = 0 ∧ cap = 0) → (∀ b, q = some b → w.heap[b]? = some (ob U 37 xs sp)) →
    CnT Tryd.prog gf [osv q xs.length cap] w q (fun _ w' => ∀ b, q = some b → w'.heap[b]? = some (ob U 37 (g xs) sp))

end Go.Proofs.YthojdcaojjmoaaaDoor
namespace Go.Proofs.YthojdcaojjmoaaaDoor
open Go.RowKit Go.Proofs.Wit
/-! the library's searches by a function -/
theorem any_of_ix {α : Type} {xs : List α} {p : α → Bool} {j : Int} (h : (j = -1 ∧ ∀ x ∈ xs, p x = false) ∨ ∃ (k : Nat) (x : α), j = k ∧ xs[k]? = some x ∧ p x = true ∧ ∀ i y, i < k → xs[i]? = some y → p y = false) : xs.any p = decide (j ≥ 0) := by
  rcases h with ⟨rfl, h⟩ | ⟨k, x, rfl, h1, h2, _⟩
  · rw [show decide ((-1 : Int) ≥ 0) = false from rfl, List.any_eq_false]; exact fun x hx => by rw [h x hx]; simp
  · rw [decide_eq_true (by omega), List.any_eq_true]; exact ⟨x, List.mem_of_getElem? h1, h2⟩

theorem ixU_c {gf : FuncId} (cs : List Value) (p : W64 → Bool) (hcf : ∀ args w, (callFunc gf args).run Tryd.prog w = .ok (.enter gf args) w) (a : Option Addr) (ca : Nat) (xs : List W64) (w : World) (ha : SlU w a xs) (hl : xs.length ≤ maxLen)
    (hf : ∀ w', Ex [] w w' → ∀ x ∈ xs, Cn Tryd.prog gf ([U x] ++ cs) w' (fun v _ => v = .bool (p x))) :
    Cn Tryd.prog 57 [.slice a xs.length ca, .func (.func gf) ([] : List Value).toArray cs.toArray] w (fun v _ => ∃ j : Int, v = .int .i64 j ∧ ((j = -1 ∧ ∀ x ∈ xs, p x = false) ∨ ∃ (k : Nat) (x : W64), j = k ∧ xs[k]? = some x ∧ p x = true ∧ ∀ i y, i < k → xs[i]? = some y → p y = false)) := by
  have hl' := hl
  unfold maxLen at hl'
  refine Cn.of Tryd.func57 rfl rfl ?_
  refine gS (gR ?_)
  refine gAs ?_
  refine gE (gS (gS (gR ?_)))
  refine gMv ?_
  refine gBl Tryd.underlying22 ?_
  refine gMv ?_
  refine gE (gB ?_)
  refine GoH.loop (σ := Nat) (fun k => [(0, .slice a xs.length ca), (1, .func (.func gf) ([] : List Value).toArray cs.toArray), (7, .int .i64 xs.length), (8, .int .i64 k)]) (fun _ => [])
    (fun k => k ≤ xs.length ∧ ∀ i y, i < k → xs[i]? = some y → p y = false) (fun k => xs.length - k) 0 ⟨Nat.zero_le _, fun i y hi => by omega⟩ ⟨rfl, rfl, rfl, rfl, trivial⟩ .slnil (fun k hI IH => ?_)
  obtain ⟨hk, hno⟩ := hI
  refine gS (gR ?_)
  refine gBi bLt ?_
  refine gE (gS ?_)
  refine GoH.cond rfl (fun hc => ?_) (fun hc => ?_)
  ·
   have hlt : k < xs.length := by simpa using hc
   refine gK (gS (gB (gS (gR ?_))))
   refine gMv ?_
   refine gAs ?_
   refine gE (gS (gR ?_))
   iterate 3 refine gMv ?_
   refine GoH.v (Vop.idx rfl rfl rfl rfl rfl Tryd.underlying22 Tryd.sizeOf37 ⟨_, ha⟩ (by simp) k ⟨rfl, by simpa using hlt⟩) ?_
   refine GoH.v (Vop.ld rfl rfl rfl rfl Tryd.isAgg37 (fun w _ hS => Sl.at (enc := U) (SlU.ex0 ha hS.ext) k hlt)) ?_
   refine GoH.callCP (fs := []) rfl rfl rfl rfl rfl hcf (fun w _ hS => hf w hS.ext _ (List.getElem_mem hlt)) ?_
   refine gE ?_
   refine GoH.cond rfl (fun hc => ?_) (fun hc => ?_)
   ·
    refine gS (gR ?_)
    refine gMv ?_
    refine gAs ?_
    refine gE ?_
    refine GoH.ret Tryd.f57 Tryd.func57 rfl (fun w' hS => ?_)
    exact ⟨hS.ext, _, rfl, .inr ⟨k, xs[k], rfl, List.getElem?_eq_getElem hlt, hc, hno⟩⟩
   ·
    refine gK (gIb (gR ?_))
    refine GoH.v (Vop.bin rfl rfl rfl rfl (bAdd (by omega)) rfl) ?_
    refine gMv ?_
    refine gE ?_
    exact IH (k + 1) _ _ ⟨hlt, fun i y hi hy => by
    by_cases e : i = k
    · subst e; rw [List.getElem?_eq_getElem hlt] at hy; cases hy; exact hc
    · exact hno i y (by omega) hy⟩ (by omega) ⟨rfl, rfl, rfl, rfl, trivial⟩ .slnil
  ·
   have hge : ¬ k < xs.length := by simpa using hc
   obtain rfl : k = xs.length := by omega
   refine GoH.exit rfl (gS (gR ?_))
   refine gAs ?_
   refine gE ?_
   refine GoH.ret Tryd.f57 Tryd.func57 rfl (fun w' hS => ?_)
   exact ⟨hS.ext, _, rfl, .inl ⟨rfl, fun x hx => by
   obtain ⟨i, hi, e⟩ := List.mem_iff_getElem.1 hx
   exact hno i x hi (by rw [List.getElem?_eq_getElem hi, e])⟩⟩
theorem cfU_c {gf : FuncId} (cs : List Value) (p : W64 → Bool) (hcf : ∀ args w, (callFunc gf args).run Tryd.prog w = .ok (.enter gf args) w) (a : Option Addr) (ca : Nat) (xs : List W64) (w : World) (ha : SlU w a xs) (hl : xs.length ≤ maxLen)
    (hf : ∀ w', Ex [] w w' → ∀ x ∈ xs, Cn Tryd.prog gf ([U x] ++ cs) w' (fun v _ => v = .bool (p x))) :
    Cn Tryd.prog 41 [.slice a xs.length ca, .func (.func gf) ([] : List Value).toArray cs.toArray] w (fun v _ => v = .bool (xs.any p)) := by
  refine Cn.of Tryd.func41 rfl rfl ?_
  refine gS (gR ?_)
  refine gAs ?_
  refine gE (gS (gR ?_))
  iterate 2 refine gMv ?_
  refine GoH.callM _ rfl rfl rfl rfl rfl (fun _ _ => Tryd.call57 _ _) (fun w _ hS => ixU_c cs p hcf a ca xs w (ha.ex0 hS.ext) hl (fun w' he => hf w' (hS.ext.trans he (by simp)))) ?_
  rintro v w1 w2 Y' hS he ⟨j, rfl, hj⟩
  refine ⟨_, hS.later he, ?_⟩
  refine gBi bGe ?_
  refine gAs ?_
  refine gE ?_
  refine GoH.ret Tryd.f41 Tryd.func41 rfl (fun w' hS => ?_)
  exact ⟨hS.ext, by rw [any_of_ix hj]; rfl⟩

theorem ixR_c {gf : FuncId} (cs : List Value) (p : Row → Bool) (hcf : ∀ args w, (callFunc gf args).run Tryd.prog w = .ok (.enter gf args) w) (a : Option Addr) (ca : Nat) (xs : List Row) (w : World) (ha : SlR w a xs) (hl : xs.length ≤ maxLen)
    (hf : ∀ w', Ex [] w w' → ∀ x ∈ xs, Cn Tryd.prog gf ([Row.v x] ++ cs) w' (fun v _ => v = .bool (p x))) :
    Cn Tryd.prog 44 [.slice a xs.length ca, .func (.func gf) ([] : List Value).toArray cs.toArray] w (fun v _ => ∃ j : Int, v = .int .i64 j ∧ ((j = -1 ∧ ∀ x ∈ xs, p x = false) ∨ ∃ (k : Nat) (x : Row), j = k ∧ xs[k]? = some x ∧ p x = true ∧ ∀ i y, i < k → xs[i]? = some y → p y = false)) := by
  have hl' := hl
  unfold maxLen at hl'
  refine Cn.of Tryd.func44 rfl rfl ?_
  refine gS (gR ?_)
  refine gAs ?_
  refine gE (gS (gS (gR ?_)))
  refine gMv ?_
  refine gBl Tryd.underlying23 ?_
  refine gMv ?_
  refine gE (gB ?_)
  refine GoH.loop (σ := Nat) (fun k => [(0, .slice a xs.length ca), (1, .func (.func gf) ([] : List Value).toArray cs.toArray), (7, .int .i64 xs.length), (8, .int .i64 k)]) (fun _ => [])
    (fun k => k ≤ xs.length ∧ ∀ i y, i < k → xs[i]? = some y → p y = false) (fun k => xs.length - k) 0 ⟨Nat.zero_le _, fun i y hi => by omega⟩ ⟨rfl, rfl, rfl, rfl, trivial⟩ .slnil (fun k hI IH => ?_)
  obtain ⟨hk, hno⟩ := hI
  refine gS (gR ?_)
  refine gBi bLt ?_
  refine gE (gS ?_)
  refine GoH.cond rfl (fun hc => ?_) (fun hc => ?_)
  ·
   have hlt : k < xs.length := by simpa using hc
   refine gK (gS (gB (gS (gR ?_))))
   refine gMv ?_
   refine gAs ?_
   refine gE (gS (gR ?_))
   iterate 3 refine gMv ?_
   refine GoH.v (Vop.idx rfl rfl rfl rfl rfl Tryd.underlying23 Tryd.sizeOf22 ⟨_, ha⟩ (by simp) k ⟨rfl, by simpa using hlt⟩) ?_
   refine GoH.v (Vop.ld rfl rfl rfl rfl Tryd.isAgg22 (fun w _ hS => Sl.at (enc := Row.v) (SlR.ex0 ha hS.ext) k hlt)) ?_
   refine GoH.callCP (fs := []) rfl rfl rfl rfl rfl hcf (fun w _ hS => hf w hS.ext _ (List.getElem_mem hlt)) ?_
   refine gE ?_
   refine GoH.cond rfl (fun hc => ?_) (fun hc => ?_)
   ·
    refine gS (gR ?_)
    refine gMv ?_
    refine gAs ?_
    refine gE ?_
    refine GoH.ret Tryd.f44 Tryd.func44 rfl (fun w' hS => ?_)
    exact ⟨hS.ext, _, rfl, .inr ⟨k, xs[k], rfl, List.getElem?_eq_getElem hlt, hc, hno⟩⟩
   ·
    refine gK (gIb (gR ?_))
    refine GoH.v (Vop.bin rfl rfl rfl rfl (bAdd (by omega)) rfl) ?_
    refine gMv ?_
    refine gE ?_
    exact IH (k + 1) _ _ ⟨hlt, fun i y hi hy => by
    by_cases e : i = k
    · subst e; rw [List.getElem?_eq_getElem hlt] at hy; cases hy; exact hc
    · exact hno i y (by omega) hy⟩ (by omega) ⟨rfl, rfl, rfl, rfl, trivial⟩ .slnil
  ·
   have hge : ¬ k < xs.length := by simpa using hc
   obtain rfl : k = xs.length := by omega
   refine GoH.exit rfl (gS (gR ?_))
   refine gAs ?_
   refine gE ?_
   refine GoH.ret Tryd.f44 Tryd.func44 rfl (fun w' hS => ?_)
   exact ⟨hS.ext, _, rfl, .inl ⟨rfl, fun x hx => by
   obtain ⟨i, hi, e⟩ := List.mem_iff_getElem.1 hx
   exact hno i x hi (by rw [List.getElem?_eq_getElem hi, e])⟩⟩
theorem cfR_c {gf : FuncId} (cs : List Value) (p : Row → Bool) (hcf : ∀ args w, (callFunc gf args).run Tryd.prog w = .ok (.enter gf args) w) (a : Option Addr) (ca : Nat) (xs : List Row) (w : World) (ha : SlR w a xs) (hl : xs.length ≤ maxLen)
    (hf : ∀ w', Ex [] w w' → ∀ x ∈ xs, Cn Tryd.prog gf ([Row.v x] ++ cs) w' (fun v _ => v = .bool (p x))) :
    Cn Tryd.prog 25 [.slice a xs.length ca, .func (.func gf) ([] : List Value).toArray cs.toArray] w (fun v _ => v = .bool (xs.any p)) := by
  refine Cn.of Tryd.func25 rfl rfl ?_
  refine gS (gR ?_)
  refine gAs ?_
  refine gE (gS (gR ?_))
  iterate 2 refine gMv ?_
  refine GoH.callM _ rfl rfl rfl rfl rfl (fun _ _ => Tryd.call44 _ _) (fun w _ hS => ixR_c cs p hcf a ca xs w (ha.ex0 hS.ext) hl (fun w' he => hf w' (hS.ext.trans he (by simp)))) ?_
  rintro v w1 w2 Y' hS he ⟨j, rfl, hj⟩
  refine ⟨_, hS.later he, ?_⟩
  refine gBi bGe ?_
  refine gAs ?_
  refine gE ?_
  refine GoH.ret Tryd.f25 Tryd.func25 rfl (fun w' hS => ?_)
  exact ⟨hS.ext, by rw [any_of_ix hj]; rfl⟩
end Go.Proofs.YthojdcaojjmoaaaDoor
namespace Go.Proofs.YthojdcaojjmoaaaDoor
open Go.RowKit Go.Proofs.Wit
/-! models: what Check says; logics -/
theorem mall_c (n : Nat) (w : World) (h : n ≤ 64) : Cn Tryd.prog 43 [.int .i64 n] w (fun v _ => v = U (allW n)) := by
  refine Cn.of Tryd.func43 rfl rfl ?_
  refine gS (gR ?_)
  refine GoH.v (Vop.asg (v := U 0#64) rfl rfl rfl rfl) ?_
  refine gE (gS (gS (gR ?_)))
  refine gMv ?_
  refine gBi bGe ?_
  refine gE ?_
  refine GoH.cond rfl (fun hc => ?_) (fun hc => ?_)
  ·
   have h2 : 64 ≤ n := by simp at hc; omega
   refine gS (gR ?_)
   refine GoH.v (Vop.asg (v := U 18446744073709551615#64) rfl rfl rfl rfl) ?_
   refine gE ?_
   refine GoH.ret Tryd.f43 Tryd.func43 rfl (fun w' hS => ?_)
   exact ⟨hS.ext, by rw [allW, if_pos h2]; rfl⟩
  ·
   have h2 : ¬ 64 ≤ n := by simp at hc; omega
   refine gK (gS (gR ?_))
   refine gMv ?_
   refine GoH.v (Vop.bin (a := U 1#64) rfl rfl rfl rfl (bShl _ rfl) rfl) ?_
   refine GoH.v (Vop.bin (b := U 1#64) rfl rfl rfl rfl bSubU rfl) ?_
   refine gAs ?_
   refine gE ?_
   refine GoH.ret Tryd.f43 Tryd.func43 rfl (fun w' hS => ?_)
   exact ⟨hS.ext, by rw [allW, if_neg h2]; rfl⟩
theorem outside1_c (s : W64) (n : Int) (hn : 0 ≤ n ∧ n ≤ 64) (b : Nat) (w : World) (hb : w.heap[b]? = some (.cells #[.int .i64 n] 3 (0, 0))) :
    Cn Tryd.prog 42 [U s, .pointer (some ⟨b, 0, none⟩)] w (fun v _ => v = .bool (s &&& ~~~ allW n.toNat != 0#64)) := by
  obtain ⟨N, rfl⟩ : ∃ N : Nat, n = N := ⟨n.toNat, by omega⟩
  refine Cn.of Tryd.func42 rfl rfl ?_
  refine gS (gR ?_)
  refine gAs ?_
  refine gE (gS (gR ?_))
  refine gMv ?_
  refine GoH.v (Vop.ld rfl rfl rfl rfl Tryd.isAgg3 (fun w _ hS => (hS.ext.cell hb rfl))) ?_
  refine GoH.callP rfl rfl rfl rfl rfl (fun _ _ => Tryd.call43 _ _) (fun w _ hS => mall_c N w (by omega)) ?_
  refine gBi bAndNot ?_
  refine GoH.v (Vop.bin (b := U 0#64) rfl rfl rfl rfl bNeU rfl) ?_
  refine gAs ?_
  refine gE ?_
  refine GoH.ret Tryd.f42 Tryd.func42 rfl (fun w' hS => ?_)
  exact ⟨hS.ext, rfl⟩
theorem outside_c (a : Option Addr) (ca : Nat) (xs : List W64) (n : Int) (hn : 0 ≤ n ∧ n ≤ 64) (w : World) (ha : SlU w a xs) (hl : xs.length ≤ maxLen) :
    Cn Tryd.prog 24 [.slice a xs.length ca, .int .i64 n] w (fun v _ => v = .bool (outB n.toNat xs)) := by
  refine Cn.of Tryd.func24 rfl rfl ?_
  refine gS (gR ?_)
  refine GoH.bx rfl rfl rfl rfl (fun b3 => ?_)
  refine gAs ?_
  refine gE (gS (gR ?_))
  refine gMv ?_
  refine GoH.v (Vop.mkFunc rfl rfl rfl rfl rfl) ?_
  refine GoH.callP rfl rfl rfl rfl rfl (fun _ _ => Tryd.call41 _ _) (fun w _ hS => cfU_c [.pointer (some ⟨b3, 0, none⟩)] (fun s => s &&& ~~~ allW n.toNat != 0#64) (fun _ _ => Tryd.call42 _ _) a ca xs w (ha.ex0 hS.ext) hl (fun w' he x _ => outside1_c x n hn b3 w' (he.keep (hS.get (j := 0) rfl)))) ?_
  refine gAs ?_
  refine gE ?_
  refine GoH.ret Tryd.f24 Tryd.func24 rfl (fun w' hS => ?_)
  exact ⟨hS.ext, rfl⟩
theorem check1_c (r : Row) (m : MV) (hn : 0 ≤ m.n ∧ m.n ≤ 64) (b : Nat) (w : World) (hr : r.At w) (hb : w.heap[b]? = some (.cells m.v.cells 25 (0, 0))) :
    Cn Tryd.prog 26 [r.v, .pointer (some ⟨b, 0, none⟩)] w (fun v _ => v = .bool (outB m.n.toNat r.xs)) := by
  refine Cn.of Tryd.func26 rfl rfl ?_
  refine gS (gR ?_)
  refine gAs ?_
  refine gE (gS (gR ?_))
  refine gMv ?_
  refine gFp Tryd.underlying25 Tryd.sizeOf3 0 ?_
  refine GoH.v (Vop.ld rfl rfl rfl rfl Tryd.isAgg3 (fun w _ hS => (hS.ext.cell hb (v := .int .i64 m.n) rfl))) ?_
  refine GoH.callP rfl rfl rfl rfl rfl (fun _ _ => Tryd.call24 _ _) (fun w _ hS => outside_c r.a r.cap r.xs m.n hn w (hr.at_.ex0 hS.ext) hr.len) ?_
  refine gAs ?_
  refine gE ?_
  refine GoH.ret Tryd.f26 Tryd.func26 rfl (fun w' hS => ?_)
  exact ⟨hS.ext, rfl⟩
set_option maxRecDepth 16000 in
theorem mcheck_c (m : MV) (w : World) (hm : m.At w) : Cn Tryd.prog 14 [m.v] w (fun v _ => v = .int .i64 (checkM m.n m.val m.rel)) := by
  have hlr := hm.lr
  unfold maxLen at hlr
  have hrl : m.rel.length = m.rows.length := by simp [MV.rel]
  refine Cn.of Tryd.func14 rfl rfl ?_
  refine gS (gR ?_)
  refine GoH.bx rfl rfl rfl rfl (fun b1 => ?_)
  refine gAs ?_
  refine gE (gS (gS (gR ?_)))
  refine gFp Tryd.underlying25 Tryd.sizeOf3 0 ?_
  refine gLo Tryd.isAgg3 0 ?_
  refine gBi bLt ?_
  refine gMv ?_
  refine GoH.cases (d := 8) rfl (fun hc => ?_) (fun hc => ?_)
  ·
   have h1 : m.n < 1 := by simpa using hc
   iterate 3 refine gNo ?_
   refine gPt ?_
   refine gE (GoH.condT rfl (gS (gR ?_)))
   refine gAs ?_
   refine gE ?_
   refine GoH.ret Tryd.f14 Tryd.func14 rfl (fun w' hS => ?_)
   exact ⟨hS.ext, by rw [checkM, if_pos (.inl h1)]; rfl⟩
  ·
   have h1 : ¬ m.n < 1 := by simpa using hc
   refine gFp Tryd.underlying25 Tryd.sizeOf3 0 ?_
   refine gLo Tryd.isAgg3 0 ?_
   refine gBi bGt ?_
   refine gPf ?_
   refine gE ?_
   refine GoH.cond rfl (fun hc => ?_) (fun hc => ?_)
   ·
    have h2 : 64 < m.n := by simpa using hc
    refine gS (gR ?_)
    refine gAs ?_
    refine gE ?_
    refine GoH.ret Tryd.f14 Tryd.func14 rfl (fun w' hS => ?_)
    exact ⟨hS.ext, by rw [checkM, if_pos (.inr h2)]; rfl⟩
   ·
    have h2 : ¬ 64 < m.n := by simpa using hc
    have h3 : ¬ (m.n < 1 ∨ 64 < m.n) := by omega
    have hn : 0 ≤ m.n ∧ m.n ≤ 64 := by omega
    refine gK (gS (gS (gR ?_)))
    refine gFp Tryd.underlying25 Tryd.sizeOf23 2 ?_
    refine gLo Tryd.isAgg23 0 ?_
    refine gBl Tryd.underlying23 ?_
    refine gBi bGt ?_
    refine gMv ?_
    refine GoH.cases (d := 17) rfl (fun hc => ?_) (fun hc => ?_)
    ·
     have h4 : 4 < m.rel.length := by simp at hc; omega
     iterate 4 refine gNo ?_
     refine gPt ?_
     refine gE (GoH.condT rfl (gS (gR ?_)))
     refine gAs ?_
     refine gE ?_
     refine GoH.ret Tryd.f14 Tryd.func14 rfl (fun w' hS => ?_)
     exact ⟨hS.ext, by rw [checkM, if_neg h3, if_pos (.inl h4)]; rfl⟩
    ·
     have h4 : ¬ 4 < m.rel.length := by simp at hc; omega
     refine gFp Tryd.underlying25 Tryd.sizeOf22 1 ?_
     refine gLo Tryd.isAgg22 0 ?_
     refine gBl Tryd.underlying22 ?_
     refine gBi bGt ?_
     refine gPf ?_
     refine gE ?_
     refine GoH.cond rfl (fun hc => ?_) (fun hc => ?_)
     ·
      have h5 : 8 < m.val.length := by simp at hc; omega
      refine gS (gR ?_)
      refine gAs ?_
      refine gE ?_
      refine GoH.ret Tryd.f14 Tryd.func14 rfl (fun w' hS => ?_)
      exact ⟨hS.ext, by rw [checkM, if_neg h3, if_pos (.inr h5)]; rfl⟩
     ·
      have h5 : ¬ 8 < m.val.length := by simp at hc; omega
      have h6 : ¬ (4 < m.rel.length ∨ 8 < m.val.length) := by omega
      refine gK (gS (gS (gR ?_)))
      refine gFp Tryd.underlying25 Tryd.sizeOf23 2 ?_
      refine gLo Tryd.isAgg23 0 ?_
      refine gBl Tryd.underlying23 ?_
      refine gMv ?_
      refine gE (gB ?_)
      refine GoH.loop (σ := Nat) (fun k => [(1, .pointer (some ⟨b1, 0, none⟩)), (24, .slice m.ra m.rows.length m.rc), (25, .int .i64 m.rows.length), (26, .int .i64 k)]) (fun _ => [(some b1, .cells m.v.cells 25 (0, 0))])
        (fun k => k ≤ m.rows.length ∧ ∀ i y, i < k → m.rows[i]? = some y → (y.xs.length : Int) = m.n) (fun k => m.rows.length - k) 0 ⟨Nat.zero_le _, fun i y hi => by omega⟩ ⟨rfl, rfl, rfl, rfl, trivial⟩ (List.Sublist.refl _) (fun k hI IH => ?_)
      obtain ⟨hk, hall⟩ := hI
      refine gS (gR ?_)
      refine gBi bLt ?_
      refine gE (gS ?_)
      refine GoH.cond rfl (fun hc => ?_) (fun hc => ?_)
      ·
       have hlt : k < m.rows.length := by simpa using hc
       refine gK (gS (gB (gS (gR ?_))))
       refine GoH.v (Vop.idx rfl rfl rfl rfl rfl Tryd.underlying23 Tryd.sizeOf22 ⟨_, hm.rel⟩ (by simp) (k) ⟨rfl, by simpa using hlt⟩) ?_
       refine GoH.v (Vop.ld rfl rfl rfl rfl Tryd.isAgg22 (fun w _ hS => (SlR.ex0 hm.rel hS.ext).at (k) hlt)) ?_
       refine gAs ?_
       refine gE (gS (gR ?_))
       refine gMv ?_
       refine gBl Tryd.underlying22 ?_
       refine gFp Tryd.underlying25 Tryd.sizeOf3 0 ?_
       refine gLo Tryd.isAgg3 0 ?_
       refine gBi bNe ?_
       refine gE ?_
       refine GoH.cond rfl (fun hc => ?_) (fun hc => ?_)
       ·
        have h7 : m.rel.any (fun r => (r.length : Int) != m.n) = true := by
          rw [List.any_eq_true]
          exact ⟨_, List.mem_map.2 ⟨m.rows[k], List.getElem_mem hlt, rfl⟩, hc⟩
        refine gS (gR ?_)
        refine gAs ?_
        refine gE ?_
        refine GoH.ret Tryd.f14 Tryd.func14 rfl (fun w' hS => ?_)
        exact ⟨hS.ext, by rw [checkM, if_neg h3, if_neg h6, if_pos h7]; rfl⟩
       ·
        refine gK (gIb (gR ?_))
        refine GoH.v (Vop.bin rfl rfl rfl rfl (bAdd (by omega)) rfl) ?_
        refine gMv ?_
        refine gE ?_
        exact IH (k + 1) _ _ ⟨hlt, fun i y hi hy => by
        by_cases e : i = k
        · subst e; rw [List.getElem?_eq_getElem hlt] at hy; cases hy; simpa using hc
        · exact hall i y (by omega) hy⟩ (by omega) ⟨rfl, rfl, rfl, rfl, trivial⟩ (List.Sublist.refl _)
      ·
       have hge : ¬ k < m.rows.length := by simpa using hc
       obtain rfl : k = m.rows.length := by omega
       have h7 : ¬ m.rel.any (fun r => (r.length : Int) != m.n) = true := by
         rw [Bool.not_eq_true, List.any_eq_false]
         intro r hr
         obtain ⟨y, hy, rfl⟩ := List.mem_map.1 hr
         obtain ⟨i, hi, rfl⟩ := List.mem_iff_getElem.1 hy
         simpa using hall i _ hi (List.getElem?_eq_getElem hi)
       refine GoH.exit rfl (gS (gS (gR ?_)))
       refine gFp Tryd.underlying25 Tryd.sizeOf22 1 ?_
       refine gLo Tryd.isAgg22 0 ?_
       refine gFp Tryd.underlying25 Tryd.sizeOf3 0 ?_
       refine gLo Tryd.isAgg3 0 ?_
       refine GoH.callP rfl rfl rfl rfl rfl (fun _ _ => Tryd.call24 _ _) (fun w _ hS => outside_c m.va m.vc m.val m.n hn w (hm.val.ex0 hS.ext) hm.lv) ?_
       refine gMv ?_
       refine GoH.cases (d := 41) rfl (fun hc => ?_) (fun hc => ?_)
       ·
        iterate 4 refine gNo ?_
        refine gPt ?_
        refine gE (GoH.condT rfl (gS (gR ?_)))
        refine gAs ?_
        refine gE ?_
        refine GoH.ret Tryd.f14 Tryd.func14 rfl (fun w' hS => ?_)
        exact ⟨hS.ext, by rw [checkM, if_neg h3, if_neg h6, if_neg h7, if_pos (by rw [hc]; rfl)]; rfl⟩
       ·
        have h8 := hc
        refine gFp Tryd.underlying25 Tryd.sizeOf23 2 ?_
        refine gLo Tryd.isAgg23 0 ?_
        refine GoH.v (Vop.mkFunc rfl rfl rfl rfl rfl) ?_
        refine GoH.callP rfl rfl rfl rfl rfl (fun _ _ => Tryd.call25 _ _) (fun w _ hS => cfR_c [.pointer (some ⟨b1, 0, none⟩)] (fun r => outB m.n.toNat r.xs) (fun _ _ => Tryd.call26 _ _) m.ra m.rc m.rows w (hm.rel.ex0 hS.ext) hm.lr (fun w' he x hx => check1_c x m hn b1 w' ((hm.row x hx).ex0 (hS.ext.trans he (by simp))) (he.keep (hS.get (j := 0) rfl)))) ?_
        refine gPf ?_
        refine gE ?_
        refine GoH.cond rfl (fun hc => ?_) (fun hc => ?_)
        ·
         refine gS (gR ?_)
         refine gAs ?_
         refine gE ?_
         refine GoH.ret Tryd.f14 Tryd.func14 rfl (fun w' hS => ?_)
         exact ⟨hS.ext, by rw [checkM, if_neg h3, if_neg h6, if_neg h7, if_pos (by rw [MV.rel, List.any_map, show m.rows.any (outB m.n.toNat ∘ Row.xs) = _ from hc]; simp)]; rfl⟩
        ·
         refine gK (gS (gR ?_))
         refine gAs ?_
         refine gE ?_
         refine GoH.ret Tryd.f14 Tryd.func14 rfl (fun w' hS => ?_)
         exact ⟨hS.ext, by rw [checkM, if_neg h3, if_neg h6, if_neg h7, if_neg (by rw [h8, MV.rel, List.any_map, show m.rows.any (outB m.n.toNat ∘ Row.xs) = _ from hc]; simp)]; rfl⟩
end Go.Proofs.YthojdcaojjmoaaaDoor
namespace Go.Proofs.YthojdcaojjmoaaaDoor
open Go.RowKit Go.Proofs.Wit
theorem few_c (m : MV) (x : Int) (w : World) (hm : m.At w) : Cn Tryd.prog 4 [m.v, .int .i64 x] w (fun v _ => ∃ b, v = .bool b) := by
  have hlr := hm.lr
  unfold maxLen at hlr
  refine Cn.of Tryd.func4 rfl rfl ?_
  refine gS (gR ?_)
  refine GoH.bx rfl rfl rfl rfl (fun b2 => ?_)
  refine gAs ?_
  refine gE (gS (gS ?_))
  refine GoH.regionK (α := Bool) [] (fun b => [(2, .pointer (some ⟨b2, 0, none⟩)), (26, .bool b)]) (fun _ => [(some b2, .cells m.v.cells 25 (0, 0))]) (fun b => ?_) (fun K => ?_)
  · -- what comes behind the region
   refine gE ?_
   refine GoH.cond rfl (fun hc => ?_) (fun hc => ?_)
   ·
    refine gS (gR ?_)
    refine gAs ?_
    refine gE ?_
    refine GoH.ret Tryd.f4 Tryd.func4 rfl (fun w' hS => ?_)
    exact ⟨hS.ext, _, rfl⟩
   ·
    refine gK (gS (gS (gR ?_)))
    refine gAs ?_
    refine gE (gB ?_)
    refine GoH.loop (σ := Nat) (fun k => [(2, .pointer (some ⟨b2, 0, none⟩)), (5, .int .i64 k)]) (fun _ => [(some b2, .cells m.v.cells 25 (0, 0))])
      (fun k => k ≤ m.rows.length) (fun k => m.rows.length - k) 0 (Nat.zero_le _) ⟨rfl, rfl, trivial⟩ (List.Sublist.refl _) (fun k hI IH => ?_)
    refine gS (gS (gR ?_))
    refine gMv ?_
    refine gFp Tryd.underlying25 Tryd.sizeOf23 2 ?_
    refine gLo Tryd.isAgg23 0 ?_
    refine gBl Tryd.underlying23 ?_
    refine gBi bLt ?_
    refine gE ?_
    refine GoH.cond rfl (fun hc => ?_) (fun hc => ?_)
    ·
     have hlt : k < m.rows.length := by simpa using hc
     refine gK (gS (gB (gS (gR ?_))))
     refine gFp Tryd.underlying25 Tryd.sizeOf23 2 ?_
     refine gLo Tryd.isAgg23 0 ?_
     refine gMv ?_
     refine GoH.v (Vop.idx rfl rfl rfl rfl rfl Tryd.underlying23 Tryd.sizeOf22 ⟨_, hm.rel⟩ (by simp) (k) ⟨rfl, by simpa using hlt⟩) ?_
     refine GoH.v (Vop.ld rfl rfl rfl rfl Tryd.isAgg22 (fun w _ hS => (SlR.ex0 hm.rel hS.ext).at (k) hlt)) ?_
     refine gBl Tryd.underlying22 ?_
     refine gBi bGt ?_
     refine gE ?_
     refine GoH.cond rfl (fun hc => ?_) (fun hc => ?_)
     ·
      refine gS (gR ?_)
      refine gAs ?_
      refine gE ?_
      refine GoH.ret Tryd.f4 Tryd.func4 rfl (fun w' hS => ?_)
      exact ⟨hS.ext, _, rfl⟩
     ·
      refine gK (gIb (gR ?_))
      refine gMv ?_
      refine GoH.v (Vop.bin rfl rfl rfl rfl (bAdd (by omega)) rfl) ?_
      refine gAs ?_
      refine gE ?_
      exact IH (k + 1) _ _ hlt (by omega) ⟨rfl, rfl, trivial⟩ (List.Sublist.refl _)
    ·
     refine GoH.exit rfl (gS (gR ?_))
     refine gAs ?_
     refine gE ?_
     refine GoH.ret Tryd.f4 Tryd.func4 rfl (fun w' hS => ?_)
     exact ⟨hS.ext, _, rfl⟩
  · -- the region
   refine gR ?_
   refine gFp Tryd.underlying25 Tryd.sizeOf3 0 ?_
   refine gLo Tryd.isAgg3 0 ?_
   refine gMv ?_
   refine gBi bGt ?_
   refine gMv ?_
   refine GoH.cases (d := 10) rfl (fun hc => ?_) (fun hc => ?_)
   ·
    refine gFp Tryd.underlying25 Tryd.sizeOf3 0 ?_
    refine gLo Tryd.isAgg3 0 ?_
    refine gBi bLe ?_
    refine gPt ?_
    refine gMv ?_
    refine GoH.cases (d := 15) rfl (fun hc => ?_) (fun hc => ?_)
    ·
     iterate 4 refine gNo ?_
     refine gPt ?_
     refine gMv ?_
     iterate 4 refine gNo ?_
     refine gPt ?_
     exact K _ _ _ (by repeat (first | exact SubF.nil | refine SubF.cons rfl ?_)) (fun _ _ hS => hS)
    ·
     refine gFp Tryd.underlying25 Tryd.sizeOf22 1 ?_
     refine gLo Tryd.isAgg22 0 ?_
     refine gBl Tryd.underlying22 ?_
     refine gBi bGt ?_
     refine gPf ?_
     refine gMv ?_
     refine GoH.cases (d := 21) rfl (fun hc => ?_) (fun hc => ?_)
     ·
      iterate 4 refine gNo ?_
      refine gPt ?_
      exact K _ _ _ (by repeat (first | exact SubF.nil | refine SubF.cons rfl ?_)) (fun _ _ hS => hS)
     ·
      refine gFp Tryd.underlying25 Tryd.sizeOf23 2 ?_
      refine gLo Tryd.isAgg23 0 ?_
      refine gBl Tryd.underlying23 ?_
      refine gBi bGt ?_
      refine gPf ?_
      exact K _ _ _ (by repeat (first | exact SubF.nil | refine SubF.cons rfl ?_)) (fun _ _ hS => hS)
   ·
    iterate 3 refine gNo ?_
    refine gPf ?_
    refine gMv ?_
    refine gFp Tryd.underlying25 Tryd.sizeOf22 1 ?_
    refine gLo Tryd.isAgg22 0 ?_
    refine gBl Tryd.underlying22 ?_
    refine gBi bGt ?_
    refine gPf ?_
    refine gMv ?_
    refine GoH.cases (d := 21) rfl (fun hc => ?_) (fun hc => ?_)
    ·
     iterate 4 refine gNo ?_
     refine gPt ?_
     exact K _ _ _ (by repeat (first | exact SubF.nil | refine SubF.cons rfl ?_)) (fun _ _ hS => hS)
    ·
     refine gFp Tryd.underlying25 Tryd.sizeOf23 2 ?_
     refine gLo Tryd.isAgg23 0 ?_
     refine gBl Tryd.underlying23 ?_
     refine gBi bGt ?_
     refine gPf ?_
     exact K _ _ _ (by repeat (first | exact SubF.nil | refine SubF.cons rfl ?_)) (fun _ _ hS => hS)
end Go.Proofs.YthojdcaojjmoaaaDoor
