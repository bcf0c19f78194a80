/- Contracts of functions of the program: what each call returns and that nothing else of memory is turned, under the conditions that each theorem states. -/
import Derived.Test.YtpifbcbdbkbbjaaDoorT5
namespace Go.Proofs.YtpifbcbdbkbbjaaDoor
open Go.RowKit Go.Proofs.Wit

/-- an owned list and a code -/
def OwnE (w w' : World) (v : Value) (p : List W64 × Int) : Prop := ∃ sv, v = .tuple #[sv, .int .i64 p.2] ∧ Own w w' sv p.1
theorem own_nil (w w' : World) : Own w w' (.slice none 0 0) [] := ⟨none, 0, [], rfl, fun _ => ⟨rfl, rfl⟩, rfl, fun _ h => by cases h⟩
theorem ownAt {w0 w : World} {h : Hl} {Y : List (Nat × Obj)} (s : St w0 [] w h Y) {q : Option Nat} {xs : List W64} {sp : List Value} (j : Nat) (hj : h[j]? = some (q, ob U 44 xs sp)) {m c : Nat} (hm : m = xs.length) (hq : q = none → xs.length = 0 ∧ c = 0) (hcap : (xs.map U ++ sp).length = c) : Own w0 w (osv q m c) xs := by
  subst hm
  exact ⟨q, c, sp, rfl, hq, hcap, fun b' hb => by subst hb; exact ⟨s.fresh hj, s.get hj⟩⟩
theorem gainO {w0 w w' : World} {S : List Nat} {h : Hl} {Y : List (Nat × Obj)} (s : St w0 S w h Y) (e : Ex [] w w') {v : Value} {xs : List W64} (ho : Own w w' v xs) :
    ∃ q cap sp, v = osv q xs.length cap ∧ (q = none → xs.length = 0 ∧ cap = 0) ∧ (xs.map U ++ sp).length = cap ∧ St w0 S w' ((q, ob U 44 xs sp) :: h) Y := by
  obtain ⟨q, cap, sp, h1, h2, h3, h4⟩ := ho
  refine ⟨q, cap, sp, h1, h2, h3, ?_⟩
  cases q with
  | none => exact (s.later e).none _
  | some b => exact s.gain e (h4 b rfl).2 rfl (h4 b rfl).1
theorem sluAt {w0 w : World} {S : List Nat} {h : Hl} {Y : List (Nat × Obj)} (s : St w0 S w h Y) {q : Option Nat} {xs : List W64} {sp : List Value} (j : Nat) (hj : h[j]? = some (q, ob U 44 xs sp)) {c : Nat} (hq : q = none → xs.length = 0 ∧ c = 0) : SlU w (q.map (fun b => ⟨b, 0, none⟩)) xs :=
  .blk (fun e => List.eq_nil_of_length_eq_zero (hq e).1) (fun b e => by subst e; exact s.get hj)

def convR (r : List W64) : List W64 × Int := if checkR r.length r ≠ 0 then ([], checkR r.length r) else (revR r, 0)
def compR (r s : List W64) : List W64 × Int := if twoR r s ≠ 0 then ([], twoR r s) else (flm (fun w _ => mapR s (r.getD w 0#64)) (List.replicate r.length 0#64) r.length, 0)
def unionR (r s : List W64) : List W64 × Int := if twoR r s ≠ 0 then ([], twoR r s) else (flm (fun w x => x ||| s.getD w 0#64) r r.length, 0)
def meetR (r s : List W64) : List W64 × Int := if twoR r s ≠ 0 then ([], twoR r s) else (flm (fun w x => x &&& s.getD w 0#64) r r.length, 0)
end Go.Proofs.YtpifbcbdbkbbjaaDoor
