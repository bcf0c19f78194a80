/- Laws of walks, for any program, under the conditions that each theorem states. -/
import Derived.Test.YtlihcmknfdckdaaDoorR21
namespace Go.Proofs.Wit
open Go Go.RowKit
/-! regions that draw their order: reads, one call that leaves new blocks, and what comes behind it -/
section
variable {P : Program} {r : Option Nat} {f : FuncId} {R : Value → World → Prop} {w0 : World} {S : List Nat} {Y : List (Nat × Obj)} {n : Nat} {k : List Item} {l : Fl} {h : Hl} {ops : Array Oper} {c : Nat} {ls : List Nat}
def RdXR (P : Program) (r : Option Nat) (f : FuncId) (R : Value → World → Prop) (w0 : World) (S : List Nat) (Y : List (Nat × Obj)) (n : Nat) (k : List Item) (h : Hl) (ops : Array Oper) (c : Nat) (ls rs : List Nat) (l : Fl) : Prop :=
  RdX P w0 S n (fun h' => ∃ H, h' = h ++ H) ops (fun l' => ∃ d K, Mop P w0 S n h ops c l' d K ∧ ∀ v h', K v h' → (∃ H, h' = h ++ H) ∧ GoH P r f R w0 S Y n (.inRegion ops ls :: k) ((d, v) :: l') h') rs l
theorem GoH.drawXR {id : Nat} (rs : List Nat) (c : Nat) (ls : List Nat) (hmix : P.follows .mixedOrders = true) (hc : drawXOk ops l rs c ls = true) (hg : RdXR P r f R w0 S Y n k h ops c ls rs l) : GoH P r f R w0 S Y n (.code (.region id ops true) :: k) l h :=
  GoH.drawX rs c ls _ hmix hc ⟨[], (List.append_nil h).symm⟩ hg
theorem RdXR.v {i d : Nat} {rs : List Nat} {v : Value} (hv : ∀ H, Vop P w0 S n (h ++ H) ops i l d v) (hg : RdXR P r f R w0 S Y n k h ops c ls rs ((d, v) :: l)) : RdXR P r f R w0 S Y n k h ops c ls (i :: rs) l := by
  obtain ⟨_, _, _, _, _, hd, _⟩ := hv []
  exact RdX.v d v hd (fun h' ⟨H, e⟩ => by subst e; exact hv H) hg
theorem RdXR.call {d : Nat} {ty : TypeId} {pos : String} {aft : Array Edge} {g : Option (Nat × Bool)} {az : Array Operand} {ts : Array TypeId} {cal : Operand} {gf : FuncId} {vs : List Value} (Rc : World → Value → World → Prop) (ho : ops[c]? = some ⟨some d, .call ⟨.value cal, az, ts⟩, ty, pos, aft, g⟩) (hw : wantL ops l g = true)
    (hc : opd l cal = some (.func (.func gf) #[] #[])) (hx : opds l az.toList = some vs) (hd : Nat.blt d n = true) (hcf : ∀ args w, (callFunc gf args).run P w = .ok (.enter gf args) w)
    (hcall : ∀ w Y', St w0 S w h Y' → Cn P gf vs w (Rc w))
    (hk : ∀ v w w' Y', St w0 S w h Y' → Ex [] w w' → Rc w v w' → ∃ H, St w0 S w' (h ++ H) Y' ∧ GoH P r f R w0 S Y n (.inRegion ops ls :: k) ((d, v) :: l) (h ++ H)) : RdXR P r f R w0 S Y n k h ops c ls [] l :=
  RdX.nil ⟨d, fun v h' => (∃ H, h' = h ++ H) ∧ GoH P r f R w0 S Y n (.inRegion ops ls :: k) ((d, v) :: l) h', Mop.call Rc ho hw hc hx hd hcf hcall (fun v w w' Y' hS he hr => by
    obtain ⟨H, h1, h2⟩ := hk v w w' Y' hS he hr
    exact ⟨h ++ H, h1, ⟨H, rfl⟩, h2⟩), fun _ _ hK => hK⟩
end
theorem St.atEnd {w0 w : World} {S : List Nat} {h : Hl} {Y : List (Nat × Obj)} {e : Option Nat × Obj} (s : St w0 S w (e :: h) Y) : St w0 S w (h ++ [e]) Y := s.perm (List.perm_append_singleton e h).symm
end Go.Proofs.Wit
