/- Laws of a calculus of walks, proved for any program: no condition beyond those that each theorem states. -/
import Derived.Test.YtoiafcoaeomnlaaDoorWgrow
namespace Go.Proofs.Wit
open Go Go.RowKit
/-! calls that turn one block of the caller's -/
/-- a callee that turns the block q at most -/
def CnT (P : Program) (gf : FuncId) (args : List Value) (w : World) (q : Option Nat) (Rc : Value → World → Prop) : Prop :=
  Calls P gf args.toArray w fun e w' => ∃ v, e = .returned v ∧ Ex q.toList w w' ∧ Rc v w'
section
variable {w0 w w' : World} {S : List Nat} {h : Hl} {Y : List (Nat × Obj)}
theorem St.noneSet (s : St w0 S w h Y) (j : Nat) (o : Obj) : St w0 S w (h.set j ((Option.none : Option Nat), o)) Y := by
  refine ⟨s.ext, fun p hp c hc => ?_, ?_, s.sys, s.ynd⟩
  · obtain ⟨i, hi⟩ := List.mem_iff_getElem?.1 hp
    rw [List.getElem?_set] at hi
    split at hi
    · simp at hi; obtain ⟨_, rfl⟩ := hi; cases hc
    · exact s.own p (List.mem_of_getElem? hi) c hc
  · rw [List.pairwise_iff_getElem]
    intro i i' hi hi' hlt c hc hc'
    rw [List.length_set] at hi hi'
    rw [List.getElem_set] at hc hc'
    split at hc
    · cases hc
    · split at hc'
      · cases hc'
      · exact List.pairwise_iff_getElem.1 s.apart i i' hi hi' hlt c hc hc'
theorem St.turned (s : St w0 S w h Y) {j : Nat} {q : Option Nat} {o o' : Obj} (hj : h[j]? = some (q, o)) (ho : isSys o' = false) (e : Ex q.toList w w') (hb : ∀ b, q = some b → w'.heap[b]? = some o') : St w0 S w' (h.set j (q, o')) Y := by
  cases q with
  | none => exact (s.later e).noneSet j o'
  | some b => exact s.turn hj ho e.os e.tape e.output e.size (hb b rfl) (fun i hi hn => e.block i hi (by simpa using hn))
theorem st_one {w : World} {q : Option Nat} {o : Obj} (ho : isSys o = false) (hb : ∀ b, q = some b → w.heap[b]? = some o) : St w q.toList w [(q, o)] [] := by
  refine ⟨Ex.refl _ _, fun p hp b hpb => ?_, List.pairwise_singleton _ _, by simp, by simp⟩
  obtain rfl := List.mem_singleton.1 hp
  simp only at hpb; subst hpb
  exact ⟨hb b rfl, ho, .inr (by simp)⟩
variable {P : Program} {f : FuncId} {R : Value → World → Prop} {r : Option Nat} {n : Nat} {k : List Item} {l : Fl} {fn : Func}
theorem CnT.of {c : Code} {args : List Value} {q : Option Nat} {o : Obj} {Rc : Value → World → Prop} (hf : P.funcs[f]? = some fn) (hb : fn.body = some c) (hn : Nat.ble args.length fn.ntmps = true)
    (ho : isSys o = false) (hq : ∀ b, q = some b → w0.heap[b]? = some o)
    (hgo : GoH P none f (fun v w' => Ex q.toList w0 w' ∧ Rc v w') w0 q.toList [] fn.ntmps [.code c] (parL 0 args) [(q, o)]) : CnT P f args w0 q Rc := by
  unfold CnT; exact calls_of hf hb hn _ (st_one ho hq) hgo
variable {ops : Array Oper} {i d : Nat} {rest : List Nat} {ty : TypeId} {pos : String} {aft : Array Edge} {g : Option (Nat × Bool)}
theorem GoH.callT {az : Array Operand} {ts : Array TypeId} {cal : Operand} {gf : FuncId} {vs : List Value} {q : Option Nat} {o : Obj} (o' : Obj) (j : Nat) (ho : ops[i]? = some ⟨some d, .call ⟨.value cal, az, ts⟩, ty, pos, aft, g⟩) (hw : wantL ops l g = true)
    (hc : opd l cal = some (.func (.func gf) #[] #[])) (hx : opds l az.toList = some vs) (hd : Nat.blt d n = true) (hj : h[j]? = some (q, o)) (hs : isSys o' = false) (hcf : ∀ args w, (callFunc gf args).run P w = .ok (.enter gf args) w)
    (hcall : ∀ w Y', St w0 S w h Y' → CnT P gf vs w q (fun _ w' => ∀ b, q = some b → w'.heap[b]? = some o'))
    (hk : ∀ v, GoH P r f R w0 S Y n (.inRegion ops rest :: k) ((d, v) :: l) (h.set j (q, o'))) : GoH P r f R w0 S Y n (.inRegion ops (i :: rest) :: k) l h :=
  .callG ho hw hc hx hd hcf (fun w Ds hS => ⟨fun u w' => Ex q.toList w w' ∧ ∀ b, q = some b → w'.heap[b]? = some o', by
    have := hcall w Ds hS
    unfold CnT at this
    simpa using this, fun u w' ⟨he, hu⟩ => ⟨_, hS.turned hj hs he hu, hk u⟩⟩)
end
end Go.Proofs.Wit
namespace Go.Proofs.Wit
open Go Go.RowKit
section
variable {P : Program} {r : Option Nat} {f : FuncId} {R : Value → World → Prop} {w0 : World} {S : List Nat} {Y : List (Nat × Obj)} {n : Nat} {k : List Item} {l : Fl} {h : Hl}
variable {ops : Array Oper} {i d : Nat} {rest : List Nat} {ty : TypeId} {pos : String} {aft : Array Edge} {g : Option (Nat × Bool)}
/-- append(out, xs...), xs read, and perhaps empty -/
theorem GoH.appZ {α : Type} (enc : α → Value) {t e : TypeId} {x y : Operand} {inf : TypeInfo} {z : Value} {b0 : Nat} {xs : List α} {sp : List Value} {cap : Nat} {an : Option Addr} {m c : Nat} (news : List α)
    (ho : ops[i]? = some ⟨some d, .call ⟨.builtin .append, #[x, y], #[t, t]⟩, ty, pos, aft, g⟩) (hw : wantL ops l g = true) (hx : opd l x = some (osv (some b0) xs.length cap)) (hy : opd l y = some (.slice an m c)) (hd : Nat.blt d n = true)
    (hu : P.underlying t = some (.slice e)) (hi : P.info? e = some inf) (hz : inf.zero = some z) (hsz : inf.size = 1) (hz1 : z.cells.size = 1)
    (j : Nat) (hj : h[j]? = some (some b0, ob enc e xs sp)) (hsl : ∀ w Y', St w0 S w h Y' → Sl w an (news.map enc))
    (hcap : (xs.map enc ++ sp).length = cap) (hl : m = news.length) (h1 : ∀ u, (enc u).oneCell' = true) (hmx : xs.length + m ≤ maxLen) (hbytes : (xs.length + m) * inf.bytes ≤ 140737488355328)
    (hk : ∀ b' sp' cap', ((xs ++ news).map enc ++ sp').length = cap' → GoH P r f R w0 S Y n (.inRegion ops rest :: k) ((d, osv (some b') (xs ++ news).length cap') :: l) (h.set j (some b', ob enc e (xs ++ news) sp'))) : GoH P r f R w0 S Y n (.inRegion ops (i :: rest) :: k) l h := by
  by_cases hm : m = 0
  · subst hm
    obtain rfl : news = [] := List.eq_nil_of_length_eq_zero hl.symm
    have hle : xs.length ≤ cap := by rw [← hcap]; simp
    have := hk b0 sp cap (by rw [List.append_nil]; exact hcap)
    rw [List.append_nil] at this
    have hset : h.set j (some b0, ob enc e xs sp) = h := by
      obtain ⟨h2, h3⟩ := List.getElem?_eq_some_iff.1 hj
      rw [← h3]; exact List.set_getElem_self ..
    rw [hset] at this
    exact GoH.v (Vop.blt (vs := [osv (some b0) xs.length cap, .slice an 0 c]) ho hw (by simp [opds, hx, hy]) (blt_app0 hu hi hle) hd) this
  · exact GoH.appS enc news ho hw hx hy hd hu hi hz hsz hz1 (fun e => by cases e) j hj hsl hcap hl (by omega) h1 hmx hbytes hk
end
end Go.Proofs.Wit
namespace Go.Proofs.Wit
open Go Go.RowKit
/-- a nil slice's entry -/
theorem GoH.addNone {P : Program} {r : Option Nat} {f : FuncId} {R : Value → World → Prop} {w0 : World} {S : List Nat} {Y : List (Nat × Obj)} {n : Nat} {k : List Item} {l : Fl} {h : Hl} (o : Obj)
    (hg : GoH P r f R w0 S Y n k l ((none, o) :: h)) : GoH P r f R w0 S Y n k l h := fun t w Ds hF hS => hg t w Ds hF (hS.none o)
end Go.Proofs.Wit
namespace Go.Proofs.Wit
open Go Go.RowKit
section
variable {P : Program} {r : Option Nat} {f : FuncId} {R : Value → World → Prop} {w0 : World} {S : List Nat} {Y : List (Nat × Obj)} {n : Nat} {k : List Item} {l : Fl} {h : Hl}
variable {ops : Array Oper} {i d : Nat} {rest : List Nat} {ty : TypeId} {pos : String} {aft : Array Edge} {g : Option (Nat × Bool)}
theorem GoH.bs3 {t e : TypeId} {x0 x1 x2 : Operand} {v0 v1 v2 : Value} {inf : TypeInfo} {z : Value} (ho : ops[i]? = some ⟨some d, .buildSlice t 3 #[(0, x0), (1, x1), (2, x2)], ty, pos, aft, g⟩) (hw : wantL ops l g = true) (hx0 : opd l x0 = some v0) (hx1 : opd l x1 = some v1) (hx2 : opd l x2 = some v2) (hd : Nat.blt d n = true)
    (hu : P.underlying t = some (.slice e)) (hi : P.info? e = some inf) (hz : inf.zero = some z) (hsz : inf.size = 1) (hz1 : z.cells = #[z]) (hv0 : v0.cells = #[v0]) (hv1 : v1.cells = #[v1]) (hv2 : v2.cells = #[v2])
    (hk : ∀ b, GoH P r f R w0 S Y n (.inRegion ops rest :: k) ((d, .slice (some ⟨b, 0, none⟩) 3 3) :: l) ((some b, .cells ([v0, v1, v2] ++ []).toArray e) :: h)) : GoH P r f R w0 S Y n (.inRegion ops (i :: rest) :: k) l h :=
  .mem ho hw rfl rfl hd (fun t' w Ds _ hF hS => ⟨.slice (some ⟨w.heap.size, 0, none⟩) 3 3, w.alloc (.cells ([v0, v1, v2] ++ []).toArray e), _, by
    simp [execOp, hF.opd hx0, hF.opd hx1, hF.opd hx2, Instr.buildSlice, run_underlying hu, sizeOf, zeroValue, typeInfo, hi, hsz, hz, Instr.fill, hv0, hv1, hv2, newRow, hz1]
    rw [show Array.range 3 = #[0, 1, 2] from by decide]; simp, hS.alloc rfl, hk _⟩)
end
section
variable {P : Program} {t : TypeId} {a b : Int} {x y : W64} {v : Bool}
theorem bEqV {k : IntKind} (e : (a == b) = v) : Bin P .eql t (.int k a) (.int k b) (.bool v) := e ▸ bEq
theorem bNeV {k : IntKind} (e : (a != b) = v) : Bin P .neq t (.int k a) (.int k b) (.bool v) := e ▸ bNe
theorem bLtV {k : IntKind} (e : decide (a < b) = v) : Bin P .lss t (.int k a) (.int k b) (.bool v) := e ▸ bLt
theorem bGtV {k : IntKind} (e : decide (a > b) = v) : Bin P .gtr t (.int k a) (.int k b) (.bool v) := e ▸ bGt
theorem bEqBV {b c : Bool} (hu : P.underlying t = some .bool) (e : (b == c) = v) : Bin P .eql t (.bool b) (.bool c) (.bool v) := e ▸ bEqB hu
theorem bEqUV (e : (x == y) = v) : Bin P .eql t (U x) (U y) (.bool v) := e ▸ bEqU
theorem bNeUV (e : (x != y) = v) : Bin P .neq t (U x) (U y) (.bool v) := e ▸ bNeU
end
end Go.Proofs.Wit
