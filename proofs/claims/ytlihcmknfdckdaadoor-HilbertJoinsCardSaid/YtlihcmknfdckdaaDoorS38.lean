/- Laws of walks, for any program, under the conditions that each theorem states. -/
import Derived.Test.YtlihcmknfdckdaaDoorS36
namespace Go.Proofs.Wit
open Go Go.RowKit
/-! a line more -/
def FV.In0 (t : TypeId) (H : Hl) (x : FV) : Prop := ∃ q sp, (q, obN t x.f sp) ∈ H ∧ x.a = q.map (fun b => ⟨b, 0, none⟩) ∧ (q = none → x.f.length = 0)
theorem FV.In0.mono {t : TypeId} {H H' : Hl} {x : FV} (h : x.In0 t H) (hs : H ⊆ H') : x.In0 t H' := by
 obtain ⟨q, sp, h1, h2, h3⟩ := h
 exact ⟨q, sp, hs h1, h2, h3⟩
theorem FV.In0.at {t : TypeId} {w0 w : World} {S : List Nat} {h : Hl} {Y : List (Nat × Obj)} {x : FV} (g : x.In0 t h) (s : St w0 S w h Y) : FA w x.a x.f := by
 obtain ⟨q, sp, h1, h2, h3⟩ := g
 obtain ⟨j, hj⟩ := List.getElem?_of_mem h1
 rw [h2]
 exact faAt s j hj h3
theorem laAt0 {w0 w : World} {S : List Nat} {h : Hl} {Y : List (Nat × Obj)} (s : St w0 S w h Y) (j : Nat) {q : Option Nat} {ls : List LV} {e : TypeId} {sp : List Value} (hj : h[j]? = some (q, obL e ls sp)) (hq : q = none → ls.length = 0)
  {t : TypeId} (hin : ∀ x ∈ ls, x.f.In0 t h ∧ x.f.f.length ≤ maxLen) : LA w (q.map (fun b => ⟨b, 0, none⟩)) ls := by
 refine ⟨?_, fun x hx => ⟨(hin x hx).1.at s, (hin x hx).2⟩⟩
 cases q with
 | none => rw [List.eq_nil_of_length_eq_zero (hq rfl)]; exact Sl.nil _ _
 | some b => exact Sl.blk (s.get hj)
def OwnLn0 (t tl : TypeId) (w w' : World) (v : Value) (ls : List LV) : Prop := ∃ (q : Option Nat) (cap : Nat) (sp : List Value) (H : Hl), v = osv q ls.length cap ∧ (q = none → ls.length = 0 ∧ cap = 0) ∧ (ls.flatMap LV.cells ++ sp).length = cap * 5 ∧ NewH w w' ((q, obL tl ls sp) :: H) ∧ ∀ x ∈ ls, x.f.In0 t H ∧ x.f.f.length ≤ maxLen
theorem OwnLn0.nil {t tl : TypeId} {w w' : World} : OwnLn0 t tl w w' (.slice none 0 0) [] := ⟨none, 0, [], [], rfl, fun _ => ⟨rfl, rfl⟩, rfl, NewH.nil, fun _ h => by cases h⟩
section
variable {P : Program} {r : Option Nat} {f : FuncId} {R : Value → World → Prop} {w0 : World} {S : List Nat} {Y : List (Nat × Obj)} {n : Nat} {k : List Item} {l : Fl} {h : Hl}
variable {ops : Array Oper} {i d : Nat} {rest : List Nat} {ty : TypeId} {pos : String} {aft : Array Edge} {g : Option (Nat × Bool)}
theorem flatL_snoc {ls : List LV} {x : LV} : (ls ++ [x]).flatMap LV.cells = ls.flatMap LV.cells ++ LV.cells x := by simp
theorem GoH.appL {t e : TypeId} {x y : Operand} {inf : TypeInfo} {z : Value} {q : Option Nat} {ls : List LV} {sp : List Value} {cap : Nat} {bn : Nat} {nl : LV} {en : TypeId} {frn : Nat × Nat}
  (ho : ops[i]? = some ⟨some d, .call ⟨.builtin .append, #[x, y], #[t, t]⟩, ty, pos, aft, g⟩) (hw : wantL ops l g = true) (hx : opd l x = some (osv q ls.length cap)) (hy : opd l y = some (.slice (some ⟨bn, 0, none⟩) 1 1)) (hd : Nat.blt d n = true)
  (hu : P.underlying t = some (.slice e)) (hi : P.info? e = some inf) (hz : inf.zero = some z) (hsz : inf.size = 5) (hz1 : z.cells.size = 5)
  (hq : q = none → ls.length = 0 ∧ cap = 0) (j : Nat) (hj : h[j]? = some (q, obL e ls sp)) (jn : Nat) (hjn : h[jn]? = some (some bn, .cells (LV.cells nl ++ []).toArray en frn))
  (hcap : (ls.flatMap LV.cells ++ sp).length = cap * 5) (hmx : ls.length + 1 ≤ maxLen) (hbytes : (ls.length + 1) * inf.bytes ≤ 140737488355328)
  (hk : ∀ b' sp' cap', ((ls ++ [nl]).flatMap LV.cells ++ sp').length = cap' * 5 → GoH P r f R w0 S Y n (.inRegion ops rest :: k) ((d, osv (some b') (ls ++ [nl]).length cap') :: l) (h.set j (some b', obL e (ls ++ [nl]) sp'))) : GoH P r f R w0 S Y n (.inRegion ops (i :: rest) :: k) l h :=
 .app 5 (xs := ls.flatMap LV.cells) (sp := sp) (nx := ls.length) (q := q) (news := LV.cells nl) (spn := []) ho hw hx hy hd hu hi hz hsz hz1 hq j hj jn hjn flatL hcap rfl (by decide) (fun u hu => by
  simp only [LV.cells, List.mem_cons, List.not_mem_nil, or_false] at hu
  rcases hu with rfl | rfl | rfl | rfl | rfl <;> rfl) hmx hbytes (fun b' sp' cap' hlen => by
  have := hk b' sp' cap' (by rw [flatL_snoc]; exact hlen)
  rw [List.length_append, List.length_singleton, obL, flatL_snoc] at this
  exact this)
end
end Go.Proofs.Wit
