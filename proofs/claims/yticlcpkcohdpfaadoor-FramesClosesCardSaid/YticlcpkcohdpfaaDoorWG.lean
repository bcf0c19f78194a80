/- Laws of a calculus of walks, proved for any program: no condition beyond those that each theorem states. -/
import Derived.Test.YticlcpkcohdpfaaDoorWF
import Derived.Test.YticlcpkcohdpfaaDoorWB
namespace Go.Proofs.Wit
open Go Go.RowKit
theorem GoH.seqK {P : Program} {r : Option Nat} {f : FuncId} {R : Value → World → Prop} {w0 : World} {S : List Nat} {Y : List (Nat × Obj)} {n : Nat} {k : List Item} {l : Fl} {h : Hl} {x y : Code} {α : Type} (lf : α → Fl) (hf : α → Hl)
    (hK : ∀ a, GoH P r f R w0 S Y n (.code y :: k) (lf a) (hf a))
    (hg : (∀ a l h, SubF (lf a) l → (∀ w Y', St w0 S w h Y' → St w0 S w (hf a) Y') → GoH P r f R w0 S Y n (.code y :: k) l h) → GoH P r f R w0 S Y n (.code x :: .code y :: k) l h) : GoH P r f R w0 S Y n (.code x :: .code y :: k) l h :=
  hg (fun a _ _ hl hh => (hK a).sub' hl hh)
theorem bMulE {P : Program} {t : TypeId} {a b c : Int} (e : a * b = c) (h : -9223372036854775808 ≤ c ∧ c ≤ 9223372036854775807) : Bin P .mul t (.int .i64 a) (.int .i64 b) (.int .i64 c) := by
  subst e
  intro x y w
  have h1 : IntKind.i64.wrap (a * b) = a * b := IntWalk.i64_in _ (by omega)
  have h2 : eqGuard .mul t x y (.int .i64 a) (.int .i64 b) = pure () := by unfold eqGuard; rfl
  rw [h2]
  show (pure (Value.int .i64 (IntKind.i64.wrap (a * b))) : Sem Value).run P w = _
  rw [h1]; rfl
/-! transitive and euclidean closing, by turns -/
theorem eucl_comp {r : List W64} (hv : Val r) (he : euclR r) : Least tranR r (compW r r) ∧ euclR (compW r r) := by
  have refl : ∀ {a x : Nat}, Rl r a x → Rl r x x := fun h => he _ _ _ h h
  have symm : ∀ {a u v : Nat}, Rl r a u → Rl r u v → Rl r v u := fun h1 h2 => he _ _ _ h2 (refl h1)
  have tran : ∀ {a x y z : Nat}, Rl r a x → Rl r x y → Rl r y z → Rl r x z := fun h1 h2 h3 => he _ _ _ (symm h1 h2) h3
  refine ⟨⟨compW_val hv hv rfl, ⟨by rw [compW_length], fun u v h => compW_bit.2 ⟨v, h, refl h⟩⟩, fun u v x h1 h2 => ?_, fun c _ hle ht => ⟨by rw [compW_length]; exact hle.len, fun u v h => ?_⟩⟩, fun u v x h1 h2 => ?_⟩
  · obtain ⟨y, h3, h4⟩ := compW_bit.1 h1
    obtain ⟨z, h5, h6⟩ := compW_bit.1 h2
    exact compW_bit.2 ⟨y, h3, tran h3 (tran h3 h4 h5) h6⟩
  · obtain ⟨y, h3, h4⟩ := compW_bit.1 h
    exact ht _ _ _ (hle.sub _ _ h3) (hle.sub _ _ h4)
  · obtain ⟨y, h3, h4⟩ := compW_bit.1 h1
    obtain ⟨z, h5, h6⟩ := compW_bit.1 h2
    have h7 : Rl r y z := he _ _ _ h3 h5
    exact compW_bit.2 ⟨z, tran h4 (symm h3 h4) h7, h6⟩
theorem tran_keeps {r c : List W64} (hv : Val r) (he : euclR r) (h : Least tranR r c) : euclR c := by
  obtain ⟨h1, h2⟩ := eucl_comp hv he
  rw [h.uniq h1]; exact h2
/-- one round of the reference -/
def Turn (ps : List Int) (x z : List W64) : Prop := ∃ y, (if 4 ∈ ps then Least tranR x y else y = x) ∧ (if 5 ∈ ps then Least euclR y z else z = y)
/-- what is known behind i rounds -/
structure Clos (ps : List Int) (r : List W64) (i : Nat) (x : List W64) : Prop where
  val : Val x
  le : Le r x
  min : ∀ c, Val c → Le r c → closP ps c → Le x c
  refl : 2 ∈ ps → reflR x
  tran : 1 ≤ i → 4 ∈ ps → ¬ 5 ∈ ps → tranR x
  eucl : 1 ≤ i → 5 ∈ ps → euclR x
  both : 2 ≤ i → 5 ∈ ps → tranR x
theorem refl_le {x y : List W64} (h : reflR x) (hle : Le x y) : reflR y := fun w hw => hle.sub _ _ (h w (by rw [hle.len]; exact hw))
theorem Clos.turn {ps : List Int} {r x z : List W64} {i : Nat} (h : Clos ps r i x) (h54 : 5 ∈ ps → 4 ∈ ps) (ht : Turn ps x z) : Clos ps r (i + 1) z := by
  obtain ⟨y, h1, h2⟩ := ht
  by_cases h5 : (5 : Int) ∈ ps
  · have h4 := h54 h5
    rw [if_pos h4] at h1
    rw [if_pos h5] at h2
    refine ⟨h2.val, (h.le.trans h1.le).trans h2.le, fun c a1 a2 a3 => h2.least c a1 (h1.least c a1 (h.min c a1 a2 a3) (a3.2.1 h4)) (a3.2.2 h5), fun a => refl_le (refl_le (h.refl a) h1.le) h2.le, fun _ _ a => absurd h5 a, fun _ _ => h2.has, fun hi _ => ?_⟩
    have he : euclR y := tran_keeps h.val (h.eucl (by omega) h5) h1
    have e : z = y := (h2.least y h1.val (.refl _) he).antisymm h2.le
    rw [e]; exact h1.has
  · rw [if_neg h5] at h2
    subst h2
    by_cases h4 : (4 : Int) ∈ ps
    · rw [if_pos h4] at h1
      exact ⟨h1.val, h.le.trans h1.le, fun c a1 a2 a3 => h1.least c a1 (h.min c a1 a2 a3) (a3.2.1 h4), fun a => refl_le (h.refl a) h1.le, fun _ _ _ => h1.has, fun _ a => absurd a h5, fun _ a => absurd a h5⟩
    · rw [if_neg h4] at h1
      subst h1
      exact ⟨h.val, h.le, h.min, h.refl, fun _ a _ => absurd a h4, fun _ a => absurd a h5, fun _ a => absurd a h5⟩
theorem Clos.done {ps : List Int} {r x : List W64} {i : Nat} (h : Clos ps r i x) (hi : 2 * r.length < i) : Least (closP ps) r x := by
  refine ⟨h.val, h.le, ?_, h.min⟩
  rcases Nat.eq_zero_or_pos r.length with h0 | h0
  · have hx : x.length = 0 := by rw [← h.le.len]; exact h0
    have hno : ∀ u v, ¬ Rl x u v := fun u v hh => by have := hh.dom; omega
    exact ⟨fun _ w hw => by omega, fun _ u v y h1 => absurd h1 (hno _ _), fun _ u v y h1 => absurd h1 (hno _ _)⟩
  · refine ⟨h.refl, fun h4 => ?_, fun h5 => h.eucl (by omega) h5⟩
    by_cases h5 : (5 : Int) ∈ ps
    · exact h.both (by omega) h5
    · exact h.tran (by omega) h4 h5
theorem propsL_54 {l : Int} (h : (5 : Int) ∈ propsL l) : (4 : Int) ∈ propsL l := by
  unfold propsL at h ⊢
  repeat' (split at h)
  all_goals simp_all
end Go.Proofs.Wit
namespace Go.Proofs.Wit
open Go Go.RowKit
theorem ClosedM.uniq {n : Int} {val : List W64} {rel : List (List W64)} {l : Int} {n1 n2 : Int} {val1 val2 : List W64} {rel1 rel2 : List (List W64)} (h : ClosedM n val rel l n1 val1 rel1) (g : ClosedM n val rel l n2 val2 rel2) : n1 = n2 ∧ val1 = val2 ∧ rel1 = rel2 := by
  unfold ClosedM at h g
  split at h
  · rename_i h0
    rw [if_pos h0] at g
    obtain ⟨rfl, rfl, rfl⟩ := h
    obtain ⟨rfl, rfl, rfl⟩ := g
    exact ⟨rfl, rfl, rfl⟩
  · rename_i h0
    rw [if_neg h0] at g
    obtain ⟨rfl, rfl, hl1, h1⟩ := h
    obtain ⟨rfl, rfl, hl2, h2⟩ := g
    refine ⟨rfl, rfl, List.ext_getElem (by omega) (fun i a1 a2 => ?_)⟩
    have hi : i < rel.length := by omega
    obtain ⟨c, e1, e2⟩ := h1 i _ (List.getElem?_eq_getElem hi)
    obtain ⟨d, e3, e4⟩ := h2 i _ (List.getElem?_eq_getElem hi)
    rw [List.getElem?_eq_getElem a1] at e2
    rw [List.getElem?_eq_getElem a2] at e4
    rw [Option.some.inj e2, Option.some.inj e4, e1.uniq e3]
/-- new blocks: some in front, the others behind -/
theorem St.gainM {w0 w w' : World} {S : List Nat} {h : Hl} {Y : List (Nat × Obj)} (s : St w0 S w h Y) (e : Ex [] w w') {pre HR : Hl} (g : NewH w w' (pre ++ HR)) : St w0 S w' (pre ++ (h ++ HR)) Y := by
  refine (s.gainL e g).perm ?_
  rw [List.append_assoc]
  exact List.perm_append_comm.append_left pre
end Go.Proofs.Wit
