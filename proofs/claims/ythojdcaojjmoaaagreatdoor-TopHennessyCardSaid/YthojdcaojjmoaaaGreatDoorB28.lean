/- Laws of walks, for any program, under the conditions that each theorem states. -/
import Derived.Test.YthojdcaojjmoaaaGreatDoorB27
namespace Go.Proofs.Wit
open Go Go.RowKit
/-! how the memo grows -/
/-- a formula that lay in memory, or lies in known blocks -/
def FAt (t : TypeId) (w : World) (H : Hl) (x : FV) : Prop := FA w x.a x.f ∨ x.In t H
theorem FAt.at {t : TypeId} {w0 w w' : World} {mD : Nat} {es : Array MapEntry} {k : Nat} {h : Hl} {Y : List (Nat × Obj)} {H : Hl} {x : FV} (g : FAt t w H x) (hm : w.heap[mD]? = some (.map es k)) (e : Ex [mD] w w') (s : St w0 [mD] w' h Y) (hs : H ⊆ h) : FA w' x.a x.f := by
  rcases g with g | g
  · exact g.exM hm e
  · exact (g.mono hs).at s
structure Grew (t : TypeId) (n : Nat) (val : List W64) (rel : List (List W64)) (d : Nat) (L L' : Mm) (F : Hl) : Prop where
  memo : Memo n val rel L'
  sub : L ⊆ L'
  nw : ∀ e ∈ L', e ∈ L ∨ ∃ a b i : Nat, e.1 = ((a : Int), (b : Int)) ∧ dst n val rel a b = some i ∧ i < d
  at_ : ∀ e ∈ L', e ∈ L ∨ e.2.In t F
section
variable {t : TypeId} {n : Nat} {val : List W64} {rel : List (List W64)}
theorem Grew.refl {d : Nat} {L : Mm} (h : Memo n val rel L) : Grew t n val rel d L L [] := ⟨h, fun _ h => h, fun _ h => .inl h, fun _ h => .inl h⟩
/-- one growth after the other -/
theorem Grew.seq {d d' : Nat} {L L' L'' : Mm} {F F' H : Hl} (h : Grew t n val rel d L L' F) (g : Grew t n val rel d' L' L'' F') (hd : d' ≤ d) (h1 : F ⊆ H) (h2 : F' ⊆ H) : Grew t n val rel d L L'' H :=
  ⟨g.memo, fun _ hx => g.sub (h.sub hx), fun e he => by
    rcases g.nw e he with h1 | ⟨a, b, i, h1, h2, h3⟩
    · exact h.nw e h1
    · exact .inr ⟨a, b, i, h1, h2, Nat.lt_of_lt_of_le h3 hd⟩, fun e he => by
    rcases g.at_ e he with h3 | h3
    · exact (h.at_ e h3).imp id (fun h => h.mono h1)
    · exact .inr (h3.mono h2)⟩
theorem Grew.mono {d : Nat} {L L' : Mm} {F F' : Hl} (h : Grew t n val rel d L L' F) (hs : F ⊆ F') : Grew t n val rel d L L' F' := ⟨h.memo, h.sub, h.nw, fun e he => (h.at_ e he).imp id (fun h => h.mono hs)⟩
theorem Grew.fat {w : World} {d : Nat} {L L' : Mm} {F : Hl} (h : Grew t n val rel d L L' F) (ha : ∀ e ∈ L, FA w e.2.a e.2.f) : ∀ e ∈ L', FAt t w F e.2 := fun e he => (h.at_ e he).imp (ha e) id
theorem bldF_poss (hv : ValM (n : Int) val rel) {a : Nat} (ha : a < rel.length) {t : Tr} (ht : t.ok) : bldF ⟨10, a, 0, 0, 0, 0⟩ [bT t] = bT (.un 10 a 0 0 t) := by
  have h4 := hv.agents
  exact bld_un ht (by decide) rfl rfl (poss_ok (by omega) ht).2.2.2.1
theorem bldF_not {t : Tr} (ht : t.ok) : bldF ⟨4, 0, 0, 0, 0, 0⟩ [bT t] = bT (.un 4 0 0 0 t) := bld_un ht (by decide) rfl rfl rfl
theorem make_lit {L : Mm} {v w i : Nat} {y : Bool} (h : TellT n val rel v w 0 (litT i y)) : MakeP n val rel v w 0 L (bT (litT i y)) := by
  refine .inr ⟨_, h, rfl, fun _ U hU => ?_⟩
  have h1 := hU.snoc (t := .leaf 3 i 0 0) (fun c hc => by cases hc)
  have h2 := h1.snoc (t := .un 4 0 0 0 (.leaf 3 i 0 0)) (fun c hc => by rw [List.mem_singleton.1 hc]; simp)
  refine ⟨_, h2, by simp, ?_⟩
  unfold litT; split <;> simp
theorem make_poss (hv : ValM (n : Int) val rel) {L : Mm} {v w k a u : Nat} {ys : List Nat} {f : List NV} (hvn : v < n) (hwn : w < n) (ha : a < rel.length) (hu : Rl (rel.getD a []) v u) (hys : ∀ y, Rl (rel.getD a []) w y → y ∈ ys) (hyl : ys.length ≤ n) (h : AllP n val rel u k ys L f) : MakeP n val rel v w (k + 1) L (bldF ⟨10, a, 0, 0, 0, 0⟩ [f]) := by
  rcases h with ⟨rfl, h5⟩ | ⟨ts, hT, rfl, hU⟩
  · exact .inl ⟨bldF_bad ⟨[], by simp, by decide⟩, h5⟩
  · refine .inr ⟨.un 10 a 0 0 (conjT ts), told_poss hv hvn hwn ha hu hys hT, bldF_poss hv ha (conjT_ok hT.ok), fun h5 U k1 => ?_⟩
    obtain ⟨U', k2, k3, k4⟩ := hU U k1 (by omega) h5
    exact ⟨_, k2.snoc (t := .un 10 a 0 0 (conjT ts)) (fun c hc => by rw [List.mem_singleton.1 hc]; exact k4), by rw [List.length_append, List.length_singleton]; omega, by simp⟩
theorem make_dual (hv : ValM (n : Int) val rel) {L : Mm} {v w k a u : Nat} {ys : List Nat} {f : List NV} (hvn : v < n) (hwn : w < n) (ha : a < rel.length) (hu : Rl (rel.getD a []) w u) (hys : ∀ y, Rl (rel.getD a []) v y → y ∈ ys) (hyl : ys.length ≤ n) (h : AllP n val rel u k ys L f) : MakeP n val rel v w (k + 1) L (bldF ⟨4, 0, 0, 0, 0, 0⟩ [bldF ⟨10, a, 0, 0, 0, 0⟩ [f]]) := by
  have h64 := hv.n64
  rcases h with ⟨rfl, h5⟩ | ⟨ts, hT, rfl, hU⟩
  · exact .inl ⟨bldF_bad ⟨bldF ⟨10, a, 0, 0, 0, 0⟩ [[]], by simp, by rw [bldF_bad ⟨[], by simp, by decide⟩]; decide⟩, h5⟩
  · have hp := told_poss hv hwn hvn ha hu hys hT
    refine .inr ⟨.un 4 0 0 0 (.un 10 a 0 0 (conjT ts)), hp.dual (by omega) hwn hvn, by rw [bldF_poss hv ha (conjT_ok hT.ok), bldF_not hp.ok], fun h5 U k1 => ?_⟩
    obtain ⟨U', k2, k3, k4⟩ := hU U k1 (by omega) h5
    have k5 := k2.snoc (t := .un 10 a 0 0 (conjT ts)) (fun c hc => by rw [List.mem_singleton.1 hc]; exact k4)
    exact ⟨_, k5.snoc (t := .un 4 0 0 0 (.un 10 a 0 0 (conjT ts))) (fun c hc => by rw [List.mem_singleton.1 hc]; simp), by simp only [List.length_append, List.length_singleton]; omega, by simp⟩
theorem Fo.le {v w k : Nat} {f : List NV} (h : Fo n val rel v w k f) : f.length ≤ 200 := by
  rcases h with ⟨rfl, _⟩ | ⟨t, _, rfl, _⟩
  · simp
  · exact bT_le t
/-- a pair that is apart later than all new ones is not among them -/
theorem Grew.key {d : Nat} {L L' : Mm} {F : Hl} (h : Grew t n val rel d L L' F) {v x k : Nat} (hd : dst n val rel v x = some k) (hk : d ≤ k) (hL : ((v : Int), (x : Int)) ∉ L.map (·.1)) : ((v : Int), (x : Int)) ∉ L'.map (·.1) := fun hm => by
  obtain ⟨e, he, h1⟩ := List.mem_map.1 hm
  rcases h.nw e he with h2 | ⟨a, b, i, h2, h3, h4⟩
  · exact hL (h1 ▸ List.mem_map.2 ⟨e, h2, rfl⟩)
  · rw [h2, Prod.mk.injEq] at h1
    obtain ⟨rfl, rfl⟩ : a = v ∧ b = x := ⟨by omega, by omega⟩
    rw [hd] at h3
    have := Option.some.inj h3
    omega
/-- an entry's pair -/
theorem Memo.get {L : Mm} (h : Memo n val rel L) {v x k : Nat} {fv : FV} (hd : dst n val rel v x = some k) (he : (((v : Int), (x : Int)), fv) ∈ L) : Fo n val rel v x k fv.f := by
  obtain ⟨a, b, i, h1, _, _, h2, h3⟩ := h.ent _ he
  rw [Prod.mk.injEq] at h1
  obtain ⟨rfl, rfl⟩ : v = a ∧ x = b := ⟨by omega, by omega⟩
  rw [hd] at h2
  rw [Option.some.inj h2]; exact h3
theorem all_le {x k : Nat} {ys : List Nat} {ts : List Tr} (h : TellL n val rel x k ys ts) : (bldAll (ts.map bT)).length ≤ 200 := by rw [bldAll_bT h.ok]; exact bT_le _
end
/-- new blocks: some in front, the others behind -/
theorem St.gainPre {w0 w w' : World} {S : List Nat} {h : Hl} {Y : List (Nat × Obj)} (s : St w0 S w h Y) (e : Ex [] w w') {pre HR : Hl} (g : NewH w w' (pre ++ HR)) : St w0 S w' (pre ++ (h ++ HR)) Y := by
  refine (s.gainL e g).perm ?_
  rw [List.append_assoc]
  exact List.perm_append_comm.append_left pre
theorem GoH.permH {P : Program} {r : Option Nat} {f : FuncId} {R : Value → World → Prop} {w0 : World} {S : List Nat} {Y : List (Nat × Obj)} {n : Nat} {k : List Item} {l : Fl} {h h' : Hl} (hp : h.Perm h') (hg : GoH P r f R w0 S Y n k l h') : GoH P r f R w0 S Y n k l h := fun t w Ds hF hS => hg t w Ds hF (hS.perm hp)
theorem perm_mid {a c : Option Nat × Obj} {F G : Hl} : ((a :: F) ++ (c :: G)).Perm (a :: c :: (F ++ G)) := by
  rw [List.cons_append]
  exact (List.perm_middle).cons a
theorem perm_mid2 {a c d : Option Nat × Obj} {F : Hl} : ((a :: F) ++ [c, d]).Perm (a :: c :: d :: F) := by
  rw [List.cons_append]
  refine List.Perm.cons a ?_
  have := List.perm_append_comm (l₁ := F) (l₂ := [c, d])
  exact this
end Go.Proofs.Wit
namespace Go.Proofs.Wit
open Go Go.RowKit
theorem usX_cases {op : Int} (h : 1 ≤ op ∧ op ≤ 21) : op = 1 ∨ op = 2 ∨ op = 3 ∨ op = 4 ∨ op = 5 ∨ op = 6 ∨ op = 7 ∨ op = 8 ∨ op = 9 ∨ op = 10 ∨ op = 11 ∨ op = 12 ∨ op = 13 ∨ op = 14 ∨ op = 15 ∨ op = 16 ∨ op = 17 ∨ op = 18 ∨ op = 19 ∨ op = 20 ∨ op = 21 := by omega
/-- an operand, that is there if it is used -/
def Opd (w : World) (u : Bool) (x : FV) (t : Tr) : Prop := u = true → FA w x.a x.f ∧ x.f = bT t ∧ t.ok
abbrev FV.z : FV := ⟨none, 0, []⟩
/-- what a rule returns: a new list, or one that it was given -/
def RvP (t : TypeId) (w w' : World) (v : Value) (a b : FV) (u : Tr) : Prop := ∃ fv : FV, v = fv.v ∧ fv.f = bT u ∧ (OwnN t w w' v fv.f ∨ fv = a ∨ fv = b)
/-- a function that does what a rule says -/
structure RulC (P : Program) (t : TypeId) (r : Rul) (gf : FuncId) (cs : List Value) (w0 : World) : Prop where
  enter : ∀ args w, (callFunc gf args).run P w = .ok (.enter gf args) w
  run : ∀ w, Ex [] w0 w → ∀ (n : NV) (a b : FV) (ta tb : Tr), (1 ≤ n.op ∧ n.op ≤ 21) → fldE n.op n.i n.e n.g = 0 → Opd w (usX n.op) a ta → Opd w (usY n.op) b tb → (usX n.op = true → a.f ≠ []) → (usY n.op = true → b.f ≠ []) → Cn P gf ([n.v, a.v, b.v] ++ cs) w (fun v w' => RvP t w w' v a b (r n.op n.i n.e n.g ta tb))
end Go.Proofs.Wit
namespace Go.Proofs.Wit
open Go Go.RowKit
/-- a list that is a formula, not too long -/
structure Cf (f : List NV) (t : Tr) : Prop where
  eq : f = bT t
  ne : f ≠ []
  ok : t.ok
end Go.Proofs.Wit
namespace Go.Proofs.Wit
open Go Go.RowKit
/-- formulas of a list, by their trees -/
structure ClIs (t : TypeId) (H : Hl) (gs : List FV) (ts : List Tr) : Prop where
  eq : gs.map FV.f = ts.map bT
  cf : ∀ u ∈ ts, u.ok ∧ bT u ≠ []
  in_ : ∀ g ∈ gs, g.In t H
theorem compF_nodes (f : List NV) : NodesOk (compF f) := by
  by_cases h : chkF f = 0
  · exact (compF_ok h).nodes
  · rw [compF, if_pos h]; intro i hi; exact absurd hi (Nat.not_lt_zero _)
end Go.Proofs.Wit
