/- Laws of walks, for any program, under the conditions that each theorem states. -/
import Derived.Test.YtlihcmknfdckdaaDoorS14
import Derived.Test.YtlihcmknfdckdaaDoorS03
import Derived.Test.YtlihcmknfdckdaaDoorS02
namespace Go.Proofs.Wit
/-! partitions whose worlds agree on a set -/
structure Agr (n : Nat) (P : List Int) (s : W64) : Prop where
  len : P.length = n
  ok : OkP P
  inv : IvX n P s
section
variable {m : Int} {n : Nat} {val : List W64} {rel : List (List W64)} {t : Tr}
end
/-! the groups of a formula's distributed knowledge -/
structure Grps (c : List NV) (k : Nat) (gs : List Int) : Prop where
  has : ∀ (i : Nat) (hi : i < c.length), i < k → c[i].op = 12 → c[i].g ∈ gs
  of : ∀ g ∈ gs, ∃ n ∈ c, n.op = 12 ∧ n.g = g
  nd : gs.Nodup
end Go.Proofs.Wit
namespace Go.Proofs.Wit
open Go
/-! the first number with a property -/
def fst (q : Nat → Bool) : Nat → Option Nat
 | 0 => none
 | k + 1 => match fst q k with
  | some j => some j
  | none => if q k = true then some k else none
/-! rounds that tell two worlds apart -/
def apB (n : Nat) (val : List W64) (rel : List (List W64)) (v w k : Nat) : Bool := (psq n val rel k).getD v 0 != (psq n val rel k).getD w 0
def dst (n : Nat) (val : List W64) (rel : List (List W64)) (v w : Nat) : Option Nat := fst (apB n val rel v w) (dep n val rel + 1)
section
variable {n : Nat} {val : List W64} {rel : List (List W64)}
end
end Go.Proofs.Wit
namespace Go.Proofs.Wit
open Go
/-! formulas that tell worlds apart -/
section
variable {n : Nat} {val : List W64} {rel : List (List W64)}
def Pln (A B : Nat) (t : Tr) : Prop := allL (fun op i g => StatL A B op i g ∧ op ≤ 10) t
structure TellT (n : Nat) (val : List W64) (rel : List (List W64)) (v w k : Nat) (t : Tr) : Prop where
  ok : t.ok
  pl : Pln rel.length val.length t
  yes : (semT n val rel t).getLsbD v = true
  no : (semT n val rel t).getLsbD w = false
  dp : depT t ≤ k
end
end Go.Proofs.Wit
namespace Go.Proofs.Wit
open Go
/-! what is known of the formulas that are made already -/
/-- with a tree its parts -/
def KC (U : List Tr) : Prop := ∀ t ∈ U, ∀ c ∈ kids t, c ∈ U
abbrev Mm := List ((Int × Int) × FV)
section
variable {n : Nat} {val : List W64} {rel : List (List W64)}
def Fo (n : Nat) (val : List W64) (rel : List (List W64)) (v w k : Nat) (f : List NV) : Prop := (f = [] ∧ 5 < n) ∨ ∃ t, TellT n val rel v w k t ∧ f = bT t ∧ f ≠ []
structure Uni (U : List Tr) (L : Mm) : Prop where
  kc : KC U
  top : Tr.leaf 1 0 0 0 ∈ U
  ent : ∀ e ∈ L, ∀ t, t.ok → e.2.f = bT t → e.2.f ≠ [] → t ∈ U
structure Memo (n : Nat) (val : List W64) (rel : List (List W64)) (L : Mm) : Prop where
  nd : (L.map (·.1)).Nodup
  ent : ∀ e ∈ L, ∃ v w k : Nat, e.1 = ((v : Int), (w : Int)) ∧ v < n ∧ w < n ∧ dst n val rel v w = some k ∧ Fo n val rel v w k e.2.f
  uni : n ≤ 5 → ∃ U, Uni U L ∧ U.length ≤ 6 * L.length + 1
end
end Go.Proofs.Wit
namespace Go.Proofs.Wit
/-! rewriting of formulas by rules, from the parts up -/
abbrev Rul := Int → Int → Int → Int → Tr → Tr → Tr
def mkQ : Rul := fun op i e g a b => mkT ⟨op, i, e, g, 0, 0⟩ a b
theorem usX_of_Y {op : Int} (h : usX op = false) : usY op = false := by
 cases e : usY op with
 | false => rfl
 | true => exact absurd ((usY_X e).symm.trans h) (by decide)
theorem bT_ne {t : Tr} : bT t ≠ [] ↔ (canT t).length ≤ 200 := by rw [Ne, bT_nil]; omega
/-! simplification -/
def cT (o : Int) : Tr := .leaf o 0 0 0
def isT : Tr → Int → Bool
 | .leaf op _ _ _, o => op == o
 | _, _ => false
def strT : Tr → Option Tr
 | .un op _ _ _ a => if op = 4 then some a else none
 | _ => none
def ntT (t : Tr) : Tr := .un 4 0 0 0 t
def negT (t : Tr) : Tr := (strT t).getD (ntT t)
def oppT (a b : Tr) : Bool := strT a == some b || strT b == some a
def jointT (op i e g : Int) (a b : Tr) (ne dm : Int) : Tr :=
 if (isT a dm || isT b dm || (oppT a b && !isT a ne && !isT b ne)) = true then cT dm
 else if isT a ne = true then b else if (isT b ne || a == b) = true then a else mkQ op i e g a b
def condT (a b : Tr) : Tr :=
 if (isT a 2 || isT b 1 || a == b) = true then cT 1 else if isT a 1 = true then b else if isT b 2 = true then negT a else mkQ 7 0 0 0 a b
def equT (a b : Tr) : Tr :=
 if (a == b) = true then cT 1 else if oppT a b = true then cT 2 else if isT a 1 = true then b else if isT b 1 = true then a
 else if isT a 2 = true then negT b else if isT b 2 = true then negT a else mkQ 8 0 0 0 a b
def simT : Rul := fun op i e g a b =>
 if op = 4 then (if isT a 1 = true then cT 2 else if isT a 2 = true then cT 1 else negT a)
 else if op = 5 then jointT op i e g a b 1 2
 else if op = 6 then jointT op i e g a b 2 1
 else if op = 7 then condT a b
 else if op = 8 then equT a b
 else if op = 10 then (if isT a 2 = true then cT 2 else mkQ op i e g a b)
 else if op = 16 then (if (isT a 1 && !isT b 1) = true then b else if (isT a 2 || isT b 1) = true then cT 1 else mkQ op i e g a b)
 else if op = 13 ∨ op = 14 then (if (isT a 2 || isT b 1) = true then cT 1 else mkQ op i e g a b)
 else if op = 9 ∨ op = 11 ∨ op = 12 ∨ op = 15 ∨ op = 17 then (if isT a 1 = true then cT 1 else mkQ op i e g a b)
 else mkQ op i e g a b
inductive SimC (op i e g : Int) (a b : Tr) : Tr → Prop
  | c1 : SimC op i e g a b (cT 1)
  | c2 : SimC op i e g a b (cT 2)
  | a (h : usX op = true) : SimC op i e g a b a
  | b (h : usY op = true) : SimC op i e g a b b
  | sa (h : usX op = true) (c : Tr) (h : strT a = some c) : SimC op i e g a b c
  | sb (h : usY op = true) (c : Tr) (h : strT b = some c) : SimC op i e g a b c
  | na (h : usX op = true) (h0 : strT a = none) (h1 : isT a 1 = false) (h2 : isT a 2 = false) : SimC op i e g a b (ntT a)
  | nb (h : usY op = true) (h0 : strT b = none) (h1 : isT b 1 = false) (h2 : isT b 2 = false) : SimC op i e g a b (ntT b)
  | mk (h : simT op i e g a b = mkQ op i e g a b) : SimC op i e g a b (mkQ op i e g a b)
end Go.Proofs.Wit
namespace Go.Proofs.Wit
open Go Go.RowKit
/-! a maker of formulas in memory: a struct, a map that is turned, lists that are not -/
structure IV where
  a : Option Addr
  c : Nat
  xs : List Int
def IV.v (x : IV) : Value := .slice x.a x.xs.length x.c
abbrev mkrCs (m : MV) (mD : Nat) (pa : Option Addr) (pl pc : Nat) : Array Value := #[.int .i64 m.n, .slice m.va m.val.length m.vc, .slice m.ra m.rows.length m.rc, .map (some mD), .slice pa pl pc]
structure MkAt (e : TypeId) (w : World) (mD bk : Nat) (m : MV) (pa : Option Addr) (pc : Nat) (ps : List IV) : Prop where
  blk : w.heap[bk]? = some (.cells (mkrCs m mD pa ps.length pc) e (0, 0))
  mod : m.At w
  pre : Sl w pa (ps.map IV.v)
  row : ∀ p ∈ ps, SlI w p.a p.xs
def FV.In (t : TypeId) (H : Hl) (x : FV) : Prop := ∃ q sp, (q, obN t x.f sp) ∈ H ∧ x.a = q.map (fun b => ⟨b, 0, none⟩) ∧ (q = none → x.f.length = 0 ∧ x.c = 0) ∧ (x.f.flatMap NV.cells ++ sp).length = x.c * 6
theorem FV.In.mono {t : TypeId} {H H' : Hl} {x : FV} (h : x.In t H) (hs : H ⊆ H') : x.In t H' := by
 obtain ⟨q, sp, h1, h2⟩ := h; exact ⟨q, sp, hs h1, h2⟩
theorem FV.In.at {t : TypeId} {w0 w : World} {S : List Nat} {h : Hl} {Y : List (Nat × Obj)} {x : FV} (g : x.In t h) (s : St w0 S w h Y) : FA w x.a x.f := by
 obtain ⟨q, sp, h1, h2, h3, _⟩ := g
 obtain ⟨j, hj⟩ := List.mem_iff_getElem?.1 h1
 rw [h2]
 exact faAt s j hj (fun e => (h3 e).1)
end Go.Proofs.Wit
namespace Go.Proofs.Wit
open Go Go.RowKit
structure Grew (t : TypeId) (n : Nat) (val : List W64) (rel : List (List W64)) (d : Nat) (L L' : Mm) (F : Hl) : Prop where
  memo : Memo n val rel L'
  sub : L ⊆ L'
  nw : ∀ e ∈ L', e ∈ L ∨ ∃ a b i : Nat, e.1 = ((a : Int), (b : Int)) ∧ dst n val rel a b = some i ∧ i < d
  at_ : ∀ e ∈ L', e ∈ L ∨ e.2.In t F
section
variable {t : TypeId} {n : Nat} {val : List W64} {rel : List (List W64)}
end
theorem St.gainPre {w0 w w' : World} {S : List Nat} {h : Hl} {Y : List (Nat × Obj)} (s : St w0 S w h Y) (e : Ex [] w w') {pre HR : Hl} (g : NewH w w' (pre ++ HR)) : St w0 S w' (pre ++ (h ++ HR)) Y := by
 refine (s.gainL e g).perm ?_
 rw [List.append_assoc]
 exact List.perm_append_comm.append_left pre
end Go.Proofs.Wit
namespace Go.Proofs.Wit
open Go Go.RowKit
theorem usX_cases {op : Int} (h : 1 ≤ op ∧ op ≤ 21) : op = 1 ∨ op = 2 ∨ op = 3 ∨ op = 4 ∨ op = 5 ∨ op = 6 ∨ op = 7 ∨ op = 8 ∨ op = 9 ∨ op = 10 ∨ op = 11 ∨ op = 12 ∨ op = 13 ∨ op = 14 ∨ op = 15 ∨ op = 16 ∨ op = 17 ∨ op = 18 ∨ op = 19 ∨ op = 20 ∨ op = 21 := by omega
def Opd (w : World) (u : Bool) (x : FV) (t : Tr) : Prop := u = true → FA w x.a x.f ∧ x.f = bT t ∧ t.ok
abbrev FV.z : FV := ⟨none, 0, []⟩
def RvP (t : TypeId) (w w' : World) (v : Value) (a b : FV) (u : Tr) : Prop := ∃ fv : FV, v = fv.v ∧ fv.f = bT u ∧ (OwnN t w w' v fv.f ∨ fv = a ∨ fv = b)
structure RulC (P : Program) (t : TypeId) (r : Rul) (gf : FuncId) (cs : List Value) (w0 : World) : Prop where
  enter : ∀ args w, (callFunc gf args).run P w = .ok (.enter gf args) w
  run : ∀ w, Ex [] w0 w → ∀ (n : NV) (a b : FV) (ta tb : Tr), (1 ≤ n.op ∧ n.op ≤ 21) → fldE n.op n.i n.e n.g = 0 → Opd w (usX n.op) a ta → Opd w (usY n.op) b tb → (usX n.op = true → a.f ≠ []) → (usY n.op = true → b.f ≠ []) → Cn P gf ([n.v, a.v, b.v] ++ cs) w (fun v w' => RvP t w w' v a b (r n.op n.i n.e n.g ta tb))
/-! negation normal forms -/
/-- of a formula, and of its negation -/
def nnT : Tr → Tr × Tr
 | .leaf op i e g => (.leaf op i e g, if op = 1 then cT 2 else if op = 2 then cT 1 else ntT (.leaf op i e g))
 | .un op i e g a =>
  if op = 4 then ((nnT a).2, (nnT a).1)
  else if op = 9 then (.un op i e g (nnT a).1, .un 10 i 0 0 (nnT a).2)
  else if op = 10 then (.un op i e g (nnT a).1, .un 9 i 0 0 (nnT a).2)
  else (.un op i e g (nnT a).1, ntT (.un op i e g (nnT a).1))
 | .bin op i e g a b =>
  if op = 5 then (.bin op i e g (nnT a).1 (nnT b).1, .bin 6 0 0 0 (nnT a).2 (nnT b).2)
  else if op = 6 then (.bin op i e g (nnT a).1 (nnT b).1, .bin 5 0 0 0 (nnT a).2 (nnT b).2)
  else if op = 7 then (.bin 6 0 0 0 (nnT a).2 (nnT b).1, .bin 5 0 0 0 (nnT a).1 (nnT b).2)
  else if op = 8 then (.bin 5 0 0 0 (.bin 6 0 0 0 (nnT a).2 (nnT b).1) (.bin 6 0 0 0 (nnT a).1 (nnT b).2), .bin 6 0 0 0 (.bin 5 0 0 0 (nnT a).1 (nnT b).2) (.bin 5 0 0 0 (nnT a).2 (nnT b).1))
  else (.bin op i e g (nnT a).1 (nnT b).1, ntT (.bin op i e g (nnT a).1 (nnT b).1))
end Go.Proofs.Wit
namespace Go.Proofs.Wit
open Go Go.RowKit
theorem canT_inj {s t : Tr} (hs : s.ok) (ht : t.ok) (h : canT s = canT t) : s = t := by rw [← topT_canT hs.wf, h, topT_canT ht.wf]
def topO : Tr → Int
 | .leaf op _ _ _ => op
 | .un op _ _ _ _ => op
 | .bin op _ _ _ _ _ => op
theorem getD_lt {gs : List FV} {k : Nat} (h : k < gs.length) : gs.getD k FV.z = gs[k] := by simp [List.getD_eq_getElem?_getD, h]
structure Cf (f : List NV) (t : Tr) : Prop where
  eq : f = bT t
  ne : f ≠ []
  ok : t.ok
theorem Cf.can {f : List NV} {t : Tr} (h : Cf f t) : f = canT t ∧ (canT t).length ≤ 200 := by
 have h1 : ¬ 200 < (canT t).length := fun hl => h.ne (h.eq.trans (bT_nil.2 hl))
 exact ⟨h.eq.trans (bT_ok h1), by omega⟩
theorem Cf.okF {f : List NV} {t : Tr} (h : Cf f t) : OkF f := by rw [h.can.1]; exact canT_okF h.ok h.can.2
theorem Cf.chk {f : List NV} {t : Tr} (h : Cf f t) : chkF f = 0 := chkF_zero.2 h.okF
theorem Cf.top {f : List NV} {t : Tr} (h : Cf f t) : topT f = t := by rw [h.can.1]; exact topT_canT h.ok.wf
theorem Cf.of {t : Tr} (h : t.ok) (hl : (canT t).length ≤ 200) : Cf (canT t) t := ⟨(bT_ok (by omega)).symm, fun e => by have := canT_pos t; rw [e] at this; exact absurd this (by simp), h⟩
theorem Cf.ofB {t : Tr} (h : t.ok) (hl : bT t ≠ []) : Cf (bT t) t := ⟨rfl, hl, h⟩
theorem Cf.pos {f : List NV} {t : Tr} (h : Cf f t) : 0 < f.length := h.okF.pos
theorem Cf.le {f : List NV} {t : Tr} (h : Cf f t) : f.length ≤ 200 := h.okF.len
theorem Cf.inj {f g : List NV} {s t : Tr} (h : Cf f s) (h' : Cf g t) : f = g ↔ s = t := ⟨fun e => by rw [← h.top, e, h'.top], fun e => by rw [h.eq, e, ← h'.eq]⟩
end Go.Proofs.Wit
namespace Go.Proofs.Wit
open Go Go.RowKit
theorem NewH.nil {w w' : World} {o : Obj} : NewH w w' [(none, o)] := ⟨fun p hp b hb => (by rw [List.mem_singleton.1 hp] at hb; cases hb), by simp⟩
theorem FV.In.sep {t : TypeId} {w0 w : World} {S : List Nat} {h hF : Hl} {Y : List (Nat × Obj)} {x : FV} (g : x.In t hF) (s : St w0 S w (h ++ hF) Y) : FAS (blks h) w x.a x.f := by
 refine ⟨((g.mono (List.subset_append_right h hF)).at s).at_, fun b o e hm => ?_⟩
 obtain ⟨q, sp, h1, h2, _⟩ := g
 rw [h2] at e
 obtain ⟨o1, ho⟩ := mem_blks.1 hm
 cases q with
 | none => cases e
 | some c =>
  cases e
  exact (List.pairwise_append.1 s.apart).2.2 _ ho _ h1 b rfl rfl
structure ClIs (t : TypeId) (H : Hl) (gs : List FV) (ts : List Tr) : Prop where
  eq : gs.map FV.f = ts.map bT
  cf : ∀ u ∈ ts, u.ok ∧ bT u ≠ []
  in_ : ∀ g ∈ gs, g.In t H
theorem ClIs.nil {t : TypeId} {H : Hl} : ClIs t H [] [] := ⟨rfl, fun _ h => (by cases h), fun _ h => (by cases h)⟩
theorem ClIs.mono {t : TypeId} {H H' : Hl} {gs : List FV} {ts : List Tr} (h : ClIs t H gs ts) (hs : H ⊆ H') : ClIs t H' gs ts := ⟨h.eq, h.cf, fun g hg => (h.in_ g hg).mono hs⟩
theorem ClIs.len {t : TypeId} {H : Hl} {gs : List FV} {ts : List Tr} (h : ClIs t H gs ts) : gs.length = ts.length := by have := congrArg List.length h.eq; simpa using this
theorem ClIs.at {t : TypeId} {H : Hl} {gs : List FV} {ts : List Tr} (h : ClIs t H gs ts) {k : Nat} (hk : k < gs.length) : Cf gs[k].f (ts[k]'(by have := h.len; omega)) := by
 have hk2 : k < ts.length := by have := h.len; omega
 have h1 : gs[k].f = bT ts[k] := by
  have := congrArg (fun l => l[k]?) h.eq
  simp only [List.getElem?_map, List.getElem?_eq_getElem hk, List.getElem?_eq_getElem hk2, Option.map_some, Option.some.injEq] at this
  exact this
 have h2 := h.cf _ (List.getElem_mem hk2)
 exact ⟨h1, by rw [h1]; exact h2.2, h2.1⟩
theorem ClIs.mem {t : TypeId} {H : Hl} {gs : List FV} {ts : List Tr} (h : ClIs t H gs ts) {g : FV} (hg : g ∈ gs) : ∃ u ∈ ts, Cf g.f u := by
 obtain ⟨k, hk, rfl⟩ := List.mem_iff_getElem.1 hg
 exact ⟨_, List.getElem_mem _, h.at hk⟩
theorem compF_nodes (f : List NV) : NodesOk (compF f) := by
 by_cases h : chkF f = 0
 ·exact (compF_ok h).nodes
 ·rw [compF, if_pos h]; intro i hi; exact absurd hi (Nat.not_lt_zero _)
end Go.Proofs.Wit
namespace Go.Proofs.Wit
open Go Go.RowKit
/-! counting formulas -/
def sameB (f g : List NV) : Bool := decide (chkF f = 0 ∧ chkF g = 0 ∧ compF f = compF g)
theorem same_cf {f g : List NV} {u : Tr} (h0 : chkF f = 0) (hg : Cf g u) : sameB f g = decide (topT f = u) := by
 unfold sameB
 rw [decide_eq_decide]
 have hT := (chkF_zero.1 h0).top
 have hcg : compF g = canT u := by rw [compF_eq hg.chk, hg.top]
 constructor
 ·rintro ⟨_, _, h⟩
  rw [compF_eq h0, hcg] at h
  exact canT_inj hT hg.ok h
 ·intro h
  exact ⟨h0, hg.chk, by rw [compF_eq h0, hcg, h]⟩
end Go.Proofs.Wit
namespace Go.Proofs.Wit
open Go Go.RowKit
theorem Cf.neB {f : List NV} {t : Tr} (h : Cf f t) : bT t ≠ [] := by rw [← h.eq]; exact h.ne
end Go.Proofs.Wit
namespace Go.Proofs.Wit
open Go Go.RowKit
theorem ClIs.snoc {t : TypeId} {H : Hl} {gs : List FV} {ts : List Tr} (h : ClIs t H gs ts) {x : FV} {u : Tr} (hx : Cf x.f u) (hi : x.In t H) : ClIs t H (gs ++ [x]) (ts ++ [u]) := by
 refine ⟨by rw [List.map_append, List.map_append, h.eq, List.map_singleton, List.map_singleton, hx.eq], fun v hv => ?_, fun g hg => ?_⟩
 ·rcases List.mem_append.1 hv with hv | hv
  ·exact h.cf v hv
  ·rw [List.mem_singleton.1 hv]; exact ⟨hx.ok, hx.neB⟩
 ·rcases List.mem_append.1 hg with hg | hg
  ·exact h.in_ g hg
  ·rw [List.mem_singleton.1 hg]; exact hi
end Go.Proofs.Wit
namespace Go.Proofs.Wit
open Go Go.RowKit
/-! the nodes of normal forms -/
theorem treeAt_op {f : List NV} {i : Nat} (hi : i < f.length) (hO : NodesOk f) : topO (treeAt f i) = f[i].op := by
 rcases kids_node hi hO with ⟨_, h⟩ | ⟨_, _, h⟩ | ⟨_, h⟩ <;> rw [h] <;> rfl
end Go.Proofs.Wit
namespace Go.Proofs.Wit
open Go Go.RowKit
def stB (A B : Nat) (op i g : Int) : Bool := decide (op ≤ 13) && ((!agO op || decide (i.toNat < A)) && ((!(op == 3) || decide (i.toNat < B)) && decide (g.toNat < 2 ^ A)))
end Go.Proofs.Wit
namespace Go.Proofs.Wit
open Go Go.RowKit
/-! lists that are filled from the front; the sets of a raw list of nodes -/
def prt {α : Type} (L : Nat) (P : Nat → α) (d : α) (k : Nat) : List α := (List.range L).map (fun j => if j < k then P j else d)
section
variable {α : Type} {L : Nat} {P : Nat → α} {d : α} {k j : Nat}
theorem prt_len : (prt L P d k).length = L := by simp [prt]
theorem prt_get (hj : j < k) (hL : j < L) {e : α} : (prt L P d k).getD j e = P j := by simp [prt, List.getD_eq_getElem?_getD, hL, hj]
theorem prt_zero : prt L P d 0 = List.replicate L d := by
 apply List.ext_getElem (by simp [prt])
 intro i h1 h2
 simp [prt]
theorem prt_set (_hk : k < L) : (prt L P d k).set k (P k) = prt L P d (k + 1) := by
 apply List.ext_getElem (by simp [prt])
 intro i h1 h2
 rw [List.getElem_set]
 by_cases hi : k = i
 ·subst hi; simp [prt]
 ·rw [if_neg hi]
  simp only [prt, List.getElem_map, List.getElem_range]
  by_cases h3 : i < k
  ·rw [if_pos h3, if_pos (by omega)]
  ·rw [if_neg h3, if_neg (by omega)]
end
theorem usX_ge {op : Int} (h : 1 ≤ op ∧ op ≤ 21) : usX op = decide (4 ≤ op) := by
 rcases usX_cases h with rfl | rfl | rfl | rfl | rfl | rfl | rfl | rfl | rfl | rfl | rfl | rfl | rfl | rfl | rfl | rfl | rfl | rfl | rfl | rfl | rfl <;> rfl
end Go.Proofs.Wit
namespace Go.Proofs.Wit
open Go Go.RowKit
/-! formulas that may be missing; Hilbert's axioms as trees -/
/-- a list that is a formula, or nothing -/
def Bf (f : List NV) : Option Tr → Prop
 | none => f = []
 | some t => Cf f t
theorem Bf.le {f : List NV} {o : Option Tr} (h : Bf f o) : f.length ≤ 200 := by
 cases o with
 | none => rw [show f = [] from h]; decide
 | some t => exact Cf.le h
theorem Bf.max {f : List NV} {o : Option Tr} (h : Bf f o) : f.length ≤ maxLen := by have := h.le; unfold maxLen; omega
theorem NewH.nn2 {w w' : World} {o o' : Obj} : NewH w w' [(none, o), (none, o')] :=
 have h : ∀ p ∈ [((none : Option Nat), o), (none, o')], ∀ b, p.1 = some b → False := fun p hp b hb => by
  simp only [List.mem_cons, List.not_mem_nil, or_false] at hp
  rcases hp with rfl | rfl <;> cases hb
 ⟨fun p hp b hb => (h p hp b hb).elim, List.pairwise_cons.2 ⟨fun _ _ _ hb => (by cases hb), List.pairwise_cons.2 ⟨fun _ hp => (by cases hp), List.Pairwise.nil⟩⟩⟩
theorem St.addNone {w0 w : World} {S : List Nat} {h : Hl} {Y : List (Nat × Obj)} (s : St w0 S w h Y) {o : Obj} : St w0 S w ((Option.none, o) :: h) Y :=
 ⟨s.ext, fun p hp b hb => by
  rcases List.mem_cons.1 hp with rfl | hp
  ·cases hb
  ·exact s.own p hp b hb, List.pairwise_cons.2 ⟨fun _ _ _ hb => (by cases hb), s.apart⟩, s.sys, s.ynd⟩
/-! parts -/
def opP : Option Tr → Int
 | none => 0
 | some t => topO t
def fI : Tr → Int
 | .leaf _ i _ _ => i
 | .un _ i _ _ _ => i
 | .bin _ i _ _ _ _ => i
def fG : Tr → Int
 | .leaf _ _ _ g => g
 | .un _ _ _ g _ => g
 | .bin _ _ _ g _ _ => g
def fldI : Option Tr → Int
 | none => 0
 | some t => fI t
def fldG : Option Tr → Int
 | none => 0
 | some t => fG t
def kdA : Option Tr → Option Tr
 | some (.un _ _ _ _ a) => some a
 | some (.bin _ _ _ _ a _) => some a
 | _ => none
def kdB : Option Tr → Option Tr
 | some (.bin op _ _ _ _ b) => if op = 5 ∨ op = 6 ∨ op = 7 ∨ op = 8 ∨ op = 13 then some b else none
 | _ => none
abbrev imT (a b : Tr) : Tr := .bin 7 0 0 0 a b
abbrev adT (a b : Tr) : Tr := .bin 5 0 0 0 a b
abbrev ifT (a b : Tr) : Tr := .bin 8 0 0 0 a b
abbrev kwT (i : Int) (a : Tr) : Tr := .un 9 i 0 0 a
abbrev poT (i : Int) (a : Tr) : Tr := .un 10 i 0 0 a
abbrev evT (g : Int) (a : Tr) : Tr := .un 11 0 0 g a
abbrev coT (g : Int) (a b : Tr) : Tr := .bin 13 0 0 g a b
/-! the shape of right trees -/
theorem ok_bin {op i e g : Int} {a b : Tr} (h : (Tr.bin op i e g a b).ok) (hop : op = 5 ∨ op = 6 ∨ op = 7 ∨ op = 8) : i = 0 ∧ e = 0 ∧ g = 0 := by
 have hF := fldOk_of h.2.2.1
 rcases hop with rfl | rfl | rfl | rfl <;> exact ⟨hF.i0 rfl, hF.e0 (by decide), hF.g0 rfl⟩
theorem ok_com {i e g : Int} {a b : Tr} (h : (Tr.bin 13 i e g a b).ok) : i = 0 ∧ e = 0 ∧ 1 ≤ g ∧ g < 16 := by
 have hF := fldOk_of h.2.2.1
 exact ⟨hF.i0 rfl, hF.e0 (by decide), hF.gr rfl⟩
theorem ok_kn {op i e g : Int} {a : Tr} (h : (Tr.un op i e g a).ok) (hop : op = 9 ∨ op = 10) : (0 ≤ i ∧ i < 4) ∧ e = 0 ∧ g = 0 := by
 have hF := fldOk_of h.2.2.2.1
 rcases hop with rfl | rfl <;> exact ⟨hF.ag rfl, hF.e0 (by decide), hF.g0 rfl⟩
theorem ok_ev {i e g : Int} {a : Tr} (h : (Tr.un 11 i e g a).ok) : i = 0 ∧ e = 0 ∧ 1 ≤ g ∧ g < 16 := by
 have hF := fldOk_of h.2.2.2.1
 exact ⟨hF.i0 rfl, hF.e0 (by decide), hF.gr rfl⟩
theorem ok_nt {i e g : Int} {a : Tr} (h : (Tr.un 4 i e g a).ok) : i = 0 ∧ e = 0 ∧ g = 0 := by
 have hF := fldOk_of h.2.2.2.1
 exact ⟨hF.i0 rfl, hF.e0 (by decide), hF.g0 rfl⟩
theorem tr_cases {t : Tr} (h : t.ok) : (usX (topO t) = false ∧ kids t = []) ∨ (usX (topO t) = true ∧ usY (topO t) = false ∧ ∃ i e g a, t = .un (topO t) i e g a) ∨ (usY (topO t) = true ∧ ∃ i e g a b, t = .bin (topO t) i e g a b) := by
 cases t with
 | leaf op i e g => exact .inl ⟨h.2.1, rfl⟩
 | un op i e g a => exact .inr (.inl ⟨h.2.1, h.2.2.1, i, e, g, a, rfl⟩)
 | bin op i e g a b => exact .inr (.inr ⟨h.2.1, i, e, g, a, b, rfl⟩)
theorem top_bin {t : Tr} (h : t.ok) {op : Int} (e : topO t = op) (hop : op = 5 ∨ op = 6 ∨ op = 7 ∨ op = 8) : ∃ a b, t = .bin op 0 0 0 a b := by
 rcases tr_cases h with ⟨h1, _⟩ | ⟨_, h1, _⟩ | ⟨_, i, e', g, a, b, ht⟩
 ·rw [e] at h1; rcases hop with rfl | rfl | rfl | rfl <;> exact absurd h1 (by decide)
 ·rw [e] at h1; rcases hop with rfl | rfl | rfl | rfl <;> exact absurd h1 (by decide)
 ·rw [e] at ht
  rw [ht] at h
  obtain ⟨rfl, rfl, rfl⟩ := ok_bin h hop
  exact ⟨a, b, ht⟩
theorem top_com {t : Tr} (h : t.ok) (e : topO t = 13) : ∃ g a b, t = coT g a b ∧ 1 ≤ g ∧ g < 16 := by
 rcases tr_cases h with ⟨h1, _⟩ | ⟨_, h1, _⟩ | ⟨_, i, e', g, a, b, ht⟩
 ·rw [e] at h1; exact absurd h1 (by decide)
 ·rw [e] at h1; exact absurd h1 (by decide)
 ·rw [e] at ht
  rw [ht] at h
  obtain ⟨rfl, rfl, hg⟩ := ok_com h
  exact ⟨g, a, b, ht, hg⟩
theorem top_kn {t : Tr} (h : t.ok) {op : Int} (e : topO t = op) (hop : op = 9 ∨ op = 10) : ∃ i a, t = .un op i 0 0 a ∧ 0 ≤ i ∧ i < 4 := by
 rcases tr_cases h with ⟨h1, _⟩ | ⟨_, _, i, e', g, a, ht⟩ | ⟨h1, _⟩
 ·rw [e] at h1; rcases hop with rfl | rfl <;> exact absurd h1 (by decide)
 ·rw [e] at ht
  rw [ht] at h
  obtain ⟨hi, rfl, rfl⟩ := ok_kn h hop
  exact ⟨i, a, ht, hi⟩
 ·rw [e] at h1; rcases hop with rfl | rfl <;> exact absurd h1 (by decide)
theorem top_ev {t : Tr} (h : t.ok) (e : topO t = 11) : ∃ g a, t = evT g a ∧ 1 ≤ g ∧ g < 16 := by
 rcases tr_cases h with ⟨h1, _⟩ | ⟨_, _, i, e', g, a, ht⟩ | ⟨h1, _⟩
 ·rw [e] at h1; exact absurd h1 (by decide)
 ·rw [e] at ht
  rw [ht] at h
  obtain ⟨rfl, rfl, hg⟩ := ok_ev h
  exact ⟨g, a, ht, hg⟩
 ·rw [e] at h1; exact absurd h1 (by decide)
theorem top_nt {t : Tr} (h : t.ok) (e : topO t = 4) : ∃ a, t = ntT a := by
 rcases tr_cases h with ⟨h1, _⟩ | ⟨_, _, i, e', g, a, ht⟩ | ⟨h1, _⟩
 ·rw [e] at h1; exact absurd h1 (by decide)
 ·rw [e] at ht
  rw [ht] at h
  obtain ⟨rfl, rfl, rfl⟩ := ok_nt h
  exact ⟨a, ht⟩
 ·rw [e] at h1; exact absurd h1 (by decide)
/-! what fits: a formula that is not too long is cut nowhere -/
def Fit (t : Tr) : Prop := (canT t).length ≤ 200
theorem Cf.kidA {f : List NV} {t : Tr} (h : Cf f t) (hl : f.length - 1 < f.length) (h4 : 4 ≤ topO t) : Bf (subF f f[f.length - 1].x) (kdA (some t)) := by
  have ht : treeAt f (f.length - 1) = t := by rw [← topT_treeAt]; exact h.top
  have hn := h.okF.nodes
  have hO := hn _ hl
  have hc := h.can
  have key : ∀ c, c ∈ kids t → ∀ x : Int, treeAt f x.toNat = c → 0 ≤ x → x < f.length → Bf (subF f x) (some c) := fun c hck x hx h0 hlt => by
    have hcl : (canT c).length ≤ 200 := Nat.le_trans (canT_kid hck) hc.2
    rw [subF, if_neg (by rintro (e | e | e); · exact e h.chk
                         · omega
                         · omega), hx]
    exact Cf.of (h.ok.kid hck) hcl
  rcases kids_node hl hn with ⟨h1, h2⟩ | ⟨h1, h1', h2⟩ | ⟨h1, h2⟩
  · rw [ht] at h2
    have e : f[f.length - 1].op = topO t := by rw [h2]; rfl
    rw [usX_ge hO.op, decide_eq_false_iff_not] at h1
    omega
  · rw [ht] at h2
    have hx := hO.x h1
    rw [h2]
    exact key _ (by rw [h2]; exact List.mem_cons_self ..) _ rfl hx.1 (by omega)
  · rw [ht] at h2
    have hx := hO.x (usY_X h1)
    rw [h2]
    exact key _ (by rw [h2]; exact List.mem_cons_self ..) _ rfl hx.1 (by omega)
theorem Cf.kidB {f : List NV} {t : Tr} (h : Cf f t) (hl : f.length - 1 < f.length) (h5 : topO t = 5 ∨ topO t = 6 ∨ topO t = 7 ∨ topO t = 8 ∨ topO t = 13) : Bf (subF f f[f.length - 1].y) (kdB (some t)) := by
  have ht : treeAt f (f.length - 1) = t := by rw [← topT_treeAt]; exact h.top
  have hn := h.okF.nodes
  have hO := hn _ hl
  have hc := h.can
  rcases kids_node hl hn with ⟨h1, h2⟩ | ⟨h1, h1', h2⟩ | ⟨h1, h2⟩
  · rw [ht] at h2
    have e : f[f.length - 1].op = topO t := by rw [h2]; rfl
    rw [e] at h1
    rcases h5 with h5 | h5 | h5 | h5 | h5 <;> rw [h5] at h1 <;> exact absurd h1 (by decide)
  · rw [ht] at h2
    have e : f[f.length - 1].op = topO t := by rw [h2]; rfl
    rw [e] at h1'
    rcases h5 with h5 | h5 | h5 | h5 | h5 <;> rw [h5] at h1' <;> exact absurd h1' (by decide)
  · rw [ht] at h2
    have e : f[f.length - 1].op = topO t := by rw [h2]; rfl
    have hy := hO.y h1
    have hck : treeAt f f[f.length - 1].y.toNat ∈ kids t := by rw [h2]; exact List.mem_cons_of_mem _ (List.mem_cons_self ..)
    have hcl : (canT (treeAt f f[f.length - 1].y.toNat)).length ≤ 200 := Nat.le_trans (canT_kid hck) hc.2
    have hk : kdB (some t) = some (treeAt f f[f.length - 1].y.toNat) := by
      rw [h2]
      exact if_pos (by rw [e]; exact h5)
    rw [hk, subF, if_neg (by rintro (e | e | e); · exact e h.chk
                             · omega
                             · omega)]
    exact Cf.of (h.ok.kid hck) hcl
theorem Cf.flds {f : List NV} {t : Tr} (h : Cf f t) (hl : f.length - 1 < f.length) : f[f.length - 1].op = topO t ∧ f[f.length - 1].i = fI t ∧ f[f.length - 1].g = fG t := by
 have ht : treeAt f (f.length - 1) = t := by rw [← topT_treeAt]; exact h.top
 rcases kids_node hl h.okF.nodes with ⟨h1, h2⟩ | ⟨h1, h1', h2⟩ | ⟨h1, h2⟩ <;> rw [ht] at h2 <;> rw [h2] <;> exact ⟨rfl, rfl, rfl⟩
theorem kdB_none {t : Tr} (h : ¬ (topO t = 5 ∨ topO t = 6 ∨ topO t = 7 ∨ topO t = 8 ∨ topO t = 13)) : kdB (some t) = none := by
 cases t with
 | leaf => rfl
 | un => rfl
 | bin op i e g a b => exact if_neg h
theorem kdA_none {t : Tr} (hok : t.ok) (h : ¬ 4 ≤ topO t) : kdA (some t) = none := by
 cases t with
 | leaf => rfl
 | un op i e g a => have h1 := hok.2.1; rw [usX_ge hok.1, decide_eq_true_eq] at h1; exact absurd h1 h
 | bin op i e g a b => have h1 := usY_X hok.2.1; rw [usX_ge hok.1, decide_eq_true_eq] at h1; exact absurd h1 h
theorem lf_fit {f : List NV} (h : chkF f = 0) : Fit (topT f) := by
 have h1 := compF_len h
 rw [compF_eq h] at h1
 have := (chkF_zero.1 h).len
 show (canT (topT f)).length ≤ 200
 omega
/-! the axioms -/
def AxK (t : Tr) : Prop := ∃ i x y, t = imT (kwT i (imT x y)) (imT (kwT i x) (kwT i y))
def AxT (t : Tr) : Prop := ∃ i x, t = imT (kwT i x) x
def Ax4 (t : Tr) : Prop := ∃ i x, t = imT (kwT i x) (kwT i (kwT i x))
def Ax5 (t : Tr) : Prop := ∃ i x, t = imT (ntT (kwT i x)) (kwT i (ntT (kwT i x)))
def AxD (t : Tr) : Prop := ∃ i x, t = imT (kwT i x) (ntT (kwT i (ntT x)))
def AxP (t : Tr) : Prop := ∃ i x, t = ifT (poT i x) (ntT (kwT i (ntT x)))
def AxC (t : Tr) : Prop := ∃ g x y, t = ifT (coT g x y) (evT g (imT x (adT y (coT g x y))))
def AxI (u t : Tr) : Prop := ∃ z g x y, t = imT z (coT g x y) ∧ u = imT z (evT g (imT x (adT y z)))
section
variable {t : Tr}
end
end Go.Proofs.Wit
namespace Go.Proofs.Wit
open Go Go.RowKit
/-! Hilbert's axioms, as they are looked for -/
section
variable {t u : Tr}
theorem sameB_bT {f : List NV} {X : Tr} (h : chkF f = 0) (hX : X.ok) : sameB f (bT X) = decide (topT f = X) := by
 by_cases hl : Fit X
 ·exact same_cf h (Cf.ofB hX (bT_ne.2 hl))
 ·have e : bT X = [] := bT_nil.2 (by unfold Fit at hl; omega)
  rw [e, show sameB f [] = false from decide_eq_false (fun e => absurd e.2.1 (by decide))]
  exact (decide_eq_false (fun e : topT f = X => hl (e ▸ lf_fit h))).symm
theorem sameB_cf {f : List NV} {t X : Tr} (h : Cf f t) (hX : X.ok) : sameB f (bT X) = decide (t = X) := by rw [sameB_bT h.chk hX, h.top]
theorem AxK.iff {i : Int} {p q : Tr} (h : kdA (some t) = some (kwT i (imT p q))) : t = imT (kwT i (imT p q)) (imT (kwT i p) (kwT i q)) ↔ AxK t :=
 ⟨fun e => ⟨i, p, q, e⟩, fun ⟨i', x, y, e⟩ => by
  subst e
  have h' : some (kwT i' (imT x y)) = some (kwT i (imT p q)) := h
  cases h'; rfl⟩
theorem AxK.gd (h : AxK t) : opP (kdA (some t)) = 9 ∧ opP (kdA (kdA (some t))) = 7 := by obtain ⟨i, x, y, rfl⟩ := h; exact ⟨rfl, rfl⟩
theorem AxT.iff {i : Int} {x : Tr} (h : kdA (some t) = some (kwT i x)) : t = imT (kwT i x) x ↔ AxT t :=
 ⟨fun e => ⟨i, x, e⟩, fun ⟨i', y, e⟩ => by
  subst e
  have h' : some (kwT i' y) = some (kwT i x) := h
  cases h'; rfl⟩
theorem AxT.gd (h : AxT t) : opP (kdA (some t)) = 9 := by obtain ⟨i, x, rfl⟩ := h; rfl
theorem Ax4.iff {i : Int} {x : Tr} (h : kdA (some t) = some (kwT i x)) : t = imT (kwT i x) (kwT i (kwT i x)) ↔ Ax4 t :=
 ⟨fun e => ⟨i, x, e⟩, fun ⟨i', y, e⟩ => by
  subst e
  have h' : some (kwT i' y) = some (kwT i x) := h
  cases h'; rfl⟩
theorem Ax4.gd (h : Ax4 t) : opP (kdA (some t)) = 9 := by obtain ⟨i, x, rfl⟩ := h; rfl
theorem AxD.iff {i : Int} {x : Tr} (h : kdA (some t) = some (kwT i x)) : t = imT (kwT i x) (ntT (kwT i (ntT x))) ↔ AxD t :=
 ⟨fun e => ⟨i, x, e⟩, fun ⟨i', y, e⟩ => by
  subst e
  have h' : some (kwT i' y) = some (kwT i x) := h
  cases h'; rfl⟩
theorem AxD.gd (h : AxD t) : opP (kdA (some t)) = 9 := by obtain ⟨i, x, rfl⟩ := h; rfl
theorem Ax5.iff {i : Int} {x : Tr} (h : kdA (kdA (some t)) = some (kwT i x)) : t = imT (ntT (kwT i x)) (kwT i (ntT (kwT i x))) ↔ Ax5 t :=
 ⟨fun e => ⟨i, x, e⟩, fun ⟨i', y, e⟩ => by
  subst e
  have h' : some (kwT i' y) = some (kwT i x) := h
  cases h'; rfl⟩
theorem Ax5.gd (h : Ax5 t) : opP (kdA (kdA (some t))) = 9 := by obtain ⟨i, x, rfl⟩ := h; rfl
theorem AxP.iff {i : Int} {x : Tr} (h : kdA (some t) = some (poT i x)) : t = ifT (poT i x) (ntT (kwT i (ntT x))) ↔ AxP t :=
 ⟨fun e => ⟨i, x, e⟩, fun ⟨i', y, e⟩ => by
  subst e
  have h' : some (poT i' y) = some (poT i x) := h
  cases h'; rfl⟩
theorem AxP.gd (h : AxP t) : opP (kdA (some t)) = 10 := by obtain ⟨i, x, rfl⟩ := h; rfl
theorem AxC.iff {g : Int} {x y : Tr} (h : kdA (some t) = some (coT g x y)) : t = ifT (coT g x y) (evT g (imT x (adT y (coT g x y)))) ↔ AxC t :=
 ⟨fun e => ⟨g, x, y, e⟩, fun ⟨g', x', y', e⟩ => by
  subst e
  have h' : some (coT g' x' y') = some (coT g x y) := h
  cases h'; rfl⟩
theorem AxC.gd (h : AxC t) : opP (kdA (some t)) = 13 := by obtain ⟨g, x, y, rfl⟩ := h; rfl
theorem AxI.iff {z : Tr} {g : Int} {x y : Tr} (hz : kdA (some t) = some z) (h : kdB (some t) = some (coT g x y)) : (t = imT z (coT g x y) ∧ u = imT z (evT g (imT x (adT y z)))) ↔ AxI u t :=
 ⟨fun e => ⟨z, g, x, y, e⟩, fun ⟨z', g', x', y', e, e2⟩ => by
  subst e; subst e2
  have h' : some (coT g' x' y') = some (coT g x y) := h
  have hz' : some z' = some z := hz
  cases h'; cases hz'; exact ⟨rfl, rfl⟩⟩
theorem AxI.gd (h : AxI u t) : opP (kdB (some t)) = 13 := by obtain ⟨z, g, x, y, rfl, _⟩ := h; rfl
/-! everybody's knowledge -/
def agTo (g k : Nat) : List Nat := (List.range k).filter (fun i => gb g i == 1)
theorem agTo_yes {g k : Nat} (h : gb g k = 1) : agTo g (k + 1) = agTo g k ++ [k] := by simp [agTo, List.range_succ, List.filter_append, h]
theorem agTo_no {g k : Nat} (h : gb g k ≠ 1) : agTo g (k + 1) = agTo g k := by simp [agTo, List.range_succ, List.filter_append, h]
theorem agTo_len {g k : Nat} : (agTo g k).length ≤ k := by have := List.length_filter_le (fun i => gb g i == 1) (List.range k); simpa [agTo] using this
theorem agTo_lt {g k i : Nat} (h : i ∈ agTo g k) : i < k := by simpa using (List.mem_filter.1 h).1
def kwL (g k : Nat) (x : Tr) : List Tr := (agTo g k).map (fun (j : Nat) => kwT (j : Int) x)
def allT (g : Nat) (x : Tr) : Tr := conjT (kwL g 4 x)
def AxE (t : Tr) : Prop := ∃ (g : Int) (x : Tr), t = ifT (evT g x) (allT g.toNat x)
theorem AxE.iff {g : Int} {x : Tr} (h : kdA (some t) = some (evT g x)) : t = ifT (evT g x) (allT g.toNat x) ↔ AxE t :=
 ⟨fun e => ⟨g, x, e⟩, fun ⟨g', y, e⟩ => by
  subst e
  have h' : some (evT g' y) = some (evT g x) := h
  cases h'; rfl⟩
theorem AxE.gd (h : AxE t) : opP (kdA (some t)) = 11 := by obtain ⟨g, x, rfl⟩ := h; rfl
end
/-! what is right behind a test of an operator -/
def OkP' (o : Option Tr) : Prop := ∀ A, o = some A → A.ok
theorem OkP'.a {o : Option Tr} (h : OkP' o) : OkP' (kdA o) := fun A e => by
 cases o with
 | none => cases e
 | some t =>
  cases t with
  | leaf => cases e
  | un op i e' g a => have e2 : some a = some A := e; cases e2; exact (h _ rfl).kid (List.mem_cons_self ..)
  | bin op i e' g a b => have e2 : some a = some A := e; cases e2; exact (h _ rfl).kid (List.mem_cons_self ..)
theorem OkP'.b {o : Option Tr} (h : OkP' o) : OkP' (kdB o) := fun A e => by
 cases o with
 | none => cases e
 | some t =>
  cases t with
  | leaf => cases e
  | un => cases e
  | bin op i e' g a b =>
   have e2 : (if op = 5 ∨ op = 6 ∨ op = 7 ∨ op = 8 ∨ op = 13 then some b else none) = some A := e
   split at e2
   ·cases e2; exact (h _ rfl).kid (List.mem_cons_of_mem _ (List.mem_cons_self ..))
   ·cases e2
theorem OkP'.of {t : Tr} (h : t.ok) : OkP' (some t) := fun A e => by cases e; exact h
theorem opP_some {o : Option Tr} {n : Int} (h : opP o = n) (hn : n ≠ 0) : ∃ t, o = some t ∧ topO t = n := by
 cases o with
 | none => exact absurd h.symm hn
 | some t => exact ⟨t, rfl, h⟩
theorem OkP'.kn {o : Option Tr} (h : OkP' o) {op : Int} (e : opP o = op) (hop : op = 9 ∨ op = 10) : ∃ i G, o = some (.un op i 0 0 G) ∧ (0 ≤ i ∧ i < 4) ∧ G.ok := by
 obtain ⟨t, rfl, ht⟩ := opP_some e (by omega)
 obtain ⟨i, G, rfl, hi⟩ := top_kn (h _ rfl) ht hop
 exact ⟨i, G, rfl, hi, (h _ rfl).kid (List.mem_cons_self ..)⟩
theorem OkP'.bn {o : Option Tr} (h : OkP' o) {op : Int} (e : opP o = op) (hop : op = 5 ∨ op = 6 ∨ op = 7 ∨ op = 8) : ∃ p q, o = some (.bin op 0 0 0 p q) ∧ p.ok ∧ q.ok := by
 obtain ⟨t, rfl, ht⟩ := opP_some e (by omega)
 obtain ⟨p, q, rfl⟩ := top_bin (h _ rfl) ht hop
 exact ⟨p, q, rfl, (h _ rfl).kid (List.mem_cons_self ..), (h _ rfl).kid (List.mem_cons_of_mem _ (List.mem_cons_self ..))⟩
theorem OkP'.co {o : Option Tr} (h : OkP' o) (e : opP o = 13) : ∃ g p q, o = some (coT g p q) ∧ (1 ≤ g ∧ g < 16) ∧ p.ok ∧ q.ok := by
 obtain ⟨t, rfl, ht⟩ := opP_some e (by omega)
 obtain ⟨g, p, q, rfl, hg⟩ := top_com (h _ rfl) ht
 exact ⟨g, p, q, rfl, hg, (h _ rfl).kid (List.mem_cons_self ..), (h _ rfl).kid (List.mem_cons_of_mem _ (List.mem_cons_self ..))⟩
theorem OkP'.ev {o : Option Tr} (h : OkP' o) (e : opP o = 11) : ∃ g p, o = some (evT g p) ∧ (1 ≤ g ∧ g < 16) ∧ p.ok := by
 obtain ⟨t, rfl, ht⟩ := opP_some e (by omega)
 obtain ⟨g, p, rfl, hg⟩ := top_ev (h _ rfl) ht
 exact ⟨g, p, rfl, hg, (h _ rfl).kid (List.mem_cons_self ..)⟩
theorem im_ok {a b : Tr} (ha : a.ok) (hb : b.ok) : (imT a b).ok := ⟨by decide, rfl, by decide, ha, hb⟩
theorem ad_ok {a b : Tr} (ha : a.ok) (hb : b.ok) : (adT a b).ok := ⟨by decide, rfl, by decide, ha, hb⟩
theorem if_ok {a b : Tr} (ha : a.ok) (hb : b.ok) : (ifT a b).ok := ⟨by decide, rfl, by decide, ha, hb⟩
theorem nt_ok {a : Tr} (ha : a.ok) : (ntT a).ok := ⟨by decide, rfl, rfl, by decide, ha⟩
theorem fld_kw {i : Int} (hi : 0 ≤ i ∧ i < 4) : fldE 9 i 0 0 = 0 := by
 obtain ⟨k, rfl⟩ : ∃ k : Nat, i = (k : Int) := ⟨i.toNat, by omega⟩
 have : ∀ j : Fin 4, fldE 9 ((j.val : Nat) : Int) 0 0 = 0 := by decide
 exact this ⟨k, by omega⟩
theorem fld_ev {g : Int} (hg : 1 ≤ g ∧ g < 16) : fldE 11 0 0 g = 0 := by
 obtain ⟨k, rfl⟩ : ∃ k : Nat, g = (k : Int) := ⟨g.toNat, by omega⟩
 have : ∀ j : Fin 16, 1 ≤ j.val → fldE 11 0 0 ((j.val : Nat) : Int) = 0 := by decide
 exact this ⟨k, by omega⟩ (by show 1 ≤ k; omega)
theorem kw_ok {i : Int} {a : Tr} (hi : 0 ≤ i ∧ i < 4) (ha : a.ok) : (kwT i a).ok := ⟨by decide, rfl, rfl, fld_kw hi, ha⟩
theorem ev_ok {g : Int} {a : Tr} (hg : 1 ≤ g ∧ g < 16) (ha : a.ok) : (evT g a).ok := ⟨by decide, rfl, rfl, fld_ev hg, ha⟩
theorem kwL_ok {g k : Nat} {x : Tr} (hk : k ≤ 4) (hx : x.ok) : ∀ u ∈ kwL g k x, u.ok := fun u hu => by
 obtain ⟨j, hj, rfl⟩ := List.mem_map.1 hu
 have := agTo_lt hj
 exact kw_ok (by omega) hx
theorem conj_ok : ∀ {ts : List Tr}, (∀ u ∈ ts, u.ok) → (conjT ts).ok
 | [], _ => ⟨by decide, rfl, by decide⟩
 | t :: ts, h => by
  have key : ∀ (l : List Tr) (a : Tr), a.ok → (∀ u ∈ l, u.ok) → (l.foldl (fun a b => .bin 5 0 0 0 a b) a).ok := fun l => by
   induction l with
   | nil => exact fun a ha _ => ha
   | cons b l ih => exact fun a ha hl => ih _ (ad_ok ha (hl b (by simp))) (fun u hu => hl u (by simp [hu]))
  exact key ts t (h t (by simp)) (fun u hu => h u (by simp [hu]))
theorem allT_ok {g : Nat} {x : Tr} (hx : x.ok) : (allT g x).ok := conj_ok (kwL_ok (Nat.le_refl _) hx)
theorem slgAt {w0 w : World} {S : List Nat} {h : Hl} {Y : List (Nat × Obj)} (s : St w0 S w h Y) (j : Nat) {q : Option Nat} {gs : List FV} {e : TypeId} {sp : List Value} (hj : h[j]? = some (q, ob FV.v e gs sp)) (hq : q = none → gs.length = 0) : SlG w (q.map (fun b => ⟨b, 0, none⟩)) gs := by
 cases q with
 | none => rw [List.eq_nil_of_length_eq_zero (hq rfl)]; exact Sl.nil _ _
 | some b => exact Sl.blk (s.get hj)
theorem kdB_some {t c : Tr} (h : kdB (some t) = some c) : ∃ z, kdA (some t) = some z := by
 cases t with
 | leaf => cases h
 | un => cases h
 | bin op i e g a b => exact ⟨a, rfl⟩
/-! which logic has which rule -/
def hasL49 (l r : Int) : Bool := if r = 3 then decide (l = 2 ∨ l = 4 ∨ l = 6) else if r = 4 then decide (3 ≤ l) else if r = 5 then decide (5 ≤ l) else if r = 6 then decide (l = 1 ∨ l = 5) else true
def logW (xs : List Int) : W64 := xs.foldl (fun a x => a ||| (1#64 <<< x.toNat)) 0#64
theorem logW_snoc {xs : List Int} {x : Int} : logW (xs ++ [x]) = logW xs ||| (1#64 <<< x.toNat) := by simp [logW]
theorem has49 {l r : Int} (hl : 0 ≤ l ∧ l ≤ 6) : hasL49 l r = (((if r = 3 then logW [2, 4, 6] else if r = 4 then logW [3, 4, 5, 6] else if r = 5 then logW [5, 6] else if r = 6 then logW [1, 5] else BitVec.allOnes 64) >>> l.toNat) &&& 1#64 == 1#64) := by
 obtain ⟨k, rfl⟩ : ∃ k : Nat, l = (k : Int) := ⟨l.toNat, by omega⟩
 have key : ∀ j : Fin 7, (decide (((j.val : Nat) : Int) = 2 ∨ ((j.val : Nat) : Int) = 4 ∨ ((j.val : Nat) : Int) = 6) = ((logW [2, 4, 6] >>> ((j.val : Nat) : Int).toNat) &&& 1#64 == 1#64)) ∧ (decide (3 ≤ ((j.val : Nat) : Int)) = ((logW [3, 4, 5, 6] >>> ((j.val : Nat) : Int).toNat) &&& 1#64 == 1#64)) ∧
   (decide (5 ≤ ((j.val : Nat) : Int)) = ((logW [5, 6] >>> ((j.val : Nat) : Int).toNat) &&& 1#64 == 1#64)) ∧ (decide (((j.val : Nat) : Int) = 1 ∨ ((j.val : Nat) : Int) = 5) = ((logW [1, 5] >>> ((j.val : Nat) : Int).toNat) &&& 1#64 == 1#64)) ∧ (true = ((BitVec.allOnes 64 >>> ((j.val : Nat) : Int).toNat) &&& 1#64 == 1#64)) := by decide +kernel
 obtain ⟨k1, k2, k3, k4, k5⟩ := key ⟨k, by omega⟩
 unfold hasL49
 by_cases h3 : r = 3
 ·rw [if_pos h3, if_pos h3]; exact k1
 rw [if_neg h3, if_neg h3]
 by_cases h4 : r = 4
 ·rw [if_pos h4, if_pos h4]; exact k2
 rw [if_neg h4, if_neg h4]
 by_cases h5 : r = 5
 ·rw [if_pos h5, if_pos h5]; exact k3
 rw [if_neg h5, if_neg h5]
 by_cases h6 : r = 6
 ·rw [if_pos h6, if_pos h6]; exact k4
 rw [if_neg h6, if_neg h6]; exact k5
def formE (f : List NV) : Int := if chkF f ≠ 0 then chkF f else if andN (frgL (compF f)) 11 ≠ 0 then 10 else 0
def premN (r : Int) : Int := if r = 10 then 2 else if r = 11 ∨ r = 12 then 1 else 0
/-! as the reference looks -/
theorem im_inj {A Q X : Tr} : Q = X ↔ imT A Q = imT A X := ⟨fun e => by rw [e], fun e => by injection e⟩
theorem if_inj {A Q X : Tr} : Q = X ↔ ifT A Q = ifT A X := ⟨fun e => by rw [e], fun e => by injection e⟩
theorem AxK.im {t : Tr} (h : AxK t) : opP (some t) = 7 := by obtain ⟨i, x, y, rfl⟩ := h; rfl
theorem AxT.im {t : Tr} (h : AxT t) : opP (some t) = 7 := by obtain ⟨i, x, rfl⟩ := h; rfl
theorem Ax4.im {t : Tr} (h : Ax4 t) : opP (some t) = 7 := by obtain ⟨i, x, rfl⟩ := h; rfl
theorem AxD.im {t : Tr} (h : AxD t) : opP (some t) = 7 := by obtain ⟨i, x, rfl⟩ := h; rfl
theorem Ax5.im {t : Tr} (h : Ax5 t) : opP (some t) = 7 := by obtain ⟨i, x, rfl⟩ := h; rfl
theorem AxP.im {t : Tr} (h : AxP t) : opP (some t) = 8 := by obtain ⟨i, x, rfl⟩ := h; rfl
theorem AxC.im {t : Tr} (h : AxC t) : opP (some t) = 8 := by obtain ⟨g, x, y, rfl⟩ := h; rfl
theorem AxE.im {t : Tr} (h : AxE t) : opP (some t) = 8 := by obtain ⟨g, x, rfl⟩ := h; rfl
theorem AxI.im {u t : Tr} (h : AxI u t) : opP (some t) = 7 := by obtain ⟨z, g, x, y, rfl, _⟩ := h; rfl
end Go.Proofs.Wit
