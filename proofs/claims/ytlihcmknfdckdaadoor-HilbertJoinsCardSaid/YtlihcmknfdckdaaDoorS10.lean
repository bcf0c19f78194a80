/- Laws of walks, for any program, under the conditions that each theorem states. -/
import Derived.Test.YtlihcmknfdckdaaDoorS08
namespace Go.Proofs.Wit
open Go Go.RowKit
/-! formulas that are built from formulas -/
/-- a tree of which every node is right -/
def Tr.ok : Tr → Prop
 | .leaf op i e g => (1 ≤ op ∧ op ≤ 21) ∧ usX op = false ∧ fldE op i e g = 0
 | .un op i e g a => (1 ≤ op ∧ op ≤ 21) ∧ usX op = true ∧ usY op = false ∧ fldE op i e g = 0 ∧ a.ok
 | .bin op i e g a b => (1 ≤ op ∧ op ≤ 21) ∧ usY op = true ∧ fldE op i e g = 0 ∧ a.ok ∧ b.ok
theorem Tr.ok.wf : ∀ {t : Tr}, t.ok → t.wf
 | .leaf _ _ _ _, h => h.2.1
 | .un _ _ _ _ _, h => ⟨h.2.1, h.2.2.1, h.2.2.2.2.wf⟩
 | .bin _ _ _ _ _ _, h => ⟨h.2.1, h.2.2.2.1.wf, h.2.2.2.2.wf⟩
theorem Tr.ok.kid {t c : Tr} (h : t.ok) (hc : c ∈ kids t) : c.ok := by
 cases t with
 | leaf => cases hc
 | un op i e g a => rw [List.mem_singleton.1 hc]; exact h.2.2.2.2
 | bin op i e g a b =>
  simp only [kids, List.mem_cons, List.not_mem_nil, or_false] at hc
  rcases hc with rfl | rfl
  ·exact h.2.2.2.1
  ·exact h.2.2.2.2
theorem mkT_ok {n : NV} {a b : Tr} (h1 : 1 ≤ n.op ∧ n.op ≤ 21) (h2 : fldE n.op n.i n.e n.g = 0) (ha : usX n.op = true → a.ok) (hb : usY n.op = true → b.ok) : (mkT n a b).ok := by
 by_cases hY : usY n.op = true
 ·rw [mkT_bin hY]; exact ⟨h1, hY, h2, ha (usY_X hY), hb hY⟩
 ·have hY' : usY n.op = false := by simpa using hY
  by_cases hX : usX n.op = true
  ·rw [mkT_un hX hY']; exact ⟨h1, hX, hY', h2, ha hX⟩
  ·have hX' : usX n.op = false := by simpa using hX
   rw [mkT_leaf hX']; exact ⟨h1, hX', h2⟩
theorem NodesOk.tree {f : List NV} (hf : NodesOk f) : ∀ (i : Nat), i < f.length → (treeAt f i).ok := by
 intro i
 induction i using Nat.strongRecOn with
 | _ i ih =>
  intro hi
  have h := hf i hi
  rw [treeAt_node hi (fun hu => by have := h.x hu; omega) (fun hu => by have := h.y hu; omega)]
  exact mkT_ok h.op h.fld (fun hu => ih _ (by have := h.x hu; omega) (by have := h.x hu; omega)) (fun hu => ih _ (by have := h.y hu; omega) (by have := h.y hu; omega))
theorem visit_all {p : Tr → Prop} (hp : ∀ t, p t → ∀ c ∈ kids t, p c) (t : Tr) : ∀ {ts : List Tr}, p t → (∀ u ∈ ts, p u) → ∀ u ∈ visit t ts, p u := by
 induction t with
 | leaf op i e g =>
  intro ts ht h u hu
  rw [visit] at hu
  split at hu
  ·exact h u hu
  ·rcases List.mem_append.1 hu with hu | hu
   ·exact h u hu
   ·rw [List.mem_singleton.1 hu]; exact ht
 | un op i e g a iha =>
  intro ts ht h u hu
  rw [visit] at hu
  split at hu
  ·exact h u hu
  ·rcases List.mem_append.1 hu with hu | hu
   ·exact iha (hp _ ht a (by simp [kids])) h u hu
   ·rw [List.mem_singleton.1 hu]; exact ht
 | bin op i e g a b iha ihb =>
  intro ts ht h u hu
  rw [visit] at hu
  split at hu
  ·exact h u hu
  ·rcases List.mem_append.1 hu with hu | hu
   ·exact ihb (hp _ ht b (by simp [kids])) (iha (hp _ ht a (by simp [kids])) h) u hu
   ·rw [List.mem_singleton.1 hu]; exact ht
theorem subT_all {t : Tr} (h : t.ok) : ∀ u ∈ subT t, u.ok := visit_all (fun _ ht _ hc => ht.kid hc) t h (fun u hu => by cases hu)
theorem idx_take {ts : List Tr} {c : Tr} {k : Nat} (h : c ∈ ts.take k) : ts.idxOf c < k := by
 have h1 := List.idxOf_lt_length_iff.2 h
 rw [← idx_pre (List.take_prefix k ts) h] at h1
 rw [List.length_take] at h1
 omega
theorem nodesOf_ok {ts : List Tr} (hc : Clo ts) (ho : ∀ u ∈ ts, u.ok) : NodesOk (nodesOf ts) := fun i hi => by
 rw [nodesOf_len] at hi
 have hg : (nodesOf ts)[i]'(by rw [nodesOf_len]; exact hi) = nodeOf ts ts[i] := by simp [nodesOf]
 rw [hg]
 have h := ho _ (List.getElem_mem hi)
 have hk := hc i hi
 cases ht : ts[i] with
 | leaf op j e g =>
  rw [ht] at h
  have hY : usY op = false := by
   cases e : usY op with
   | false => rfl
   | true => exact absurd ((usY_X e).symm.trans h.2.1) (by decide)
  exact ⟨h.1, fun hu => absurd ((h.2.1).symm.trans hu) (by decide), fun _ => rfl, fun hu => absurd ((hY).symm.trans hu) (by decide), fun _ => rfl, h.2.2⟩
 | un op j e g a =>
  rw [ht] at h hk
  have := idx_take (hk a (by simp [kids]))
  exact ⟨h.1, fun _ => ⟨by simp [nodeOf], by simp only [nodeOf]; omega⟩, fun hu => absurd ((h.2.1).symm.trans hu) (by decide), fun hu => absurd ((h.2.2.1).symm.trans hu) (by decide), fun _ => rfl, h.2.2.2.1⟩
 | bin op j e g a b =>
  rw [ht] at h hk
  have h1 := idx_take (hk a (by simp [kids]))
  have h2 := idx_take (hk b (by simp [kids]))
  exact ⟨h.1, fun _ => ⟨by simp [nodeOf], by simp only [nodeOf]; omega⟩, fun hu => absurd ((usY_X h.2.1).symm.trans hu) (by decide), fun _ => ⟨by simp [nodeOf], by simp only [nodeOf]; omega⟩, fun hu => absurd ((h.2.1).symm.trans hu) (by decide), h.2.2.1⟩
theorem canT_nodes {t : Tr} (h : t.ok) : NodesOk (canT t) := nodesOf_ok (subT_ok t).clo (subT_all h)
theorem canT_pos (t : Tr) : 0 < (canT t).length := by
 rw [canT_len]
 obtain ⟨l, hl⟩ := subT_last t
 rw [hl]; simp
theorem canT_okF {t : Tr} (h : t.ok) (hl : (canT t).length ≤ 200) : OkF (canT t) := ⟨canT_pos t, hl, fun i hi => nodeE_zero.2 (canT_nodes h i hi)⟩
def shiftN (d : Nat) (n : NV) : NV := { n with x := if usX n.op = true then n.x + d else n.x, y := if usY n.op = true then n.y + d else n.y }
def catN (o g : List NV) : List NV := o ++ g.map (shiftN o.length)
theorem catN_len {o g : List NV} : (catN o g).length = o.length + g.length := by simp [catN]
theorem shift_ok {d : Nat} {n : NV} {a : Int} (h : OkN n a) : OkN (shiftN d n) (a + d) := by
 refine ⟨h.op, fun hu => ?_, fun hu => ?_, fun hu => ?_, fun hu => ?_, h.fld⟩
 ·have hu' : usX n.op = true := hu
  have := h.x hu'
  simp only [shiftN, if_pos hu']; omega
 ·have hu' : usX n.op = false := hu
  have := h.x0 hu'
  simp only [shiftN]; rw [if_neg (by rw [hu']; simp)]; exact this
 ·have hu' : usY n.op = true := hu
  have := h.y hu'
  simp only [shiftN, if_pos hu']; omega
 ·have hu' : usY n.op = false := hu
  have := h.y0 hu'
  simp only [shiftN]; rw [if_neg (by rw [hu']; simp)]; exact this
theorem catN_ok {o g : List NV} (ho : NodesOk o) (hg : NodesOk g) : NodesOk (catN o g) := fun i hi => by
 by_cases h : i < o.length
 ·have : (catN o g)[i] = o[i] := by simp [catN, List.getElem_append_left h]
  rw [this]; exact ho i h
 ·rw [catN_len] at hi
  have hj : i - o.length < g.length := by omega
  have : (catN o g)[i] = shiftN o.length g[i - o.length] := by simp [catN, List.getElem_append_right (Nat.le_of_not_lt h)]
  rw [this]
  have := shift_ok (d := o.length) (hg _ hj)
  rw [show ((i - o.length : Nat) : Int) + o.length = i from by omega] at this
  exact this
theorem snoc_ok {o : List NV} {n : NV} (ho : NodesOk o) (hn : OkN n o.length) : NodesOk (o ++ [n]) := fun i hi => by
 by_cases h : i < o.length
 ·rw [List.getElem_append_left h]; exact ho i h
 ·have : i = o.length := by simp at hi; omega
  subst this
  simp; exact hn
theorem OrdF.dropL {f : List NV} {n : NV} (h : OrdF (f ++ [n])) : OrdF f := fun i hi => by
 have := h i (by simp; omega)
 rwa [List.getElem_append_left hi] at this
theorem trees_cat {o g : List NV} (hg : OrdF g) : trees (catN o g) = trees o ++ trees g := by
 induction g using snoc_ind with
 | h0 => simp [catN, trees, trs]
 | h1 g m ih =>
  have h := ih hg.dropL
  have hm := hg g.length (by simp)
  simp only [List.getElem_concat_length] at hm
  have hcat : catN o (g ++ [m]) = catN o g ++ [shiftN o.length m] := by simp [catN]
  rw [hcat, trees_snoc, trees_snoc, h, ← List.append_assoc]
  congr 2
  have hget : ∀ v : Int, 0 ≤ v → (trees o ++ trees g).getD (v + o.length).toNat tr0 = (trees g).getD v.toNat tr0 := fun v hv => by
   rw [List.getD_eq_getElem?_getD, List.getElem?_append_right (by rw [trees_len]; omega), trees_len, List.getD_eq_getElem?_getD]
   congr 2; omega
  by_cases hY : usY m.op = true
  ·have hX := usY_X hY
   have e1 : (shiftN o.length m).x = m.x + o.length := by simp [shiftN, hX]
   have e2 : (shiftN o.length m).y = m.y + o.length := by simp [shiftN, hY]
   rw [mkT_bin (n := shiftN o.length m) hY, mkT_bin hY, e1, e2, hget _ (hm.1 hX).1, hget _ (hm.2 hY).1]; rfl
  ·have hY' : usY m.op = false := by simpa using hY
   by_cases hX : usX m.op = true
   ·have e1 : (shiftN o.length m).x = m.x + o.length := by simp [shiftN, hX]
    rw [mkT_un (n := shiftN o.length m) hX hY', mkT_un hX hY', e1, hget _ (hm.1 hX).1]; rfl
   ·have hX' : usX m.op = false := by simpa using hX
    rw [mkT_leaf (n := shiftN o.length m) hX', mkT_leaf hX']; rfl
def compF (f : List NV) : List NV := if chkF f ≠ 0 then [] else canT (topT f)
def outN : List (List NV) → List NV → List NV
 | [], o => o
 | g :: gs, o => outN gs (catN o (compF g))
theorem outN_snoc : ∀ {gs : List (List NV)} {o g : List NV}, outN (gs ++ [g]) o = catN (outN gs o) (compF g)
 | [], _, _ => rfl
 | h :: gs, o, g => by rw [List.cons_append, outN, outN_snoc, outN]
def outs (gs : List (List NV)) : List NV := outN gs []
def nodeK (n : NV) (gs : List (List NV)) : Nat → NV
 | 0 => n
 | k + 1 => if k = 0 then { nodeK n gs k with x := ((outs (gs.take (k + 1))).length : Int) - 1 } else { nodeK n gs k with y := ((outs (gs.take (k + 1))).length : Int) - 1 }
def bldF (n : NV) (gs : List (List NV)) : List NV :=
 if ∃ g ∈ gs, chkF g ≠ 0 then [] else if nodeE (nodeK n gs gs.length) (outs gs).length ≠ 0 then []
 else if 200 < (canT (treeAt (outs gs ++ [nodeK n gs gs.length]) (outs gs).length)).length then [] else canT (treeAt (outs gs ++ [nodeK n gs gs.length]) (outs gs).length)
theorem topT_treeAt {f : List NV} : topT f = treeAt f (f.length - 1) := rfl
theorem subF_top {f : List NV} : subF f ((f.length : Int) - 1) = compF f := by
 unfold subF compF
 by_cases h : chkF f = 0
 ·have hp := (chkF_zero.1 h).pos
  rw [if_neg (by simp [h]; omega), if_neg (by simp [h]), topT_treeAt]
  congr 2; omega
 ·rw [if_pos (.inl h), if_pos h]
theorem compF_eq {f : List NV} (h : chkF f = 0) : compF f = canT (topT f) := if_neg (by simp [h])
theorem OkF.top {f : List NV} (h : OkF f) : (topT f).ok := by
 rw [topT_treeAt]; exact h.nodes.tree _ (by have := h.pos; omega)
theorem compF_len {f : List NV} (h : chkF f = 0) : (compF f).length ≤ f.length := by
 have hok := chkF_zero.1 h
 rw [compF_eq h, topT_treeAt]
 have := canon_len hok.ord (i := f.length - 1) (by have := hok.pos; omega)
 have := hok.pos
 omega
theorem compF_ok {f : List NV} (h : chkF f = 0) : OkF (compF f) := by
 have hok := chkF_zero.1 h
 have hl := compF_len h
 have := hok.len
 rw [compF_eq h] at hl ⊢
 exact canT_okF hok.top (by omega)
theorem outs_ok : ∀ {gs : List (List NV)}, (∀ g ∈ gs, chkF g = 0) → NodesOk (outs gs) := by
 intro gs
 induction gs using snoc_ind with
 | h0 => intro _ i hi; exact absurd hi (Nat.not_lt_zero _)
 | h1 gs g ih =>
  intro h
  unfold outs
  rw [outN_snoc]
  exact catN_ok (ih (fun g' hg' => h g' (List.mem_append_left _ hg'))) (compF_ok (h g (by simp))).nodes
theorem outs_len {gs : List (List NV)} (h : ∀ g ∈ gs, chkF g = 0) : (outs gs).length ≤ 200 * gs.length := by
 induction gs using snoc_ind with
 | h0 => exact Nat.zero_le _
 | h1 gs g ih =>
  unfold outs
  rw [outN_snoc, catN_len]
  have h1 := ih (fun g' hg' => h g' (List.mem_append_left _ hg'))
  have h2 := (compF_ok (h g (by simp))).len
  unfold outs at h1
  simp
  omega
theorem outs_take {gs : List (List NV)} {k : Nat} (hk : k < gs.length) : outs (gs.take (k + 1)) = catN (outs (gs.take k)) (compF gs[k]) := by
 rw [List.take_succ_eq_append_getElem hk]; exact outN_snoc
structure FV where
  a : Option Addr
  c : Nat
  f : List NV
def FV.v (x : FV) : Value := .slice x.a x.f.length x.c
def SlG (w : World) (a : Option Addr) (gs : List FV) : Prop := Sl w a (gs.map FV.v)
theorem SlG.ex0 {w0 w : World} {a : Option Addr} {gs : List FV} (h : SlG w0 a gs) {S : List Nat} (e : Ex S w0 w) (hS : ∀ b o, a = some ⟨b, o, none⟩ → b ∉ S := by simp) : SlG w a gs := Sl.ex h e hS
theorem SlG.at {w : World} {a : Option Addr} {gs : List FV} (h : SlG w a gs) (k : Nat) (hk : k < gs.length) : w.cell? (adr a k) = some gs[k].v := by
 rw [Sl.cell h k (by simpa using hk)]
 simp [List.getD_eq_getElem?_getD, hk]
theorem nodeK_s {n : NV} {gs : List (List NV)} {k : Nat} (h : k ≠ 0) : nodeK n gs (k + 1) = { nodeK n gs k with y := ((outs (gs.take (k + 1))).length : Int) - 1 } := by rw [nodeK, if_neg h]
theorem cat_take {o c : List NV} {m : Nat} (hm : m < c.length) : catN o (c.take (m + 1)) = catN o (c.take m) ++ [shiftN o.length c[m]] := by
 unfold catN
 rw [List.take_succ_eq_append_getElem hm, List.map_append, List.append_assoc]; rfl
theorem cat_zero {o c : List NV} : catN o (c.take 0) = o := by simp [catN]
end Go.Proofs.Wit
