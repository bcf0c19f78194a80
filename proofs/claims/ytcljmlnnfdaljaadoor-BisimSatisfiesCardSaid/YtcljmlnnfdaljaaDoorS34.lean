/- Laws of a calculus of walks, proved for any program: no condition beyond those that each theorem states. -/
import Derived.Test.YtcljmlnnfdaljaaDoorS32
import Derived.Test.YtcljmlnnfdaljaaDoorS13
import Derived.Test.YtcljmlnnfdaljaaDoorS08
import Derived.Test.YtcljmlnnfdaljaaDoorS27
namespace Go.Proofs.Wit
open Go Go.RowKit
structure DoneM (f : List NV) (ts : List Tr) (L : List (Int × Nat)) : Prop where
  at_ : ∀ (i v : Nat), mget (fun a b : Int => a == b) L (i : Int) = some v → treeAt f i ∈ ts ∧ v = ts.idxOf (treeAt f i)
theorem DoneM.nil {f : List NV} {ts : List Tr} : DoneM f ts [] := ⟨fun i v h => by cases h⟩
theorem DoneM.mono {f : List NV} {ts us : List Tr} {L : List (Int × Nat)} (h : DoneM f ts L) (hp : ts <+: us) : DoneM f us L :=
  ⟨fun i v hv => by
    obtain ⟨h1, h2⟩ := h.at_ i v hv
    exact ⟨hp.subset h1, by rw [h2, idx_pre hp h1]⟩⟩
end Go.Proofs.Wit
namespace Go.Proofs.Wit
open Go Go.RowKit
theorem GoH.seqJ {P : Program} {r : Option Nat} {f : FuncId} {R : Value → World → Prop} {w0 : World} {S : List Nat} {Y : List (Nat × Obj)} {n : Nat} {k : List Item} {l : Fl} {h : Hl} {x y : Code} {α : Type} (lf : α → Fl) (hf : α → Hl)
    (hK : ∀ a, GoH P r f R w0 S Y n (.code y :: k) (lf a) (hf a))
    (hg : (∀ a l h, SubF (lf a) l → (∀ w Y', St w0 S w h Y' → St w0 S w (hf a) Y') → GoH P r f R w0 S Y n (.code y :: k) l h) → GoH P r f R w0 S Y n (.code x :: .code y :: k) l h) : GoH P r f R w0 S Y n (.code x :: .code y :: k) l h :=
  hg (fun a _ _ hl hh => (hK a).sub' hl hh)
end Go.Proofs.Wit
namespace Go.Proofs.Wit
open Go Go.RowKit
/-! formulas that are built from formulas -/
/-- a tree of which every node is right -/
def Tr.ok : Tr → Prop
  | .leaf op i e g => (1 ≤ op ∧ op ≤ 21) ∧ usX op = false ∧ fldE op i e g = 0
  | .un op i e g a => (1 ≤ op ∧ op ≤ 21) ∧ usX op = true ∧ usY op = false ∧ fldE op i e g = 0 ∧ a.ok
  | .bin op i e g a b => (1 ≤ op ∧ op ≤ 21) ∧ usY op = true ∧ fldE op i e g = 0 ∧ a.ok ∧ b.ok
theorem Tr.ok.wf : ∀ {t : Tr}, t.ok → t.wf
  | .leaf _ _ _ _, h => h.2.1
  | .un _ _ _ _ _, h => ⟨h.2.1, h.2.2.1, h.2.2.2.2.wf⟩
  | .bin _ _ _ _ _ _, h => ⟨h.2.1, h.2.2.2.1.wf, h.2.2.2.2.wf⟩
theorem Tr.ok.kid {t c : Tr} (h : t.ok) (hc : c ∈ kids t) : c.ok := by
  cases t with
  | leaf => cases hc
  | un op i e g a => rw [List.mem_singleton.1 hc]; exact h.2.2.2.2
  | bin op i e g a b =>
    simp only [kids, List.mem_cons, List.not_mem_nil, or_false] at hc
    rcases hc with rfl | rfl
    · exact h.2.2.2.1
    · exact h.2.2.2.2
theorem mkT_ok {n : NV} {a b : Tr} (h1 : 1 ≤ n.op ∧ n.op ≤ 21) (h2 : fldE n.op n.i n.e n.g = 0) (ha : usX n.op = true → a.ok) (hb : usY n.op = true → b.ok) : (mkT n a b).ok := by
  by_cases hY : usY n.op = true
  · rw [mkT_bin hY]; exact ⟨h1, hY, h2, ha (usY_X hY), hb hY⟩
  · have hY' : usY n.op = false := by simpa using hY
    by_cases hX : usX n.op = true
    · rw [mkT_un hX hY']; exact ⟨h1, hX, hY', h2, ha hX⟩
    · have hX' : usX n.op = false := by simpa using hX
      rw [mkT_leaf hX']; exact ⟨h1, hX', h2⟩
theorem NodesOk.tree {f : List NV} (hf : NodesOk f) : ∀ (i : Nat), i < f.length → (treeAt f i).ok := by
  intro i
  induction i using Nat.strongRecOn with
  | _ i ih =>
    intro hi
    have h := hf i hi
    rw [treeAt_node hi (fun hu => by have := h.x hu; omega) (fun hu => by have := h.y hu; omega)]
    exact mkT_ok h.op h.fld (fun hu => ih _ (by have := h.x hu; omega) (by have := h.x hu; omega)) (fun hu => ih _ (by have := h.y hu; omega) (by have := h.y hu; omega))
theorem NodesOk.trees {f : List NV} (hf : NodesOk f) : ∀ t ∈ Wit.trees f, t.ok := fun t ht => by
  obtain ⟨i, hi, rfl⟩ := List.mem_iff_getElem.1 ht
  rw [trees_len] at hi
  rw [← treeAt_eq hi]; exact hf.tree i hi
theorem visit_all {p : Tr → Prop} (hp : ∀ t, p t → ∀ c ∈ kids t, p c) (t : Tr) : ∀ {ts : List Tr}, p t → (∀ u ∈ ts, p u) → ∀ u ∈ visit t ts, p u := by
  induction t with
  | leaf op i e g =>
    intro ts ht h u hu
    rw [visit] at hu
    split at hu
    · exact h u hu
    · rcases List.mem_append.1 hu with hu | hu
      · exact h u hu
      · rw [List.mem_singleton.1 hu]; exact ht
  | un op i e g a iha =>
    intro ts ht h u hu
    rw [visit] at hu
    split at hu
    · exact h u hu
    · rcases List.mem_append.1 hu with hu | hu
      · exact iha (hp _ ht a (by simp [kids])) h u hu
      · rw [List.mem_singleton.1 hu]; exact ht
  | bin op i e g a b iha ihb =>
    intro ts ht h u hu
    rw [visit] at hu
    split at hu
    · exact h u hu
    · rcases List.mem_append.1 hu with hu | hu
      · exact ihb (hp _ ht b (by simp [kids])) (iha (hp _ ht a (by simp [kids])) h) u hu
      · rw [List.mem_singleton.1 hu]; exact ht
theorem subT_all {t : Tr} (h : t.ok) : ∀ u ∈ subT t, u.ok := visit_all (fun _ ht _ hc => ht.kid hc) t h (fun u hu => by cases hu)
theorem idx_take {ts : List Tr} {c : Tr} {k : Nat} (h : c ∈ ts.take k) : ts.idxOf c < k := by
  have h1 := List.idxOf_lt_length_iff.2 h
  rw [← idx_pre (List.take_prefix k ts) h] at h1
  rw [List.length_take] at h1
  omega
theorem nodesOf_ok {ts : List Tr} (hc : Clo ts) (ho : ∀ u ∈ ts, u.ok) : NodesOk (nodesOf ts) := fun i hi => by
  rw [nodesOf_len] at hi
  have hg : (nodesOf ts)[i]'(by rw [nodesOf_len]; exact hi) = nodeOf ts ts[i] := by simp [nodesOf]
  rw [hg]
  have h := ho _ (List.getElem_mem hi)
  have hk := hc i hi
  cases ht : ts[i] with
  | leaf op j e g =>
    rw [ht] at h
    have hY : usY op = false := by
      cases e : usY op with
      | false => rfl
      | true => exact absurd ((usY_X e).symm.trans h.2.1) (by decide)
    exact ⟨h.1, fun hu => absurd ((h.2.1).symm.trans hu) (by decide), fun _ => rfl, fun hu => absurd ((hY).symm.trans hu) (by decide), fun _ => rfl, h.2.2⟩
  | un op j e g a =>
    rw [ht] at h hk
    have := idx_take (hk a (by simp [kids]))
    exact ⟨h.1, fun _ => ⟨by simp [nodeOf], by simp only [nodeOf]; omega⟩, fun hu => absurd ((h.2.1).symm.trans hu) (by decide), fun hu => absurd ((h.2.2.1).symm.trans hu) (by decide), fun _ => rfl, h.2.2.2.1⟩
  | bin op j e g a b =>
    rw [ht] at h hk
    have h1 := idx_take (hk a (by simp [kids]))
    have h2 := idx_take (hk b (by simp [kids]))
    exact ⟨h.1, fun _ => ⟨by simp [nodeOf], by simp only [nodeOf]; omega⟩, fun hu => absurd ((usY_X h.2.1).symm.trans hu) (by decide), fun _ => ⟨by simp [nodeOf], by simp only [nodeOf]; omega⟩, fun hu => absurd ((h.2.1).symm.trans hu) (by decide), h.2.2.1⟩
theorem canT_nodes {t : Tr} (h : t.ok) : NodesOk (canT t) := nodesOf_ok (subT_ok t).clo (subT_all h)
theorem canT_pos (t : Tr) : 0 < (canT t).length := by
  rw [canT_len]
  obtain ⟨l, hl⟩ := subT_last t
  rw [hl]; simp
theorem canT_okF {t : Tr} (h : t.ok) (hl : (canT t).length ≤ 200) : OkF (canT t) := ⟨canT_pos t, hl, fun i hi => nodeE_zero.2 (canT_nodes h i hi)⟩
theorem snoc_ok {o : List NV} {n : NV} (ho : NodesOk o) (hn : OkN n o.length) : NodesOk (o ++ [n]) := fun i hi => by
  by_cases h : i < o.length
  · rw [List.getElem_append_left h]; exact ho i h
  · have : i = o.length := by simp at hi; omega
    subst this
    simp; exact hn
/-- a formula's canonical list -/
def compF (f : List NV) : List NV := if chkF f ≠ 0 then [] else canT (topT f)
theorem topT_treeAt {f : List NV} : topT f = treeAt f (f.length - 1) := rfl
theorem subF_top {f : List NV} : subF f ((f.length : Int) - 1) = compF f := by
  unfold subF compF
  by_cases h : chkF f = 0
  · have hp := (chkF_zero.1 h).pos
    rw [if_neg (by simp [h]; omega), if_neg (by simp [h]), topT_treeAt]
    congr 2; omega
  · rw [if_pos (.inl h), if_pos h]
theorem compF_eq {f : List NV} (h : chkF f = 0) : compF f = canT (topT f) := if_neg (by simp [h])
theorem OkF.top {f : List NV} (h : OkF f) : (topT f).ok := by
  rw [topT_treeAt]; exact h.nodes.tree _ (by have := h.pos; omega)
theorem compF_len {f : List NV} (h : chkF f = 0) : (compF f).length ≤ f.length := by
  have hok := chkF_zero.1 h
  rw [compF_eq h, topT_treeAt]
  have := canon_len hok.ord (i := f.length - 1) (by have := hok.pos; omega)
  have := hok.pos
  omega
theorem compF_ok {f : List NV} (h : chkF f = 0) : OkF (compF f) := by
  have hok := chkF_zero.1 h
  have hl := compF_len h
  have := hok.len
  rw [compF_eq h] at hl ⊢
  exact canT_okF hok.top (by omega)
/-- formulas in memory -/
structure FV where
  a : Option Addr
  c : Nat
  f : List NV
def FV.v (x : FV) : Value := .slice x.a x.f.length x.c
def SlG (w : World) (a : Option Addr) (gs : List FV) : Prop := Sl w a (gs.map FV.v)
theorem SlG.ex0 {w0 w : World} {a : Option Addr} {gs : List FV} (h : SlG w0 a gs) {S : List Nat} (e : Ex S w0 w) (hS : ∀ b o, a = some ⟨b, o, none⟩ → b ∉ S := by simp) : SlG w a gs := Sl.ex h e hS
theorem SlG.at {w : World} {a : Option Addr} {gs : List FV} (h : SlG w a gs) (k : Nat) (hk : k < gs.length) : w.cell? (adr a k) = some gs[k].v := by
  rw [Sl.cell h k (by simpa using hk)]
  simp [List.getD_eq_getElem?_getD, hk]
end Go.Proofs.Wit
namespace Go.Proofs.Wit
/-! lists of nodes and their trees; the axioms -/
structure LT (o : List NV) (ts : List Tr) : Prop where
  nodes : NodesOk o
  tr : trees o = ts
theorem LT.len {o : List NV} {ts : List Tr} (h : LT o ts) : ts.length = o.length := by rw [← h.tr, trees_len]
theorem LT.can {t : Tr} (h : t.ok) : LT (canT t) (subT t) := ⟨canT_nodes h, trees_canT h.wf⟩
theorem LT.snoc {o : List NV} {ts : List Tr} (h : LT o ts) {n : NV} (hn : OkN n o.length) : LT (o ++ [n]) (ts ++ [mkT n (ts.getD n.x.toNat tr0) (ts.getD n.y.toNat tr0)]) := ⟨snoc_ok h.nodes hn, by rw [trees_snoc, h.tr]⟩
theorem LT.un {o : List NV} {ts : List Tr} (h : LT o ts) {n : NV} (hop : 1 ≤ n.op ∧ n.op ≤ 21) (hX : usX n.op = true) (hY : usY n.op = false) (hf : fldE n.op n.i n.e n.g = 0) (hy : n.y = 0) {k : Nat} {t : Tr} (hx : n.x = k) (ht : ts[k]? = some t) :
    LT (o ++ [n]) (ts ++ [.un n.op n.i n.e n.g t]) := by
  have hk := (List.getElem?_eq_some_iff.1 ht).1
  rw [h.len] at hk
  have hn : OkN n o.length := ⟨hop, fun _ => by omega, fun e => absurd (e.symm.trans hX) (by decide), fun e => absurd (hY.symm.trans e) (by decide), fun _ => hy, hf⟩
  have := h.snoc hn
  rw [mkT_un hX hY, hx, Int.toNat_natCast, List.getD_eq_getElem?_getD, ht] at this
  exact this
theorem LT.bin {o : List NV} {ts : List Tr} (h : LT o ts) {n : NV} (hop : 1 ≤ n.op ∧ n.op ≤ 21) (hY : usY n.op = true) (hf : fldE n.op n.i n.e n.g = 0) {k l : Nat} {t u : Tr} (hx : n.x = k) (ht : ts[k]? = some t) (hy : n.y = l) (hu : ts[l]? = some u) :
    LT (o ++ [n]) (ts ++ [.bin n.op n.i n.e n.g t u]) := by
  have hk := (List.getElem?_eq_some_iff.1 ht).1
  have hl := (List.getElem?_eq_some_iff.1 hu).1
  rw [h.len] at hk hl
  have hX := usY_X hY
  have hn : OkN n o.length := ⟨hop, fun _ => by omega, fun e => absurd (e.symm.trans hX) (by decide), fun _ => by omega, fun e => absurd (e.symm.trans hY) (by decide), hf⟩
  have := h.snoc hn
  rw [mkT_bin hY, hx, hy, Int.toNat_natCast, Int.toNat_natCast, List.getD_eq_getElem?_getD, ht, List.getD_eq_getElem?_getD, hu] at this
  exact this
theorem LT.leaf {o : List NV} {ts : List Tr} (h : LT o ts) {n : NV} (hop : 1 ≤ n.op ∧ n.op ≤ 21) (hX : usX n.op = false) (hf : fldE n.op n.i n.e n.g = 0) (hx : n.x = 0) (hy : n.y = 0) :
    LT (o ++ [n]) (ts ++ [.leaf n.op n.i n.e n.g]) := by
  have hY : usY n.op = false := by
    cases e : usY n.op with
    | false => rfl
    | true => exact absurd ((usY_X e).symm.trans hX) (by decide)
  have hn : OkN n o.length := ⟨hop, fun e => absurd (hX.symm.trans e) (by decide), fun _ => hx, fun e => absurd (hY.symm.trans e) (by decide), fun _ => hy, hf⟩
  have := h.snoc hn
  rw [mkT_leaf hX] at this
  exact this
theorem LT.treeAt {o : List NV} {ts : List Tr} (h : LT o ts) {k : Nat} {t : Tr} (ht : ts[k]? = some t) : treeAt o k = t := by
  rw [Wit.treeAt, h.tr, List.getD_eq_getElem?_getD, ht]; rfl
theorem LT.last {o : List NV} {ts : List Tr} {n : NV} {t : Tr} (h : LT (o ++ [n]) (ts ++ [t])) : Wit.treeAt (o ++ [n]) o.length = t := by
  have hl := h.len
  simp at hl
  exact h.treeAt (by rw [← hl]; simp)
theorem LT.top {o : List NV} {ts : List Tr} {t : Tr} (h : LT o (ts ++ [t])) : topT o = t := by
  have hl := h.len
  simp at hl
  rw [topT_treeAt]
  exact h.treeAt (by rw [← hl]; simp)
theorem LT.chk {o : List NV} {ts : List Tr} (h : LT o ts) (hp : 0 < o.length) (hl : o.length ≤ 200) : chkF o = 0 := chkF_zero.2 ⟨hp, hl, fun i hi => nodeE_zero.2 (h.nodes i hi)⟩
/-- a tree as a formula, if it is not too great -/
def bT (t : Tr) : List NV := if 200 < (canT t).length then [] else canT t
theorem bT_chk {t : Tr} (h : t.ok) (hl : (canT t).length ≤ 200) : bT t = canT t ∧ chkF (canT t) = 0 ∧ topT (canT t) = t := ⟨if_neg (by omega), chkF_zero.2 (canT_okF h hl), topT_canT h.wf⟩
/-- a list that is the formula t -/
structure FmT (f : List NV) (t : Tr) : Prop where
  chk : chkF f = 0
  top : topT f = t
theorem FmT.ok {f : List NV} {t : Tr} (h : FmT f t) : t.ok := by rw [← h.top]; exact (chkF_zero.1 h.chk).top
theorem FmT.len {f : List NV} {t : Tr} (h : FmT f t) : (canT t).length ≤ f.length := by rw [← h.top, ← compF_eq h.chk]; exact compF_len h.chk
theorem FmT.can {t : Tr} (h : t.ok) (hl : (canT t).length ≤ 200) : FmT (canT t) t := ⟨(bT_chk h hl).2.1, (bT_chk h hl).2.2⟩
section
variable {i x y : Int} {T : Tr}
end
end Go.Proofs.Wit
namespace Go.Proofs.Wit
open Go Go.RowKit
/-! the examples of the chapter on frames -/
theorem Least.congr {F G : List W64 → Prop} {r c : List W64} (h : Least F r c) (e : ∀ l, F l ↔ G l) : Least G r c := ⟨h.val, h.le, (e c).1 h.has, fun c' h1 h2 h3 => h.least c' h1 h2 ((e c').2 h3)⟩
end Go.Proofs.Wit
namespace Go.Proofs.Wit
open Go Go.RowKit
/-! the fragments of a formula; defects and their axioms -/
theorem bOrI {P : Program} {t : TypeId} {a b c : Nat} (ha : a < 512) (hb : b < 512) (hc : c = a ||| b) : Bin P .or t (.int .i64 a) (.int .i64 b) (.int .i64 c) := by
  subst hc
  refine bI _ ?_
  have hx : a ||| b < 2 ^ 9 := Nat.or_lt_two_pow (by omega) (by omega)
  have h1 : (BitVec.ofInt 64 (a : Int)).toNat = a := by
    rw [BitVec.ofInt_natCast, BitVec.toNat_ofNat]; exact Nat.mod_eq_of_lt (by omega)
  have h2 : (BitVec.ofInt 64 (b : Int)).toNat = b := by
    rw [BitVec.ofInt_natCast, BitVec.toNat_ofNat]; exact Nat.mod_eq_of_lt (by omega)
  rw [binOp_or]
  show (pure (Value.int .i64 (IntKind.i64.wrap ((BitVec.ofInt 64 (a : Int) ||| BitVec.ofInt 64 (b : Int)).toNat : Int))) : Sem Value) = _
  rw [BitVec.toNat_or, h1, h2, IntWalk.i64_in _ (by omega)]
def frN (n : NV) : Nat := (frO n.op).toNat
theorem frO_lt (op : Int) : 0 ≤ frO op ∧ frO op < 512 := by
  unfold frO
  repeat' split
  all_goals omega
theorem frN_eq (n : NV) : (frN n : Int) = frO n.op := by
  have := frO_lt n.op
  unfold frN; omega
def frgL (c : List NV) : Nat := c.foldl (fun a n => a ||| frN n) 0
theorem frgL_snoc {c : List NV} {n : NV} : frgL (c ++ [n]) = frgL c ||| frN n := by simp [frgL]
theorem frgL_lt (c : List NV) : frgL c < 512 := by
  induction c using snoc_ind with
  | h0 => decide
  | h1 c n ih =>
    rw [frgL_snoc]
    have h2 : frN n < 2 ^ 9 := by have := frO_lt n.op; unfold frN; omega
    exact Nat.or_lt_two_pow (n := 9) ih h2
theorem compF_le (f : List NV) : (compF f).length ≤ 200 := by
  by_cases h : chkF f = 0
  · exact (compF_ok h).len
  · rw [compF, if_pos h]; exact Nat.zero_le _
end Go.Proofs.Wit
namespace Go.Proofs.Wit
open Go
/-! the truth of formulas: sets of worlds -/
theorem one_has {w i : Nat} (hw : w < 64) : (1#64 <<< w).getLsbD i = true ↔ i = w := by rw [one_bit hw]; simp
/-- the worlds w below n with q -/
def selW (q : Nat → Bool) (n : Nat) : W64 := upTo (fun w (o : W64) => if q w = true then o ||| 1#64 <<< w else o) 0#64 n
theorem selW_succ {q : Nat → Bool} {n : Nat} : selW q (n + 1) = if q n = true then selW q n ||| 1#64 <<< n else selW q n := rfl
theorem selW_bit {q : Nat → Bool} : ∀ {n i : Nat}, n ≤ 64 → ((selW q n).getLsbD i = true ↔ i < n ∧ q i = true)
  | 0, i, _ => by simp [selW, upTo]
  | n + 1, i, hn => by
    rw [selW_succ]
    have ih := selW_bit (q := q) (n := n) (i := i) (by omega)
    by_cases hq : q n = true
    · rw [if_pos hq, BitVec.getLsbD_or, Bool.or_eq_true, ih, one_has (by omega)]
      constructor
      · rintro (⟨h1, h2⟩ | rfl)
        · exact ⟨by omega, h2⟩
        · exact ⟨by omega, hq⟩
      · rintro ⟨h1, h2⟩
        rcases Nat.lt_succ_iff_lt_or_eq.1 h1 with h3 | h3
        · exact .inl ⟨h3, h2⟩
        · exact .inr h3
    · rw [if_neg hq, ih]
      constructor
      · rintro ⟨h1, h2⟩; exact ⟨by omega, h2⟩
      · rintro ⟨h1, h2⟩
        rcases Nat.lt_succ_iff_lt_or_eq.1 h1 with h3 | rfl
        · exact ⟨h3, h2⟩
        · exact absurd h2 hq
def boxW (r : List W64) (n : Nat) (s : W64) : W64 := selW (fun w => r.getD w 0#64 &&& ~~~s == 0#64) n
theorem boxW_bit {r : List W64} {n : Nat} {s : W64} {w : Nat} (hn : n ≤ 64) : (boxW r n s).getLsbD w = true ↔ w < n ∧ ∀ u, Rl r w u → s.getLsbD u = true := by
  rw [boxW, selW_bit hn, beq_iff_eq, andNot_zero]; rfl
/-- one turn of a search along r within c -/
def pstep (r : List W64) (c : W64) (n : Nat) (s : W64) : W64 := upTo (fun w (o : W64) => if o.getLsbD w = true then o ||| (r.getD w 0#64 &&& c) else o) s n
def pathTo (r : List W64) (n v : Nat) (c : W64) (k : Nat) : W64 := upTo (fun _ (o : W64) => pstep r c n o) (r.getD v 0#64 &&& c) k
def pathW (r : List W64) (n v : Nat) (c : W64) : W64 := pathTo r n v c n
def comW (r : List W64) (n : Nat) (c s : W64) : W64 := selW (fun w => pathW r n w c &&& ~~~s == 0#64) n
def pstp (r : List W64) (c : W64) (w : Nat) (o : W64) : W64 := if o.getLsbD w = true then o ||| (r.getD w 0#64 &&& c) else o
theorem pstp_le {r : List W64} {c : W64} {w i : Nat} {o : W64} (h : o.getLsbD i = true) : (pstp r c w o).getLsbD i = true := by
  unfold pstp
  split
  · rw [BitVec.getLsbD_or, h, Bool.true_or]
  · exact h
theorem pst_le {r : List W64} {c : W64} {s : W64} {i : Nat} (h : s.getLsbD i = true) : ∀ k, (upTo (pstp r c) s k).getLsbD i = true
  | 0 => h
  | k + 1 => pstp_le (pst_le h k)
/-- there is a path -/
inductive RchC (r : List W64) (c : W64) (v : Nat) : Nat → Prop where
  | one {u : Nat} (h : Rl r v u) (hc : c.getLsbD u = true) : RchC r c v u
  | step {u x : Nat} (h : RchC r c v u) (h2 : Rl r u x) (hc : c.getLsbD x = true) : RchC r c v x
theorem pst_reach {r : List W64} {c : W64} {v : Nat} {s : W64} (h : ∀ i, s.getLsbD i = true → RchC r c v i) : ∀ k i, (upTo (pstp r c) s k).getLsbD i = true → RchC r c v i
  | 0, i, hi => h i hi
  | k + 1, i, hi => by
    rw [upTo, pstp] at hi
    split at hi
    · rename_i hk
      rw [BitVec.getLsbD_or, Bool.or_eq_true] at hi
      rcases hi with hi | hi
      · exact pst_reach h k i hi
      · rw [BitVec.getLsbD_and, Bool.and_eq_true] at hi
        exact .step (pst_reach h k k hk) hi.1 hi.2
    · exact pst_reach h k i hi
theorem pathTo_reach {r : List W64} {n v : Nat} {c : W64} : ∀ k i, (pathTo r n v c k).getLsbD i = true → RchC r c v i
  | 0, i, hi => by
    rw [pathTo, upTo, BitVec.getLsbD_and, Bool.and_eq_true] at hi
    exact .one hi.1 hi.2
  | k + 1, i, hi => pst_reach (fun i h => pathTo_reach k i h) n i hi
/-- what a turn leaves as it is is closed -/
theorem pstep_closed {r : List W64} {c : W64} {n : Nat} {s : W64} (h : pstep r c n s = s) {w u : Nat} (hw : w < n) (hs : s.getLsbD w = true) (hr : Rl r w u) (hc : c.getLsbD u = true) : s.getLsbD u = true := by
  have key : ∀ k, w < k → (upTo (pstp r c) s k).getLsbD u = true := by
    intro k
    induction k with
    | zero => intro h; omega
    | succ k ih =>
      intro hk
      rcases Nat.lt_succ_iff_lt_or_eq.1 hk with h1 | rfl
      · exact pstp_le (ih h1)
      · rw [upTo, pstp, if_pos (pst_le hs w), BitVec.getLsbD_or, BitVec.getLsbD_and, show (r.getD w 0#64).getLsbD u = true from hr, hc]; simp
  have := key n hw
  rw [← h]; exact this
def cntB (n : Nat) (s : W64) : Nat := (List.range n).countP (fun i => s.getLsbD i)
theorem cntB_le {n : Nat} {s : W64} : cntB n s ≤ n := by
  have := List.countP_le_length (p := fun i => s.getLsbD i) (l := List.range n)
  simpa [cntB] using this
theorem bits_ext {n : Nat} {s t : W64} (hs : ∀ i, s.getLsbD i = true → i < n) (ht : ∀ i, t.getLsbD i = true → i < n) (h : ∀ i, i < n → (s.getLsbD i = true ↔ t.getLsbD i = true)) : s = t := by
  apply BitVec.eq_of_getLsbD_eq
  intro i _
  rw [Bool.eq_iff_iff]
  exact ⟨fun h1 => (h i (hs i h1)).1 h1, fun h1 => (h i (ht i h1)).2 h1⟩
theorem cntB_lt {n : Nat} {s t : W64} (hs : ∀ i, s.getLsbD i = true → i < n) (ht : ∀ i, t.getLsbD i = true → i < n) (h : ∀ i, s.getLsbD i = true → t.getLsbD i = true) (hne : s ≠ t) : cntB n s < cntB n t := by
  obtain ⟨j, hj, h1, h2⟩ : ∃ j, j < n ∧ s.getLsbD j = false ∧ t.getLsbD j = true := Classical.byContradiction (fun hno => hne (bits_ext hs ht (fun i hi => ⟨h i, fun h2 => by
    cases e : s.getLsbD i with
    | true => rfl
    | false => exact absurd ⟨i, hi, e, h2⟩ hno⟩)))
  exact cntR_lt (fun i _ hi => h i hi) hj h1 h2
theorem fix_of {n : Nat} {f : W64 → W64} {s : W64} (hle : ∀ t i, t.getLsbD i = true → (f t).getLsbD i = true) (hb : ∀ k i, (upTo (fun _ o => f o) s k).getLsbD i = true → i < n) : f (upTo (fun _ o => f o) s n) = upTo (fun _ o => f o) s n := by
  have key : ∀ k, f (upTo (fun _ o => f o) s k) = upTo (fun _ o => f o) s k ∨ k ≤ cntB n (upTo (fun _ o => f o) s k) := by
    intro k
    induction k with
    | zero => exact .inr (Nat.zero_le _)
    | succ k ih =>
      by_cases he : f (upTo (fun _ o => f o) s k) = upTo (fun _ o => f o) s k
      · left
        show f (f (upTo (fun _ o => f o) s k)) = f (upTo (fun _ o => f o) s k)
        rw [he]
        exact he
      · rcases ih with ih | ih
        · exact absurd ih he
        · right
          have := cntB_lt (n := n) (hb k) (hb (k + 1)) (fun i hi => hle _ i hi) (fun e => he e.symm)
          omega
  rcases key n with h | h
  · exact h
  · refine Classical.byContradiction (fun hne => ?_)
    have := cntB_lt (n := n) (hb n) (hb (n + 1)) (fun i hi => hle _ i hi) (fun e => hne e.symm)
    have := cntB_le (n := n) (s := upTo (fun _ o => f o) s (n + 1))
    omega
theorem RchC.lt {r : List W64} {c : W64} {v u n : Nat} (hr : ∀ a b, Rl r a b → b < n) (h : RchC r c v u) : u < n := by
  cases h with
  | one h _ => exact hr _ _ h
  | step _ h _ => exact hr _ _ h
theorem pathW_bit {r : List W64} {n v : Nat} {c : W64} (hr : ∀ a b, Rl r a b → b < n) {u : Nat} : (pathW r n v c).getLsbD u = true ↔ RchC r c v u := by
  have hfix : pstep r c n (pathW r n v c) = pathW r n v c := fix_of (fun t i hi => pst_le hi n) (fun k i hi => (pathTo_reach k i hi).lt hr)
  constructor
  · exact pathTo_reach n u
  · intro h
    induction h with
    | @one u h hc =>
      have h0 : (pathTo r n v c 0).getLsbD u = true := by rw [pathTo, upTo, BitVec.getLsbD_and, show (r.getD v 0#64).getLsbD u = true from h, hc]; rfl
      have key : ∀ k, (pathTo r n v c k).getLsbD u = true := by
        intro k
        induction k with
        | zero => exact h0
        | succ k ih => exact pst_le ih n
      exact key n
    | step h h2 hc ih => exact pstep_closed hfix (h.lt hr) ih h2 hc
theorem comW_bit {r : List W64} {n : Nat} {c s : W64} {w : Nat} (hn : n ≤ 64) (hr : ∀ a b, Rl r a b → b < n) : (comW r n c s).getLsbD w = true ↔ w < n ∧ ∀ u, RchC r c w u → s.getLsbD u = true := by
  rw [comW, selW_bit hn, beq_iff_eq, andNot_zero]
  exact and_congr_right (fun _ => forall_congr' (fun u => by rw [pathW_bit hr]))
/-- the union of the relations of a group -/
def joinW (rel : List (List W64)) (g w : Nat) (k : Nat) : W64 := upTo (fun a (o : W64) => if gb g a = 1 then o ||| (rel.getD a []).getD w 0#64 else o) 0#64 k
def joinTo (n : Nat) (rel : List (List W64)) (g k : Nat) : List W64 := (List.range n).map (fun w => joinW rel g w k)
def joinL (n : Nat) (rel : List (List W64)) (g : Nat) : List W64 := joinTo n rel g rel.length
theorem joinW_bit {rel : List (List W64)} {g w i : Nat} : ∀ {k : Nat}, (joinW rel g w k).getLsbD i = true ↔ ∃ a, a < k ∧ gb g a = 1 ∧ Rl (rel.getD a []) w i
  | 0 => by simp [joinW, upTo]
  | k + 1 => by
    have ih := joinW_bit (rel := rel) (g := g) (w := w) (i := i) (k := k)
    show (if gb g k = 1 then joinW rel g w k ||| (rel.getD k []).getD w 0#64 else joinW rel g w k).getLsbD i = true ↔ _
    constructor
    · intro h
      split at h
      · rename_i hg
        rw [BitVec.getLsbD_or, Bool.or_eq_true] at h
        rcases h with h | h
        · obtain ⟨a, h1, h2⟩ := ih.1 h; exact ⟨a, by omega, h2⟩
        · exact ⟨k, by omega, hg, h⟩
      · obtain ⟨a, h1, h2⟩ := ih.1 h; exact ⟨a, by omega, h2⟩
    · rintro ⟨a, h1, h2, h3⟩
      rcases Nat.lt_succ_iff_lt_or_eq.1 h1 with h4 | rfl
      · have := ih.2 ⟨a, h4, h2, h3⟩
        split
        · rw [BitVec.getLsbD_or, this, Bool.true_or]
        · exact this
      · rw [if_pos h2, BitVec.getLsbD_or, show ((rel.getD a []).getD w 0#64).getLsbD i = true from h3, Bool.or_true]
theorem joinL_bit {n : Nat} {rel : List (List W64)} {g w u : Nat} : Rl (joinL n rel g) w u ↔ w < n ∧ ∃ a, a < rel.length ∧ gb g a = 1 ∧ Rl (rel.getD a []) w u := by
  unfold Rl joinL joinTo
  by_cases hw : w < n
  · rw [show ((List.range n).map (fun w => joinW rel g w rel.length)).getD w 0#64 = joinW rel g w rel.length from by simp [List.getD_eq_getElem?_getD, hw], joinW_bit]
    exact ⟨fun h => ⟨hw, h⟩, fun h => h.2⟩
  · rw [show ((List.range n).map (fun w => joinW rel g w rel.length)).getD w 0#64 = 0#64 from by simp [List.getD_eq_getElem?_getD, hw]]
    constructor
    · intro h; simp at h
    · rintro ⟨h, _⟩; exact absurd h hw
/-- truth by trees -/
def boolW (op : Int) (x y all : W64) : W64 := if op = 1 then all else if op = 4 then all &&& ~~~x else if op = 5 then x &&& y else if op = 6 then x ||| y else if op = 7 then (all &&& ~~~x) ||| y else if op = 8 then all &&& ~~~(x ^^^ y) else 0#64
def oneW (n : Nat) (val : List W64) (rel : List (List W64)) (op i g : Int) (x y : W64) : W64 :=
  if op = 3 then val.getD i.toNat 0#64 else if op ≤ 8 then boolW op x y (allW n)
  else if op = 9 then boxW (rel.getD i.toNat []) n x else if op = 10 then allW n &&& ~~~boxW (rel.getD i.toNat []) n (allW n &&& ~~~x)
  else if op = 11 then boxW (joinL n rel g.toNat) n x else if op = 12 then boxW (meetL n rel g.toNat) n x else comW (joinL n rel g.toNat) n x y
def semT (n : Nat) (val : List W64) (rel : List (List W64)) : Tr → W64
  | .leaf op i _ g => oneW n val rel op i g 0#64 0#64
  | .un op i _ g a => oneW n val rel op i g (semT n val rel a) 0#64
  | .bin op i _ g a b => oneW n val rel op i g (semT n val rel a) (semT n val rel b)
end Go.Proofs.Wit
namespace Go.Proofs.Wit
open Go
/-! worlds that are together agree -/
abbrev PEq (p : List Int) (v w : Nat) : Prop := p.getD v 0 = p.getD w 0
structure IvS (n : Nat) (p' p : List Int) (R : List W64) : Prop where
  fb : ∀ v w, v < n → w < n → PEq p' v w → ∀ u, Rl R v u → ∃ u', Rl R w u' ∧ PEq p u u'
def IvX (n : Nat) (p : List Int) (s : W64) : Prop := ∀ v w, v < n → w < n → PEq p v w → s.getLsbD v = true → s.getLsbD w = true
section
variable {n : Nat} {p p' : List Int} {s t c : W64} {R : List W64}
theorem IvX.iff (h : IvX n p s) {v w : Nat} (hv : v < n) (hw : w < n) (e : PEq p v w) : s.getLsbD v = s.getLsbD w := by
  rw [Bool.eq_iff_iff]; exact ⟨h v w hv hw e, h w v hw hv e.symm⟩
theorem IvX.of (h : ∀ v w, v < n → w < n → PEq p v w → s.getLsbD v = s.getLsbD w) : IvX n p s := fun v w hv hw e hs => by rw [← h v w hv hw e]; exact hs
theorem IvX.zero : IvX n p 0#64 := fun _ _ _ _ _ h => by simp at h
theorem allW_has (hn : n ≤ 64) {v : Nat} (hv : v < n) : (allW n).getLsbD v = true := by rw [allW_bit hn (by omega)]; simpa using hv
theorem IvX.all (hn : n ≤ 64) : IvX n p (allW n) := fun _ w _ hw _ _ => allW_has hn hw
theorem IvX.and (h : IvX n p s) (h2 : IvX n p t) : IvX n p (s &&& t) := IvX.of (fun v w hv hw e => by rw [BitVec.getLsbD_and, BitVec.getLsbD_and, h.iff hv hw e, h2.iff hv hw e])
theorem IvX.or (h : IvX n p s) (h2 : IvX n p t) : IvX n p (s ||| t) := IvX.of (fun v w hv hw e => by rw [BitVec.getLsbD_or, BitVec.getLsbD_or, h.iff hv hw e, h2.iff hv hw e])
theorem IvX.xor (h : IvX n p s) (h2 : IvX n p t) : IvX n p (s ^^^ t) := IvX.of (fun v w hv hw e => by rw [BitVec.getLsbD_xor, BitVec.getLsbD_xor, h.iff hv hw e, h2.iff hv hw e])
theorem not_bit {v : Nat} (hv : v < 64) : (~~~s).getLsbD v = !s.getLsbD v := by rw [BitVec.getLsbD_not]; simp [hv]
theorem IvX.not (hn : n ≤ 64) (h : IvX n p s) : IvX n p (~~~s) := IvX.of (fun v w hv hw e => by rw [not_bit (by omega), not_bit (by omega), h.iff hv hw e])
theorem IvX.mono (h : IvX n p s) (hp : ∀ v w, v < n → w < n → PEq p' v w → PEq p v w) : IvX n p' s := fun v w hv hw e => h v w hv hw (hp v w hv hw e)
theorem IvX.bool (hn : n ≤ 64) (h : IvX n p s) (h2 : IvX n p t) {op : Int} : IvX n p (boolW op s t (allW n)) := by
  unfold boolW
  repeat' split
  · exact .all hn
  · exact (IvX.all hn).and (h.not hn)
  · exact h.and h2
  · exact h.or h2
  · exact ((IvX.all hn).and (h.not hn)).or h2
  · exact (IvX.all hn).and ((h.xor h2).not hn)
  · exact .zero
theorem IvX.box (hn : n ≤ 64) (hr : ∀ a b, Rl R a b → b < n) (hR : IvS n p' p R) (h : IvX n p s) : IvX n p' (boxW R n s) := fun v w hv hw e hs => by
  rw [boxW_bit hn] at hs ⊢
  refine ⟨hw, fun u hu => ?_⟩
  obtain ⟨u', h1, h2⟩ := hR.fb w v hw hv e.symm u hu
  exact h u' u (hr _ _ h1) (hr _ _ hu) h2.symm (hs.2 u' h1)
theorem RchC.bis (hr : ∀ a b, Rl R a b → b < n) (hR : IvS n p p R) (hc : IvX n p c) {v w : Nat} (hv : v < n) (hw : w < n) (e : PEq p v w) {u : Nat} (h : RchC R c v u) : ∃ u', RchC R c w u' ∧ PEq p u u' := by
  induction h with
  | one h1 h2 =>
    obtain ⟨u', g1, g2⟩ := hR.fb v w hv hw e _ h1
    exact ⟨u', .one g1 (hc _ _ (hr _ _ h1) (hr _ _ g1) g2 h2), g2⟩
  | step h1 h2 h3 ih =>
    obtain ⟨u', g1, g2⟩ := ih
    obtain ⟨x', k1, k2⟩ := hR.fb _ u' (h1.lt hr) (g1.lt hr) g2 _ h2
    exact ⟨x', .step g1 k1 (hc _ _ (hr _ _ h2) (hr _ _ k1) k2 h3), k2⟩
theorem IvX.com (hn : n ≤ 64) (hr : ∀ a b, Rl R a b → b < n) (hR : IvS n p p R) (hc : IvX n p c) (h : IvX n p s) : IvX n p (comW R n c s) := fun v w hv hw e hs => by
  rw [comW_bit hn hr] at hs ⊢
  refine ⟨hw, fun u hu => ?_⟩
  obtain ⟨u', h1, h2⟩ := hu.bis hr hR hc hw hv e.symm
  exact h u' u (h1.lt hr) (hu.lt hr) h2.symm (hs.2 u' h1)
theorem IvS.join {rel : List (List W64)} {g : Nat} (h : ∀ r ∈ rel, IvS n p' p r) : IvS n p' p (joinL n rel g) := ⟨fun v w hv hw e u hu => by
  obtain ⟨_, a, ha, hg, hr⟩ := joinL_bit.1 hu
  have hm : rel.getD a [] ∈ rel := by rw [List.getD_eq_getElem?_getD, List.getElem?_eq_getElem ha]; exact List.getElem_mem ha
  obtain ⟨u', h1, h2⟩ := (h _ hm).fb v w hv hw e u hr
  exact ⟨u', joinL_bit.2 ⟨hw, a, ha, hg, h1⟩, h2⟩⟩
theorem joinL_lt {rel : List (List W64)} {g : Nat} (h : ∀ r ∈ rel, ∀ a b, Rl r a b → b < n) {a b : Nat} (hu : Rl (joinL n rel g) a b) : b < n := by
  obtain ⟨_, k, hk, _, hr⟩ := joinL_bit.1 hu
  exact h _ (by rw [List.getD_eq_getElem?_getD, List.getElem?_eq_getElem hk]; exact List.getElem_mem hk) _ _ hr
end
theorem fmTo_inj {val : List W64} {v w : Nat} : ∀ {k : Nat}, fmTo val v k = fmTo val w k → ∀ j, j < k → (val.getD j 0#64).getLsbD v = (val.getD j 0#64).getLsbD w
  | 0, _, j, hj => by omega
  | k + 1, h, j, hj => by
    have h1 := fmTo_lt val v k
    have h2 := fmTo_lt val w k
    have hb : (val.getD k 0#64).getLsbD v = (val.getD k 0#64).getLsbD w ∧ fmTo val v k = fmTo val w k := by
      rw [fmTo, fmTo] at h
      cases e1 : (val.getD k 0#64).getLsbD v <;> cases e2 : (val.getD k 0#64).getLsbD w <;> simp only [e1, e2, if_true, Bool.false_eq_true, if_false] at h
      · exact ⟨rfl, by omega⟩
      · omega
      · omega
      · exact ⟨rfl, by omega⟩
    rcases Nat.lt_succ_iff_lt_or_eq.1 hj with h3 | rfl
    · exact fmTo_inj hb.2 j h3
    · exact hb.1
section
variable {n : Nat} {val : List W64} {rels : List (List W64)}
theorem psq_ref {k : Nat} {v w : Nat} (hv : v < n) (hw : w < n) (h : PEq (psq n val rels (k + 1)) v w) : PEq (psq n val rels k) v w := ((nxt_eq_iff (by rw [psq_len]; exact hv) (by rw [psq_len]; exact hw)).1 h).1
theorem psq_refs {k j : Nat} {v w : Nat} (hv : v < n) (hw : w < n) (h : PEq (psq n val rels (k + j)) v w) : PEq (psq n val rels k) v w := by
  induction j with
  | zero => exact h
  | succ j ih => exact ih (psq_ref hv hw h)
theorem psq_fact {k : Nat} (i : Nat) : IvX n (psq n val rels k) (val.getD i 0#64) := fun v w hv hw e hs => by
  have h0 : PEq (psq n val rels 0) v w := psq_refs (j := k) hv hw (by rw [Nat.zero_add]; exact e)
  by_cases hi : i < val.length
  · have := fmTo_inj ((ker_eq_iff hv hw).1 h0) i hi
    rw [← this]; exact hs
  · rw [List.getD_eq_getElem?_getD, List.getElem?_eq_none (Nat.le_of_not_lt hi)] at hs
    simp at hs
theorem psq_ivs (hn : n ≤ 64) {k : Nat} {r : List W64} (hr : r ∈ rels) (hlt : ∀ a b, Rl r a b → b < n) : IvS n (psq n val rels (k + 1)) (psq n val rels k) r := ⟨fun v w hv hw e u hu => by
  have hok := psq_ok (val := val) (rels := rels) hn k
  have hl := psq_len (n := n) (val := val) (rels := rels) k
  have h1 := ((nxt_eq_iff (by rw [psq_len]; exact hv) (by rw [psq_len]; exact hw)).1 e).2 r hr
  have hun := hlt _ _ hu
  obtain ⟨h2, _, _⟩ := hok.low u (by omega)
  have hb : (rch (psq n val rels k) (r.getD v 0#64)).getLsbD ((psq n val rels k).getD u 0).toNat = true := (rch_bit hok).2 ⟨u, by omega, hu, by omega⟩
  rw [h1] at hb
  obtain ⟨x, hx, hx2, hx3⟩ := (rch_bit hok).1 hb
  exact ⟨x, hx2, by show _ = _; omega⟩⟩
end
/-- a property of all labels -/
def allL (q : Int → Int → Int → Prop) : Tr → Prop
  | .leaf op i _ g => q op i g
  | .un op i _ g a => q op i g ∧ allL q a
  | .bin op i _ g a b => q op i g ∧ allL q a ∧ allL q b
theorem allL.mono {q q' : Int → Int → Int → Prop} (h : ∀ op i g, q op i g → q' op i g) : ∀ {t : Tr}, allL q t → allL q' t
  | .leaf _ _ _ _, h1 => h _ _ _ h1
  | .un _ _ _ _ _, h1 => ⟨h _ _ _ h1.1, h1.2.mono h⟩
  | .bin _ _ _ _ _ _, h1 => ⟨h _ _ _ h1.1, h1.2.1.mono h, h1.2.2.mono h⟩
/-- static formulas agree on worlds that are together for good -/
theorem sem_inv {n : Nat} {val : List W64} {rel rels : List (List W64)} (hn : n ≤ 64) (hsub : ∀ r ∈ rel, r ∈ rels) (hlt : ∀ r ∈ rels, ∀ a b, Rl r a b → b < n) {d : Nat} (hd : psq n val rels d = psq n val rels (d + 1)) :
    ∀ {t : Tr}, allL (fun op i g => (op = 9 ∨ op = 10 → i.toNat < rel.length) ∧ (op = 12 → meetL n rel g.toNat ∈ rels)) t → IvX n (psq n val rels d) (semT n val rel t) := by
  have hI : ∀ r ∈ rels, IvS n (psq n val rels d) (psq n val rels d) r := fun r hr => by
    have := psq_ivs (val := val) hn (k := d) hr (hlt r hr)
    rw [← hd] at this
    exact this
  have key : ∀ (op i g : Int) (x y : W64), (op = 9 ∨ op = 10 → i.toNat < rel.length) → (op = 12 → meetL n rel g.toNat ∈ rels) → IvX n (psq n val rels d) x → IvX n (psq n val rels d) y → IvX n (psq n val rels d) (oneW n val rel op i g x y) := by
    intro op i g x y h1 h2 hx hy
    unfold oneW
    have hr : (op = 9 ∨ op = 10) → rel.getD i.toNat [] ∈ rels := fun h => hsub _ (by
      have := h1 h
      rw [List.getD_eq_getElem?_getD, List.getElem?_eq_getElem this]; exact List.getElem_mem this)
    split
    · exact psq_fact _
    split
    · exact .bool hn hx hy
    split
    · rename_i h9; exact hx.box hn (hlt _ (hr (.inl h9))) (hI _ (hr (.inl h9)))
    split
    · rename_i h10; exact (IvX.all hn).and ((((IvX.all hn).and (hx.not hn)).box hn (hlt _ (hr (.inr h10))) (hI _ (hr (.inr h10)))).not hn)
    split
    · exact hx.box hn (fun a b => joinL_lt (fun r hr => hlt r (hsub r hr))) (.join (fun r hr => hI r (hsub r hr)))
    split
    · rename_i h12; exact hx.box hn (hlt _ (h2 h12)) (hI _ (h2 h12))
    · exact IvX.com hn (fun a b => joinL_lt (fun r hr => hlt r (hsub r hr))) (.join (fun r hr => hI r (hsub r hr))) hx hy
  intro t
  induction t with
  | leaf op i e g => intro h; exact key op i g _ _ h.1 h.2 .zero .zero
  | un op i e g a iha => intro h; exact key op i g _ _ h.1.1 h.1.2 (iha h.2) .zero
  | bin op i e g a b iha ihb => intro h; exact key op i g _ _ h.1.1 h.1.2 (iha h.2.1) (ihb h.2.2)
/-- the modal depth -/
def mdO (op : Int) : Nat := if 9 ≤ op ∧ op ≤ 15 ∨ 18 ≤ op then 1 else 0
def depT : Tr → Nat
  | .leaf op _ _ _ => mdO op
  | .un op _ _ _ a => depT a + mdO op
  | .bin op _ _ _ a b => max (depT a) (depT b) + mdO op
/-- formulas of knowledge agree on worlds that are together for as many rounds as they are deep -/
theorem sem_dep {n : Nat} {val : List W64} {rel : List (List W64)} (hn : n ≤ 64) (hlt : ∀ r ∈ rel, ∀ a b, Rl r a b → b < n) :
    ∀ {t : Tr} {k : Nat}, t.wf → allL (fun op i _ => op ≤ 10 ∧ (op = 9 ∨ op = 10 → i.toNat < rel.length)) t → depT t ≤ k → IvX n (psq n val rel k) (semT n val rel t) := by
  have hbox : ∀ (k : Nat) (i : Int) (x : W64), i.toNat < rel.length → IvX n (psq n val rel k) x → IvX n (psq n val rel (k + 1)) (boxW (rel.getD i.toNat []) n x) := fun k i x hi hx => by
    have hm : rel.getD i.toNat [] ∈ rel := by rw [List.getD_eq_getElem?_getD, List.getElem?_eq_getElem hi]; exact List.getElem_mem hi
    exact hx.box hn (hlt _ hm) (psq_ivs hn hm (hlt _ hm))
  intro t
  induction t with
  | leaf op i e g =>
    intro k hw h hk
    show IvX n _ (oneW n val rel op i g 0#64 0#64)
    unfold oneW
    split
    · exact psq_fact _
    · rw [if_pos (by have := h.1; have hx : usX op = false := hw; by_cases h4 : op ≤ 8
                     · exact h4
                     · rw [show usX op = true from by simp only [usX, Bool.and_eq_true, decide_eq_true_eq]; omega] at hx; cases hx)]
      exact .bool hn .zero .zero
  | un op i e g a iha =>
    intro k hw h hk
    obtain ⟨⟨h10, hi⟩, ha⟩ := h
    show IvX n _ (oneW n val rel op i g (semT n val rel a) 0#64)
    unfold oneW
    have hd : depT a + mdO op ≤ k := hk
    split
    · exact psq_fact _
    split
    · exact .bool hn (iha hw.2.2 ha (by omega)) .zero
    · have hop : op = 9 ∨ op = 10 := by omega
      have hmd : mdO op = 1 := by rcases hop with rfl | rfl <;> rfl
      obtain ⟨k, rfl⟩ : ∃ j, k = j + 1 := ⟨k - 1, by omega⟩
      have hx := iha hw.2.2 ha (k := k) (by omega)
      split
      · exact hbox k i _ (hi hop) hx
      · rw [if_pos (by omega)]
        exact (IvX.all hn).and ((hbox k i _ (hi hop) ((IvX.all hn).and (hx.not hn))).not hn)
  | bin op i e g a b iha ihb =>
    intro k hw h hk
    obtain ⟨⟨h10, hi⟩, ha, hb⟩ := h
    have hd : max (depT a) (depT b) + mdO op ≤ k := hk
    show IvX n _ (oneW n val rel op i g (semT n val rel a) (semT n val rel b))
    unfold oneW
    split
    · exact psq_fact _
    · rw [if_pos (by have hy : usY op = true := hw.1
                     simp only [usY, Bool.or_eq_true, Bool.and_eq_true, decide_eq_true_eq, beq_iff_eq] at hy
                     omega)]
      exact .bool hn (iha hw.2.1 ha (by omega)) (ihb hw.2.2 hb (by omega))
end Go.Proofs.Wit
namespace Go.Proofs.Wit
open Go
/-! labels, masks, and which formulas fit a model -/
def lab (q : Int → Int → Int → Prop) : Tr → Prop
  | .leaf op i _ g => q op i g
  | .un op i _ g _ => q op i g
  | .bin op i _ g _ _ => q op i g
theorem allL.lab {q : Int → Int → Int → Prop} : ∀ {t : Tr}, allL q t → Wit.lab q t
  | .leaf .., h => h
  | .un .., h => h.1
  | .bin .., h => h.1
theorem allL.kid {q : Int → Int → Int → Prop} : ∀ {t c : Tr}, allL q t → c ∈ kids t → allL q c
  | .leaf .., _, _, hc => by cases hc
  | .un .., _, h, hc => by rw [List.mem_singleton.1 hc]; exact h.2
  | .bin .., _, h, hc => by
    simp only [kids, List.mem_cons, List.not_mem_nil, or_false] at hc
    rcases hc with rfl | rfl
    · exact h.2.1
    · exact h.2.2
theorem Clo.allL {q : Int → Int → Int → Prop} {ts : List Tr} (hc : Clo ts) (h : ∀ u ∈ ts, Wit.lab q u) : ∀ t : Tr, t ∈ ts → Wit.allL q t
  | .leaf .., ht => h _ ht
  | .un _ _ _ _ a, ht => ⟨h _ ht, hc.allL h a (hc.mem ht a (by simp [kids]))⟩
  | .bin _ _ _ _ a b, ht => ⟨h _ ht, hc.allL h a (hc.mem ht a (by simp [kids])), hc.allL h b (hc.mem ht b (by simp [kids]))⟩
theorem mem_subT (t : Tr) : t ∈ subT t := (subT_ok t).mem
theorem allL_subT {q : Int → Int → Int → Prop} {t : Tr} : allL q t ↔ ∀ u ∈ subT t, lab q u :=
  ⟨fun h u hu => (visit_all (fun _ ht _ hc => ht.kid hc) t h (fun u hu => by cases hu) u hu).lab, fun h => (subT_ok t).clo.allL h t (mem_subT t)⟩
theorem lab_nodeOf {q : Int → Int → Int → Prop} {ts : List Tr} : ∀ {u : Tr}, lab q u ↔ q (nodeOf ts u).op (nodeOf ts u).i (nodeOf ts u).g
  | .leaf .. => Iff.rfl
  | .un .. => Iff.rfl
  | .bin .. => Iff.rfl
theorem allL_can {q : Int → Int → Int → Prop} {t : Tr} : allL q t ↔ ∀ n ∈ canT t, q n.op n.i n.g := by
  rw [allL_subT]
  show _ ↔ ∀ n ∈ nodesOf (subT t), _
  unfold nodesOf
  constructor
  · intro h n hn
    obtain ⟨u, hu, rfl⟩ := List.mem_map.1 hn
    exact lab_nodeOf.1 (h u hu)
  · intro h u hu
    exact lab_nodeOf.2 (h _ (List.mem_map_of_mem hu))
def orL (h : NV → Nat) (c : List NV) : Nat := c.foldl (fun a n => a ||| h n) 0
theorem orL_snoc {h : NV → Nat} {c : List NV} {n : NV} : orL h (c ++ [n]) = orL h c ||| h n := by simp [orL]
theorem orL_take {h : NV → Nat} {c : List NV} {k : Nat} (hk : k < c.length) : orL h (c.take (k + 1)) = orL h (c.take k) ||| h c[k] := by rw [List.take_succ_eq_append_getElem hk, orL_snoc]
theorem orL_lt {h : NV → Nat} {k : Nat} {c : List NV} : (∀ n ∈ c, h n < 2 ^ k) → orL h c < 2 ^ k := by
  induction c using snoc_ind with
  | h0 => intro _; exact Nat.two_pow_pos k
  | h1 c n ih => intro hb; rw [orL_snoc]; exact Nat.or_lt_two_pow (ih (fun m hm => hb m (by simp [hm]))) (hb n (by simp))
theorem orL_bit {h : NV → Nat} {j : Nat} {c : List NV} : (orL h c).testBit j = true ↔ ∃ n ∈ c, (h n).testBit j = true := by
  induction c using snoc_ind with
  | h0 => simp [orL]
  | h1 c n ih =>
    rw [orL_snoc, Nat.testBit_or, Bool.or_eq_true, ih]
    simp only [List.mem_append, List.mem_singleton]
    constructor
    · rintro (⟨m, h1, h2⟩ | h1)
      · exact ⟨m, .inl h1, h2⟩
      · exact ⟨n, .inr rfl, h1⟩
    · rintro ⟨m, h1 | rfl, h2⟩
      · exact .inl ⟨m, h1, h2⟩
      · exact .inr h2
def ftN (n : NV) : Nat := if n.op = 3 then 2 ^ n.i.toNat else 0
def agN (n : NV) : Nat := (if agO n.op = true then 2 ^ n.i.toNat else 0) ||| n.g.toNat
structure FldOk (op i e g : Int) : Prop where
  i0 : iO op = false → i = 0
  e0 : op ≠ 17 → e = 0
  g0 : grO op = false → g = 0
  fact : op = 3 → 0 ≤ i ∧ i < 8
  ag : agO op = true → 0 ≤ i ∧ i < 4
  act : op = 17 → (0 ≤ i ∧ i < 8) ∧ 0 ≤ e ∧ e < 8
  gr : grO op = true → 1 ≤ g ∧ g < 16
theorem fldOk_of {op i e g : Int} (h : fldE op i e g = 0) : FldOk op i e g := by
  unfold fldE at h
  split at h
  · cases h
  · rename_i h1
    split at h
    · cases h
    · rename_i h2
      simp only [Bool.or_eq_true, Bool.and_eq_true, Bool.not_eq_true', bne_iff_ne, ne_eq, beq_iff_eq, not_or, not_and, Bool.and_eq_false_iff, decide_eq_false_iff_not, decide_eq_true_eq, Classical.not_not, Bool.not_eq_false', Bool.not_eq_true, Bool.and_eq_false_imp, not_exists] at h1 h2
      obtain ⟨⟨a1, a2⟩, a3⟩ := h1
      obtain ⟨⟨⟨b1, b2⟩, b3⟩, b4⟩ := h2
      refine ⟨a1, a2, a3, fun e => ?_, fun e => ?_, fun e => ?_, fun e => ?_⟩
      · have := b1 e; omega
      · have := b2 e; omega
      · have := b3 e; omega
      · have := b4 e; omega
def okM (m k A : Nat) : Bool := (List.range k).all (fun i => gb m i != 1 || decide (i < A))
theorem gb_testBit {m i : Nat} : gb m i = 1 ↔ m.testBit i = true := by
  unfold gb
  rw [Nat.testBit_eq_decide_div_mod_eq]; simp
theorem okM_iff {m k A : Nat} : okM m k A = true ↔ ∀ i, i < k → m.testBit i = true → i < A := by
  unfold okM
  simp only [List.all_eq_true, List.mem_range, Bool.or_eq_true, bne_iff_ne, ne_eq, decide_eq_true_eq, gb_testBit]
  constructor
  · intro h i hi hb
    rcases h i hi with h1 | h1
    · exact absurd hb h1
    · exact h1
  · intro h i hi
    by_cases hb : m.testBit i = true
    · exact .inr (h i hi hb)
    · exact .inl hb
theorem okM_false {m k A i : Nat} (hi : i < k) (h1 : gb m i = 1) (h2 : ¬ i < A) : okM m k A = false := by
  rw [Bool.eq_false_iff]
  intro h
  exact h2 (okM_iff.1 h i hi (gb_testBit.1 h1))
theorem okM_all {m k A : Nat} (h : ∀ i, i < k → gb m i = 1 → i < A) : okM m k A = true := okM_iff.2 (fun i hi hb => h i hi (gb_testBit.2 hb))
def fitB (f : List NV) (A B : Nat) : Bool := chkF f == 0 && (okM (orL agN (compF f)) 4 A && okM (orL ftN (compF f)) 8 B)
def FitL (A B : Nat) (op i g : Int) : Prop := (agO op = true → i.toNat < A) ∧ (op = 3 → i.toNat < B) ∧ g.toNat < 2 ^ A
theorem bits_lt {g A : Nat} (hg : g < 16) : (∀ i, i < 4 → g.testBit i = true → i < A) ↔ g < 2 ^ A := by
  constructor
  · intro h
    refine Nat.lt_pow_two_of_testBit g (fun i hi => ?_)
    by_cases h4 : i < 4
    · cases e : g.testBit i with
      | false => rfl
      | true => have := h i h4 e; omega
    · exact Nat.testBit_lt_two_pow (Nat.lt_of_lt_of_le hg (by show 2 ^ 4 ≤ 2 ^ i; exact Nat.pow_le_pow_right (by decide) (by omega)))
  · intro h i _ hb
    refine Classical.byContradiction (fun hA => ?_)
    rw [Nat.testBit_lt_two_pow (Nat.lt_of_lt_of_le h (Nat.pow_le_pow_right (by decide) (by omega)))] at hb
    cases hb
theorem g_lt {op i e g : Int} (h : FldOk op i e g) : g.toNat < 16 := by
  cases hg : grO op with
  | false => rw [h.g0 hg]; decide
  | true => have := h.gr hg; omega
theorem agN_lt {n : NV} (h : FldOk n.op n.i n.e n.g) : agN n < 2 ^ 4 := by
  refine Nat.or_lt_two_pow ?_ (g_lt h)
  split
  · rename_i ha; have := h.ag ha; exact Nat.pow_lt_pow_right (by decide) (by omega)
  · decide
theorem ftN_lt {n : NV} (h : FldOk n.op n.i n.e n.g) : ftN n < 2 ^ 8 := by
  unfold ftN
  split
  · rename_i ha; have := h.fact ha; exact Nat.pow_lt_pow_right (by decide) (by omega)
  · decide
theorem fit_ag {n : NV} (h : FldOk n.op n.i n.e n.g) {A : Nat} : (∀ i, i < 4 → (agN n).testBit i = true → i < A) ↔ (agO n.op = true → n.i.toNat < A) ∧ n.g.toNat < 2 ^ A := by
  rw [← bits_lt (g_lt h)]
  unfold agN
  constructor
  · intro h1
    refine ⟨fun ha => ?_, fun i hi hb => h1 i hi (by rw [Nat.testBit_or, hb, Bool.or_true])⟩
    have := h.ag ha
    exact h1 n.i.toNat (by omega) (by rw [Nat.testBit_or, if_pos ha, Nat.testBit_two_pow_self, Bool.true_or])
  · rintro ⟨h1, h2⟩ i hi hb
    rw [Nat.testBit_or, Bool.or_eq_true] at hb
    rcases hb with hb | hb
    · split at hb
      · rename_i ha
        rw [Nat.testBit_two_pow, decide_eq_true_eq] at hb
        rw [← hb]; exact h1 ha
      · rw [Nat.zero_testBit] at hb; cases hb
    · exact h2 i hi hb
theorem fit_ft {n : NV} (h : FldOk n.op n.i n.e n.g) {B : Nat} : (∀ i, i < 8 → (ftN n).testBit i = true → i < B) ↔ (n.op = 3 → n.i.toNat < B) := by
  unfold ftN
  constructor
  · intro h1 h3
    have := h.fact h3
    exact h1 n.i.toNat (by omega) (by rw [if_pos h3, Nat.testBit_two_pow_self])
  · intro h1 i _ hb
    split at hb
    · rename_i h3
      rw [Nat.testBit_two_pow, decide_eq_true_eq] at hb
      rw [← hb]; exact h1 h3
    · rw [Nat.zero_testBit] at hb; cases hb
theorem NodesOk.fld {f : List NV} (h : NodesOk f) : ∀ n ∈ f, FldOk n.op n.i n.e n.g := fun n hn => by
  obtain ⟨i, hi, rfl⟩ := List.mem_iff_getElem.1 hn
  exact fldOk_of (h i hi).fld
theorem NodesOk.opm {f : List NV} (h : NodesOk f) : ∀ n ∈ f, 1 ≤ n.op ∧ n.op ≤ 21 := fun n hn => by
  obtain ⟨i, hi, rfl⟩ := List.mem_iff_getElem.1 hn
  exact (h i hi).op
theorem fitB_iff {f : List NV} {A B : Nat} : fitB f A B = true ↔ chkF f = 0 ∧ allL (FitL A B) (topT f) := by
  unfold fitB
  rw [Bool.and_eq_true, beq_iff_eq]
  refine and_congr_right (fun h0 => ?_)
  have hok := (chkF_zero.1 h0).top
  rw [compF_eq h0, allL_can, Bool.and_eq_true, okM_iff, okM_iff]
  have hfl := (canT_nodes hok).fld
  constructor
  · rintro ⟨h1, h2⟩ n hn
    have k1 := (fit_ag (hfl n hn) (A := A)).1 (fun i hi hb => h1 i hi (orL_bit.2 ⟨n, hn, hb⟩))
    have k2 := (fit_ft (hfl n hn) (B := B)).1 (fun i hi hb => h2 i hi (orL_bit.2 ⟨n, hn, hb⟩))
    exact ⟨k1.1, k2, k1.2⟩
  · intro h
    constructor
    · intro i hi hb
      obtain ⟨n, hn, hb⟩ := orL_bit.1 hb
      exact (fit_ag (hfl n hn)).2 ⟨(h n hn).1, (h n hn).2.2⟩ i hi hb
    · intro i hi hb
      obtain ⟨n, hn, hb⟩ := orL_bit.1 hb
      exact (fit_ft (hfl n hn)).2 (h n hn).2.1 i hi hb
/-! fragments -/
def andN (a b : Nat) : Nat := a &&& (511 ^^^ b)
theorem andN_zero {a b : Nat} (ha : a < 512) : andN a b = 0 ↔ ∀ i, a.testBit i = true → b.testBit i = true := by
  have h511 : ∀ i, (511 : Nat).testBit i = decide (i < 9) := fun i => by
    rw [show (511 : Nat) = 2 ^ 9 - 1 from rfl, Nat.testBit_two_pow_sub_one]
  constructor
  · intro h i hi
    have h9 : i < 9 := by
      refine Classical.byContradiction (fun hc => ?_)
      rw [Nat.testBit_lt_two_pow (Nat.lt_of_lt_of_le ha (by show 2 ^ 9 ≤ 2 ^ i; exact Nat.pow_le_pow_right (by decide) (by omega)))] at hi
      cases hi
    have := congrArg (fun x => x.testBit i) h
    simp only [andN, Nat.testBit_and, Nat.testBit_xor, hi, h511, h9, decide_true, Nat.zero_testBit, Bool.true_and, Bool.true_bne] at this
    simpa using this
  · intro h
    refine Nat.eq_of_testBit_eq (fun i => ?_)
    rw [andN, Nat.testBit_and, Nat.testBit_xor, h511, Nat.zero_testBit]
    cases e : a.testBit i with
    | false => rfl
    | true =>
      rw [h i e]
      have h9 : i < 9 := by
        refine Classical.byContradiction (fun hc => ?_)
        rw [Nat.testBit_lt_two_pow (Nat.lt_of_lt_of_le ha (by show 2 ^ 9 ≤ 2 ^ i; exact Nat.pow_le_pow_right (by decide) (by omega)))] at e
        cases e
      simp [h9]
theorem frN_lt (n : NV) : frN n < 512 := by
  have := frO_lt n.op
  have := frN_eq n
  omega
theorem frg_zero {c : List NV} {b : Nat} : andN (frgL c) b = 0 ↔ ∀ n ∈ c, andN (frN n) b = 0 := by
  rw [andN_zero (frgL_lt c)]
  constructor
  · intro h n hn
    rw [andN_zero (frN_lt n)]
    exact fun i hi => h i (orL_bit.2 ⟨n, hn, hi⟩)
  · intro h i hi
    obtain ⟨n, hn, hb⟩ := orL_bit.1 (show (orL frN c).testBit i = true from hi)
    exact (andN_zero (frN_lt n)).1 (h n hn) i hb
theorem op_cases {p : Int → Prop} (h : ∀ k : Nat, k < 21 → p ((k : Int) + 1)) {op : Int} (ho : 1 ≤ op ∧ op ≤ 21) : p op := by
  have := h (op.toNat - 1) (by omega)
  rw [show (((op.toNat - 1 : Nat) : Int) + 1) = op by omega] at this
  exact this
theorem frO_15 {op : Int} (ho : 1 ≤ op ∧ op ≤ 21) : andN (frO op).toNat 15 = 0 ↔ op ≤ 13 :=
  op_cases (p := fun op => andN (frO op).toNat 15 = 0 ↔ op ≤ 13) (by decide) ho
theorem frO_1 {op : Int} (ho : 1 ≤ op ∧ op ≤ 21) : andN (frO op).toNat 1 = 0 ↔ op ≤ 10 :=
  op_cases (p := fun op => andN (frO op).toNat 1 = 0 ↔ op ≤ 10) (by decide) ho
theorem frO_4 {op : Int} (ho : 1 ≤ op ∧ op ≤ 21) : (frO op).toNat &&& 4 = 0 ↔ op ≠ 12 :=
  op_cases (p := fun op => (frO op).toNat &&& 4 = 0 ↔ op ≠ 12) (by decide) ho
theorem frg_has {t : Tr} {b : Nat} {r : Int → Prop} (ht : t.ok) (hr : ∀ {op : Int}, (1 ≤ op ∧ op ≤ 21) → (andN (frO op).toNat b = 0 ↔ r op)) : andN (frgL (canT t)) b = 0 ↔ allL (fun op _ _ => r op) t := by
  rw [frg_zero, allL_can]
  have ho := (canT_nodes ht).opm
  exact ⟨fun h n hn => (hr (ho n hn)).1 (h n hn), fun h n hn => (hr (ho n hn)).2 (h n hn)⟩
theorem frg_dist {t : Tr} (ht : t.ok) : frgL (canT t) &&& 4 = 0 ↔ allL (fun op _ _ => op ≠ 12) t := by
  rw [allL_can]
  have ho := (canT_nodes ht).opm
  have h2 : ∀ a : Nat, a &&& 4 = 0 ↔ a.testBit 2 = false := fun a => by
    constructor
    · intro h
      have h1 := congrArg (fun x => x.testBit 2) h
      simp only [Nat.testBit_and, show (4 : Nat).testBit 2 = true from rfl, Bool.and_true, Nat.zero_testBit] at h1
      exact h1
    · intro h
      refine Nat.eq_of_testBit_eq (fun i => ?_)
      rw [Nat.testBit_and, Nat.zero_testBit, show (4 : Nat) = 2 ^ 2 from rfl, Nat.testBit_two_pow]
      by_cases hi : 2 = i
      · subst hi; rw [h]; rfl
      · simp [hi]
  rw [h2]
  constructor
  · intro h n hn
    refine (frO_4 (ho n hn)).1 ((h2 _).2 ?_)
    cases e : (frO n.op).toNat.testBit 2 with
    | false => rfl
    | true =>
      have : (orL frN (canT t)).testBit 2 = true := orL_bit.2 ⟨n, hn, e⟩
      rw [show orL frN (canT t) = frgL (canT t) from rfl, h] at this
      cases this
  · intro h
    cases e : (frgL (canT t)).testBit 2 with
    | false => rfl
    | true =>
      obtain ⟨n, hn, hb⟩ := orL_bit.1 (show (orL frN (canT t)).testBit 2 = true from e)
      have := (h2 _).1 ((frO_4 (ho n hn)).2 (h n hn))
      rw [show frN n = (frO n.op).toNat from rfl, this] at hb
      cases hb
theorem bAndNotI {P : Program} {t : TypeId} {a b : Nat} (ha : a < 512) (hb : b < 512) : Bin P .andNot t (.int .i64 a) (.int .i64 b) (.int .i64 (andN a b)) := by
  refine bI _ ?_
  have h1 : (BitVec.ofInt 64 (a : Int)).toNat = a := by
    rw [BitVec.ofInt_natCast, BitVec.toNat_ofNat]; exact Nat.mod_eq_of_lt (by omega)
  have h2 : BitVec.ofInt 64 (b : Int) = BitVec.ofNat 64 b := BitVec.ofInt_natCast ..
  have h0 : BitVec.ofInt 64 (a : Int) = BitVec.ofNat 64 a := BitVec.ofInt_natCast ..
  have hx : andN a b < 2 ^ 9 := Nat.and_lt_two_pow _ (by show 511 ^^^ b < 2 ^ 9; exact Nat.xor_lt_two_pow (by decide) (by omega))
  have key : (BitVec.ofInt 64 (a : Int) &&& ~~~ BitVec.ofInt 64 (b : Int)) = BitVec.ofNat 64 (andN a b) := by
    rw [h0, h2]
    apply BitVec.eq_of_getLsbD_eq
    intro i hi
    rw [BitVec.getLsbD_and, BitVec.getLsbD_not, BitVec.getLsbD_ofNat, BitVec.getLsbD_ofNat, BitVec.getLsbD_ofNat, andN, Nat.testBit_and, Nat.testBit_xor, show (511 : Nat) = 2 ^ 9 - 1 from rfl, Nat.testBit_two_pow_sub_one]
    have e9 : ¬ i < 9 → a.testBit i = false := fun hc => Nat.testBit_lt_two_pow (Nat.lt_of_lt_of_le ha (by show 2 ^ 9 ≤ 2 ^ i; exact Nat.pow_le_pow_right (by decide) (by omega)))
    by_cases h9 : i < 9
    · simp [hi, h9]
    · simp [hi, e9 h9]
  show (binOp .andNot t (.int .i64 a) (.int .i64 b)) = _
  show (pure (Value.int .i64 (IntKind.i64.wrap ((BitVec.ofInt 64 (a : Int) &&& ~~~ BitVec.ofInt 64 (b : Int)).toNat : Int))) : Sem Value) = _
  rw [key, BitVec.toNat_ofNat, Nat.mod_eq_of_lt (by omega), IntWalk.i64_in _ (by omega)]
theorem bAndI {P : Program} {t : TypeId} {a b : Nat} (ha : a < 512) (hb : b < 512) : Bin P .and t (.int .i64 a) (.int .i64 b) (.int .i64 (a &&& b : Nat)) := by
  refine bI _ ?_
  have hx : a &&& b < 2 ^ 9 := Nat.and_lt_two_pow _ (by omega)
  have h1 : (BitVec.ofInt 64 (a : Int)).toNat = a := by
    rw [BitVec.ofInt_natCast, BitVec.toNat_ofNat]; exact Nat.mod_eq_of_lt (by omega)
  have h2 : (BitVec.ofInt 64 (b : Int)).toNat = b := by
    rw [BitVec.ofInt_natCast, BitVec.toNat_ofNat]; exact Nat.mod_eq_of_lt (by omega)
  show (pure (Value.int .i64 (IntKind.i64.wrap ((BitVec.ofInt 64 (a : Int) &&& BitVec.ofInt 64 (b : Int)).toNat : Int))) : Sem Value) = _
  rw [BitVec.toNat_and, h1, h2, IntWalk.i64_in _ (by omega)]
/-! what Holds says of a model and a formula -/
def holdE (n : Int) (val : List W64) (rel : List (List W64)) (f : List NV) : Int :=
  if checkM n val rel ≠ 0 then checkM n val rel else if chkF f ≠ 0 then chkF f else if andN (frgL (compF f)) 15 ≠ 0 then 10 else if fitB f rel.length val.length = false then 2 else 0
def StatL (A B : Nat) (op i g : Int) : Prop := op ≤ 13 ∧ FitL A B op i g
theorem allL_and {p q : Int → Int → Int → Prop} : ∀ {t : Tr}, allL p t → allL q t → allL (fun op i g => p op i g ∧ q op i g) t
  | .leaf .., h, k => ⟨h, k⟩
  | .un .., h, k => ⟨⟨h.1, k.1⟩, allL_and h.2 k.2⟩
  | .bin .., h, k => ⟨⟨h.1, k.1⟩, allL_and h.2.1 k.2.1, allL_and h.2.2 k.2.2⟩
theorem holdE_zero {n : Int} {val : List W64} {rel : List (List W64)} {f : List NV} : holdE n val rel f = 0 ↔ ValM n val rel ∧ chkF f = 0 ∧ allL (StatL rel.length val.length) (topT f) := by
  unfold holdE
  constructor
  · intro h
    split at h
    · rename_i h1; exact absurd h h1
    · rename_i h1
      split at h
      · rename_i h2; exact absurd h h2
      · rename_i h2
        split at h
        · cases h
        · rename_i h3
          split at h
          · cases h
          · rename_i h4
            have h2 := Classical.not_not.1 h2
            have h3 := Classical.not_not.1 h3
            rw [compF_eq h2] at h3
            exact ⟨checkM_zero.1 (Classical.not_not.1 h1), h2, allL_and ((frg_has (chkF_zero.1 h2).top frO_15).1 h3) (fitB_iff.1 (by simpa using h4)).2⟩
  · rintro ⟨h1, h2, h3⟩
    have k3 : andN (frgL (compF f)) 15 = 0 := by
      rw [compF_eq h2]; exact (frg_has (chkF_zero.1 h2).top frO_15).2 (h3.mono (fun _ _ _ h => h.1))
    have k4 : fitB f rel.length val.length = true := fitB_iff.2 ⟨h2, h3.mono (fun _ _ _ h => h.2)⟩
    rw [if_neg (by simp [checkM_zero.2 h1]), if_neg (by simp [h2]), if_neg (by simp [k3]), if_neg (by simp [k4])]
theorem semT_mk {n : Nat} {val : List W64} {rel : List (List W64)} {nd : NV} {a b : Tr} : semT n val rel (mkT nd a b) = oneW n val rel nd.op nd.i nd.g (if usX nd.op = true then semT n val rel a else 0#64) (if usY nd.op = true then semT n val rel b else 0#64) := by
  unfold mkT
  split
  · rename_i h; rw [if_pos (usY_X h)]; rfl
  · split
    · rename_i h; rfl
    · rfl
end Go.Proofs.Wit
