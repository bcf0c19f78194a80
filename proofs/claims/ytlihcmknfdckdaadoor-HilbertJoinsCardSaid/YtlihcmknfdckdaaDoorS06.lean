/- Laws of walks, for any program, under the conditions that each theorem states. -/
import Derived.Test.YtlihcmknfdckdaaDoorS02
import Derived.Test.YtlihcmknfdckdaaDoorS03
namespace Go.Proofs.Wit
/-! partitions as lists of lowest points; the rounds of a refinement -/
section
variable {κ κ' : Type} [DecidableEq κ] [DecidableEq κ']
def ldr (key : Nat → κ) (k : κ) (n : Nat) : Option Nat := firstTo (fun j => if key j = k then some j else none) n
def led (key : Nat → κ) (i : Nat) : Nat := (ldr key (key i) (i + 1)).getD 0
def ker (n : Nat) (key : Nat → κ) : List Int := (List.range n).map (fun i => (led key i : Int))
end
structure OkP (p : List Int) : Prop where
  len : p.length ≤ 64
  low : ∀ i, i < p.length → 0 ≤ p.getD i 0 ∧ p.getD i 0 ≤ i ∧ p.getD (p.getD i 0).toNat 0 = p.getD i 0
def bitsP (p : List Int) : List W64 := p.map (fun x => 1#64 <<< x.toNat)
def rch (p : List Int) (s : W64) : W64 := mapR (bitsP p) s
def nxt (rels : List (List W64)) (p : List Int) : List Int := ker p.length (fun w => (p.getD w 0, rels.map (fun r => rch p (r.getD w 0#64))))
def fmTo (val : List W64) (w : Nat) : Nat → Nat
 | 0 => 0
 | k + 1 => fmTo val w k + (if (val.getD k 0#64).getLsbD w = true then 2 ^ k else 0)
def fm (val : List W64) (w : Nat) : Nat := fmTo val w val.length
def psq (n : Nat) (val : List W64) (rels : List (List W64)) : Nat → List Int
 | 0 => ker n (fun w => fm val w)
 | i + 1 => nxt rels (psq n val rels i)
section
variable {n : Nat} {val : List W64} {rels : List (List W64)}
def depO (n : Nat) (val : List W64) (rels : List (List W64)) : Option Nat := ldr (fun d => decide (psq n val rels d = psq n val rels (d + 1))) true n
def dep (n : Nat) (val : List W64) (rels : List (List W64)) : Nat := (depO n val rels).getD 0
end
end Go.Proofs.Wit
namespace Go.Proofs.Wit
/-! the walk that makes a canonical list -/
theorem visit_mem {t : Tr} {ts : List Tr} (h : t ∈ ts) : visit t ts = ts := by
 cases t with
 | leaf => rw [visit, if_pos h]
 | un => rw [visit, if_pos h]
 | bin => rw [visit, if_pos h]
def vkids : Tr → List Tr → List Tr
 | .leaf .., ts => ts
 | .un _ _ _ _ a, ts => visit a ts
 | .bin _ _ _ _ a b, ts => visit b (visit a ts)
def putT (t : Tr) (ts : List Tr) : List Tr := if t ∈ ts then ts else ts ++ [t]
theorem visit_put {t : Tr} {ts : List Tr} (hc : Clo ts) (_hn : ts.Nodup) : putT t (vkids t ts) = visit t ts := by
 unfold putT
 by_cases h : t ∈ ts
 ·rw [visit_mem h]
  have hk : vkids t ts = ts := by
   cases t with
   | leaf => rfl
   | un op i e g a => exact visit_mem (hc.mem h a (by simp [kids]))
   | bin op i e g a b =>
    show visit b (visit a ts) = ts
    rw [visit_mem (hc.mem h a (by simp [kids])), visit_mem (hc.mem h b (by simp [kids]))]
  rw [hk, if_pos h]
 ·have hnew : t ∉ vkids t ts := fun hm => by
   cases t with
   | leaf => exact h hm
   | un op i e g a =>
    rcases visit_new a hm with h5 | h5
    ·exact h h5
    ·simp only [size] at h5; omega
   | bin op i e g a b =>
    rcases visit_new b hm with h5 | h5
    ·rcases visit_new a h5 with h5 | h5
     ·exact h h5
     ·simp only [size] at h5; omega
    ·simp only [size] at h5; omega
  rw [if_neg hnew]
  cases t with
  | leaf => rw [visit, if_neg h]; rfl
  | un => rw [visit, if_neg h]; rfl
  | bin => rw [visit, if_neg h]; rfl
def NodesOk (f : List NV) : Prop := ∀ (i : Nat) (hi : i < f.length), OkN f[i] i
theorem OkF.nodes {f : List NV} (h : OkF f) : NodesOk f := fun i hi => h.at i hi
theorem NodesOk.ord {f : List NV} (h : NodesOk f) : OrdF f := fun i hi => ⟨(h i hi).x, (h i hi).y⟩
structure DoneOk (f : List NV) (ts : List Tr) (ds : List Int) : Prop where
  len : ds.length = f.length
  at_ : ∀ i, i < f.length → ds.getD i 0 = -1 ∨ treeAt f i ∈ ts ∧ ds.getD i 0 = (ts.idxOf (treeAt f i) : Int)
theorem DoneOk.mono {f : List NV} {ts us : List Tr} {ds : List Int} (h : DoneOk f ts ds) (hp : ts <+: us) : DoneOk f us ds :=
 ⟨h.len, fun i hi => by
  rcases h.at_ i hi with h1 | ⟨h1, h2⟩
  ·exact .inl h1
  ·exact .inr ⟨hp.subset h1, by rw [h2, idx_pre hp h1]⟩⟩
theorem DoneOk.set {f : List NV} {ts : List Tr} {ds : List Int} (h : DoneOk f ts ds) {i : Nat} (hi : i < f.length) (hm : treeAt f i ∈ ts) : DoneOk f ts (ds.set i (ts.idxOf (treeAt f i) : Int)) :=
 ⟨by simp [h.len], fun j hj => by
  have hl := h.len
  by_cases e : j = i
  ·subst e
   exact .inr ⟨hm, by simp [List.getD_eq_getElem?_getD, hl, hj]⟩
  ·rcases h.at_ j hj with h1 | ⟨h1, h2⟩
   ·exact .inl (by rw [← h1]; simp [List.getD_eq_getElem?_getD, Ne.symm e])
   ·exact .inr ⟨h1, by rw [← h2]; simp [List.getD_eq_getElem?_getD, Ne.symm e]⟩⟩
theorem DoneOk.start {f : List NV} : DoneOk f [] (List.replicate f.length (-1)) := ⟨by simp, fun i hi => .inl (by simp [List.getD_eq_getElem?_getD, hi])⟩
theorem treeAt_mem {f : List NV} {i : Nat} (hi : i < f.length) : treeAt f i ∈ trees f := by
 rw [treeAt_eq hi]; exact List.getElem_mem _
theorem sub_len {f : List NV} {ts : List Tr} (hn : ts.Nodup) (hs : ts ⊆ trees f) : ts.length ≤ f.length := by
 have := hn.length_le_of_subset hs
 rwa [trees_len] at this
theorem sepOf {w w' : World} {h h' : Hl} {Y : List (Nat × Obj)} {a : Option Addr} {f : List NV} (ha : FA w a f) (hf : 0 < f.length) (hsep : ∀ b o, a = some ⟨b, o, none⟩ → b ∉ blks h) (s : St w (blks h) w' h' Y) : ∀ b o, a = some ⟨b, o, none⟩ → b ∉ blks h' := fun b o e hm => by
 obtain ⟨b1, o1, e1, h1⟩ := ha.at_.isSome (by rw [flatN]; omega)
 rw [e] at e1
 cases e1
 obtain ⟨ob, hob⟩ := mem_blks.1 hm
 rcases (s.own _ hob b rfl).2.2 with h2 | h2
 ·omega
 ·exact hsep b o e h2
theorem kids_node {f : List NV} {i : Nat} (hi : i < f.length) (hO : NodesOk f) :
  (usX f[i].op = false ∧ treeAt f i = .leaf f[i].op f[i].i f[i].e f[i].g) ∨
  (usX f[i].op = true ∧ usY f[i].op = false ∧ treeAt f i = .un f[i].op f[i].i f[i].e f[i].g (treeAt f f[i].x.toNat)) ∨
  (usY f[i].op = true ∧ treeAt f i = .bin f[i].op f[i].i f[i].e f[i].g (treeAt f f[i].x.toNat) (treeAt f f[i].y.toNat)) := by
 have h := hO i hi
 have ht := treeAt_node hi (fun hu => by have := h.x hu; omega) (fun hu => by have := h.y hu; omega)
 by_cases h1 : usY f[i].op = true
 ·exact .inr (.inr ⟨h1, by rw [ht, mkT_bin h1]⟩)
 ·by_cases h2 : usX f[i].op = true
  ·exact .inr (.inl ⟨h2, by simpa using h1, by rw [ht, mkT_un h2 (by simpa using h1)]⟩)
  ·exact .inl ⟨by simpa using h2, by rw [ht, mkT_leaf (by simpa using h2)]⟩
end Go.Proofs.Wit
namespace Go.Proofs.Wit
open Go
structure FAS (S : List Nat) (w : World) (a : Option Addr) (f : List NV) : Prop where
  at_ : Sl w a (f.flatMap NV.cells)
  sep : ∀ b o, a = some ⟨b, o, none⟩ → b ∉ S
theorem FAS.ex0 {S : List Nat} {w0 w : World} {a : Option Addr} {f : List NV} (h : FAS S w0 a f) (e : Ex S w0 w) : FAS S w a f := ⟨Sl.ex h.at_ e h.sep, h.sep⟩
end Go.Proofs.Wit
namespace Go.Proofs.Wit
open Go Go.RowKit
/-! more of nodes in memory -/
theorem bNeNode {P : Program} {t it : TypeId} {fs : Array Field} (hu : P.underlying t = some (.struct fs)) (hfs : nodeFs fs it) (hi : P.underlying it = some (.int .i64)) (ha : ∀ w, (isAgg it).run P w = .ok false w) (hst : P.stoodInHeld t = false) (hg : P.eqGuardType P.depth t = false) {a b : NV} :
  Bin P .neq t a.v b.v (.bool (a != b)) := by
 intro x y w
 have h1 : (Op.equal t a.v b.v).run P w = .ok (a == b) w := eqIn_node hu hfs hi ha hst 9998 a b w
 have hprog : (program : Sem Program).run P w = .ok P w := rfl
 have h2 : (eqGuard .neq t x y a.v b.v).run P w = .ok () w := by
  unfold eqGuard
  simp only [NV.v]
  simp [hg]
 have h3 : (binOp .neq t a.v b.v).run P w = .ok (.bool (a != b)) w := by
  show (do pure (Value.bool (!(← Op.equal t a.v b.v))) : Sem Value).run P w = _
  simp only [Sem.run_bind, h1, Result.andThen_ok]; rfl
 simp only [Sem.run_bind, h2, Result.andThen_ok, h3]
def subF (f : List NV) (i : Int) : List NV := if chkF f ≠ 0 ∨ i < 0 ∨ (f.length : Int) ≤ i then [] else canT (treeAt f i.toNat)
def frO (op : Int) : Int := if op = 9 ∨ op = 10 then 1 else if op = 11 then 2 else if op = 12 then 4 else if op = 13 then 8 else if op = 14 then 16 else if op = 15 then 32 else if op = 16 then 64 else if op = 17 then 128 else if 18 ≤ op ∧ op ≤ 21 then 256 else 0
def usV (op : Int) : Value := .agg #[.bool (usX op), .bool (usY op), .bool (op == 3), .bool (agO op), .bool (grO op), .bool (op == 17), .int .i64 (frO op)]
def okO (op : Int) : Bool := decide (1 ≤ op) && decide (op ≤ 21)
def rngB (u : Bool) (x lo hi : Int) : Bool := u && (decide (x < lo) || decide (hi < x))
theorem okO_out {op : Int} (h : ¬ (1 ≤ op ∧ op ≤ 21)) : okO op = false := by
 simp only [okO, Bool.and_eq_false_iff, decide_eq_false_iff_not]; omega
theorem usV_out {op : Int} (h : ¬ (1 ≤ op ∧ op ≤ 21)) : usV op = .agg #[.bool false, .bool false, .bool false, .bool false, .bool false, .bool false, .int .i64 0] := by
 have h1 : usX op = false := by simp only [usX, Bool.and_eq_false_iff, decide_eq_false_iff_not]; omega
 have h2 : usY op = false := by
  cases e : usY op with
  | false => rfl
  | true => rw [usY_X e] at h1; cases h1
 have h3 : (op == 3) = false := by simp; omega
 have h4 : agO op = false := by simp [agO]; omega
 have h5 : grO op = false := by simp [grO]; omega
 have h6 : (op == 17) = false := by simp; omega
 have h7 : frO op = 0 := by
  unfold frO
  repeat (rw [if_neg (by omega)])
 rw [usV, h1, h2, h3, h4, h5, h6, h7]
end Go.Proofs.Wit
