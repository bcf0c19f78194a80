/- Laws of walks, for any program, under the conditions that each theorem states. -/
import Derived.Test.YtlihcmknfdckdaaDoorS02
import Derived.MapKept
namespace Go.Proofs.Wit
/-! what Check says of a formula -/
def nv0 : NV := ⟨0, 0, 0, 0, 0, 0⟩
def opB (used : Bool) (v at_ : Int) : Bool := used && decide (0 ≤ v) && decide (v < at_) || !used && v == 0
def iO (op : Int) : Bool := op == 3 || agO op || op == 17
def fldE (op i e g : Int) : Int :=
 if (!iO op && i != 0 || op != 17 && e != 0 || !grO op && g != 0) = true then 3
 else if (op == 3 && !(decide (0 ≤ i) && decide (i < 8)) || agO op && !(decide (0 ≤ i) && decide (i < 4)) || op == 17 && !(decide (0 ≤ i) && decide (i < 8) && decide (0 ≤ e) && decide (e < 8)) || grO op && !(decide (1 ≤ g) && decide (g < 16))) = true then 2 else 0
def nodeE (n : NV) (at_ : Int) : Int :=
 if ¬ (1 ≤ n.op ∧ n.op ≤ 21) then 10
 else if ¬ (opB (usX n.op) n.x at_ = true ∧ opB (usY n.op) n.y at_ = true) then 3 else fldE n.op n.i n.e n.g
def firstE (e : Nat → Int) : Nat → Int
 | 0 => 0
 | n + 1 => if firstE e n ≠ 0 then firstE e n else e n
theorem firstE_zero {e : Nat → Int} : ∀ {n : Nat}, firstE e n = 0 ↔ ∀ i, i < n → e i = 0
 | 0 => by simp [firstE]
 | n + 1 => by
  rw [firstE]
  constructor
  ·intro h i hi
   split at h
   ·rename_i h2; exact absurd h h2
   ·rename_i h2
    rcases Nat.lt_succ_iff_lt_or_eq.1 hi with hi | rfl
    ·exact firstE_zero.1 (Classical.not_not.1 h2) i hi
    ·exact h
  ·intro h
   have h1 : firstE e n = 0 := firstE_zero.2 (fun i hi => h i (Nat.lt_succ_of_lt hi))
   rw [if_neg (by simp [h1])]
   exact h n (Nat.lt_succ_self n)
theorem firstE_keep {e : Nat → Int} {n : Nat} (h : firstE e n ≠ 0) : ∀ m, n ≤ m → firstE e m = firstE e n := fun m hm => by
 obtain ⟨k, rfl⟩ : ∃ k, m = n + k := ⟨m - n, by omega⟩
 clear hm
 induction k with
 | zero => rfl
 | succ k ih => rw [← Nat.add_assoc, firstE, if_pos (by rw [ih]; exact h), ih]
theorem firstE_hit {e : Nat → Int} {n m : Nat} (h : firstE e n = 0) (he : e n ≠ 0) (hm : n < m) : firstE e m = e n := by
 have h1 : firstE e (n + 1) = e n := by rw [firstE, if_neg (by simp [h])]
 rw [firstE_keep (n := n + 1) (by rw [h1]; exact he) m hm, h1]
def errF (f : List NV) (i : Nat) : Int := nodeE (f.getD i nv0) i
def chkF (f : List NV) : Int := if f.length = 0 then 3 else if 200 < f.length then 8 else firstE (errF f) f.length
structure OkF (f : List NV) : Prop where
  pos : 0 < f.length
  len : f.length ≤ 200
  node : ∀ (i : Nat) (hi : i < f.length), nodeE f[i] i = 0
theorem chkF_zero {f : List NV} : chkF f = 0 ↔ OkF f := by
 unfold chkF
 have hg : ∀ (i : Nat) (hi : i < f.length), errF f i = nodeE f[i] i := fun i hi => by simp [errF, List.getD_eq_getElem?_getD, hi]
 constructor
 ·intro h
  split at h
  ·cases h
  ·rename_i h1
   split at h
   ·cases h
   ·rename_i h2
    exact ⟨by omega, by omega, fun i hi => by rw [← hg i hi]; exact firstE_zero.1 h i hi⟩
 ·rintro ⟨h1, h2, h3⟩
  rw [if_neg (by omega), if_neg (by omega)]
  exact firstE_zero.2 (fun i hi => by rw [hg i hi]; exact h3 i hi)
structure OkN (n : NV) (at_ : Int) : Prop where
  op : 1 ≤ n.op ∧ n.op ≤ 21
  x : usX n.op = true → 0 ≤ n.x ∧ n.x < at_
  x0 : usX n.op = false → n.x = 0
  y : usY n.op = true → 0 ≤ n.y ∧ n.y < at_
  y0 : usY n.op = false → n.y = 0
  fld : fldE n.op n.i n.e n.g = 0
theorem opB_true {used : Bool} {v at_ : Int} : opB used v at_ = true ↔ (used = true → 0 ≤ v ∧ v < at_) ∧ (used = false → v = 0) := by
 cases used <;> simp [opB]
theorem nodeE_zero {n : NV} {at_ : Int} : nodeE n at_ = 0 ↔ OkN n at_ := by
 unfold nodeE
 constructor
 ·intro h
  split at h
  ·cases h
  ·rename_i h1
   split at h
   ·cases h
   ·rename_i h2
    obtain ⟨h3, h4⟩ := Classical.not_not.1 h2
    obtain ⟨a1, a2⟩ := opB_true.1 h3
    obtain ⟨b1, b2⟩ := opB_true.1 h4
    exact ⟨Classical.not_not.1 h1, a1, a2, b1, b2, h⟩
 ·rintro ⟨h1, a1, a2, b1, b2, h⟩
  rw [if_neg (by simp [h1]), if_neg (by simp [opB_true.2 ⟨a1, a2⟩, opB_true.2 ⟨b1, b2⟩])]
  exact h
theorem OkF.at {f : List NV} (h : OkF f) (i : Nat) (hi : i < f.length) : OkN f[i] i := nodeE_zero.1 (h.node i hi)
def treeAt (f : List NV) (i : Nat) : Tr := (trees f).getD i tr0
theorem treeAt_eq {f : List NV} {i : Nat} (hi : i < f.length) : treeAt f i = (trees f)[i]'(by rw [trees_len]; exact hi) := by
 simp [treeAt, List.getD_eq_getElem?_getD, show i < (trees f).length from by rw [trees_len]; exact hi]
theorem treeAt_node {f : List NV} {i : Nat} (hi : i < f.length) (hx : usX f[i].op = true → f[i].x.toNat < i) (hy : usY f[i].op = true → f[i].y.toNat < i) :
  treeAt f i = mkT f[i] (treeAt f f[i].x.toNat) (treeAt f f[i].y.toNat) := by
 rw [treeAt_eq hi, trees_get hi]
 have ht : ∀ k, k < i → ((trees f).take i).getD k tr0 = treeAt f k := fun k hk => by
  unfold treeAt
  simp [List.getD_eq_getElem?_getD, hk]
 by_cases h1 : usY f[i].op = true
 ·rw [mkT_bin h1, mkT_bin h1, ht _ (hx (usY_X h1)), ht _ (hy h1)]
 ·by_cases h2 : usX f[i].op = true
  ·rw [mkT_un h2 (by simpa using h1), mkT_un h2 (by simpa using h1), ht _ (hx h2)]
  ·rw [mkT_leaf (by simpa using h2), mkT_leaf (by simpa using h2)]
theorem treeAt_wf (f : List NV) (i : Nat) : (treeAt f i).wf := by
 unfold treeAt
 by_cases hi : i < (trees f).length
 ·rw [show (trees f).getD i tr0 = (trees f)[i] from by simp [List.getD_eq_getElem?_getD, hi]]; exact trees_wf f _ (List.getElem_mem hi)
 ·rw [show (trees f).getD i tr0 = tr0 from by simp [List.getD_eq_getElem?_getD, List.getElem?_eq_none (Nat.le_of_not_lt hi)]]; exact tr0_wf
def OrdF (f : List NV) : Prop := ∀ (i : Nat) (hi : i < f.length), (usX f[i].op = true → 0 ≤ f[i].x ∧ f[i].x < i) ∧ (usY f[i].op = true → 0 ≤ f[i].y ∧ f[i].y < i)
theorem OkF.ord {f : List NV} (h : OkF f) : OrdF f := fun i hi => ⟨(h.at i hi).x, (h.at i hi).y⟩
theorem OrdF.clo {f : List NV} (h : OrdF f) : Clo (trees f) := fun k hk c hc => by
 rw [trees_len] at hk
 obtain ⟨hx, hy⟩ := h k hk
 have h1 := treeAt_node hk (fun hu => by have := hx hu; omega) (fun hu => by have := hy hu; omega)
 rw [← treeAt_eq hk, h1] at hc
 have ht : ∀ j, j < k → treeAt f j ∈ (trees f).take k := fun j hj => by
  rw [treeAt_eq (by omega : j < f.length)]
  rw [List.mem_take_iff_getElem]
  exact ⟨j, by rw [trees_len]; omega, rfl⟩
 by_cases h2 : usY f[k].op = true
 ·rw [mkT_bin h2] at hc
  simp only [kids, List.mem_cons, List.not_mem_nil, or_false] at hc
  rcases hc with rfl | rfl
  ·exact ht _ (by have := hx (usY_X h2); omega)
  ·exact ht _ (by have := hy h2; omega)
 ·by_cases h3 : usX f[k].op = true
  ·rw [mkT_un h3 (by simpa using h2)] at hc
   rw [List.mem_singleton.1 hc]
   exact ht _ (by have := hx h3; omega)
  ·rw [mkT_leaf (by simpa using h3)] at hc; cases hc
theorem canon_len {f : List NV} (h : OrdF f) {i : Nat} (hi : i < f.length) : (canT (treeAt f i)).length ≤ i + 1 := by
 have hclo : Clo ((trees f).take (i + 1)) := fun k hk c hc => by
  rw [List.length_take] at hk
  rw [List.getElem_take] at hc
  have := h.clo k (by omega) c hc
  rw [List.take_take, Nat.min_eq_left (by omega)]; exact this
 have hm : treeAt f i ∈ (trees f).take (i + 1) := by
  rw [treeAt_eq hi, List.mem_take_iff_getElem]
  exact ⟨i, by rw [trees_len]; omega, rfl⟩
 have hs := visit_sub (treeAt f i) (ts := []) hclo hm (List.nil_subset _)
 have hn := (subT_ok (treeAt f i)).nd
 rw [canT_len]
 have hle := hn.length_le_of_subset hs
 rw [List.length_take] at hle
 omega
end Go.Proofs.Wit
namespace Go.Proofs.Wit
theorem nodeE_op {n : NV} {a : Int} (h : ¬ (1 ≤ n.op ∧ n.op ≤ 21)) : nodeE n a = 10 := if_pos h
theorem nodeE_x {n : NV} {a : Int} (h : 1 ≤ n.op ∧ n.op ≤ 21) (hb : opB (usX n.op) n.x a = false) : nodeE n a = 3 := by
 rw [nodeE, if_neg (by simp [h]), if_pos (by rw [hb]; simp)]
theorem nodeE_y {n : NV} {a : Int} (h : 1 ≤ n.op ∧ n.op ≤ 21) (hb : opB (usY n.op) n.y a = false) : nodeE n a = 3 := by
 rw [nodeE, if_neg (by simp [h]), if_pos (by rw [hb]; simp)]
theorem nodeE_f {n : NV} {a : Int} (h : 1 ≤ n.op ∧ n.op ≤ 21) (hx : opB (usX n.op) n.x a = true) (hy : opB (usY n.op) n.y a = true) : nodeE n a = fldE n.op n.i n.e n.g := by
 rw [nodeE, if_neg (by simp [h]), if_neg (by rw [hx, hy]; simp)]
theorem fldE_3 {op i e g : Int} (h : (!iO op && i != 0 || op != 17 && e != 0 || !grO op && g != 0) = true) : fldE op i e g = 3 := if_pos h
theorem fldE_2 {op i e g : Int} (h : (!iO op && i != 0 || op != 17 && e != 0 || !grO op && g != 0) = false) (h2 : (op == 3 && !(decide (0 ≤ i) && decide (i < 8)) || agO op && !(decide (0 ≤ i) && decide (i < 4)) || op == 17 && !(decide (0 ≤ i) && decide (i < 8) && decide (0 ≤ e) && decide (e < 8)) || grO op && !(decide (1 ≤ g) && decide (g < 16))) = true) : fldE op i e g = 2 := by
 rw [fldE, if_neg (by rw [h]; simp), if_pos h2]
theorem fldE_0 {op i e g : Int} (h : (!iO op && i != 0 || op != 17 && e != 0 || !grO op && g != 0) = false) (h2 : (op == 3 && !(decide (0 ≤ i) && decide (i < 8)) || agO op && !(decide (0 ≤ i) && decide (i < 4)) || op == 17 && !(decide (0 ≤ i) && decide (i < 8) && decide (0 ≤ e) && decide (e < 8)) || grO op && !(decide (1 ≤ g) && decide (g < 16))) = false) : fldE op i e g = 0 := by
 rw [fldE, if_neg (by rw [h]; simp), if_neg (by rw [h2]; simp)]
end Go.Proofs.Wit
namespace Go.Proofs.Wit
open Go Go.RowKit
/-! regions that draw their order: operations that only read, and behind them a tail that may make new blocks -/
def reach (ops : Array Oper) : Nat → List Nat → List Nat
 | 0, acc => acc
 | j + 1, acc => reach ops j (cond (acc.any fun z => (dirs ops z).contains j) (j :: acc) acc)
def below (ops : Array Oper) (x : Nat) : List Nat := reach ops x [x]
def forced (ops : Array Oper) : List Nat → List Nat → Bool
 | listed, [] => (readyL ops listed).isEmpty
 | listed, x :: rest => (readyL ops listed == [x]) && forced ops (x :: listed) rest
def tailOk (ops : Array Oper) (_l : Fl) (m : Nat) : Bool :=
 Nat.ble m ops.size &&
 (List.range ops.size).all (fun i => (dirs ops i).all (fun j => Nat.blt j i)) &&
 (List.range m).all (fun i => match ops[i]? with
  | none => false
  | some o => notSel o.op && match o.dst with
   | none => false
   | some d => (List.range ops.size).all (fun j => Nat.beq j i || !(dstOf ops j == some d)) &&
    (eyes ops o).all (fun s => (List.range ops.size).all (fun j => !(dstOf ops j == some s) || (dirs ops i).contains j || (Nat.ble m j && (below ops j).contains i)))) &&
 (List.range' m (ops.size - m)).all (fun i => match ops[i]? with
  | none => false
  | some o => (eyes ops o).all (fun s => (List.range m).all (fun j => !(dstOf ops j == some s) || (dirs ops i).contains j)))
section
variable {P : Program} {r : Option Nat} {f : FuncId} {R : Value → World → Prop} {w0 : World} {S : List Nat} {Y : List (Nat × Obj)} {n : Nat} {k : List Item} {l : Fl} {h : Hl} {ops : Array Oper}
def Mop (P : Program) (w0 : World) (S : List Nat) (n : Nat) (h : Hl) (ops : Array Oper) (i : Nat) (l : Fl) (d : Nat) (K : Value → Hl → Prop) : Prop :=
 ∃ o, ops[i]? = some o ∧ o.dst = some d ∧ isDefer o.op = false ∧ notSel o.op = true ∧ Nat.blt d n = true ∧
  ((wantL ops l o.guard = true ∧ ∀ (t : Array Value) (w : World) (Ds : List Nat) (Y' : List (Nat × Obj)), Frm n t l → St w0 S w h Y' →
   (∃ v w' h', (execOp (Act.eval ⟨t, Ds.map mark⟩) o).run P w = .ok (.value v) w' ∧ St w0 S w' h' Y' ∧ K v h') ∨
   (∃ gf args, ∃ Rc : Value → World → Prop, (execOp (Act.eval ⟨t, Ds.map mark⟩) o).run P w = .ok (.enter gf args) w ∧ (Calls P gf args w fun e w' => ∃ v, e = .returned v ∧ Rc v w') ∧ ∀ v w', Rc v w' → ∃ h', St w0 S w' h' Y' ∧ K v h')) ∨
  (skipL ops l o.guard = true ∧ K undef h))
section
variable {i d : Nat} {ty : TypeId} {pos : String} {aft : Array Edge} {g : Option (Nat × Bool)} {K : Value → Hl → Prop}
theorem Mop.bsN {t e : TypeId} {len : Nat} {az : Array (Nat × Operand)} {ps : List (Nat × Value)} {z : Value} {size : Nat} {c : List Value} (ho : ops[i]? = some ⟨some d, .buildSlice t len az, ty, pos, aft, g⟩) (hw : wantL ops l g = true) (hx : partsL l az.toList = some ps) (hd : Nat.blt d n = true)
  (hu : P.underlying t = some (.slice e)) (hs : ∀ w, (sizeOf e).run P w = .ok size w) (hz : ∀ w, (zeroValue e).run P w = .ok z w) (hm : Nat.ble (len * size) 16777216 = true)
  (hf : fillL (fun i => some (i * size, size)) ((List.range (len * size)).map fun i => z.cells.toList.getD (i % z.cells.toList.length) default) ps = some c)
  (hk : ∀ b, K (.slice (some ⟨b, 0, none⟩) len len) ((some b, .cells (c ++ []).toArray e) :: h)) : Mop P w0 S n h ops i l d K :=
 ⟨_, ho, rfl, rfl, rfl, hd, .inl ⟨hw, fun _ w Ds _ hF hS => .inl ⟨.slice (some ⟨w.heap.size, 0, none⟩) len len, w.alloc (.cells (c ++ []).toArray e), _,
  bsN_run hF hx hu hs hz hm hf Ds w, hS.alloc rfl, hk _⟩⟩⟩
theorem Mop.callM {az : Array Operand} {ts : Array TypeId} {cal : Operand} {gf : FuncId} {fs cs vs : List Value} (Rc : World → Value → World → Prop) (ho : ops[i]? = some ⟨some d, .call ⟨.value cal, az, ts⟩, ty, pos, aft, g⟩) (hw : wantL ops l g = true)
  (hc : opd l cal = some (.func (.func gf) fs.toArray cs.toArray)) (hx : opds l az.toList = some vs) (hd : Nat.blt d n = true) (hcf : ∀ args w, (callFunc gf args).run P w = .ok (.enter gf args) w)
  (hcall : ∀ w Y', St w0 S w h Y' → Cn P gf (fs ++ vs ++ cs) w (Rc w))
  (hk : ∀ v w w' Y', St w0 S w h Y' → Ex [] w w' → Rc w v w' → ∃ h', St w0 S w' h' Y' ∧ K v h') : Mop P w0 S n h ops i l d K :=
 ⟨_, ho, rfl, rfl, rfl, hd, .inl ⟨hw, fun t w Ds Y' hF hS => .inr ⟨gf, (fs ++ vs ++ cs).toArray, fun u w' => Ex [] w w' ∧ Rc w u w', by
  have e1 := resolve_run (P := P) (ty := ty) (ts := ts) (Ds := Ds) (w := w) hF hc hx
  simp only [execOp, Sem.run_bind, e1, Result.andThen_ok, invoke, hcf]
  simp, hcall w Y' hS, fun u w' ⟨he, hu⟩ => hk u w w' Y' hS he hu⟩⟩⟩
end
theorem Mop.call {i d : Nat} {ty : TypeId} {pos : String} {aft : Array Edge} {g : Option (Nat × Bool)} {K : Value → Hl → Prop} {az : Array Operand} {ts : Array TypeId} {cal : Operand} {gf : FuncId} {vs : List Value} (Rc : World → Value → World → Prop) (ho : ops[i]? = some ⟨some d, .call ⟨.value cal, az, ts⟩, ty, pos, aft, g⟩) (hw : wantL ops l g = true)
  (hc : opd l cal = some (.func (.func gf) #[] #[])) (hx : opds l az.toList = some vs) (hd : Nat.blt d n = true) (hcf : ∀ args w, (callFunc gf args).run P w = .ok (.enter gf args) w)
  (hcall : ∀ w Y', St w0 S w h Y' → Cn P gf vs w (Rc w))
  (hk : ∀ v w w' Y', St w0 S w h Y' → Ex [] w w' → Rc w v w' → ∃ h', St w0 S w' h' Y' ∧ K v h') : Mop P w0 S n h ops i l d K :=
 .callM (fs := []) (cs := []) Rc ho hw hc hx hd hcf (fun w Y' hS => by rw [List.nil_append, List.append_nil]; exact hcall w Y' hS) hk
def afterAll (ops : Array Oper) (m : Nat) : List Nat → Bool
 | [] => true
 | x :: _ => (List.range m).all (fun i => (below ops x).contains i && !(Nat.beq i x))
def Tl (P : Program) (r : Option Nat) (f : FuncId) (R : Value → World → Prop) (w0 : World) (S : List Nat) (Y : List (Nat × Obj)) (n : Nat) (k : List Item) (ops : Array Oper) (m : Nat) (hb : Hl) : Nat → List Nat → Fl → Hl → Prop
 | 0, _, _, _ => False
 | q + 1, TL, l, h =>
  (∃ rest, forced ops (TL ++ List.range m) rest = true ∧ afterAll ops m rest = true ∧ GoH P r f R w0 S Y n (.inRegion ops rest :: k) l h) ∨
  (readyL ops (TL ++ List.range m) ≠ [] ∧ ∀ i ∈ readyL ops (TL ++ List.range m), ∃ d, Mop P w0 S n h ops i l d (fun v h' => hb.Sublist h' ∧ Tl P r f R w0 S Y n k ops m hb q (i :: TL) ((d, v) :: l) h'))
def RdT (P : Program) (w0 : World) (S : List Nat) (n : Nat) (ops : Array Oper) (h : Hl) (F : Fl → Prop) (i m : Nat) (l : Fl) : Prop :=
 ∀ t, Frm n t l → RdS P w0 S n h ops (fun t' => ∃ l', Frm n t' l' ∧ F l') i m t
theorem RdT.nil {F : Fl → Prop} {i : Nat} (hg : F l) : RdT P w0 S n ops h F i 0 l := fun _ hF => ⟨l, hF, hg⟩
theorem RdT.v {F : Fl → Prop} {i m d : Nat} {v : Value} (hv : Vop P w0 S n h ops i l d v) (hg : RdT P w0 S n ops h F (i + 1) m ((d, v) :: l)) : RdT P w0 S n ops h F i (m + 1) l := by
 intro t hF
 obtain ⟨o, ho, hw, hdst, hnd, hd, hr⟩ := hv
 exact ⟨d, v, ⟨o, ho, hdst, by simpa [Nat.blt_eq] using hd, hnd, .inl ⟨want_of hF hw, fun w Ds Y' hS => by
  obtain ⟨nx, h1, rfl⟩ := hr t w Ds Y' hF hS; exact .inl h1⟩⟩, hg _ (hF.put v hd)⟩
theorem mem_reach {x : Nat} {listed : List Nat} (hc : ∀ j ∈ listed, ∀ e ∈ dirs ops j, e ∈ listed) (hx : ∀ e ∈ dirs ops x, e ∈ listed) : ∀ {j : Nat} {acc : List Nat}, (∀ z ∈ acc, z = x ∨ z ∈ listed) → ∀ y ∈ reach ops j acc, y = x ∨ y ∈ listed
 | 0, _, ha, y, hy => ha y hy
 | j + 1, acc, ha, y, hy => by
  rw [reach] at hy
  refine mem_reach hc hx (acc := cond (acc.any fun z => (dirs ops z).contains j) (j :: acc) acc) (fun z hz => ?_) y hy
  cases hb : acc.any fun z => (dirs ops z).contains j with
  | false => rw [hb] at hz; exact ha z hz
  | true =>
   rw [hb] at hz
   rcases List.mem_cons.1 hz with rfl | hz
   ·obtain ⟨u, hu, hd⟩ := List.any_eq_true.1 hb
    have hd := List.contains_iff_mem.1 hd
    rcases ha u hu with rfl | h
    ·exact .inr (hx _ hd)
    ·exact .inr (hc u h _ hd)
   ·exact ha z hz
theorem mem_below {x : Nat} {listed : List Nat} (hc : ∀ j ∈ listed, ∀ e ∈ dirs ops j, e ∈ listed) (hx : ∀ e ∈ dirs ops x, e ∈ listed) : ∀ y ∈ below ops x, y = x ∨ y ∈ listed :=
 mem_reach hc hx (fun _ hz => .inl (List.mem_singleton.1 hz))
theorem mem_readyL {listed : List Nat} {i : Nat} : i ∈ readyL ops listed ↔ i < ops.size ∧ i ∉ listed ∧ ∀ e ∈ dirs ops i, e ∈ listed := by
 simp [readyL, List.mem_filter]
structure TailFacts (ops : Array Oper) (m : Nat) : Prop where
  size : m ≤ ops.size
  lt : ∀ i, i < ops.size → ∀ j ∈ dirs ops i, j < i
  sel : ∀ i, i < m → ∀ o, ops[i]? = some o → notSel o.op = true
  inj : ∀ i j d, i < m → j < ops.size → dstOf ops i = some d → dstOf ops j = some d → i = j
  eye : ∀ i, i < m → ∀ o, ops[i]? = some o → ∀ s ∈ eyes ops o, ∀ j, j < ops.size → dstOf ops j = some s → j ∈ dirs ops i ∨ (m ≤ j ∧ i ∈ below ops j)
  eyeT : ∀ i, m ≤ i → ∀ o, ops[i]? = some o → ∀ s ∈ eyes ops o, ∀ j, j < m → dstOf ops j = some s → j ∈ dirs ops i
theorem tailFacts_of {m : Nat} (hc : tailOk ops l m = true) : TailFacts ops m := by
 simp only [tailOk, Bool.and_eq_true, List.all_eq_true, List.mem_range, List.mem_range'_1, Nat.blt_eq, Nat.ble_eq] at hc
 obtain ⟨⟨⟨hsz, hlt⟩, hr⟩, ht⟩ := hc
 have hat : ∀ i, i < m → ∃ o d, ops[i]? = some o ∧ o.dst = some d ∧ notSel o.op = true ∧ (∀ j, j < ops.size → j = i ∨ dstOf ops j ≠ some d) ∧ (∀ s ∈ eyes ops o, ∀ j, j < ops.size → (dstOf ops j ≠ some s ∨ j ∈ dirs ops i) ∨ (m ≤ j ∧ i ∈ below ops j)) := by
  intro i hi
  have := hr i hi
  cases ho : ops[i]? with
  | none => simp [ho] at this
  | some o =>
   cases hd : o.dst with
   | none => simp [ho, hd] at this
   | some d =>
    simp only [ho, hd, Bool.and_eq_true, List.all_eq_true, List.mem_range, Bool.or_eq_true, Nat.beq_eq, Bool.not_eq_true', beq_eq_false_iff_ne, List.contains_iff_mem, Nat.ble_eq] at this
    exact ⟨o, d, rfl, hd, this.1, this.2.1, this.2.2⟩
 refine ⟨hsz, hlt, fun i hi o ho => ?_, fun i j d hi hj h1 h2 => ?_, fun i hi o ho s hs j hj hd => ?_, fun i hi o ho s hs j hj hd => ?_⟩
 ·obtain ⟨o', d, h1, _, h3, _⟩ := hat i hi
  rw [ho] at h1; cases h1; exact h3
 ·obtain ⟨o, d', e1, e2, _, e5, _⟩ := hat i hi
  have : d' = d := by simp [dstOf, e1, e2] at h1; exact h1
  subst this
  rcases e5 j hj with e | e
  ·exact e.symm
  ·exact absurd h2 e
 ·obtain ⟨o', d, e1, _, _, _, e6⟩ := hat i hi
  rw [ho] at e1; cases e1
  rcases e6 s hs j hj with (e | e) | e
  ·exact absurd hd e
  ·exact .inl e
  ·exact .inr e
 ·have hiN := (Array.getElem?_eq_some_iff.1 ho).1
  have := ht i ⟨hi, by omega⟩
  simp only [ho, List.all_eq_true, Bool.or_eq_true, Bool.not_eq_true', beq_eq_false_iff_ne, List.contains_iff_mem, List.mem_range] at this
  rcases this s hs j hj with e | e
  ·exact absurd hd e
  ·exact e
theorem readyL_congr {a b : List Nat} (h : ∀ j, j ∈ a ↔ j ∈ b) : readyL ops a = readyL ops b := by
 have : ∀ j, a.contains j = b.contains j := fun j => by rw [Bool.eq_iff_iff]; simp [h j]
 unfold readyL
 simp only [this]
theorem forced_go : ∀ {rest listed : List Nat} {fuel τ : Nat} {arr : Array Bool}, forced ops listed rest = true → arr.size = ops.size → (∀ j, arr.getD j false = listed.contains j) → rest.length ≤ fuel →
  Region.linearise.go .any ops fuel τ arr [] = rest
 | [], listed, fuel, τ, arr, hf, hs, h, _ => by
  have h0 : readyL ops listed = [] := by simpa [forced] using hf
  cases fuel with
  | zero => rfl
  | succ fuel =>
   simp only [Region.linearise.go]
   change (match (Region.ready .any ops arr)[_ % (Region.ready .any ops arr).length]? with
    | some i => _
    | none => [].reverse) = []
   rw [ready_eq hs h, h0]; rfl
 | x :: rest, listed, 0, τ, arr, hf, hs, h, hl => by simp at hl
 | x :: rest, listed, fuel + 1, τ, arr, hf, hs, h, hl => by
  simp only [forced, Bool.and_eq_true, beq_iff_eq] at hf
  simp only [Region.linearise.go]
  change (match (Region.ready .any ops arr)[_ % (Region.ready .any ops arr).length]? with
   | some i => Region.linearise.go .any ops fuel (τ / (Region.ready .any ops arr).length) (arr.setIfInBounds i true) [i]
   | none => [].reverse) = _
  rw [ready_eq hs h, hf.1]
  simp only [List.length_singleton, Nat.mod_one, List.getElem?_cons_zero]
  rw [linearise_go_acc, List.reverse_singleton, List.singleton_append]
  have hx : x ∈ readyL ops listed := by rw [hf.1]; simp
  have hxl := (mem_readyL.1 hx).1
  rw [forced_go (listed := x :: listed) hf.2 (by simpa using hs) (fun j => ?_) (by simpa using hl)]
  rw [getD_listed (by omega), h j, List.contains_cons]
  split
  ·rename_i e; subst e; simp
  ·rename_i e; rw [beq_false_of_ne (Ne.symm e)]; rfl
theorem forced_len : ∀ {rest listed : List Nat}, forced ops listed rest = true → rest.length ≤ (List.range ops.size).countP (fun j => !listed.contains j)
 | [], _, _ => Nat.zero_le _
 | x :: rest, listed, hf => by
  simp only [forced, Bool.and_eq_true, beq_iff_eq] at hf
  have hx : x ∈ readyL ops listed := by rw [hf.1]; simp
  obtain ⟨h1, h2, _⟩ := mem_readyL.1 hx
  have ih := forced_len hf.2
  have := countP_lt (l := List.range ops.size) (p := fun j => !(x :: listed).contains j) (q := fun j => !listed.contains j) (fun y _ hy => by simp at hy ⊢; exact hy.2) ⟨x, by simpa using h1, by simpa using h2, by simp⟩
  simp only [List.length_cons]; omega
theorem Outc.goS {i d : Nat} {v : Value} {t : Array Value} {rest : List Nat} {w : World} {Ds : List Nat} {hb : Hl} (ho : Outc P w0 S n hb ops i t d v) (hs : hb.Sublist h) (hS : St w0 S w h (mkY Ds ++ Y))
  (hk : ∀ w', St w0 S w' h (mkY Ds ++ Y) → Gos P r f R (.inRegion ops rest :: k) (t.setIfInBounds d v) (Ds.map mark) w') : Gos P r f R (.inRegion ops (i :: rest) :: k) t (Ds.map mark) w := by
 obtain ⟨o, h1, h2, h3, h4, h5⟩ := ho
 rcases h5 with ⟨a, b⟩ | ⟨a, rfl⟩
 ·rcases b w Ds _ (hS.subH hs) with hb | ⟨gf, args, hb, hcall⟩
  ·refine Gos.op h1 a (not_defer h4) hb (.inl rfl) ?_
   rw [h2]; exact hk w hS
  ·refine Gos.call h1 a (not_defer h4) hb hcall (fun u w2 hu => ?_)
   obtain ⟨he, rfl⟩ := hu
   rw [h2]; exact hk w2 (hS.later he)
 ·refine Gos.opSkip h1 a ?_
  rw [h2]; exact hk w hS
theorem wanted_congr {o : Oper} {t t' : Array Value} (hs : t'.size = t.size) (he : ∀ s ∈ eyes ops o, t'.getD s undef = t.getD s undef) : Region.wanted o (yielded ops t') = Region.wanted o (yielded ops t) := by
 unfold Region.wanted
 cases hg : o.guard with
 | none => rfl
 | some p =>
  obtain ⟨j, want⟩ := p
  have : yielded ops t' j = yielded ops t j := by
   unfold yielded
   cases hd : (ops[j]?).bind (·.dst) with
   | none => rfl
   | some dj =>
    simp only [Option.bind_some]
    rw [opt_of_getD hs (he dj (by simp [eyes, hg, dstOf, hd]))]
  simp only [this]
theorem Mop.go {i d : Nat} {K : Value → Hl → Prop} {T t : Array Value} {rest : List Nat} {w : World} {Ds : List Nat} (hm : Mop P w0 S n h ops i l d K) (hF : Frm n T l) (hs : t.size = T.size)
  (he : ∀ o, ops[i]? = some o → ∀ s ∈ eyes ops o, t.getD s undef = T.getD s undef) (hS : St w0 S w h (mkY Ds ++ Y))
  (hk : ∀ v w' h', K v h' → St w0 S w' h' (mkY Ds ++ Y) → Gos P r f R (.inRegion ops rest :: k) (t.setIfInBounds d v) (Ds.map mark) w') : Gos P r f R (.inRegion ops (i :: rest) :: k) t (Ds.map mark) w := by
 obtain ⟨o, ho, hdst, hnd, hsel, hd, hr⟩ := hm
 have hw := wanted_congr (ops := ops) (o := o) hs (he o ho)
 rcases hr with ⟨hwant, hr⟩ | ⟨hskip, hK⟩
 ·have hexec : execOp (Act.eval ⟨t, Ds.map mark⟩) o = execOp (Act.eval ⟨T, Ds.map mark⟩) o := execOp_congr (ρ' := Act.eval ⟨T, Ds.map mark⟩) o (fun cs bb e => by rw [e] at hsel; cases hsel) (fun x hx => by
   cases x with
   | tmp s => exact he o ho s (by
     simp only [eyes, List.mem_append]
     exact .inr (List.mem_filterMap.2 ⟨.tmp s, by simpa using hx, rfl⟩))
   | const v => rfl
   | global g => rfl
   | func g => rfl)
  rcases hr T w Ds _ hF hS with ⟨v, w', h', h1, h2, h3⟩ | ⟨gf, args, Rc, h1, h2, h3⟩
  ·refine Gos.op ho (hw.trans (want_of hF hwant)) (not_defer hnd) (by rw [hexec]; exact h1) (.inl rfl) ?_
   rw [hdst]; exact hk v w' h' h3 h2
  ·refine Gos.call ho (hw.trans (want_of hF hwant)) (not_defer hnd) (by rw [hexec]; exact h1) h2 (fun u w2 hu => ?_)
   obtain ⟨h', h4, h5⟩ := h3 u w2 hu
   rw [hdst]; exact hk u w2 h' h5 h4
 ·refine Gos.opSkip ho (hw.trans (skip_of hF hskip)) ?_
  rw [hdst]; exact hk undef w h hK hS
theorem tail_core {m : Nat} (hf : TailFacts ops m) {D : Nat → Nat} {V : Nat → Value} {t0 : Array Value} {hB : Hl} (ht0 : t0.size = n)
  (hout : ∀ j, j < m → Outc P w0 S n hB ops j (tsq D V t0 j) (D j) (V j)) :
  ∀ (fuel τ : Nat) (arr : Array Bool) (TL : List Nat) (q : Nat) (l : Fl) (h : Hl) (t T : Array Value), arr.size = ops.size → (∀ j, arr.getD j false = true → ∀ e ∈ dirs ops j, arr.getD e false = true) →
   (∀ j, m ≤ j → (arr.getD j false = true ↔ j ∈ TL)) → (∀ j ∈ TL, m ≤ j) → Frm n T l → Tl P r f R w0 S Y n k ops m hB q TL l h → hB.Sublist h → t.size = n →
   (∀ j, j < m → T.getD (D j) undef = V j) → (∀ s, (∀ j, j < m → arr.getD j false = false → D j ≠ s) → t.getD s undef = T.getD s undef) → (∀ s, (∀ j, j < m → D j ≠ s) → (∀ j, m ≤ j → j < ops.size → dstOf ops j = some s → arr.getD j false = false) → T.getD s undef = t0.getD s undef) →
   (List.range ops.size).countP (fun j => !arr.getD j false) ≤ fuel → ∀ w Ds, St w0 S w h (mkY Ds ++ Y) → Gos P r f R (.inRegion ops (Region.linearise.go .any ops fuel τ arr []) :: k) t (Ds.map mark) w := by
 have hDst : ∀ j, j < m → dstOf ops j = some (D j) := fun j hj => by
  obtain ⟨o, h1, h2, _⟩ := hout j hj
  simp [dstOf, h1, h2]
 have hDlt : ∀ j, j < m → D j < t0.size := fun j hj => by
  obtain ⟨o, _, _, h3, _⟩ := hout j hj; omega
 have hmN := hf.size
 have hDinj : ∀ i j, i < m → j < m → D i = D j → i = j := fun i j hi hj e => hf.inj i j (D i) hi (by omega) (hDst i hi) (by rw [hDst j hj, e])
 have hsw : ∀ {fuel τ : Nat} {arr : Array Bool} {TL rest : List Nat} {l : Fl} {h : Hl} {t T : Array Value}, arr.size = ops.size → (∀ j, m ≤ j → (arr.getD j false = true ↔ j ∈ TL)) → (∀ j ∈ TL, m ≤ j) → Frm n T l → t.size = n →
   (∀ s, (∀ j, j < m → arr.getD j false = false → D j ≠ s) → t.getD s undef = T.getD s undef) → (∀ j, j < m → arr.getD j false = true) → forced ops (TL ++ List.range m) rest = true →
   GoH P r f R w0 S Y n (.inRegion ops rest :: k) l h → (List.range ops.size).countP (fun j => !arr.getD j false) ≤ fuel → ∀ w Ds, St w0 S w h (mkY Ds ++ Y) → Gos P r f R (.inRegion ops (Region.linearise.go .any ops fuel τ arr []) :: k) t (Ds.map mark) w := by
  intro fuel τ arr TL rest l h t T hls hTL hTm hF hts hb hall hfo hg hc w Ds hS
  have hcont : ∀ j, arr.getD j false = (TL ++ List.range m).contains j := fun j => by
   rw [Bool.eq_iff_iff, List.contains_iff_mem, List.mem_append, List.mem_range]
   rcases Nat.lt_or_ge j m with hj | hj
   ·exact ⟨fun _ => .inr hj, fun _ => hall j hj⟩
   ·exact ⟨fun x => .inl ((hTL j hj).1 x), fun x => (hTL j hj).2 (by rcases x with x | x; exact x; omega)⟩
  have hlen := forced_len hfo
  have e1 : (fun j => !(TL ++ List.range m).contains j) = fun j => !arr.getD j false := by funext j; rw [hcont]
  rw [e1] at hlen
  rw [forced_go hfo hls hcont (by omega)]
  have ht : t = T := Array.ext_getElem? (fun s => opt_of_getD (by rw [hts, hF.1]) (hb s (fun j hj hu => by rw [hall j hj] at hu; cases hu)))
  rw [ht]; exact hg T w Ds hF hS
 intro fuel
 induction fuel with
 | zero =>
  intro τ arr TL q l h t T hls hcl hTL hTm hF htl hsub hts ha hb hcb hc w Ds hS
  have hl : ∀ j, j < ops.size → arr.getD j false = true := fun j hj => by
   have := List.countP_eq_zero.1 (Nat.le_zero.1 hc) j (by simpa using hj)
   simpa using this
  cases q with
  | zero => exact htl.elim
  | succ q =>
   rcases htl with ⟨rest, h1, _, h3⟩ | ⟨hne, _⟩
   ·exact hsw hls hTL hTm hF hts hb (fun j hj => hl j (by omega)) h1 h3 hc w Ds hS
   ·exfalso
    apply hne
    rw [List.eq_nil_iff_forall_not_mem]
    intro j hj
    obtain ⟨a1, a2, _⟩ := mem_readyL.1 hj
    apply a2
    rw [List.mem_append, List.mem_range]
    rcases Nat.lt_or_ge j m with hj | hj
    ·exact .inr hj
    ·exact .inl ((hTL j hj).1 (hl j a1))
 | succ fuel ih =>
  intro τ arr TL q l h t T hls hcl hTL hTm hF htl hsub hts ha hb hcb hc w Ds hS
  have hready : (∃ j, j < ops.size ∧ arr.getD j false = false) → Region.ready .any ops arr ≠ [] := by
   rintro ⟨j, hj, hu⟩
   have key : ∀ q, q < ops.size → arr.getD q false = false → Region.ready .any ops arr ≠ [] := by
    intro q
    induction q using Nat.strongRecOn with
    | _ q ihq =>
     intro hq hqu
     by_cases hb : ∃ e ∈ dirs ops q, arr.getD e false = false
     ·obtain ⟨e, he, heu⟩ := hb
      have hlt := hf.lt q hq e he
      exact ihq e hlt (by omega) heu
     ·obtain ⟨o, ho⟩ : ∃ o, ops[q]? = some o := ⟨ops[q], Array.getElem?_eq_getElem hq⟩
      have : q ∈ Region.ready .any ops arr := by
       rw [mem_ready]
       refine ⟨by rw [getD_tf (by omega)]; exact hqu, o, ho, fun e he hbd => ?_⟩
       cases hx : arr.getD e.on false with
       | true => rfl
       | false => exact absurd ⟨e.on, (mem_dirs ho).2 ⟨e, he, hbd, rfl⟩, hx⟩ hb
      exact List.ne_nil_of_mem this
   exact key j hj hu
  have hrT : ∀ i, m ≤ i → i < ops.size → arr.getD i false = false → (∀ e ∈ dirs ops i, arr.getD e false = true) → i ∈ readyL ops (TL ++ List.range m) := fun i him hiN hu hd => by
   rw [mem_readyL]
   refine ⟨hiN, fun hx => ?_, fun e he => ?_⟩
   ·rw [List.mem_append, List.mem_range] at hx
    rcases hx with hx | hx
    ·rw [(hTL i him).2 hx] at hu; cases hu
    ·omega
   ·rw [List.mem_append, List.mem_range]
    rcases Nat.lt_or_ge e m with hj | hj
    ·exact .inr hj
    ·exact .inl ((hTL e hj).1 (hd e he))
  by_cases hdone : ∃ rest, forced ops (TL ++ List.range m) rest = true ∧ GoH P r f R w0 S Y n (.inRegion ops rest :: k) l h ∧ ∀ j, j < m → arr.getD j false = true
  ·obtain ⟨rest, h1, h2, h3⟩ := hdone
   exact hsw hls hTL hTm hF hts hb h3 h1 h2 hc w Ds hS
  simp only [Region.linearise.go]
  change Gos P r f R (.inRegion ops (match (Region.ready .any ops arr)[τ % (Region.ready .any ops arr).length]? with
   | some i => Region.linearise.go .any ops fuel (τ / (Region.ready .any ops arr).length) (arr.setIfInBounds i true) [i]
   | none => [].reverse) :: k) t (Ds.map mark) w
  cases hi : (Region.ready .any ops arr)[τ % (Region.ready .any ops arr).length]? with
  | none =>
   exfalso
   have hnil : Region.ready .any ops arr = [] := by
    cases hr : Region.ready .any ops arr with
    | nil => rfl
    | cons x xs =>
     rw [hr] at hi
     have hlt : τ % (x :: xs).length < (x :: xs).length := Nat.mod_lt _ (by simp)
     rw [List.getElem?_eq_getElem hlt] at hi; cases hi
   have hl : ∀ j, j < ops.size → arr.getD j false = true := fun j hj => by
    cases hx : arr.getD j false with
    | true => rfl
    | false => exact absurd hnil (hready ⟨j, hj, hx⟩)
   cases q with
   | zero => exact htl.elim
   | succ q =>
    rcases htl with ⟨rest, h1, _, h3⟩ | ⟨hne, _⟩
    ·exact hdone ⟨rest, h1, h3, fun j hj => hl j (by omega)⟩
    ·apply hne
     rw [List.eq_nil_iff_forall_not_mem]
     intro j hj
     obtain ⟨a1, a2, _⟩ := mem_readyL.1 hj
     apply a2
     rw [List.mem_append, List.mem_range]
     rcases Nat.lt_or_ge j m with hj | hj
     ·exact .inr hj
     ·exact .inl ((hTL j hj).1 (hl j a1))
  | some i =>
   have hmem := List.mem_of_getElem? hi
   rw [mem_ready] at hmem
   obtain ⟨hu, o, ho, hdep⟩ := hmem
   have hiN : i < ops.size := (Array.getElem?_eq_some_iff.1 ho).1
   rw [getD_tf (by omega)] at hu
   simp only []
   rw [linearise_go_acc, List.reverse_singleton, List.singleton_append]
   have hdl : ∀ e ∈ dirs ops i, arr.getD e false = true := fun e he => by
    obtain ⟨e', he', hb, rfl⟩ := (mem_dirs ho).1 he
    exact hdep e' he' hb
   have hcl' : ∀ j, (arr.setIfInBounds i true).getD j false = true → ∀ e ∈ dirs ops j, (arr.setIfInBounds i true).getD e false = true := by
    intro j hj e he
    rw [getD_listed (by omega)] at hj ⊢
    split
    ·rfl
    ·split at hj
     ·rename_i hij; subst hij; exact hdl e he
     ·exact hcl j hj e he
   have hcnt := count_set (listed := arr) hls hiN hu
   by_cases him : i < m
   ·-- a read
    have hgo := hout i him
    have hDi : D i < t.size := by rw [hts, ← ht0]; exact hDlt i him
    have heq : Outc P w0 S n hB ops i t (D i) (V i) := by
     refine hgo.congr (hf.sel i him) (by rw [hts, tsq_size, ht0]) (fun o' ho' s hs => ?_)
     obtain ⟨g1, g2⟩ := tsq_get hDlt hDinj i (by omega)
     by_cases hx : ∃ j, j < m ∧ D j = s
     ·obtain ⟨j, hj, rfl⟩ := hx
      have hjd := (hf.eye i him o' ho' (D j) hs j (by omega) (hDst j hj)).resolve_right (fun x => by omega)
      rw [g1 j (hf.lt i hiN j hjd), hb (D j) (fun j' hj' hu' e => by
       have := hDinj j' j hj' hj e
       subst this
       rw [hdl j' hjd] at hu'; cases hu'), ha j hj]
     ·rw [hb s (fun j hj _ e => hx ⟨j, hj, e⟩), g2 s (fun j hj e => hx ⟨j, by omega, e⟩)]
      refine hcb s (fun j hj e => hx ⟨j, hj, e⟩) (fun j hmj hj hd => ?_)
      rcases hf.eye i him o' ho' s hs j hj hd with hjd | ⟨_, hjb⟩
      ·have hjl := hf.lt i hiN j hjd
       omega
      ·cases hja : arr.getD j false with
       | false => rfl
       | true =>
        exfalso
        have := mem_below (ops := ops) (listed := (List.range ops.size).filter (fun j => arr.getD j false)) (x := j) (fun j hj e he => by
         rw [List.mem_filter, List.mem_range] at hj ⊢
         have hlt := hf.lt j hj.1 e he
         exact ⟨by omega, hcl j hj.2 e he⟩) (fun e he => by
         rw [List.mem_filter, List.mem_range]
         have hlt := hf.lt j hj e he
         exact ⟨by omega, hcl j hja e he⟩) i hjb
        rcases this with h | h
        ·omega
        ·rw [(List.mem_filter.1 h).2] at hu; cases hu
    refine heq.goS hsub hS (fun w hS => ?_)
    refine ih _ _ TL q l h _ T (by simpa using hls) hcl' (fun j hj => ?_) hTm hF htl hsub (by simpa using hts) ha (fun s hs => ?_) (fun s hs1 hs2 => hcb s hs1 (fun j hj hjN hd => by
     have := hs2 j hj hjN hd
     rwa [getD_listed (by omega), if_neg (by omega)] at this)) (by omega) w Ds hS
    ·rw [getD_listed (by omega), if_neg (by omega)]; exact hTL j hj
    ·rw [getD_set hDi]
     split
     ·rename_i e; subst e; exact (ha i him).symm
     ·rename_i e
      refine hb s (fun j hj hu' => ?_)
      by_cases e2 : i = j
      ·subst e2; exact e
      ·exact hs j hj (by rw [getD_listed (by omega), if_neg e2]; exact hu')
   ·-- of the tail
    have him' : m ≤ i := by omega
    have hir := hrT i him' hiN hu hdl
    cases q with
    | zero => exact htl.elim
    | succ q =>
     rcases htl with ⟨rest, h1, hbel, h3⟩ | ⟨_, hop⟩
     ·exfalso
      cases rest with
      | nil =>
       have h0 : readyL ops (TL ++ List.range m) = [] := by simpa [forced] using h1
       rw [h0] at hir; cases hir
      | cons x rest =>
       have hx : readyL ops (TL ++ List.range m) = [x] := by
        simp only [forced, Bool.and_eq_true, beq_iff_eq] at h1; exact h1.1
       rw [hx] at hir
       obtain rfl := List.mem_singleton.1 hir
       refine hdone ⟨i :: rest, h1, h3, fun j hj => ?_⟩
       have hmem : j ∈ below ops i ∧ j ≠ i := by
        have := List.all_eq_true.1 hbel j (by simpa using hj)
        rw [Bool.and_eq_true, List.contains_iff_mem, Bool.not_eq_true'] at this
        exact ⟨this.1, fun e => by rw [e, Nat.beq_refl] at this; cases this.2⟩
       have := mem_below (ops := ops) (listed := (List.range ops.size).filter (fun j => arr.getD j false)) (x := i) (fun j hj e he => by
        rw [List.mem_filter, List.mem_range] at hj ⊢
        have hlt := hf.lt j hj.1 e he
        exact ⟨by omega, hcl j hj.2 e he⟩) (fun e he => by
        rw [List.mem_filter, List.mem_range]
        have hlt := hf.lt i hiN e he
        exact ⟨by omega, hdl e he⟩) j hmem.1
       exact (List.mem_filter.1 (this.resolve_left hmem.2)).2
     ·obtain ⟨d, hmop⟩ := hop i hir
      have hdi : dstOf ops i = some d := by
       obtain ⟨o', e1, e2, _⟩ := hmop
       simp [dstOf, e1, e2]
      have hdn : d < n := by
       obtain ⟨o', _, _, _, _, hd, _⟩ := hmop
       simpa [Nat.blt_eq] using hd
      refine hmop.go hF (by rw [hts, hF.1]) (fun o' ho' s hs => ?_) hS (fun v w' h' hK hS' => ?_)
      ·refine hb s (fun j hj hu' e => ?_)
       subst e
       have hjd := hf.eyeT i him' o' ho' (D j) hs j hj (hDst j hj)
       rw [hdl j hjd] at hu'; cases hu'
      ·obtain ⟨hsub', htl'⟩ := hK
       refine ih _ _ (i :: TL) q ((d, v) :: l) h' _ (T.setIfInBounds d v) (by simpa using hls) hcl' (fun j hj => ?_) (fun j hj => ?_) (hF.put v (by simpa [Nat.blt_eq] using hdn)) htl' hsub' (by simpa using hts) (fun j hj => ?_) (fun s hs => ?_) (fun s hs1 hs2 => ?_) (by omega) w' Ds hS'
       ·rw [getD_listed (by omega), List.mem_cons]
        split
        ·rename_i e; subst e; simp
        ·rename_i e
         rw [hTL j hj]
         exact ⟨.inr, fun x => x.resolve_left (Ne.symm e)⟩
       ·rcases List.mem_cons.1 hj with rfl | hj
        ·exact him'
        ·exact hTm j hj
       ·rw [getD_set (by rw [hF.1]; exact hdn)]
        split
        ·rename_i e
         have := hf.inj j i d hj hiN (by rw [hDst j hj, e]) hdi
         omega
        ·exact ha j hj
       ·rw [getD_set (by rw [hts]; exact hdn), getD_set (by rw [hF.1]; exact hdn)]
        split
        ·rfl
        ·refine hb s (fun j hj hu' => hs j hj ?_)
         rw [getD_listed (by omega), if_neg (by omega)]; exact hu'
       ·rw [getD_set (by rw [hF.1]; exact hdn)]
        split
        ·rename_i e
         have := hs2 i him' hiN (by rw [hdi, e])
         rw [getD_listed (by omega), if_pos rfl] at this; cases this
        ·refine hcb s hs1 (fun j hj hjN hd => ?_)
         have := hs2 j hj hjN hd
         rw [getD_listed (by omega)] at this
         split at this
         ·cases this
         ·exact this
theorem Tl.sw {m q : Nat} {hb : Hl} {TL : List Nat} (rest : List Nat) (h1 : forced ops (TL ++ List.range m) rest = true) (h2 : afterAll ops m rest = true)
  (hg : GoH P r f R w0 S Y n (.inRegion ops rest :: k) l h) : Tl P r f R w0 S Y n k ops m hb (q + 1) TL l h := .inl ⟨rest, h1, h2, hg⟩
theorem Tl.one {m q i d : Nat} {hb : Hl} {TL : List Nat} (h1 : readyL ops (TL ++ List.range m) = [i]) (hm : Mop P w0 S n h ops i l d (fun v h' => hb.Sublist h' ∧ Tl P r f R w0 S Y n k ops m hb q (i :: TL) ((d, v) :: l) h')) : Tl P r f R w0 S Y n k ops m hb (q + 1) TL l h :=
 .inr ⟨by rw [h1]; simp, fun j hj => by rw [h1] at hj; obtain rfl := List.mem_singleton.1 hj; exact ⟨d, hm⟩⟩
end
end Go.Proofs.Wit
namespace Go.Proofs.Wit
open Go Go.RowKit
theorem GoH.sub' {P : Program} {r : Option Nat} {f : FuncId} {R : Value → World → Prop} {w0 : World} {S : List Nat} {Y : List (Nat × Obj)} {n : Nat} {k : List Item} {l l' : Fl} {h h' : Hl} (hg : GoH P r f R w0 S Y n k l' h') (hl : SubF l' l) (hh : ∀ w Y', St w0 S w h Y' → St w0 S w h' Y') : GoH P r f R w0 S Y n k l h :=
 fun t w Ds hF hS => hg t w Ds (hF.sub hl) (hh w _ hS)
theorem GoH.regionK {P : Program} {r : Option Nat} {f : FuncId} {R : Value → World → Prop} {w0 : World} {S : List Nat} {Y : List (Nat × Obj)} {n : Nat} {k : List Item} {l : Fl} {h : Hl} {ops : Array Oper} {id : Nat} {dr : Bool} {α : Type} (restc : List Nat) (lf : α → Fl) (hf : α → Hl)
  (hK : ∀ a, GoH P r f R w0 S Y n (.inRegion ops restc :: k) (lf a) (hf a))
  (hg : (∀ a l h, SubF (lf a) l → (∀ w Y', St w0 S w h Y' → St w0 S w (hf a) Y') → GoH P r f R w0 S Y n (.inRegion ops restc :: k) l h) → GoH P r f R w0 S Y n (.code (.region id ops dr) :: k) l h) : GoH P r f R w0 S Y n (.code (.region id ops dr) :: k) l h :=
 hg (fun a _ _ hl hh => (hK a).sub' hl hh)
end Go.Proofs.Wit
namespace Go.Proofs.Wit
open Go Go.RowKit
section
variable {P : Program} {r : Option Nat} {f : FuncId} {R : Value → World → Prop} {w0 : World} {S : List Nat} {Y : List (Nat × Obj)} {n : Nat} {k : List Item} {l : Fl} {h : Hl} {ops : Array Oper}
end
end Go.Proofs.Wit
namespace Go.Proofs.Wit
open Go Go.RowKit
/-! a region that draws its order and in which one operation turns memory: the others read what it does not turn -/
def drawMOk (ops : Array Oper) (_l : Fl) (c : Nat) : Bool :=
 Nat.blt c ops.size &&
 (List.range ops.size).all (fun i => (dirs ops i).all (fun j => Nat.blt j i)) &&
 (List.range (c + 1)).all (fun i => match ops[i]? with
  | none => false
  | some o => notSel o.op && match o.dst with
   | none => false
   | some d => (List.range (c + 1)).all (fun j => Nat.beq j i || !(dstOf ops j == some d)) &&
    (eyes ops o).all (fun s => (List.range (c + 1)).all (fun j => !(dstOf ops j == some s) || (dirs ops i).contains j))) &&
 (List.range' (c + 1) (ops.size - (c + 1))).all (fun i => (List.range (c + 1)).all (fun j => (dirs ops i).contains j) || (dirs ops i).any (fun j => Nat.blt c j)) &&
 forced ops (List.range (c + 1)) (List.range' (c + 1) (ops.size - (c + 1)))
section
variable {P : Program} {r : Option Nat} {f : FuncId} {R : Value → World → Prop} {w0 : World} {S : List Nat} {Y : List (Nat × Obj)} {n : Nat} {k : List Item} {l : Fl} {h : Hl} {ops : Array Oper}
structure DrawMFacts (ops : Array Oper) (c : Nat) : Prop where
  size : c < ops.size
  lt : ∀ i, i < ops.size → ∀ j ∈ dirs ops i, j < i
  sel : ∀ i, i ≤ c → ∀ o, ops[i]? = some o → notSel o.op = true
  inj : ∀ i j d, i ≤ c → j ≤ c → dstOf ops i = some d → dstOf ops j = some d → i = j
  eye : ∀ i, i ≤ c → ∀ o, ops[i]? = some o → ∀ s ∈ eyes ops o, ∀ j, j ≤ c → dstOf ops j = some s → j ∈ dirs ops i
  late : ∀ i, c < i → i < ops.size → (∀ j, j ≤ c → j ∈ dirs ops i) ∨ ∃ j ∈ dirs ops i, c < j
  forc : forced ops (List.range (c + 1)) (List.range' (c + 1) (ops.size - (c + 1))) = true
theorem mfacts_of {c : Nat} (hc : drawMOk ops l c = true) : DrawMFacts ops c := by
 simp only [drawMOk, Bool.and_eq_true, List.all_eq_true, List.mem_range, Nat.blt_eq, Bool.or_eq_true, List.contains_iff_mem, List.any_eq_true, List.mem_range'_1] at hc
 obtain ⟨⟨⟨⟨hsz, hlt⟩, hr⟩, hla⟩, hfo⟩ := hc
 have hat : ∀ i, i ≤ c → ∃ o d, ops[i]? = some o ∧ o.dst = some d ∧ notSel o.op = true ∧ (∀ j, j ≤ c → j = i ∨ dstOf ops j ≠ some d) ∧ (∀ s ∈ eyes ops o, ∀ j, j ≤ c → dstOf ops j ≠ some s ∨ j ∈ dirs ops i) := by
  intro i hi
  have := hr i (by omega)
  cases ho : ops[i]? with
  | none => simp [ho] at this
  | some o =>
   cases hd : o.dst with
   | none => simp [ho, hd] at this
   | some d =>
    simp only [ho, hd, Bool.and_eq_true, List.all_eq_true, List.mem_range, Bool.or_eq_true, Nat.beq_eq, Bool.not_eq_true', beq_eq_false_iff_ne, List.contains_iff_mem] at this
    exact ⟨o, d, rfl, hd, this.1, fun j hj => this.2.1 j (by omega), fun s hs j hj => this.2.2 s hs j (by omega)⟩
 refine ⟨hsz, hlt, fun i hi o ho => ?_, fun i j d hi hj h1 h2 => ?_, fun i hi o ho s hs j hj hd => ?_, fun i h1 h2 => ?_, hfo⟩
 ·obtain ⟨o', d, e1, _, e3, _⟩ := hat i hi
  rw [ho] at e1; cases e1; exact e3
 ·obtain ⟨o, d', e1, e2, _, e5, _⟩ := hat i hi
  have : d' = d := by simp [dstOf, e1, e2] at h1; exact h1
  subst this
  rcases e5 j hj with e | e
  ·exact e.symm
  ·exact absurd h2 e
 ·obtain ⟨o', d, e1, _, _, _, e6⟩ := hat i hi
  rw [ho] at e1; cases e1
  rcases e6 s hs j hj with e | e
  ·exact absurd hd e
  ·exact e
 ·rcases hla i ⟨by omega, by omega⟩ with e | ⟨j, e1, e2⟩
  ·exact .inl (fun j hj => e j (by omega))
  ·exact .inr ⟨j, e1, e2⟩
def RdS2 (P : Program) (w0 : World) (S : List Nat) (n : Nat) (Hs : Hl → Prop) (ops : Array Oper) (F : Array Value → Prop) : Nat → Nat → Array Value → Prop
 | _, 0, t => F t
 | i, m + 1, t => ∃ d v, (∀ h', Hs h' → Outc P w0 S n h' ops i t d v) ∧ RdS2 P w0 S n Hs ops F (i + 1) m (t.setIfInBounds d v)
theorem RdS2.seq {Hs : Hl → Prop} {F : Array Value → Prop} : ∀ {m i : Nat} {t : Array Value}, RdS2 P w0 S n Hs ops F i m t → ∃ (D : Nat → Nat) (V : Nat → Value), (∀ j, j < m → ∀ h', Hs h' → Outc P w0 S n h' ops (i + j) (tsq D V t j) (D j) (V j)) ∧ F (tsq D V t m)
 | 0, _, t, hF => ⟨fun _ => 0, fun _ => undef, fun j hj => by omega, hF⟩
 | m + 1, i, t, ⟨d, v, ho, hr⟩ => by
  obtain ⟨D, V, h1, h2⟩ := RdS2.seq hr
  refine ⟨fun j => match j with | 0 => d | j + 1 => D j, fun j => match j with | 0 => v | j + 1 => V j, fun j hj => ?_, ?_⟩
  ·cases j with
   | zero => exact ho
   | succ j =>
    have := h1 j (by omega)
    rw [show i + (j + 1) = i + 1 + j from by omega, tsq_shift]
    exact this
  ·rw [tsq_shift]; exact h2
def RdM (P : Program) (w0 : World) (S : List Nat) (n : Nat) (Hs : Hl → Prop) (ops : Array Oper) (F : Fl → Prop) (i m : Nat) (l : Fl) : Prop :=
 ∀ t, Frm n t l → RdS2 P w0 S n Hs ops (fun t' => ∃ l', Frm n t' l' ∧ F l') i m t
theorem RdM.nil {Hs : Hl → Prop} {F : Fl → Prop} {i : Nat} (hg : F l) : RdM P w0 S n Hs ops F i 0 l := fun _ hF => ⟨l, hF, hg⟩
theorem RdM.v {Hs : Hl → Prop} {F : Fl → Prop} {i m : Nat} (d : Nat) (v : Value) (hd : Nat.blt d n = true) (hv : ∀ h', Hs h' → Vop P w0 S n h' ops i l d v) (hg : RdM P w0 S n Hs ops F (i + 1) m ((d, v) :: l)) : RdM P w0 S n Hs ops F i (m + 1) l := by
 intro t hF
 refine ⟨d, v, fun h' hh => ?_, hg _ (hF.put v hd)⟩
 obtain ⟨o, ho, hw, hdst, hnd, hd, hr⟩ := hv h' hh
 exact ⟨o, ho, hdst, by simpa [Nat.blt_eq] using hd, hnd, .inl ⟨want_of hF hw, fun w Ds Y' hS => by obtain ⟨nx, h1, rfl⟩ := hr t w Ds Y' hF hS; exact .inl h1⟩⟩
theorem mut_core {c : Nat} (hf : DrawMFacts ops c) {Hs : Hl → Prop} (hh0 : Hs h) {D : Nat → Nat} {V : Nat → Value} {t0 : Array Value} (ht0 : t0.size = n) {l' : Fl} {d : Nat} {K : Value → Hl → Prop}
  (hout : ∀ j, j < c → ∀ h', Hs h' → Outc P w0 S n h' ops j (tsq D V t0 j) (D j) (V j)) (hFr : Frm n (tsq D V t0 c) l') (hm : Mop P w0 S n h ops c l' d K)
  (hK : ∀ v h', K v h' → Hs h' ∧ GoH P r f R w0 S Y n (.inRegion ops (List.range' (c + 1) (ops.size - (c + 1))) :: k) ((d, v) :: l') h') :
  ∀ (fuel τ : Nat) (arr : Array Bool) (t : Array Value), arr.size = ops.size → (∀ j, arr.getD j false = true → ∀ e ∈ dirs ops j, arr.getD e false = true) → (∀ j, c < j → arr.getD j false = false) → t.size = n →
   (∀ j, j < c → arr.getD j false = true → t.getD (D j) undef = V j) → (∀ s, (∀ j, j < c → arr.getD j false = true → D j ≠ s) → (arr.getD c false = true → d ≠ s) → t.getD s undef = t0.getD s undef) →
   (List.range ops.size).countP (fun j => !arr.getD j false) ≤ fuel → ∀ w Ds,
   (arr.getD c false = false ∧ St w0 S w h (mkY Ds ++ Y) ∨ arr.getD c false = true ∧ ∃ v h', K v h' ∧ t.getD d undef = v ∧ St w0 S w h' (mkY Ds ++ Y)) →
   Gos P r f R (.inRegion ops (Region.linearise.go .any ops fuel τ arr []) :: k) t (Ds.map mark) w := by
 have hDst : ∀ j, j < c → dstOf ops j = some (D j) := fun j hj => by
  obtain ⟨o, h1, h2, _⟩ := hout j hj h hh0
  simp [dstOf, h1, h2]
 have hdst : dstOf ops c = some d := by
  obtain ⟨o, h1, h2, _⟩ := hm
  simp [dstOf, h1, h2]
 have hdn : d < n := by
  obtain ⟨o, _, _, _, _, h5, _⟩ := hm
  simpa [Nat.blt_eq] using h5
 have hDlt : ∀ j, j < c → D j < t0.size := fun j hj => by
  obtain ⟨o, _, _, h3, _⟩ := hout j hj h hh0; omega
 have hDinj : ∀ i j, i < c → j < c → D i = D j → i = j := fun i j hi hj e => hf.inj i j (D i) (by omega) (by omega) (hDst i hi) (by rw [hDst j hj, e])
 have hDd : ∀ j, j < c → D j ≠ d := fun j hj e => by
  have := hf.inj j c d (by omega) (Nat.le_refl _) (by rw [hDst j hj, e]) hdst
  omega
 have fin : ∀ (fuel τ : Nat) (arr : Array Bool) (t : Array Value), arr.size = ops.size → (∀ j, c < j → arr.getD j false = false) → t.size = n → (∀ j, j ≤ c → arr.getD j false = true) →
   (∀ j, j < c → arr.getD j false = true → t.getD (D j) undef = V j) → (∀ s, (∀ j, j < c → arr.getD j false = true → D j ≠ s) → (arr.getD c false = true → d ≠ s) → t.getD s undef = t0.getD s undef) →
   (List.range ops.size).countP (fun j => !arr.getD j false) ≤ fuel → ∀ w Ds v h', K v h' → t.getD d undef = v → St w0 S w h' (mkY Ds ++ Y) →
   Gos P r f R (.inRegion ops (Region.linearise.go .any ops fuel τ arr []) :: k) t (Ds.map mark) w := by
  intro fuel τ arr t has hno hts hall h1 h2 hc w Ds v h' hKv hv hS
  have harr : ∀ j, arr.getD j false = (List.range (c + 1)).contains j := fun j => by
   by_cases hj : j ≤ c
   ·rw [hall j hj]; symm; rw [List.contains_iff_mem, List.mem_range]; omega
   ·rw [hno j (by omega)]; symm; rw [← Bool.not_eq_true, List.contains_iff_mem, List.mem_range]; omega
  have hlen := forced_len hf.forc
  have hcnt : (List.range ops.size).countP (fun j => !(List.range (c + 1)).contains j) = (List.range ops.size).countP (fun j => !arr.getD j false) := by
   congr 1; funext j; rw [harr j]
  rw [forced_go hf.forc has harr (by omega)]
  have ht : t = (tsq D V t0 c).setIfInBounds d v := by
   obtain ⟨g1, g2⟩ := tsq_get hDlt hDinj c (Nat.le_refl _)
   have hdT : d < (tsq D V t0 c).size := by rw [tsq_size]; omega
   refine Array.ext_getElem? (fun s => opt_of_getD (by rw [hts, Array.size_setIfInBounds, tsq_size, ht0]) ?_)
   rw [getD_set hdT]
   by_cases hs : d = s
   ·subst hs; rw [if_pos rfl, hv]
   ·rw [if_neg hs]
    by_cases hx : ∃ j, j < c ∧ D j = s
    ·obtain ⟨j, hj, rfl⟩ := hx
     rw [h1 j hj (hall j (by omega)), g1 j hj]
    ·rw [h2 s (fun j hj _ e => hx ⟨j, hj, e⟩) (fun _ => hs), g2 s (fun j hj e => hx ⟨j, hj, e⟩)]
  rw [ht]
  exact (hK v h' hKv).2 _ w Ds (hFr.put v (by simpa [Nat.blt_eq] using hdn)) hS
 intro fuel
 induction fuel with
 | zero =>
  intro τ arr t has hcl hno hts h1 h2 hc w Ds hmem
  have hl : ∀ j, j < ops.size → arr.getD j false = true := fun j hj => by
   have := List.countP_eq_zero.1 (Nat.le_zero.1 hc) j (by simpa using hj)
   simpa using this
  have hsz := hf.size
  rcases hmem with ⟨h3, _⟩ | ⟨_, v, h', h4, h5, h6⟩
  ·rw [hl c hsz] at h3; cases h3
  ·exact fin 0 τ arr t has hno hts (fun j hj => hl j (by omega)) h1 h2 hc w Ds v h' h4 h5 h6
 | succ fuel ih =>
  intro τ arr t has hcl hno hts h1 h2 hc w Ds hmem
  have hsz := hf.size
  by_cases hall : ∀ j, j ≤ c → arr.getD j false = true
  ·rcases hmem with ⟨h3, _⟩ | ⟨_, v, h', h4, h5, h6⟩
   ·rw [hall c (Nat.le_refl _)] at h3; cases h3
   ·exact fin (fuel + 1) τ arr t has hno hts hall h1 h2 hc w Ds v h' h4 h5 h6
  ·obtain ⟨j0, hj0⟩ := Classical.not_forall.1 hall
   obtain ⟨hj0c, hj0u⟩ := Classical.not_imp.1 hj0
   rw [Bool.not_eq_true] at hj0u
   have hready : Region.ready .any ops arr ≠ [] := by
    have key : ∀ q, q < ops.size → arr.getD q false = false → Region.ready .any ops arr ≠ [] := by
     intro q
     induction q using Nat.strongRecOn with
     | _ q ihq =>
      intro hq hqu
      by_cases hb : ∃ e ∈ dirs ops q, arr.getD e false = false
      ·obtain ⟨e, he, heu⟩ := hb
       have hlt := hf.lt q hq e he
       exact ihq e hlt (by omega) heu
      ·obtain ⟨o, ho⟩ : ∃ o, ops[q]? = some o := ⟨ops[q], Array.getElem?_eq_getElem hq⟩
       have : q ∈ Region.ready .any ops arr := by
        rw [mem_ready]
        refine ⟨by rw [getD_tf (by omega)]; exact hqu, o, ho, fun e he hbd => ?_⟩
        cases hx : arr.getD e.on false with
        | true => rfl
        | false => exact absurd ⟨e.on, (mem_dirs ho).2 ⟨e, he, hbd, rfl⟩, hx⟩ hb
       exact List.ne_nil_of_mem this
    exact key j0 (by omega) hj0u
   simp only [Region.linearise.go]
   change Gos P r f R (.inRegion ops (match (Region.ready .any ops arr)[τ % (Region.ready .any ops arr).length]? with
    | some i => Region.linearise.go .any ops fuel (τ / (Region.ready .any ops arr).length) (arr.setIfInBounds i true) [i]
    | none => [].reverse) :: k) t (Ds.map mark) w
   cases hi : (Region.ready .any ops arr)[τ % (Region.ready .any ops arr).length]? with
   | none =>
    exfalso
    cases hr : Region.ready .any ops arr with
    | nil => exact hready hr
    | cons x xs =>
     rw [hr] at hi
     have hlt : τ % (x :: xs).length < (x :: xs).length := Nat.mod_lt _ (by simp)
     rw [List.getElem?_eq_getElem hlt] at hi; cases hi
   | some i =>
    have hmemi := List.mem_of_getElem? hi
    rw [mem_ready] at hmemi
    obtain ⟨hu, o, ho, hdep⟩ := hmemi
    have hiN : i < ops.size := (Array.getElem?_eq_some_iff.1 ho).1
    rw [getD_tf (by omega)] at hu
    simp only []
    rw [linearise_go_acc, List.reverse_singleton, List.singleton_append]
    have hdl : ∀ e ∈ dirs ops i, arr.getD e false = true := fun e he => by
     obtain ⟨e', he', hb, rfl⟩ := (mem_dirs ho).1 he
     exact hdep e' he' hb
    have hic : i ≤ c := by
     apply Classical.byContradiction
     intro hgt
     rcases hf.late i (by omega) hiN with e | ⟨j, e1, e2⟩
     ·have := hdl j0 (e j0 hj0c); rw [hj0u] at this; cases this
     ·have := hdl j e1; rw [hno j e2] at this; cases this
    have hcl' : ∀ j, (arr.setIfInBounds i true).getD j false = true → ∀ e ∈ dirs ops j, (arr.setIfInBounds i true).getD e false = true := by
     intro j hj e he
     rw [getD_listed (by omega)] at hj ⊢
     split
     ·rfl
     ·split at hj
      ·rename_i hij; subst hij; exact hdl e he
      ·exact hcl j hj e he
    have hno' : ∀ j, c < j → (arr.setIfInBounds i true).getD j false = false := fun j hj => by
     rw [getD_listed (by omega), if_neg (by omega)]; exact hno j hj
    have hcnt := count_set (listed := arr) has hiN hu
    have heyes : ∀ o', ops[i]? = some o' → ∀ s ∈ eyes ops o', t.getD s undef = (tsq D V t0 i).getD s undef := fun o' ho' s hs => by
     obtain ⟨g1, g2⟩ := tsq_get hDlt hDinj i hic
     by_cases hx : ∃ j, j < c ∧ D j = s
     ·obtain ⟨j, hj, rfl⟩ := hx
      have hjd := hf.eye i hic o' ho' (D j) hs j (by omega) (hDst j hj)
      rw [h1 j hj (hdl j hjd), g1 j (hf.lt i hiN j hjd)]
     ·have hsd : arr.getD c false = true → d ≠ s := fun _ e => by
       subst e
       have := hf.lt i hiN c (hf.eye i hic o' ho' d hs c (Nat.le_refl _) hdst)
       omega
      rw [h2 s (fun j hj _ e => hx ⟨j, hj, e⟩) hsd, g2 s (fun j hj e => hx ⟨j, by omega, e⟩)]
    by_cases him : i < c
    ·-- a read
     have hOut : ∀ h', Hs h' → Outc P w0 S n h' ops i t (D i) (V i) := fun h' hh =>
      (hout i him h' hh).congr (hf.sel i hic) (by rw [hts, tsq_size, ht0]) heyes
     have hDi : D i < t.size := by rw [hts, ← ht0]; exact hDlt i him
     have hcc : (arr.setIfInBounds i true).getD c false = arr.getD c false := by rw [getD_listed (by omega), if_neg (by omega)]
     have next : ∀ w', (arr.getD c false = false ∧ St w0 S w' h (mkY Ds ++ Y) ∨ arr.getD c false = true ∧ ∃ v h', K v h' ∧ t.getD d undef = v ∧ St w0 S w' h' (mkY Ds ++ Y)) →
       Gos P r f R (.inRegion ops (Region.linearise.go .any ops fuel (τ / (Region.ready .any ops arr).length) (arr.setIfInBounds i true) []) :: k) (t.setIfInBounds (D i) (V i)) (Ds.map mark) w' := fun w' hmem' => by
      refine ih _ _ _ (by simpa using has) hcl' hno' (by simpa using hts) (fun j hj hlj => ?_) (fun s hs hsd => ?_) (by omega) w' Ds ?_
      ·rw [getD_set hDi]
       split
       ·rename_i e; rw [hDinj i j him hj e]
       ·rename_i e
        rw [getD_listed (by omega)] at hlj
        split at hlj
        ·rename_i e2; subst e2; exact absurd rfl e
        ·exact h1 j hj hlj
      ·rw [getD_set hDi, if_neg (hs i him (by rw [getD_listed (by omega), if_pos rfl]))]
       refine h2 s (fun j hj hlj => hs j hj ?_) (fun hx => hsd (by rw [hcc]; exact hx))
       rw [getD_listed (by omega)]; split
       ·rfl
       ·exact hlj
      ·rw [hcc, getD_set hDi, if_neg (hDd i him)]; exact hmem'
     rcases hmem with ⟨h3, hS⟩ | ⟨h3, v, h', h4, h5, hS⟩
     ·exact (hOut h hh0).go hS (fun w' hS' => next w' (.inl ⟨h3, hS'⟩))
     ·exact (hOut h' (hK v h' h4).1).go hS (fun w' hS' => next w' (.inr ⟨h3, v, h', h4, h5, hS'⟩))
    ·-- the operation that turns memory
     obtain rfl : i = c := by omega
     rcases hmem with ⟨h3, hS⟩ | ⟨h3, _⟩
     ·refine Mop.go hm hFr (by rw [hts, tsq_size, ht0]) heyes hS (fun v w' h' hKv hS' => ?_)
      have hdt : d < t.size := by omega
      refine ih _ _ _ (by simpa using has) hcl' hno' (by simpa using hts) (fun j hj hlj => ?_) (fun s hs hsd => ?_) (by omega) w' Ds ?_
      ·rw [getD_set hdt, if_neg (fun e => hDd j hj e.symm)]
       rw [getD_listed (by omega), if_neg (by omega)] at hlj
       exact h1 j hj hlj
      ·rw [getD_set hdt, if_neg (hsd (by rw [getD_listed (by omega), if_pos rfl]))]
       refine h2 s (fun j hj hlj => hs j hj ?_) (fun hx => by rw [h3] at hx; cases hx)
       rw [getD_listed (by omega), if_neg (by omega)]; exact hlj
      ·refine .inr ⟨by rw [getD_listed (by omega), if_pos rfl], v, h', hKv, ?_, hS'⟩
       rw [getD_set hdt, if_pos rfl]
     ·rw [hu] at h3; cases h3
theorem GoH.drawM {id : Nat} (c : Nat) (Hs : Hl → Prop) (hmix : P.follows .mixedOrders = true) (hc : drawMOk ops l c = true) (hh0 : Hs h)
  (hg : RdM P w0 S n Hs ops (fun l' => ∃ d K, Mop P w0 S n h ops c l' d K ∧ ∀ v h', K v h' → Hs h' ∧ GoH P r f R w0 S Y n (.inRegion ops (List.range' (c + 1) (ops.size - (c + 1))) :: k) ((d, v) :: l') h') 0 c l) : GoH P r f R w0 S Y n (.code (.region id ops true) :: k) l h := by
 intro t w Ds hF hS
 have hf := mfacts_of hc
 refine .regionDraw (fun τ => ?_)
 obtain ⟨D, V, hout, l', hFr, d, K, hm, hK⟩ := (hg t hF).seq
 simp only [Nat.zero_add] at hout
 simp only [Region.schedule, hmix, Bool.true_or, if_true, Region.linearise]
 have h0 : ∀ j, (Array.replicate ops.size false).getD j false = false := fun j => by
  simp [Array.getD_eq_getD_getElem?, Array.getElem?_replicate]; split <;> simp
 refine mut_core hf hh0 hF.1 hout hFr hm hK ops.size τ _ t (by simp) (fun j hj => ?_) (fun j _ => h0 j) hF.1 (fun j _ hj => ?_) (fun s _ _ => rfl) ?_ _ Ds (.inl ⟨h0 c, hS.drew⟩)
 ·rw [h0 j] at hj; cases hj
 ·rw [h0 j] at hj; cases hj
 ·exact Nat.le_trans (List.countP_le_length) (by simp)
theorem GoH.drawTs {id : Nat} (m q : Nat) (hb : Hl) (hsub : hb.Sublist h) (hmix : P.follows .mixedOrders = true) (hc : tailOk ops l m = true) (hg : RdT P w0 S n ops hb (fun l' => Tl P r f R w0 S Y n k ops m hb q [] l' h) 0 m l) : GoH P r f R w0 S Y n (.code (.region id ops true) :: k) l h := by
 intro t w Ds hF hS
 have hf := tailFacts_of hc
 refine .regionDraw (fun τ => ?_)
 obtain ⟨D, V, hout, l', hF', htl⟩ := (hg t hF).seq
 simp only [Nat.zero_add] at hout
 simp only [Region.schedule, hmix, Bool.true_or, if_true, Region.linearise]
 have hDst : ∀ j, j < m → dstOf ops j = some (D j) := fun j hj => by
  obtain ⟨o, h1, h2, _⟩ := hout j hj
  simp [dstOf, h1, h2]
 have hDlt : ∀ j, j < m → D j < t.size := fun j hj => by
  obtain ⟨o, _, _, h3, _⟩ := hout j hj
  rw [hF.1]; exact h3
 have hmN := hf.size
 have hDinj : ∀ i j, i < m → j < m → D i = D j → i = j := fun i j hi hj e => hf.inj i j (D i) hi (by omega) (hDst i hi) (by rw [hDst j hj, e])
 obtain ⟨g1, g2⟩ := tsq_get hDlt hDinj m (Nat.le_refl _)
 have harr : ∀ j, (Array.replicate ops.size false).getD j false = false := fun j => by
  simp [Array.getD_eq_getD_getElem?, Array.getElem?_replicate]; split <;> simp
 refine tail_core hf hF.1 hout ops.size τ _ [] q l' h t _ (by simp) (fun j hj => ?_) (fun j _ => ?_) (by simp) hF' htl hsub hF.1 g1 (fun s hs => ?_) (fun s hs _ => ?_) ?_ _ Ds hS.drew
 ·rw [harr] at hj; cases hj
 ·rw [harr]; simp
 ·rw [g2 s (fun j hj => hs j hj (harr j))]
 ·exact g2 s (fun j hj e => hs j hj e)
 ·exact Nat.le_trans (List.countP_le_length) (by simp)
theorem Mop.app {i d : Nat} {ty : TypeId} {pos : String} {aft : Array Edge} {g : Option (Nat × Bool)} {K : Value → Hl → Prop} {t e : TypeId} {x y : Operand} {inf : TypeInfo} {z : Value} {q : Option Nat} {xs sp : List Value} {nx cap : Nat} {bn m c : Nat} {news spn : List Value} {en : TypeId} {frn : Nat × Nat} (size : Nat)
  (ho : ops[i]? = some ⟨some d, .call ⟨.builtin .append, #[x, y], #[t, t]⟩, ty, pos, aft, g⟩) (hw : wantL ops l g = true) (hx : opd l x = some (osv q nx cap)) (hy : opd l y = some (.slice (some ⟨bn, 0, none⟩) m c)) (hd : Nat.blt d n = true)
  (hu : P.underlying t = some (.slice e)) (hi : P.info? e = some inf) (hz : inf.zero = some z) (hsz : inf.size = size) (hz1 : z.cells.size = size)
  (hq : q = none → nx = 0 ∧ cap = 0) (j : Nat) (hj : h[j]? = some (q, .cells (xs ++ sp).toArray e (0, 0))) (jn : Nat) (hjn : h[jn]? = some (some bn, .cells (news ++ spn).toArray en frn))
  (hnx : xs.length = nx * size) (hcap : (xs ++ sp).length = cap * size) (hl : news.length = m * size) (hm0 : 0 < m) (h1 : ∀ u ∈ news, u.oneCell' = true) (hmx : nx + m ≤ maxLen) (hbytes : (nx + m) * inf.bytes ≤ 140737488355328)
  (hk : ∀ b' sp' cap', (xs ++ news ++ sp').length = cap' * size → K (osv (some b') (nx + m) cap') (h.set j (some b', .cells (xs ++ news ++ sp').toArray e (0, 0)))) : Mop P w0 S n h ops i l d K :=
 ⟨_, ho, rfl, rfl, rfl, hd, .inl ⟨hw, fun t' w Ds Y' hF hS => .inl (by
  have hbn := hS.get hjn
  have hnews : ∀ j u, news[j]? = some u → w.cell? ((⟨bn, 0, none⟩ : Addr).add j) = some u := by
   intro j u hv
   have hjl := (List.getElem?_eq_some_iff.1 hv).1
   have e1 : (⟨bn, 0, none⟩ : Addr).add j = ⟨bn, j, none⟩ := by unfold Addr.add; split; (rename_i h0; rw [h0]); simp
   rw [e1]
   rw [List.getElem?_eq_getElem hjl] at hv; cases hv
   simp [World.cell?, hbn, List.getElem?_append, hjl]
  obtain ⟨b', sp', cap', w', hrun, hlen, hS'⟩ := app_run hu hi hz hsz hz1 hS hnx hcap hq hj (c := c) hl hm0 hnews h1 hmx hbytes ty
  refine ⟨_, w', _, ?_, hS', hk b' sp' cap' hlen⟩
  have e1 : (#[x, y] : Array Operand).map (Act.eval ⟨t', Ds.map mark⟩) = #[osv q nx cap, .slice (some ⟨bn, 0, none⟩) m c] := by simp [hF.opd hx, hF.opd hy]
  simp only [execOp, resolve, e1, Sem.run_bind, Sem.run_pure, Result.andThen_ok, invoke, builtin, hrun])⟩⟩
end
end Go.Proofs.Wit
namespace Go.Proofs.Wit
open Go Go.RowKit
/-! functions that turn given blocks -/
def blks (h : Hl) : List Nat := h.filterMap (·.1)
theorem mem_blks {h : Hl} {b : Nat} : b ∈ blks h ↔ ∃ o, (some b, o) ∈ h := by
 simp only [blks, List.mem_filterMap]
 constructor
 ·rintro ⟨⟨q, o⟩, h1, h2⟩; dsimp only at h2; subst h2; exact ⟨o, h1⟩
 ·rintro ⟨o, h1⟩; exact ⟨_, h1, rfl⟩
structure HasH (w : World) (h : Hl) : Prop where
  own : ∀ p ∈ h, ∀ b, p.1 = some b → w.heap[b]? = some p.2 ∧ isSys p.2 = false
  apart : h.Pairwise apartH
theorem St.has {w0 w : World} {S : List Nat} {h : Hl} {Y : List (Nat × Obj)} (s : St w0 S w h Y) : HasH w h := ⟨fun p hp b hb => ⟨(s.own p hp b hb).1, (s.own p hp b hb).2.1⟩, s.apart⟩
theorem HasH.st {w : World} {h : Hl} (g : HasH w h) : St w (blks h) w h [] :=
 ⟨Ex.refl _ _, fun p hp b hb => ⟨(g.own p hp b hb).1, (g.own p hp b hb).2, .inr (mem_blks.2 ⟨p.2, by rw [← hb]; exact hp⟩)⟩, g.apart, (fun p hp => by cases hp), List.nodup_nil⟩
theorem St.frame {w0 w w' : World} {S : List Nat} {h h' hF : Hl} {Y : List (Nat × Obj)} (s : St w0 S w (h ++ hF) Y) (g : St w (blks h) w' h' []) : St w0 S w' (h' ++ hF) Y := by
 have hown : ∀ b ∈ blks h, w0.heap.size ≤ b ∨ b ∈ S := fun b hb => by
  obtain ⟨o, ho⟩ := mem_blks.1 hb
  exact (s.own _ (List.mem_append_left _ ho) b rfl).2.2
 have hap := List.pairwise_append.1 s.apart
 have hkeep : ∀ b o, w.heap[b]? = some o → b ∉ blks h → w'.heap[b]? = some o := fun b o ho hb => by
  rw [g.ext.block b (Array.getElem?_eq_some_iff.1 ho).1 hb]; exact ho
 have hsz := g.ext.size
 have hsz0 := s.ext.size
 refine ⟨s.ext.trans g.ext (fun x hx => (hown x hx).symm), fun p hp b hb => ?_, List.pairwise_append.2 ⟨g.apart, hap.2.1, fun p hp q hq b hb hqb => ?_⟩, fun p hp => ?_, s.ynd⟩
 ·rcases List.mem_append.1 hp with hp | hp
  ·obtain ⟨h1, h2, h3⟩ := g.own p hp b hb
   refine ⟨h1, h2, ?_⟩
   rcases h3 with h3 | h3
   ·exact .inl (by omega)
   ·exact hown b h3
  ·obtain ⟨h1, h2, h3⟩ := s.own p (List.mem_append_right _ hp) b hb
   refine ⟨hkeep b _ h1 (fun hm => ?_), h2, h3⟩
   obtain ⟨o, ho⟩ := mem_blks.1 hm
   exact hap.2.2 _ ho p hp b rfl hb
 ·obtain ⟨h1, h2, h3⟩ := g.own p hp b hb
  obtain ⟨k1, k2, k3⟩ := s.own q (List.mem_append_right _ hq) b hqb
  rcases h3 with h3 | h3
  ·have := (Array.getElem?_eq_some_iff.1 k1).1; omega
  ·obtain ⟨o, ho⟩ := mem_blks.1 h3
   exact hap.2.2 _ ho q hq b rfl hqb
 ·obtain ⟨h1, h2, h3⟩ := s.sys p hp
  refine ⟨h1, hkeep p.1 _ h2 (fun hm => ?_), h3⟩
  obtain ⟨o, ho⟩ := mem_blks.1 hm
  obtain ⟨k1, k2, _⟩ := s.own _ (List.mem_append_left _ ho) p.1 rfl
  rw [h2] at k1
  cases k1
  dsimp only at k2
  rw [h3] at k2; cases k2
def CnS (P : Program) (gf : FuncId) (args : List Value) (w : World) (h : Hl) (Rc : Value → Hl → Prop) : Prop :=
 Calls P gf args.toArray w fun e w' => ∃ v h', e = .returned v ∧ Rc v h' ∧ St w (blks h) w' h' []
section
variable {P : Program} {r : Option Nat} {f : FuncId} {R : Value → World → Prop} {w0 : World} {S : List Nat} {Y : List (Nat × Obj)} {n : Nat} {k : List Item} {l : Fl} {h : Hl} {ops : Array Oper} {i d : Nat} {rest : List Nat} {ty : TypeId} {pos : String} {aft : Array Edge} {g : Option (Nat × Bool)}
theorem CnS.of {gf : FuncId} {fn : Func} {c : Code} {args : List Value} {w : World} {Rc : Value → Hl → Prop} (hh : HasH w h) (hf : P.funcs[gf]? = some fn) (hb : fn.body = some c) (hn : Nat.ble args.length fn.ntmps = true)
  (hgo : GoH P none gf (fun v w' => ∃ h', Rc v h' ∧ St w (blks h) w' h' []) w (blks h) [] fn.ntmps [.code c] (parL 0 args) h) : CnS P gf args w h Rc := by
 unfold CnS
 refine Calls.mono (calls_of hf hb hn h hh.st hgo) ?_
 rintro e w' ⟨v, rfl, h', h1, h2⟩
 exact ⟨v, h', rfl, h1, h2⟩
theorem CnS.mono {gf : FuncId} {args : List Value} {w : World} {Rc Rc' : Value → Hl → Prop} (hc : CnS P gf args w h Rc) (hr : ∀ v h', Rc v h' → Rc' v h') : CnS P gf args w h Rc' :=
 Calls.mono hc (fun _ _ ⟨v, h', e, h1, h2⟩ => ⟨v, h', e, hr v h' h1, h2⟩)
theorem GoH.callS {hF : Hl} {az : Array Operand} {ts : Array TypeId} {cal : Operand} {gf : FuncId} {fs cs vs : List Value} (Rc : World → Value → Hl → Prop) (ho : ops[i]? = some ⟨some d, .call ⟨.value cal, az, ts⟩, ty, pos, aft, g⟩) (hw : wantL ops l g = true)
  (hc : opd l cal = some (.func (.func gf) fs.toArray cs.toArray)) (hx : opds l az.toList = some vs) (hd : Nat.blt d n = true) (hcf : ∀ args w, (callFunc gf args).run P w = .ok (.enter gf args) w)
  (hcall : ∀ w Y', St w0 S w (h ++ hF) Y' → CnS P gf (fs ++ vs ++ cs) w h (Rc w))
  (hk : ∀ w v h', Rc w v h' → GoH P r f R w0 S Y n (.inRegion ops rest :: k) ((d, v) :: l) (h' ++ hF)) : GoH P r f R w0 S Y n (.inRegion ops (i :: rest) :: k) l (h ++ hF) :=
 .callG ho hw hc hx hd hcf (fun w Y' hS => ⟨fun v w' => ∃ h', Rc w v h' ∧ St w (blks h) w' h' [], by
  have := hcall w Y' hS
  unfold CnS at this
  simp only [List.append_toArray]
  exact Calls.mono this (fun e w' ⟨v, h', e1, e2, e3⟩ => ⟨v, e1, h', e2, e3⟩), fun v w' ⟨h', h1, h2⟩ => ⟨h' ++ hF, hS.frame h2, hk w v h' h1⟩⟩)
theorem Mop.callS {hF : Hl} {az : Array Operand} {ts : Array TypeId} {cal : Operand} {gf : FuncId} {fs cs vs : List Value} {K : Value → Hl → Prop} (ho : ops[i]? = some ⟨some d, .call ⟨.value cal, az, ts⟩, ty, pos, aft, g⟩) (hw : wantL ops l g = true)
  (hc : opd l cal = some (.func (.func gf) fs.toArray cs.toArray)) (hx : opds l az.toList = some vs) (hd : Nat.blt d n = true) (hcf : ∀ args w, (callFunc gf args).run P w = .ok (.enter gf args) w)
  (hcall : ∀ w Y', St w0 S w (h ++ hF) Y' → CnS P gf (fs ++ vs ++ cs) w h (fun v h' => K v (h' ++ hF))) : Mop P w0 S n (h ++ hF) ops i l d K := by
 refine ⟨_, ho, rfl, rfl, rfl, hd, .inl ⟨hw, fun t w Ds Y' hF' hS => .inr ⟨gf, (fs ++ vs ++ cs).toArray, fun v w' => ∃ h', K v (h' ++ hF) ∧ St w (blks h) w' h' [], ?_, ?_, fun v w' ⟨h', h1, h2⟩ => ⟨h' ++ hF, hS.frame h2, h1⟩⟩⟩⟩
 ·have e1 := resolve_run (P := P) (ty := ty) (ts := ts) (Ds := Ds) (w := w) hF' hc hx
  simp only [execOp, Sem.run_bind, e1, Result.andThen_ok, invoke, hcf]
  simp
 ·exact Calls.mono (hcall w Y' hS) (fun e w' ⟨v, h', e1, e2, e3⟩ => ⟨v, e1, h', e2, e3⟩)
end
end Go.Proofs.Wit
namespace Go.Proofs.Wit
open Go Go.RowKit
/-! maps -/
section
variable {κ ν : Type}
def ents (ek : κ → Value) (ev : ν → Value) : List (κ × ν) → Nat → List MapEntry
 | [], _ => []
 | p :: L, i => ⟨ek p.1, ev p.2, i⟩ :: ents ek ev L (i + 1)
abbrev mobj (ek : κ → Value) (ev : ν → Value) (L : List (κ × ν)) : Obj := .map (ents ek ev L 0).toArray L.length
def mget (q : κ → κ → Bool) : List (κ × ν) → κ → Option ν
 | [], _ => none
 | p :: L, k => if q k p.1 = true then some p.2 else mget q L k
variable {ek : κ → Value} {ev : ν → Value} {q : κ → κ → Bool}
theorem ents_append : ∀ {L : List (κ × ν)} {k : κ} {v : ν} {i : Nat}, ents ek ev (L ++ [(k, v)]) i = ents ek ev L i ++ [⟨ek k, ev v, i + L.length⟩]
 | [], k, v, i => rfl
 | p :: L, k, v, i => by rw [List.cons_append, ents, ents_append, ents, List.cons_append, List.length_cons, Nat.add_assoc, Nat.add_comm 1]
def found (q : κ → κ → Bool) (ev : ν → Value) : List (κ × ν) → κ → Nat → Option (Nat × Value)
 | [], _, _ => none
 | p :: L, k, i => if q k p.1 = true then some (i, ev p.2) else found q ev L k (i + 1)
theorem found_mget : ∀ {L : List (κ × ν)} {k : κ} {i : Nat}, (found q ev L k i).map (·.2) = (mget q L k).map ev
 | [], _, _ => rfl
 | p :: L, k, i => by
  rw [found, mget]
  split
  ·rfl
  ·exact found_mget
theorem findNow_eq {kd : TypeDesc} (hs : ∀ a b : κ, Instr.sameNow kd (ek a) (ek b) = some (q a b)) : ∀ {L : List (κ × ν)} {k : κ} {i j : Nat}, Instr.findNow kd (ek k) (ents ek ev L j) i = some (found q ev L k i)
 | [], _, _, _ => rfl
 | p :: L, k, i, j => by
  rw [ents, Instr.findNow, hs, found]
  cases q k p.1 with
  | true => rfl
  | false => exact findNow_eq hs
theorem findAsk_eq {P : Program} {kt : TypeId} {w : World} (hs : ∀ a b : κ, (Op.equal kt (ek a) (ek b)).run P w = .ok (q a b) w) : ∀ {L : List (κ × ν)} {k : κ} {i j : Nat}, (Instr.findAsking kt (ek k) (ents ek ev L j) i).run P w = .ok (found q ev L k i) w
 | [], _, _, _ => rfl
 | p :: L, k, i, j => by
  rw [ents, Instr.findAsking, found]
  simp only [Sem.run_bind, hs, Result.andThen_ok]
  cases q k p.1 with
  | true => rfl
  | false => exact findAsk_eq hs
structure KeyOk (P : Program) (kt : TypeId) (ek : κ → Value) (q : κ → κ → Bool) : Prop where
  chk : ∀ (e : Bool) (a : κ) (w : World), (Instr.checkKey e 10000 kt (ek a)).run P w = .ok () w
  find : ∀ {ν : Type} (ev : ν → Value) (L : List (κ × ν)) (k : κ) (w : World), (Instr.findKey kt (ek k) (ents ek ev L 0)).run P w = .ok (found q ev L k 0) w
theorem KeyOk.now {P : Program} {kt : TypeId} {kd : TypeDesc} (hu : P.underlying kt = some kd) (hc : ∀ (e : Bool) (a : κ) (w : World), (Instr.checkKey e 10000 kt (ek a)).run P w = .ok () w) (hs : ∀ a b : κ, Instr.sameNow kd (ek a) (ek b) = some (q a b)) : KeyOk P kt ek q :=
 ⟨hc, fun ev L k w => by
  simp only [Instr.findKey, Sem.run_bind, run_underlying hu, Result.andThen_ok, findNow_eq hs]; rfl⟩
theorem KeyOk.int {P : Program} {kt : TypeId} {kd : IntKind} (hu : P.underlying kt = some (.int kd)) : KeyOk P kt (Value.int kd) (fun a b => a == b) :=
 .now hu (fun e a w => Go.MapKept.run_checkKey hu (by simp [Go.MapKept.IsKey]) e 9999) (fun a b => by simp [Instr.sameNow])
theorem bldA {P : Program} {t et : TypeId} {n s : Nat} {z : Value} {ps : List (Nat × Value)} {c : List Value} (hu : P.underlying t = some (.array n et)) (hs : ∀ w, (sizeOf et).run P w = .ok s w) (hz : ∀ w, (zeroValue t).run P w = .ok z w)
  (hf : fillL (fun i => some (i * s, s)) z.cells.toList ps = some c) : Bld P t ps (.agg c.toArray) := by
 intro w
 have h1 := fill_eq hf
 rw [Array.toArray_toList] at h1
 simp only [Instr.build, Sem.run_bind, hz, Result.andThen_ok, run_underlying hu, hs]
 rw [h1]; rfl
theorem part1 {P : Program} {et : TypeId} (ha : ∀ w, (isAgg et).run P w = .ok false w) {cs : Array Value} {j : Nat} {v : Value} (hv : cs[j]? = some v) (w : World) : (part et cs j).run P w = .ok v w := by
 simp only [part, Sem.run_bind, ha, Result.andThen_ok, hv]; rfl
theorem eqIn_int {P : Program} {t : TypeId} {kd : IntKind} (dd : Nat) {p q : Int} (hu : P.underlying t = some (.int kd)) (w : World) : (Op.equalIn (dd + 1) t (.int kd p) (.int kd q)).run P w = .ok (p == q) w := by
 simp only [Op.equalIn, Sem.run_bind, run_underlying hu, Result.andThen_ok]; simp
end
section
variable {P : Program} {r : Option Nat} {f : FuncId} {R : Value → World → Prop} {w0 : World} {S : List Nat} {Y : List (Nat × Obj)} {n : Nat} {k : List Item} {l : Fl} {h : Hl}
variable {ops : Array Oper} {i d : Nat} {rest : List Nat} {ty : TypeId} {pos : String} {aft : Array Edge} {g : Option (Nat × Bool)}
variable {κ ν : Type} {ek : κ → Value} {ev : ν → Value} {q : κ → κ → Bool}
theorem GoH.mkMap (ek : κ → Value) (ev : ν → Value) {t : TypeId} (ho : ops[i]? = some ⟨some d, .makeMap t none, ty, pos, aft, g⟩) (hw : wantL ops l g = true) (hd : Nat.blt d n = true)
  (hk : ∀ b, GoH P r f R w0 S Y n (.inRegion ops rest :: k) ((d, .map (some b)) :: l) ((some b, mobj ek ev []) :: h)) : GoH P r f R w0 S Y n (.inRegion ops (i :: rest) :: k) l h :=
 .mem ho hw rfl rfl hd (fun t' w Ds _ hF hS => ⟨.map (some w.heap.size), w.alloc (.map #[] 0), _, by
  simp [execOp, Instr.makeMap], hS.alloc rfl, hk _⟩)
theorem Vop.lkup {t kt el : TypeId} (hK : KeyOk P kt ek q) {z : Value} {x ix : Operand} {b : Nat} {a : κ} {L : List (κ × ν)} (ho : ops[i]? = some ⟨some d, .lookup t x ix true, ty, pos, aft, g⟩) (hw : wantL ops l g = true)
  (hx : opd l x = some (.map (some b))) (hy : opd l ix = some (ek a)) (hd : Nat.blt d n = true) (hu : P.underlying t = some (.map kt el)) (hz : ∀ w, (zeroValue el).run P w = .ok z w) (j : Nat) (hj : h[j]? = some (some b, mobj ek ev L)) :
  Vop P w0 S n h ops i l d (.tuple #[((mget q L a).map ev).getD z, .bool (mget q L a).isSome]) :=
 .of ho hw rfl rfl hd (fun t' w Ds _ hF hS => ⟨.value (.tuple #[((mget q L a).map ev).getD z, .bool (mget q L a).isSome]), by
  have hg : (getObj b).run P w = .ok (mobj ek ev L) w := by simp [getObj, Sem.run, hS.get hj]
  have hf := hK.find ev L a w
  have e1 : (found q ev L a 0).map (·.2) = (mget q L a).map ev := found_mget
  simp only [execOp, hF.opd hx, hF.opd hy, Sem.run_bind, Instr.lookup, run_underlying hu, Result.andThen_ok, hg, hK.chk, Sem.run_pure, hf]
  cases hfo : found q ev L a 0 with
  | none =>
   rw [hfo] at e1
   cases ha : mget q L a with
   | none => simp [hz]
   | some v => rw [ha] at e1; cases e1
  | some y =>
   rw [hfo] at e1
   cases ha : mget q L a with
   | none => rw [ha] at e1; cases e1
   | some v => rw [ha] at e1; simp at e1 ⊢; exact e1, rfl⟩)
theorem found_none : ∀ {L : List (κ × ν)} {a : κ} {i : Nat}, mget q L a = none → found q ev L a i = none
 | [], _, _, _ => rfl
 | p :: L, a, i, h => by
  rw [mget] at h
  rw [found]
  split at h
  ·cases h
  ·rename_i hq; rw [if_neg hq]; exact found_none h
theorem mapUpd_run {t kt el : TypeId} (hK : KeyOk P kt ek q) {b : Nat} {a : κ} {v : ν} {L : List (κ × ν)} {w : World} (hu : P.underlying t = some (.map kt el)) (hb : w.heap[b]? = some (mobj ek ev L)) (ha : mget q L a = none) :
  (Instr.mapUpdate t (.map (some b)) (ek a) (ev v)).run P w = .ok () { w with heap := w.heap.setIfInBounds b (mobj ek ev (L ++ [(a, v)])) } := by
 have hg : (getObj b).run P w = .ok (mobj ek ev L) w := by simp [getObj, Sem.run, hb]
 have hf := hK.find ev L a w
 rw [found_none ha] at hf
 simp only [Instr.mapUpdate, Sem.run_bind, run_underlying hu, Result.andThen_ok, hg, hK.chk, hf]
 have e1 : ((ents ek ev L 0).toArray.push ⟨ek a, ev v, L.length⟩) = (ents ek ev (L ++ [(a, v)]) 0).toArray := by rw [ents_append]; simp
 rw [e1]
 simp [setObj, Sem.run, hb, mobj]
theorem GoH.mapIns {t kt el : TypeId} (hK : KeyOk P kt ek q) {m x y : Operand} {b : Nat} {a : κ} {v : ν} {L : List (κ × ν)} {o : Oper} (ho : ops[i]? = some o) (hop : o.op = .mapUpdate t m x y ∨ o.op = .insert t m x y) (hdst : o.dst = none) (hw : wantL ops l o.guard = true)
  (hm : opd l m = some (.map (some b))) (hx : opd l x = some (ek a)) (hy : opd l y = some (ev v)) (hu : P.underlying t = some (.map kt el)) (j : Nat) (hj : h[j]? = some (some b, mobj ek ev L)) (ha : mget q L a = none)
  (hk : GoH P r f R w0 S Y n (.inRegion ops rest :: k) l (h.set j (some b, mobj ek ev (L ++ [(a, v)])))) : GoH P r f R w0 S Y n (.inRegion ops (i :: rest) :: k) l h :=
 .eff ho hw hdst (by rcases hop with e | e <;> rw [e] <;> rfl) (fun t' w Ds _ hF hS => by
  have hb := hS.get hj
  refine ⟨{ w with heap := w.heap.setIfInBounds b (mobj ek ev (L ++ [(a, v)])) }, _, ?_, hS.turn hj (o' := mobj ek ev (L ++ [(a, v)])) rfl rfl rfl rfl (by simp) ?_ ?_, hk⟩
  ·have hrun := mapUpd_run hK (v := v) hu hb ha
   unfold execOp
   rcases hop with e | e <;> rw [e] <;> simp only [hF.opd hm, hF.opd hx, hF.opd hy, Sem.run_bind, hrun] <;> rfl
  ·have hlt := hS.lt hj
   simp [hlt]
  ·intro q _ hq
   simp [Ne.symm hq])
end
end Go.Proofs.Wit
namespace Go.Proofs.Wit
open Go Go.RowKit
/-! nodes in memory: loads, equality, keys of maps -/
def NV.v (n : NV) : Value := .agg #[I64 n.op, I64 n.i, I64 n.e, I64 n.g, I64 n.x, I64 n.y]
structure FA (w : World) (a : Option Addr) (f : List NV) : Prop where
  at_ : Sl w a (f.flatMap NV.cells)
theorem FA.ex0 {w0 w : World} {a : Option Addr} {f : List NV} (h : FA w0 a f) {S : List Nat} (e : Ex S w0 w) (hS : ∀ b o, a = some ⟨b, o, none⟩ → b ∉ S := by simp) : FA w a f := ⟨Sl.ex h.at_ e hS⟩
abbrev obN (e : TypeId) (ns : List NV) (sp : List Value) : Obj := .cells (ns.flatMap NV.cells ++ sp).toArray e (0, 0)
theorem flatN {ns : List NV} : (ns.flatMap NV.cells).length = ns.length * 6 := flat_len (enc := NV.cells) (sz := 6) (fun _ => rfl)
theorem faAt {w0 w : World} {S : List Nat} {h : Hl} {Y : List (Nat × Obj)} (s : St w0 S w h Y) (j : Nat) {q : Option Nat} {ns : List NV} {e : TypeId} {sp : List Value} (hj : h[j]? = some (q, obN e ns sp)) (hq : q = none → ns.length = 0) : FA w (q.map (fun b => ⟨b, 0, none⟩)) ns := by
 cases q with
 | none => rw [List.eq_nil_of_length_eq_zero (hq rfl)]; exact ⟨Sl.nil _ _⟩
 | some b => exact ⟨Sl.blk (s.get hj)⟩
def OwnN (e : TypeId) (w w' : World) (v : Value) (ns : List NV) : Prop :=
 ∃ q cap sp, v = osv q ns.length cap ∧ (q = none → ns.length = 0 ∧ cap = 0) ∧ (ns.flatMap NV.cells ++ sp).length = cap * 6 ∧ ∀ b, q = some b → w.heap.size ≤ b ∧ w'.heap[b]? = some (obN e ns sp)
theorem gainN {t : TypeId} {w0 w w' : World} {S : List Nat} {h : Hl} {Y : List (Nat × Obj)} (s : St w0 S w h Y) (e : Ex [] w w') {v : Value} {ns : List NV} (ho : OwnN t w w' v ns) :
  ∃ q cap sp, v = osv q ns.length cap ∧ (q = none → ns.length = 0 ∧ cap = 0) ∧ (ns.flatMap NV.cells ++ sp).length = cap * 6 ∧ St w0 S w' ((q, obN t ns sp) :: h) Y := by
 obtain ⟨q, cap, sp, h1, h2, h3, h4⟩ := ho
 refine ⟨q, cap, sp, h1, h2, h3, ?_⟩
 cases q with
 | none => exact (s.later e).none _
 | some b => exact s.gain e (h4 b rfl).2 rfl (h4 b rfl).1
theorem OwnN.mk {t : TypeId} {w0 w : World} {h : Hl} {Y : List (Nat × Obj)} (s : St w0 [] w h Y) (j : Nat) {q : Option Nat} {ns : List NV} {sp : List Value} {cap m : Nat} (hj : h[j]? = some (q, obN t ns sp)) (hm : m = ns.length)
  (hq : q = none → ns.length = 0 ∧ cap = 0) (hcap : (ns.flatMap NV.cells ++ sp).length = cap * 6) : OwnN t w0 w (osv q m cap) ns := by
 subst hm
 refine ⟨q, cap, sp, rfl, hq, hcap, fun b hb => ?_⟩
 subst hb
 exact ⟨s.fresh hj, s.get hj⟩
theorem OwnN.nil0 {t : TypeId} {w w' : World} : OwnN t w w' (.slice none 0 0) [] := ⟨none, 0, [], rfl, fun _ => ⟨rfl, rfl⟩, rfl, fun _ e => by cases e⟩
section
variable {P : Program} {r : Option Nat} {f : FuncId} {R : Value → World → Prop} {w0 : World} {S : List Nat} {Y : List (Nat × Obj)} {n : Nat} {k : List Item} {l : Fl} {h : Hl}
variable {ops : Array Oper} {i d : Nat} {rest : List Nat} {ty : TypeId} {pos : String} {aft : Array Edge} {g : Option (Nat × Bool)}
theorem Vop.nilCk {x : Operand} {a : Addr} (ho : ops[i]? = some ⟨some d, .nilCheck x, ty, pos, aft, g⟩) (hw : wantL ops l g = true) (hx : opd l x = some (.pointer (some a))) (hd : Nat.blt d n = true) : Vop P w0 S n h ops i l d (.pointer (some a)) :=
 .of ho hw rfl rfl hd (fun t' w Ds _ hF hS => ⟨.value (.pointer (some a)), by simp only [execOp, hF.opd hx]; rfl, rfl⟩)
end
def nodeFs (fs : Array Field) (it : TypeId) : Prop := ∃ f0 f1 f2 f3 f4 f5 : Field, fs = #[f0, f1, f2, f3, f4, f5] ∧
 (f0.name ≠ "_" ∧ f0.type = it ∧ f0.offset = 0) ∧ (f1.name ≠ "_" ∧ f1.type = it ∧ f1.offset = 1) ∧ (f2.name ≠ "_" ∧ f2.type = it ∧ f2.offset = 2) ∧
 (f3.name ≠ "_" ∧ f3.type = it ∧ f3.offset = 3) ∧ (f4.name ≠ "_" ∧ f4.type = it ∧ f4.offset = 4) ∧ (f5.name ≠ "_" ∧ f5.type = it ∧ f5.offset = 5)
theorem eqIn_node {P : Program} {t it : TypeId} {fs : Array Field} (hu : P.underlying t = some (.struct fs)) (hfs : nodeFs fs it) (hi : P.underlying it = some (.int .i64)) (ha : ∀ w, (isAgg it).run P w = .ok false w) (hst : P.stoodInHeld t = false) (m : Nat) (a b : NV) (w : World) :
  (Op.equalIn (m + 2) t a.v b.v).run P w = .ok (a == b) w := by
 obtain ⟨f0, f1, f2, f3, f4, f5, rfl, ⟨n0, t0, o0⟩, ⟨n1, t1, o1⟩, ⟨n2, t2, o2⟩, ⟨n3, t3, o3⟩, ⟨n4, t4, o4⟩, ⟨n5, t5, o5⟩⟩ := hfs
 have hp : ∀ (c : NV) (w : World), (part it c.v.cells 0).run P w = .ok (I64 c.op) w ∧ (part it c.v.cells 1).run P w = .ok (I64 c.i) w ∧ (part it c.v.cells 2).run P w = .ok (I64 c.e) w ∧ (part it c.v.cells 3).run P w = .ok (I64 c.g) w ∧ (part it c.v.cells 4).run P w = .ok (I64 c.x) w ∧ (part it c.v.cells 5).run P w = .ok (I64 c.y) w := fun c w =>
  ⟨part1 ha rfl w, part1 ha rfl w, part1 ha rfl w, part1 ha rfl w, part1 ha rfl w, part1 ha rfl w⟩
 obtain ⟨a0, a1, a2, a3, a4, a5⟩ := hp a w
 obtain ⟨b0, b1, b2, b3, b4, b5⟩ := hp b w
 have hq : ∀ p q : Int, (Op.equalIn (m + 1) it (.int .i64 p) (.int .i64 q)).run P w = .ok (p == q) w := fun p q => eqIn_int m hi w
 have hv : ∀ c : NV, c.v = .agg c.v.cells := fun c => rfl
 rw [hv a, hv b, show m + 2 = (m + 1) + 1 from rfl, Op.equalIn]
 have hprog : (program : Sem Program).run P w = .ok P w := rfl
 simp only [Sem.run_bind, run_underlying hu, Result.andThen_ok, hprog, hst, ← Array.forIn_toList]
 have hab : (a == b) = (a.op == b.op && (a.i == b.i && (a.e == b.e && (a.g == b.g && (a.x == b.x && a.y == b.y))))) := by
  rw [Bool.eq_iff_iff]
  simp only [beq_iff_eq, Bool.and_eq_true]
  obtain ⟨_, _, _, _, _, _⟩ := a
  obtain ⟨_, _, _, _, _, _⟩ := b
  simp [NV.mk.injEq]
 rw [hab]
 cases h0 : a.op == b.op
 ·simp [n0, t0, o0, a0, b0, hq, h0]
 cases h1 : a.i == b.i
 ·simp [n0, t0, o0, a0, b0, hq, h0, n1, t1, o1, a1, b1, h1]
 cases h2 : a.e == b.e
 ·simp [n0, t0, o0, a0, b0, hq, h0, n1, t1, o1, a1, b1, h1, n2, t2, o2, a2, b2, h2]
 cases h3 : a.g == b.g
 ·simp [n0, t0, o0, a0, b0, hq, h0, n1, t1, o1, a1, b1, h1, n2, t2, o2, a2, b2, h2, n3, t3, o3, a3, b3, h3]
 cases h4 : a.x == b.x
 ·simp [n0, t0, o0, a0, b0, hq, h0, n1, t1, o1, a1, b1, h1, n2, t2, o2, a2, b2, h2, n3, t3, o3, a3, b3, h3, n4, t4, o4, a4, b4, h4]
 cases h5 : a.y == b.y
 ·simp [n0, t0, o0, a0, b0, hq, h0, n1, t1, o1, a1, b1, h1, n2, t2, o2, a2, b2, h2, n3, t3, o3, a3, b3, h3, n4, t4, o4, a4, b4, h4, n5, t5, o5, a5, b5, h5]
 ·simp [n0, t0, o0, a0, b0, hq, h0, n1, t1, o1, a1, b1, h1, n2, t2, o2, a2, b2, h2, n3, t3, o3, a3, b3, h3, n4, t4, o4, a4, b4, h4, n5, t5, o5, a5, b5, h5]
theorem chk_node {P : Program} {t it : TypeId} {fs : Array Field} (hu : P.underlying t = some (.struct fs)) (hfs : nodeFs fs it) (hi : P.underlying it = some (.int .i64)) (ha : ∀ w, (isAgg it).run P w = .ok false w) (e : Bool) (m : Nat) (a : NV) (w : World) :
  (Instr.checkKey e (m + 2) t a.v).run P w = .ok () w := by
 obtain ⟨f0, f1, f2, f3, f4, f5, rfl, ⟨n0, t0, o0⟩, ⟨n1, t1, o1⟩, ⟨n2, t2, o2⟩, ⟨n3, t3, o3⟩, ⟨n4, t4, o4⟩, ⟨n5, t5, o5⟩⟩ := hfs
 have a0 : (part it a.v.cells 0).run P w = .ok (I64 a.op) w := part1 ha rfl w
 have a1 : (part it a.v.cells 1).run P w = .ok (I64 a.i) w := part1 ha rfl w
 have a2 : (part it a.v.cells 2).run P w = .ok (I64 a.e) w := part1 ha rfl w
 have a3 : (part it a.v.cells 3).run P w = .ok (I64 a.g) w := part1 ha rfl w
 have a4 : (part it a.v.cells 4).run P w = .ok (I64 a.x) w := part1 ha rfl w
 have a5 : (part it a.v.cells 5).run P w = .ok (I64 a.y) w := part1 ha rfl w
 have hk : ∀ p : Int, (Instr.checkKey e (m + 1) it (.int .i64 p)).run P w = .ok () w := fun p => Go.MapKept.run_checkKey hi (by simp [Go.MapKept.IsKey]) e m
 rw [show a.v = .agg a.v.cells from rfl, show m + 2 = (m + 1) + 1 from rfl, Instr.checkKey]
 simp only [Sem.run_bind, run_underlying hu, Result.andThen_ok, ← Array.forIn_toList]
 simp [n0, t0, o0, a0, hk, n1, t1, o1, a1, n2, t2, o2, a2, n3, t3, o3, a3, n4, t4, o4, a4, n5, t5, o5, a5]
theorem KeyOk.node {P : Program} {t it : TypeId} {fs : Array Field} (hu : P.underlying t = some (.struct fs)) (hfs : nodeFs fs it) (hi : P.underlying it = some (.int .i64)) (ha : ∀ w, (isAgg it).run P w = .ok false w) (hst : P.stoodInHeld t = false) : KeyOk P t NV.v (fun a b => a == b) := by
 refine ⟨fun e a w => chk_node hu hfs hi ha e 9998 a w, fun ev L k w => ?_⟩
 have hq : ∀ a b : NV, (Op.equal t a.v b.v).run P w = .ok (a == b) w := fun a b => eqIn_node hu hfs hi ha hst 9998 a b w
 simp only [Instr.findKey, Sem.run_bind, run_underlying hu, Result.andThen_ok]
 cases L with
 | nil => rfl
 | cons p L =>
  have h0 : Instr.findNow (.struct fs) k.v (ents NV.v ev (p :: L) 0) 0 = none := rfl
  rw [h0]
  exact findAsk_eq (q := fun a b : NV => a == b) hq
theorem bEqNode {P : Program} {t it : TypeId} {fs : Array Field} (hu : P.underlying t = some (.struct fs)) (hfs : nodeFs fs it) (hi : P.underlying it = some (.int .i64)) (ha : ∀ w, (isAgg it).run P w = .ok false w) (hst : P.stoodInHeld t = false) (hg : P.eqGuardType P.depth t = false) {a b : NV} :
  Bin P .eql t a.v b.v (.bool (a == b)) := by
 intro x y w
 have h1 : (Op.equal t a.v b.v).run P w = .ok (a == b) w := eqIn_node hu hfs hi ha hst 9998 a b w
 have hprog : (program : Sem Program).run P w = .ok P w := rfl
 have h2 : (eqGuard .eql t x y a.v b.v).run P w = .ok () w := by
  unfold eqGuard
  simp only [NV.v]
  simp [hg]
 have h3 : (binOp .eql t a.v b.v).run P w = .ok (.bool (a == b)) w := by
  show (do pure (Value.bool (← Op.equal t a.v b.v)) : Sem Value).run P w = _
  simp only [Sem.run_bind, h1, Result.andThen_ok]; rfl
 simp only [Sem.run_bind, h2, Result.andThen_ok, h3]
end Go.Proofs.Wit
