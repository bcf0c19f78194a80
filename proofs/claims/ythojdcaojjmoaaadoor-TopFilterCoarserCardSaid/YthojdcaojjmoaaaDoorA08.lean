/- Laws of walks, for any program, under the conditions that each theorem states. -/
import Derived.Test.YthojdcaojjmoaaaDoorA06
import Derived.Test.YthojdcaojjmoaaaDoorA02
namespace Go.Proofs.Wit
open Go Go.RowKit
/-! strings; numbers in hexadecimal -/
def digL : List UInt8 := [48, 49, 50, 51, 52, 53, 54, 55, 56, 57, 97, 98, 99, 100, 101, 102, 103, 104, 105, 106, 107, 108, 109, 110, 111, 112, 113, 114, 115, 116, 117, 118, 119, 120, 121, 122]
def dig (i : Nat) : UInt8 := digL.getD i 0
abbrev I8 (x : UInt8) : Value := .int .u8 (x.toNat : Int)
def bstr (l : List UInt8) : Value := .string ⟨l.toArray⟩
def hexN (n : Nat) : List UInt8 := if n < 16 then [dig n] else hexN (n / 16) ++ [dig (n % 16)]
termination_by n
theorem hexN_lo {n : Nat} (h : n < 16) : hexN n = [dig n] := by rw [hexN, if_pos h]
theorem hexN_hi {n : Nat} (h : ¬ n < 16) : hexN n = hexN (n / 16) ++ [dig (n % 16)] := by rw [hexN, if_neg h]
theorem hexN_len : ∀ (k n : Nat), n < 16 ^ (k + 1) → (hexN n).length ≤ k + 1
  | 0, n, h => by rw [hexN_lo (by simpa using h)]; simp
  | k + 1, n, h => by
    by_cases h1 : n < 16
    · rw [hexN_lo h1]; simp
    · rw [hexN_hi h1, List.length_append]
      have := hexN_len k (n / 16) (by rw [Nat.pow_succ] at h; omega)
      simp; omega
def undig (c : UInt8) : Nat := if c.toNat < 58 then c.toNat - 48 else c.toNat - 87
def valL (l : List UInt8) : Nat := l.foldl (fun a c => 16 * a + undig c) 0
theorem undig_dig : ∀ i : Fin 16, undig (dig i.val) = i.val := by decide
theorem dig_ne : ∀ i : Fin 16, dig i.val ≠ 32 := by decide
theorem hexN_val (n : Nat) : valL (hexN n) = n := by
  induction n using Nat.strongRecOn with
  | _ n ih =>
    by_cases h : n < 16
    · rw [hexN_lo h]
      have := undig_dig ⟨n, h⟩
      simpa [valL] using this
    · rw [hexN_hi h]
      have h1 := ih (n / 16) (by omega)
      have := undig_dig ⟨n % 16, Nat.mod_lt _ (by decide)⟩
      unfold valL at h1 ⊢
      rw [List.foldl_append, h1]
      simp only [List.foldl_cons, List.foldl_nil]
      simp only at this
      omega
theorem hexN_ne (n : Nat) : ∀ c ∈ hexN n, c ≠ 32 := by
  induction n using Nat.strongRecOn with
  | _ n ih =>
    intro c hc
    by_cases h : n < 16
    · rw [hexN_lo h, List.mem_singleton] at hc
      exact hc ▸ dig_ne ⟨n, h⟩
    · rw [hexN_hi h, List.mem_append] at hc
      rcases hc with hc | hc
      · exact ih _ (by omega) c hc
      · rw [List.mem_singleton] at hc
        exact hc ▸ dig_ne ⟨n % 16, Nat.mod_lt _ (by decide)⟩
theorem split_at {a b r s : List UInt8} (ha : ∀ c ∈ a, c ≠ 32) (hb : ∀ c ∈ b, c ≠ 32) (e : a ++ 32 :: r = b ++ 32 :: s) : a = b ∧ r = s := by
  induction a generalizing b with
  | nil =>
    cases b with
    | nil => simpa using e
    | cons y b => simp at e; exact absurd e.1.symm (hb y (List.mem_cons_self ..))
  | cons x a ih =>
    cases b with
    | nil => simp at e; exact absurd e.1 (ha x (List.mem_cons_self ..))
    | cons y b =>
      simp only [List.cons_append, List.cons.injEq] at e
      obtain ⟨h1, h2⟩ := ih (fun c hc => ha c (List.mem_cons_of_mem _ hc)) (fun c hc => hb c (List.mem_cons_of_mem _ hc)) e.2
      exact ⟨by rw [e.1, h1], h2⟩
/-- the key of a list of words -/
def keyL (xs : List W64) : List UInt8 := xs.flatMap (fun x => hexN x.toNat ++ [32])
theorem keyL_snoc {xs : List W64} {x : W64} : keyL (xs ++ [x]) = keyL xs ++ (hexN x.toNat ++ [32]) := by simp [keyL]
theorem keyL_inj : ∀ {xs ys : List W64}, xs.length = ys.length → keyL xs = keyL ys → xs = ys
  | [], [], _, _ => rfl
  | [], _ :: _, h, _ => by simp at h
  | _ :: _, [], h, _ => by simp at h
  | x :: xs, y :: ys, h, e => by
    simp only [keyL, List.flatMap_cons, List.append_assoc, List.singleton_append] at e
    obtain ⟨h1, h2⟩ := split_at (hexN_ne _) (hexN_ne _) e
    have h3 : x.toNat = y.toNat := by rw [← hexN_val x.toNat, h1, hexN_val]
    rw [BitVec.toNat_inj.1 h3, keyL_inj (by simpa using h) h2]
theorem hexW_len (x : W64) : (hexN x.toNat).length ≤ 16 := hexN_len 15 _ x.isLt
theorem keyL_len (xs : List W64) : (keyL xs).length ≤ 17 * xs.length := by
  induction xs with
  | nil => simp [keyL]
  | cons x xs ih =>
    have := hexW_len x
    simp only [keyL, List.flatMap_cons, List.length_append, List.length_cons, List.length_nil] at ih ⊢
    omega
section
variable {P : Program} {r : Option Nat} {f : FuncId} {R : Value → World → Prop} {w0 : World} {S : List Nat} {Y : List (Nat × Obj)} {n : Nat} {k : List Item} {l : Fl} {h : Hl}
variable {ops : Array Oper} {i d : Nat} {rest : List Nat} {ty : TypeId} {pos : String} {aft : Array Edge} {g : Option (Nat × Bool)} {t : TypeId}
theorem KeyOk.bstr {kt : TypeId} (hu : P.underlying kt = some .string) : KeyOk P kt Wit.bstr (fun a b => a == b) :=
  .now hu (fun e a w => Go.MapKept.run_checkKey hu (by simp [Go.MapKept.IsKey, Wit.bstr]) e 9999) (fun a b => by
    show some ((⟨a.toArray⟩ : ByteArray) == ⟨b.toArray⟩) = some (a == b)
    congr 1
    rw [Bool.eq_iff_iff]
    constructor
    · intro h
      have : (a.toArray == b.toArray) = true := h
      simpa using this
    · intro h
      rw [beq_iff_eq] at h; subst h
      show (a.toArray == a.toArray) = true
      simp)
theorem bCat {a b : List UInt8} (hl : a.length + b.length ≤ 1000000) : Bin P .add t (Wit.bstr a) (Wit.bstr b) (Wit.bstr (a ++ b)) := by
  intro p q w
  have e1 : eqGuard .add t p q (Wit.bstr a) (Wit.bstr b) = pure () := by unfold eqGuard Wit.bstr; rfl
  rw [e1]
  show (Op.stringOp .add ⟨a.toArray⟩ ⟨b.toArray⟩).run P w = _
  unfold Op.stringOp
  rw [if_neg (by
    have e2 : (ByteArray.mk a.toArray).size = a.length := by simp [ByteArray.size]
    have e3 : (ByteArray.mk b.toArray).size = b.length := by simp [ByteArray.size]
    rw [e2, e3, show IntKind.i64.max = 9223372036854775807 from rfl]; omega)]
  rw [Sem.run_pure]
  have : (ByteArray.mk a.toArray) ++ (ByteArray.mk b.toArray) = ByteArray.mk (a ++ b).toArray := by
    apply ByteArray.ext; simp
  unfold Wit.bstr
  rw [this]
/-- a letter of a string -/
theorem Vop.idxC {x y : Operand} {l8 : List UInt8} {kd : IntKind} {j : Int} (ho : ops[i]? = some ⟨some d, .index t x y, ty, pos, aft, g⟩) (hw : wantL ops l g = true) (hx : opd l x = some (Wit.bstr l8)) (hy : opd l y = some (.int kd j)) (hd : Nat.blt d n = true)
    (hu : P.underlying t = some .string) (j' : Nat) (hj : j = j' ∧ j' < l8.length) : Vop P w0 S n h ops i l d (I8 (l8.getD j' 0)) := by
  obtain ⟨rfl, hj⟩ := hj
  exact .of ho hw rfl rfl hd (fun t' w Ds _ hF _ => ⟨.value (I8 (l8.getD j' 0)), by
    simp only [execOp, hF.opd hx, hF.opd hy, Instr.index, Sem.run_bind, asIntOf, Sem.run_pure, Result.andThen_ok, run_underlying hu, Wit.bstr]
    rw [if_pos (by omega)]
    have e1 : (ByteArray.mk l8.toArray)[(j' : Int).toNat]? = some (l8.getD j' 0) := by
      have h2 : j' < (ByteArray.mk l8.toArray).size := by simpa [ByteArray.size] using hj
      rw [Int.toNat_natCast, getElem?_pos _ j' h2]
      simp [List.getD_eq_getElem?_getD, hj]
      rfl
    rw [e1]; rfl, rfl⟩)
/-- a store into a list of one's own at a place of an array -/
theorem GoH.stA {α : Type} (enc : α → Value) (v : α) {x y : Operand} {b q : Nat} {xs : List α} {e : TypeId} (ho : ops[i]? = some ⟨none, .store t x y, ty, pos, aft, g⟩) (hw : wantL ops l g = true)
    (hx : opd l x = some (.pointer (some ⟨b, q, none⟩))) (hy : opd l y = some (enc v)) (hz : ∀ w, (sizeOf t).run P w = .ok 1 w) (hv : (enc v).oneCell' = true) (j : Nat) (hj : h[j]? = some (some b, ob enc e xs [])) (hq : q < xs.length)
    (hk : GoH P r f R w0 S Y n (.inRegion ops rest :: k) l (h.set j (some b, ob enc e (xs.set q v) []))) : GoH P r f R w0 S Y n (.inRegion ops (i :: rest) :: k) l h :=
  .st ho hw hx hy hz hv j hj (by simp [Nat.blt_eq]; exact hq) (by
    have e1 : ((xs.map enc ++ []).toArray.setIfInBounds q (enc v)) = (((xs.set q v).map enc) ++ []).toArray := by
      simp [List.map_set]
    rw [e1]; exact hk)
/-- x[lo:], x an array in memory -/
theorem Vop.slLoA {x y : Operand} {b len lo : Nat} {kd : IntKind} {j : Int} (ho : ops[i]? = some ⟨some d, .slice t x (some y) none none, ty, pos, aft, g⟩) (hw : wantL ops l g = true)
    (hx : opd l x = some (.pointer (some ⟨b, 0, none⟩))) (hy : opd l y = some (.int kd j)) (hd : Nat.blt d n = true) {el : TypeId} (hu : P.underlying t = some (.array len el)) (he : ∀ w, (sizeOf el).run P w = .ok 1 w) (hj : j = lo) (hc : lo < len) :
    Vop P w0 S n h ops i l d (.slice (some ⟨b, lo, none⟩) (len - lo) (len - lo)) :=
  .of ho hw rfl rfl hd (fun t' w Ds _ hF hS => ⟨.value (.slice (some ⟨b, lo, none⟩) (len - lo) (len - lo)), by
    subst hj
    simp only [execOp, hF.opd hx, hF.opd hy, Option.map_some, Option.map_none, Instr.sliceAt, Sem.run_bind, run_underlying hu, Result.andThen_ok, Instr.sureAddr, Instr.sliceBounds, Instr.sliceBound, asIntOf, Sem.run_pure]
    rw [if_pos ⟨by omega, by omega⟩]
    simp only [Sem.run_pure, Result.andThen_ok, he, Int.toNat_natCast]
    rw [if_neg (by omega), Nat.mul_one, addr_off, Nat.zero_add], rfl⟩)
theorem bytes_loop {w : World} {g : Value → ByteArray → Sem (ForInStep ByteArray)} (hg : ∀ (x : UInt8) (s : ByteArray), g (I8 x) s = pure (.yield (s.push (UInt8.ofNat (x.toNat : Int).toNat)))) : ∀ {L : List UInt8} {acc : List UInt8},
    (forIn (m := Sem) (L.map I8) (ByteArray.mk acc.toArray) g).run P w = .ok (ByteArray.mk (acc ++ L).toArray) w
  | [], acc => by simp
  | x :: L, acc => by
    rw [List.map_cons, List.forIn_cons, hg]
    simp only [Sem.run_bind, Sem.run_pure, Result.andThen_ok]
    have e1 : (ByteArray.mk acc.toArray).push (UInt8.ofNat (x.toNat : Int).toNat) = ByteArray.mk (acc ++ [x]).toArray := by
      rw [Int.toNat_natCast, UInt8.ofNat_toNat]
      apply ByteArray.ext; simp
    rw [e1, bytes_loop hg (L := L) (acc := acc ++ [x])]
    simp
/-- bytes as a string -/
theorem Vop.cStr {s : TypeId} {x : Operand} {b lo m c : Nat} {L : List UInt8} {e : TypeId} (ho : ops[i]? = some ⟨some d, .convert s t x, ty, pos, aft, g⟩) (hw : wantL ops l g = true) (hx : opd l x = some (.slice (some ⟨b, lo, none⟩) m c)) (hd : Nat.blt d n = true)
    {el : TypeId} (hs : P.underlying s = some (.slice el)) (ht : P.underlying t = some .string) (he : P.underlying el = some (.int .u8)) (j : Nat) (hj : h[j]? = some (some b, ob I8 e L [])) (hm : lo + m = L.length) (suf : List UInt8) (hsuf : L.drop lo = suf) : Vop P w0 S n h ops i l d (Wit.bstr suf) :=
  .of ho hw rfl rfl hd (fun t' w Ds _ hF hS => ⟨.value (Wit.bstr suf), by
    subst hsuf
    simp only [execOp, hF.opd hx, convert, Sem.run_bind, run_underlying hs, run_underlying ht, run_underlying he, Result.andThen_ok, Conv.bytesToString]
    have hl := run_loadCells_list (P := P) w ⟨b, lo, none⟩ ((L.drop lo).map I8) (fun q v hv => by
      rw [addr_off]
      simp only [World.cell?, hS.get hj]
      simp at hv ⊢
      exact hv)
    rw [List.length_map, List.length_drop, show L.length - lo = m from by omega] at hl
    rw [hl]
    simp only [Result.andThen_ok]
    rw [← Array.forIn_toList]
    have h0 : ByteArray.empty = ByteArray.mk ([] : List UInt8).toArray := rfl
    rw [h0, List.toList_toArray, bytes_loop (fun x s => rfl)]
    simp [Wit.bstr], rfl⟩)
end
/-! numbers for keys, in the order in which they come -/
theorem mget_snoc {κ ν : Type} {q : κ → κ → Bool} {L : List (κ × ν)} {k x : κ} {v : ν} : mget q (L ++ [(k, v)]) x = (mget q L x).or (if q x k = true then some v else none) := by
  induction L with
  | nil => rfl
  | cons p L ih =>
    simp only [List.cons_append, mget]
    split
    · rfl
    · exact ih
structure Nums (ks : Nat → List UInt8) (n : Nat) (L : List (List UInt8 × Nat)) (l : List Int) (k : Nat) : Prop where
  len : l.length = n
  le : k ≤ n
  lt : ∀ x v, mget (fun a b => a == b) L x = some v → v < L.length
  inj : ∀ x y v, mget (fun a b => a == b) L x = some v → mget (fun a b => a == b) L y = some v → x = y
  at_ : ∀ i, i < k → ∃ v : Nat, l.getD i 0 = v ∧ mget (fun a b => a == b) L (ks i) = some v
theorem Nums.start {ks : Nat → List UInt8} {n : Nat} : Nums ks n [] (List.replicate n 0) 0 := ⟨by simp, Nat.zero_le _, (fun _ _ h => by cases h), (fun _ _ _ h => by cases h), (fun i h => by omega)⟩
theorem getD_setI {l : List Int} {k i : Nat} {v : Int} (hk : k < l.length) : (l.set k v).getD i 0 = if i = k then v else l.getD i 0 := by
  by_cases e : i = k
  · subst e; simp [List.getD_eq_getElem?_getD, hk]
  · rw [if_neg e]; simp [List.getD_eq_getElem?_getD, Ne.symm e]
theorem Nums.old {ks : Nat → List UInt8} {n : Nat} {L : List (List UInt8 × Nat)} {l : List Int} {k v : Nat} (h : Nums ks n L l k) (hk : k < n) (hv : mget (fun a b => a == b) L (ks k) = some v) : Nums ks n L (l.set k v) (k + 1) :=
  ⟨by simp [h.len], hk, h.lt, h.inj, fun i hi => by
    rw [getD_setI (by rw [h.len]; exact hk)]
    by_cases e : i = k
    · subst e; exact ⟨v, by rw [if_pos rfl], hv⟩
    · rw [if_neg e]; exact h.at_ i (by omega)⟩
theorem Nums.new {ks : Nat → List UInt8} {n : Nat} {L : List (List UInt8 × Nat)} {l : List Int} {k : Nat} (h : Nums ks n L l k) (hv : mget (fun a b => a == b) L (ks k) = none) :
    Nums ks n (L ++ [(ks k, L.length)]) l k ∧ mget (fun a b => a == b) (L ++ [(ks k, L.length)]) (ks k) = some L.length := by
  have hsn : ∀ x, mget (fun a b => a == b) (L ++ [(ks k, L.length)]) x = (mget (fun a b => a == b) L x).or (if (x == ks k) = true then some L.length else none) := fun x => mget_snoc (q := fun a b : List UInt8 => a == b)
  have hcase : ∀ x v, mget (fun a b => a == b) (L ++ [(ks k, L.length)]) x = some v → (mget (fun a b => a == b) L x = some v ∧ v < L.length) ∨ (x = ks k ∧ v = L.length) := by
    intro x v hx
    rw [hsn] at hx
    cases hm : mget (fun a b => a == b) L x with
    | some u => rw [hm] at hx; simp only [Option.or] at hx; cases hx; exact .inl ⟨rfl, h.lt x _ hm⟩
    | none =>
      rw [hm] at hx
      simp only [Option.or] at hx
      split at hx
      · rename_i e; cases hx; exact .inr ⟨by simpa using e, rfl⟩
      · cases hx
  refine ⟨⟨h.len, h.le, fun x v hx => ?_, fun x y v hx hy => ?_, fun i hi => ?_⟩, ?_⟩
  · rw [List.length_append, List.length_singleton]
    rcases hcase x v hx with ⟨_, h2⟩ | ⟨_, h2⟩ <;> omega
  · rcases hcase x v hx with ⟨h1, h2⟩ | ⟨h1, h2⟩ <;> rcases hcase y v hy with ⟨h3, h4⟩ | ⟨h3, h4⟩
    · exact h.inj x y v h1 h3
    · omega
    · omega
    · rw [h1, h3]
  · obtain ⟨v, h1, h2⟩ := h.at_ i hi
    exact ⟨v, h1, by rw [hsn, h2]; rfl⟩
  · rw [hsn, hv]; simp
theorem Nums.iff {ks : Nat → List UInt8} {n : Nat} {L : List (List UInt8 × Nat)} {l : List Int} (h : Nums ks n L l n) {i j : Nat} (hi : i < n) (hj : j < n) : l.getD i 0 = l.getD j 0 ↔ ks i = ks j := by
  obtain ⟨v, h1, h2⟩ := h.at_ i hi
  obtain ⟨u, h3, h4⟩ := h.at_ j hj
  rw [h1, h3, Int.ofNat_inj]
  constructor
  · rintro rfl; exact h.inj _ _ _ h2 h4
  · intro e; rw [e, h4] at h2; cases h2; rfl
/-- the keys of the worlds in a round -/
def ksOf (rels : List (List W64)) (p : List Int) (w : Nat) : List UInt8 := keyL (rels.map (fun r => rch p (r.getD w 0#64)))
theorem nums_next {rels : List (List W64)} {p l : List Int} {L : List (List UInt8 × Nat)} (h : Nums (ksOf rels p) p.length L l p.length) : divP p l = nxt rels p := by
  refine ker_congr (fun i j hi hj => ?_)
  simp only [Prod.mk.injEq]
  refine and_congr_right (fun _ => ?_)
  rw [h.iff hi hj]
  exact ⟨fun e => keyL_inj (by simp) e, fun e => by rw [ksOf, e]; rfl⟩
theorem div_zero {n : Nat} {key : Nat → Nat} : divP (List.replicate n 0) ((List.range n).map (fun i => (key i : Int))) = ker n key := by
  unfold divP
  rw [List.length_replicate]
  refine ker_congr (fun i j hi hj => ?_)
  have e : ∀ j, (List.replicate n (0 : Int)).getD j 0 = 0 := fun j => by
    rw [List.getD_eq_getElem?_getD, List.getElem?_replicate]; split <;> rfl
  have e2 : ∀ j, j < n → ((List.range n).map (fun i => (key i : Int))).getD j 0 = (key j : Int) := fun j hj => by simp [List.getD_eq_getElem?_getD, hj]
  rw [e, e, e2 i hi, e2 j hj]
  simp only [Prod.mk.injEq, true_and, Int.ofNat_inj]
end Go.Proofs.Wit
namespace Go.Proofs.Wit
open Go Go.RowKit
/-! small whole numbers: or, shifts -/
section
variable {P : Program} {t : TypeId}
theorem ofInt_nat (x : Nat) : BitVec.ofInt 64 (x : Int) = BitVec.ofNat 64 x := by
  apply BitVec.eq_of_toNat_eq; simp
theorem bOrN {x y z : Nat} (hx : x < 9223372036854775808) (hy : y < 9223372036854775808) (e : x ||| y = z) : Bin P .or t (.int .i64 x) (.int .i64 y) (.int .i64 (z : Int)) := bI _ (by
  subst e
  show Op.intBits .or .i64 (x : Int) (y : Int) = _
  unfold Op.intBits
  have e1 : (BitVec.ofInt 64 (x : Int) ||| BitVec.ofInt 64 (y : Int)).toNat = x ||| y := by
    rw [ofInt_nat, ofInt_nat, BitVec.toNat_or, BitVec.toNat_ofNat, BitVec.toNat_ofNat, Nat.mod_eq_of_lt (by omega), Nat.mod_eq_of_lt (by omega)]
  have e2 : x ||| y < 2 ^ 63 := Nat.or_lt_two_pow (by omega) (by omega)
  show pure (Value.int .i64 (IntKind.i64.wrap ((BitVec.ofInt 64 (x : Int) ||| BitVec.ofInt 64 (y : Int)).toNat : Int))) = _
  rw [e1, IntWalk.i64_in _ (by omega)])
theorem bShlN {x j : Nat} {b : Int} {k : IntKind} (h : b = j) (hx : x * 2 ^ j < 9223372036854775808) (hj : j ≤ 64) : Bin P .shl t (.int .i64 x) (.int k b) (.int .i64 ((x * 2 ^ j : Nat) : Int)) := by
  subst h
  refine bin_pure (fun p q => eqg_int _ _ _ _ _ _ _ _) ?_
  show Op.shift .shl .i64 (x : Int) k (j : Int) = _
  unfold Op.shift
  rw [if_neg (by omega), Int.toNat_natCast]
  show pure (Value.int .i64 (IntKind.i64.wrap ((x : Int) * 2 ^ (min j 64)))) = _
  rw [Nat.min_eq_left hj]
  have e1 : ((x : Int) * 2 ^ j) = ((x * 2 ^ j : Nat) : Int) := by norm_cast
  rw [e1, IntWalk.i64_in _ (by omega)]
theorem bGeUB {x y : W64} : Bin P .geq t (U x) (U y) (.bool (decide (x.toNat ≥ y.toNat))) := by
  refine bU _ ?_
  show pure (Value.bool (decide ((x.toNat : Int) ≥ (y.toNat : Int)))) = _
  congr 2
  rw [decide_eq_decide]; omega
theorem fm_step {val : List W64} {w k : Nat} : fmTo val w k ||| ((val.getD k 0#64 >>> w) &&& 1#64).toNat * 2 ^ k = fmTo val w (k + 1) := by
  have e0 : ((val.getD k 0#64 >>> w) &&& 1#64).toNat = if (val.getD k 0#64).getLsbD w = true then 1 else 0 := by
    have := shr_bit (x := val.getD k 0#64) (i := w)
    by_cases h : (val.getD k 0#64).getLsbD w = true
    · rw [h, beq_iff_eq] at this; rw [this, if_pos h]; rfl
    · rw [if_neg h]
      rw [Bool.not_eq_true] at h
      rw [h, beq_eq_false_iff_ne] at this
      have h2 : ((val.getD k 0#64 >>> w) &&& 1#64).toNat ≤ 1 := by rw [BitVec.toNat_and]; exact Nat.and_le_right
      by_cases h3 : ((val.getD k 0#64 >>> w) &&& 1#64).toNat = 1
      · exact absurd (BitVec.eq_of_toNat_eq h3) this
      · omega
  rw [e0, fmTo]
  split
  · rw [Nat.one_mul, Nat.or_comm]
    have := Nat.shiftLeft_add_eq_or_of_lt (fmTo_lt val w k) 1
    rw [Nat.one_shiftLeft] at this
    rw [← this, Nat.add_comm]
  · simp
theorem bit1_le (x : W64) (w : Nat) : ((x >>> w) &&& 1#64).toNat ≤ 1 := by rw [BitVec.toNat_and]; exact Nat.and_le_right
theorem bits_le {x k : Nat} (h : x ≤ 1) (hk : k ≤ 8) : x * 2 ^ k < 9223372036854775808 := by
  have h1 : (2 : Nat) ^ k ≤ 2 ^ 8 := Nat.pow_le_pow_right (by decide) hk
  have h2 : x * 2 ^ k ≤ 1 * 2 ^ k := Nat.mul_le_mul_right _ h
  have h3 : (2 : Nat) ^ 8 = 256 := by decide
  omega
theorem fm_lt {val : List W64} {w k : Nat} (hk : k ≤ 8) : fmTo val w k < 9223372036854775808 := by
  have h0 := fmTo_lt val w k
  have h1 : (2 : Nat) ^ k ≤ 2 ^ 8 := Nat.pow_le_pow_right (by decide) hk
  have h3 : (2 : Nat) ^ 8 = 256 := by decide
  omega
end
end Go.Proofs.Wit
namespace Go.Proofs.Wit
open Go Go.RowKit
/-- p leads along pairs of r, begins in f and ends in t -/
structure PathOk (r : List W64) (f t : W64) (p : List Nat) : Prop where
  lt : ∀ i, i < p.length → p.getD i 0 < r.length
  step : ∀ i, i + 1 < p.length → Rl r (p.getD i 0) (p.getD (i + 1) 0)
  first : 0 < p.length → f.getLsbD (p.getD 0 0) = true
  last : 0 < p.length → t.getLsbD (p.getD (p.length - 1) 0) = true
theorem bGeV {P : Program} {t : TypeId} {a b : Int} {v : Bool} {k : IntKind} (e : decide (a ≥ b) = v) : Bin P .geq t (.int k a) (.int k b) (.bool v) := e ▸ bGe
end Go.Proofs.Wit
