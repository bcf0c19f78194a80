/- Laws of a calculus of walks, proved for any program: no condition beyond those that each theorem states. -/
import Derived.Test.YtoiafcoaeomnlaaDoorWrel
namespace Go.Proofs.Wit
open Go Go.RowKit
/-! plain facts on closures -/
theorem Rl.toBit {r : List W64} {w v : Nat} : Rl r w v ↔ (r.getD w 0#64).getLsbD v = true := Iff.rfl
/-- the same size, and contained -/
structure Le (r s : List W64) : Prop where
  len : r.length = s.length
  sub : ∀ u v, Rl r u v → Rl s u v
theorem Le.refl (r : List W64) : Le r r := ⟨rfl, fun _ _ h => h⟩
theorem Le.trans {r s t : List W64} (h : Le r s) (k : Le s t) : Le r t := ⟨h.len.trans k.len, fun u v x => k.sub u v (h.sub u v x)⟩
theorem list_ext {r s : List W64} (hl : r.length = s.length) (h : ∀ u v, Rl r u v ↔ Rl s u v) : r = s := by
  apply List.ext_getElem hl
  intro i h1 h2
  refine eq_of_bits (fun j _ => ?_)
  have := h i j
  unfold Rl at this
  simp only [List.getD_eq_getElem?_getD, List.getElem?_eq_getElem h1, List.getElem?_eq_getElem h2, Option.getD_some] at this
  exact Bool.eq_iff_iff.2 this
theorem Le.antisymm {r s : List W64} (h : Le r s) (k : Le s r) : r = s := list_ext h.len (fun u v => ⟨h.sub u v, k.sub u v⟩)
theorem Le.bits {r s : List W64} (h : Le r s) (i : Nat) : r.getD i 0#64 &&& ~~~(s.getD i 0#64) = 0#64 := andNot_zero.2 (fun j hj => h.sub i j hj)
theorem Rl.set {l : List W64} {w u v : Nat} {x : W64} (hw : w < l.length) : Rl (l.set w x) u v ↔ if u = w then x.getLsbD v = true else Rl l u v := by
  unfold Rl
  by_cases e : u = w
  · subst e; simp [List.getD_eq_getElem?_getD, hw]
  · rw [if_neg e]; simp [List.getD_eq_getElem?_getD, Ne.symm e]
/-- how much room is left above a list of words -/
def room (l : List W64) : Nat := (l.map (fun x => 18446744073709551616 - x.toNat)).sum
theorem bit_ge {a b : W64} (h : a &&& ~~~b = 0#64) : a.toNat ≤ b.toNat := by
  have : a ||| b = b := by
    rw [andNot_zero] at h
    refine eq_of_bits (fun i _ => ?_)
    rw [BitVec.getLsbD_or]
    cases ha : a.getLsbD i with
    | false => simp
    | true => simp [h i ha]
  rw [← this, BitVec.toNat_or]; exact Nat.left_le_or
theorem room_aux : ∀ {r s : List W64}, r.length = s.length → (∀ i, (r.getD i 0#64).toNat ≤ (s.getD i 0#64).toNat) → room s ≤ room r ∧ (room s = room r → r = s)
  | [], [], _, _ => ⟨Nat.le_refl _, fun _ => rfl⟩
  | [], _ :: _, h, _ => by simp at h
  | _ :: _, [], h, _ => by simp at h
  | a :: r, b :: s, h, hb => by
    obtain ⟨h1, h2⟩ := room_aux (r := r) (s := s) (by simpa using h) (fun i => by simpa using hb (i + 1))
    have h0 : a.toNat ≤ b.toNat := by simpa using hb 0
    have ha := a.isLt
    have hb' := b.isLt
    unfold room at h1 h2 ⊢
    simp only [List.map_cons, List.sum_cons]
    refine ⟨by omega, fun e => ?_⟩
    have e1 : a.toNat = b.toNat := by omega
    rw [h2 (by omega), BitVec.eq_of_toNat_eq e1]
theorem Le.room {r s : List W64} (h : Le r s) : room s ≤ room r := (room_aux h.len (fun i => bit_ge (h.bits i))).1
theorem Le.room_lt {r s : List W64} (h : Le r s) (hne : r ≠ s) : Wit.room s < Wit.room r := by
  obtain ⟨h1, h2⟩ := room_aux h.len (fun i => bit_ge (h.bits i))
  have : Wit.room s ≠ Wit.room r := fun e => hne (h2 e)
  omega
/-- a step that grows a relation; F says of a relation that the step leaves it -/
structure GoodS (g : List W64 → List W64) (F : List W64 → Prop) : Prop where
  val : ∀ {l}, Val l → Val (g l)
  infl : ∀ {l}, Val l → Le l (g l)
  mono : ∀ {l m}, Val l → Val m → Le l m → Le (g l) (g m)
  fix : ∀ {l}, Val l → (g l = l ↔ F l)
theorem GoodS.ofBits {g : List W64 → List W64} (A : List W64 → Nat → Nat → Prop) (hlen : ∀ l, (g l).length = l.length) (hbit : ∀ l, Val l → ∀ u v, Rl (g l) u v ↔ Rl l u v ∨ A l u v)
    (hdom : ∀ l, Val l → ∀ u v, A l u v → v < l.length) (hmono : ∀ l m, Val l → Val m → Le l m → ∀ u v, A l u v → A m u v) : GoodS g (fun l => ∀ u v, A l u v → Rl l u v) where
  val {l} h := ⟨by rw [hlen]; exact h.len, fun u v x => by
    rw [hlen]
    rcases (hbit l h u v).1 x with x | x
    · exact h.lt u v x
    · exact hdom l h u v x⟩
  infl {l} h := ⟨(hlen l).symm, fun u v x => (hbit l h u v).2 (.inl x)⟩
  mono {l m} h k hle := ⟨by rw [hlen, hlen]; exact hle.len, fun u v x => (hbit m k u v).2 (by
    rcases (hbit l h u v).1 x with x | x
    · exact .inl (hle.sub u v x)
    · exact .inr (hmono l m h k hle u v x))⟩
  fix {l} h := ⟨fun e u v x => by
      have := (hbit l h u v).2 (.inr x)
      rwa [e] at this, fun hF => list_ext (hlen l) (fun u v => ⟨fun x => by
        rcases (hbit l h u v).1 x with x | x
        · exact x
        · exact hF u v x, fun x => (hbit l h u v).2 (.inl x)⟩)⟩
theorem GoodS.id : GoodS (fun l => l) (fun _ => True) := ⟨fun h => h, fun _ => .refl _, fun _ _ h => h, fun _ => ⟨fun _ => trivial, fun _ => rfl⟩⟩
theorem GoodS.comp {g g' : List W64 → List W64} {F F' : List W64 → Prop} (h : GoodS g F) (h' : GoodS g' F') : GoodS (fun l => g' (g l)) (fun l => F l ∧ F' l) where
  val v := h'.val (h.val v)
  infl v := (h.infl v).trans (h'.infl (h.val v))
  mono v k le := h'.mono (h.val v) (h.val k) (h.mono v k le)
  fix {l} v := by
    constructor
    · intro e
      have e1 : g l = l := by
        have := h'.infl (h.val v)
        rw [e] at this
        exact this.antisymm (h.infl v)
      rw [e1] at e
      exact ⟨(h.fix v).1 e1, (h'.fix v).1 e⟩
    · rintro ⟨a, b⟩
      rw [(h.fix v).2 a, (h'.fix v).2 b]
theorem GoodS.upTo {st : Nat → List W64 → List W64} {F : Nat → List W64 → Prop} (h : ∀ k, GoodS (st k) (F k)) : ∀ n, GoodS (fun l => upTo st l n) (fun l => ∀ k, k < n → F k l)
  | 0 => ⟨fun h => h, fun _ => .refl _, fun _ _ h => h, fun _ => ⟨fun _ k hk => by omega, fun _ => rfl⟩⟩
  | n + 1 => by
    have := (GoodS.upTo h n).comp (h n)
    refine ⟨this.val, this.infl, this.mono, fun v => (this.fix v).trans ⟨fun ⟨a, b⟩ k hk => ?_, fun a => ⟨fun k hk => a k (by omega), a n (by omega)⟩⟩⟩
    rcases Nat.lt_succ_iff_lt_or_eq.1 hk with h1 | rfl
    · exact a k h1
    · exact b
theorem GoodS.upToLen {st : Nat → List W64 → List W64} {F : Nat → List W64 → Prop} (h : ∀ k, GoodS (st k) (F k)) : GoodS (fun l => Wit.upTo st l l.length) (fun l => ∀ k, k < l.length → F k l) :=
  ⟨fun v => (GoodS.upTo h _).val v, fun v => (GoodS.upTo h _).infl v, fun {l m} v k le => by
    have := (GoodS.upTo h l.length).mono v k le
    simp only [le.len] at this ⊢
    exact this, fun v => (GoodS.upTo h _).fix v⟩
theorem GoodS.iff {g : List W64 → List W64} {F G : List W64 → Prop} (h : GoodS g F) (hi : ∀ {l}, Val l → (F l ↔ G l)) : GoodS g G := ⟨h.val, h.infl, h.mono, fun v => (h.fix v).trans (hi v)⟩
/-- out is the least valid relation above r with F -/
structure Least (F : List W64 → Prop) (r out : List W64) : Prop where
  val : Val out
  le : Le r out
  has : F out
  least : ∀ c, Val c → Le r c → F c → Le out c
theorem Least.uniq {F : List W64 → Prop} {r a b : List W64} (h : Least F r a) (k : Least F r b) : a = b :=
  (h.least b k.val k.le k.has).antisymm (k.least a h.val h.le h.has)
/-- the properties -/
def reflR (l : List W64) : Prop := ∀ w, w < l.length → Rl l w w
def symmR (l : List W64) : Prop := ∀ u v, Rl l u v → Rl l v u
def tranR (l : List W64) : Prop := ∀ u v x, Rl l u v → Rl l v x → Rl l u x
def euclR (l : List W64) : Prop := ∀ u v x, Rl l u v → Rl l u x → Rl l v x
/-- the steps of the program -/
def reflS (w : Nat) (l : List W64) : List W64 := l.set w (l.getD w 0#64 ||| 1#64 <<< w)
def tranS (w : Nat) (l : List W64) : List W64 := l.set w (l.getD w 0#64 ||| mapR l (l.getD w 0#64))
def symmG (l : List W64) : List W64 := flm (fun w x => x ||| (revR l).getD w 0#64) l l.length
def eucT (s : W64) (l : List W64) (us : List Nat) : List W64 := us.foldl (fun l u => l.set u (l.getD u 0#64 ||| s)) l
def eucS (w : Nat) (l : List W64) : List W64 := eucT (l.getD w 0#64) l (pts (l.getD w 0#64))
theorem set_bit {l : List W64} {w : Nat} {x : W64} {u v : Nat} : Rl (l.set w (l.getD w 0#64 ||| x)) u v ↔ Rl l u v ∨ (u = w ∧ w < l.length ∧ x.getLsbD v = true) := by
  rcases Nat.lt_or_ge w l.length with h | h
  · rw [Rl.set h]
    split
    · rename_i e; subst e
      rw [BitVec.getLsbD_or, Bool.or_eq_true, Rl.toBit]
      simp [h]
    · rename_i e; simp [e]
  · rw [List.set_eq_of_length_le h]
    exact ⟨.inl, fun x => x.elim (fun x => x) (fun x => absurd x.2.1 (by omega))⟩
theorem shift_one_bit {w v : Nat} (hw : w < 64) : (1#64 <<< w).getLsbD v = true ↔ v = w := by
  rw [BitVec.getLsbD_shiftLeft, BitVec.getLsbD_one]
  simp only [Bool.and_eq_true, Bool.not_eq_true', decide_eq_true_eq, decide_eq_false_iff_not]
  omega
theorem refl_good : GoodS (fun l => upTo reflS l l.length) reflR := by
  refine (GoodS.upToLen (F := fun w l => ∀ u v, (u = w ∧ w < l.length ∧ v = w) → Rl l u v) (fun w => ?_)).iff (fun {l} _ => ?_)
  · refine GoodS.ofBits (fun l u v => u = w ∧ w < l.length ∧ v = w) (fun l => by simp [reflS]) (fun l hv u v => ?_) (fun l _ u v h => h.2.2 ▸ h.2.1) (fun l m _ _ le u v h => ⟨h.1, le.len ▸ h.2.1, h.2.2⟩)
    rw [reflS, set_bit]
    refine or_congr Iff.rfl (and_congr_right (fun _ => and_congr_right (fun h => ?_)))
    exact shift_one_bit (by have := hv.len; omega)
  · exact ⟨fun h w hw => h w hw w w ⟨rfl, hw, rfl⟩, fun h w _ u v ⟨a, b, c⟩ => by subst a; subst c; exact h _ b⟩
theorem tranS_good (w : Nat) : GoodS (tranS w) (fun l => ∀ u v, (u = w ∧ ∃ x, Rl l w x ∧ Rl l x v) → Rl l u v) := by
  refine GoodS.ofBits (fun l u v => u = w ∧ ∃ x, Rl l w x ∧ Rl l x v) (fun l => by simp [tranS]) (fun l hv u v => ?_) (fun l hv u v ⟨_, x, _, h⟩ => hv.lt x v h) (fun l m _ _ le u v ⟨h, x, h1, h2⟩ => ⟨h, x, le.sub _ _ h1, le.sub _ _ h2⟩)
  rw [tranS, set_bit, mapR_bit]
  exact or_congr Iff.rfl (and_congr_right (fun _ => ⟨fun ⟨_, h⟩ => h, fun ⟨x, h1, h2⟩ => ⟨h1.dom, x, h1, h2⟩⟩))
theorem tran_good : GoodS (fun l => upTo tranS l l.length) tranR := by
  refine (GoodS.upToLen tranS_good).iff (fun {l} _ => ?_)
  exact ⟨fun h u v x h1 h2 => h u h1.dom u x ⟨rfl, v, h1, h2⟩, fun h w _ u v ⟨a, x, h1, h2⟩ => by subst a; exact h _ _ _ h1 h2⟩
theorem eucT_length (s : W64) : ∀ (us : List Nat) (l : List W64), (eucT s l us).length = l.length
  | [], _ => rfl
  | u :: us, l => by
    show (eucT s (l.set u _) us).length = _
    rw [eucT_length s us]; simp
theorem eucT_bit (s : W64) : ∀ (us : List Nat) (l : List W64) (u v : Nat), Rl (eucT s l us) u v ↔ Rl l u v ∨ (u ∈ us ∧ u < l.length ∧ s.getLsbD v = true)
  | [], _, _, _ => by simp [eucT]
  | x :: us, l, u, v => by
    show Rl (eucT s (l.set x _) us) u v ↔ _
    rw [eucT_bit s us, set_bit]
    simp only [List.length_set, List.mem_cons]
    constructor
    · rintro ((h | ⟨rfl, h1, h2⟩) | ⟨h1, h2, h3⟩)
      · exact .inl h
      · exact .inr ⟨.inl rfl, h1, h2⟩
      · exact .inr ⟨.inr h1, h2, h3⟩
    · rintro (h | ⟨rfl | h1, h2, h3⟩)
      · exact .inl (.inl h)
      · exact .inl (.inr ⟨rfl, h2, h3⟩)
      · exact .inr ⟨h1, h2, h3⟩
theorem eucS_good (w : Nat) : GoodS (eucS w) (fun l => ∀ u v, (Rl l w u ∧ Rl l w v) → Rl l u v) := by
  refine GoodS.ofBits (fun l u v => Rl l w u ∧ Rl l w v) (fun l => by rw [eucS, eucT_length]) (fun l hv u v => ?_) (fun l hv u v ⟨_, h⟩ => hv.lt w v h) (fun l m _ _ le u v ⟨h1, h2⟩ => ⟨le.sub _ _ h1, le.sub _ _ h2⟩)
  rw [eucS, eucT_bit, mem_pts]
  exact or_congr Iff.rfl ⟨fun ⟨h1, _, h3⟩ => ⟨h1.2, h3⟩, fun ⟨h1, h2⟩ => ⟨⟨bit_lt h1, h1⟩, hv.lt w u h1, h2⟩⟩
theorem eucl_good : GoodS (fun l => upTo eucS l l.length) euclR := by
  refine (GoodS.upToLen eucS_good).iff (fun {l} _ => ?_)
  exact ⟨fun h u v x h1 h2 => h u h1.dom v x ⟨h1, h2⟩, fun h w _ u v ⟨h1, h2⟩ => h _ _ _ h1 h2⟩
theorem symm_good : GoodS symmG symmR := by
  refine (GoodS.ofBits (fun l u v => Rl l v u) (fun l => flm_length) (fun l hv u v => ?_) (fun l hv u v h => h.dom) (fun l m _ _ le u v h => le.sub _ _ h)).iff (fun {l} _ => ⟨fun h u v x => h v u x, fun h u v x => h v u x⟩)
  rcases Nat.lt_or_ge u l.length with h | h
  · have e1 : Rl (symmG l) u v ↔ Rl l u v ∨ Rl (revR l) u v := by
      show ((flm _ l l.length).getD u 0#64).getLsbD v = true ↔ _
      rw [flm_get h, if_pos h, BitVec.getLsbD_or, Bool.or_eq_true]; rfl
    exact e1.trans (or_congr Iff.rfl (revR_bit hv h))
  · constructor
    · intro x
      have := x.dom
      rw [flm_length] at this
      omega
    · rintro (x | x)
      · have := x.dom; omega
      · have := hv.lt _ _ x; omega
end Go.Proofs.Wit
namespace Go.Proofs.Wit
/-- the properties by their numbers -/
def serR (l : List W64) : Prop := 0#64 ∉ l
def PropR (p : Int) (l : List W64) : Prop :=
  if p = 1 then serR l else if p = 2 then reflR l else if p = 3 then symmR l else if p = 4 then tranR l else if p = 5 then euclR l else False
def HasR (l : List W64) (p : Int) : Prop := checkR l.length l = 0 ∧ PropR p l
noncomputable def hasB (l : List W64) (p : Int) : Bool := @decide (HasR l p) (Classical.propDecidable _)
theorem hasB_iff {l : List W64} {p : Int} {b : Bool} (h : b = true ↔ HasR l p) : hasB l p = b := by
  unfold hasB
  cases b with
  | true => exact @decide_eq_true _ (Classical.propDecidable _) (h.1 rfl)
  | false => exact @decide_eq_false _ (Classical.propDecidable _) (fun x => by cases h.2 x)
theorem hasB_true {l : List W64} {p : Int} : hasB l p = true ↔ HasR l p := by unfold hasB; exact @decide_eq_true_iff _ (Classical.propDecidable _)
theorem symm_iff {l : List W64} (hv : Val l) : l = revR l ↔ symmR l := by
  constructor
  · intro e u v h
    have h1 : Rl (revR l) u v := e ▸ h
    exact (revR_bit hv h.dom).1 h1
  · intro h
    refine list_ext (revR_length l).symm (fun u v => ?_)
    constructor
    · intro x; exact (revR_bit hv x.dom).2 (h u v x)
    · intro x
      have hd := x.dom
      rw [revR_length] at hd
      exact h v u ((revR_bit hv hd).1 x)
theorem bit_iff {s : W64} {k : Nat} : s.getLsbD k = !((s >>> k) &&& 1#64 == 0#64) := by
  have h1 : ((s >>> k) &&& 1#64 == 0#64) = !(s.getLsbD k) := by
    cases hb : s.getLsbD k with
    | true =>
      rw [Bool.not_true, beq_eq_false_iff_ne]
      intro e
      have := congrArg (fun x => BitVec.getLsbD x 0) e
      simp [hb] at this
    | false =>
      rw [Bool.not_false, beq_iff_eq]
      refine eq_of_bits (fun i _ => ?_)
      rw [BitVec.getLsbD_and, BitVec.getLsbD_ushiftRight, BitVec.getLsbD_one]
      by_cases e : i = 0
      · subst e; simp [hb]
      · simp [e]
  rw [h1, Bool.not_not]
end Go.Proofs.Wit
