/- What calls of the program return, under the conditions that each theorem states. -/
import Derived.Test.YthojdcaojjmoaaaDoorA05
import Derived.Test.YthojdcaojjmoaaaDoorA06
import Derived.Test.YthojdcaojjmoaaaDoorA04
namespace Go.Proofs.YthojdcaojjmoaaaDoor
open Go.RowKit Go.Proofs.Wit
/-! partitions -/
theorem lowE {p : List Int} {k : Nat} (hlt : k < p.length) : p[k] = p.getD k 0 := by simp [List.getD_eq_getElem?_getD, hlt]
theorem pchk_c (a : Option Addr) (ca : Nat) (p : List Int) (w : World) (ha : SlI w a p) (hp : OkP p) :
    Cn Tryd.prog 35 [.slice a p.length ca] w (fun v _ => v = .int .i64 0) := by
  have hl := hp.len
  refine Cn.of Tryd.func35 rfl rfl ?_
  refine gS (gR ?_)
  refine gAs ?_
  refine gE (gS (gS (gR ?_)))
  refine gMv ?_
  refine gBl Tryd.underlying29 ?_
  refine GoH.v (Vop.bin rfl rfl rfl rfl (bGtV (v := false) (decide_eq_false (by omega))) rfl) ?_
  refine gE (GoH.condF rfl (gK (gS (gS (gR ?_)))))
  refine gMv ?_
  refine gBl Tryd.underlying29 ?_
  refine gMv ?_
  refine gE (gB ?_)
  refine GoH.loop (σ := Nat) (fun k => [(0, .slice a p.length ca), (8, .slice a p.length ca), (9, .int .i64 p.length), (10, .int .i64 k)]) (fun _ => []) (fun k => k ≤ p.length) (fun k => p.length - k) 0 (Nat.zero_le _) ⟨rfl, rfl, rfl, rfl, trivial⟩ .slnil (fun k hI IH => ?_)
  refine gS (gR ?_)
  refine gBi bLt ?_
  refine gE (gS ?_)
  refine GoH.cond rfl (fun hc => ?_) (fun hc => ?_)
  ·
   have hlt : k < p.length := by simpa using hc
   obtain ⟨h1, h2, h3⟩ := hp.low k hlt
   rw [← lowE hlt] at h1 h2 h3
   have h4 : p[k].toNat < p.length := by omega
   refine gK (gS (gB (gS (gR ?_))))
   refine gMv ?_
   refine GoH.v (Vop.idx rfl rfl rfl rfl rfl Tryd.underlying29 Tryd.sizeOf3 ⟨_, ha⟩ (by simp) (k) ⟨rfl, by simpa using hlt⟩) ?_
   refine GoH.v (Vop.ld rfl rfl rfl rfl Tryd.isAgg3 (fun w _ hS => (SlI.ex0 ha hS.ext).at (k) hlt)) ?_
   iterate 2 refine gAs ?_
   refine gE (gS (gR ?_))
   refine gMv ?_
   refine GoH.v (Vop.bin rfl rfl rfl rfl (bLtV (v := false) (decide_eq_false (by omega))) rfl) ?_
   iterate 3 refine gMv ?_
   refine GoH.v (Vop.bin rfl rfl rfl rfl (bGtV (v := false) (decide_eq_false (by omega))) rfl) ?_
   refine gPf ?_
   iterate 3 refine gMv ?_
   refine GoH.v (Vop.idx rfl rfl rfl rfl rfl Tryd.underlying29 Tryd.sizeOf3 ⟨_, ha⟩ (by simp) p[k].toNat ⟨by omega, by simpa using h4⟩) ?_
   refine GoH.v (Vop.ld rfl rfl rfl rfl Tryd.isAgg3 (fun w _ hS => (SlI.ex0 ha hS.ext).at p[k].toNat h4)) ?_
   refine gMv ?_
   refine GoH.v (Vop.bin rfl rfl rfl rfl (bNeV (v := false) (by rw [lowE h4, h3]; simp)) rfl) ?_
   refine gPf ?_
   refine gE (GoH.condF rfl (gK (gIb (gR ?_))))
   refine GoH.v (Vop.bin rfl rfl rfl rfl (bAdd (by omega)) rfl) ?_
   refine gMv ?_
   refine gE ?_
   exact IH (k + 1) _ _ hlt (by omega) ⟨rfl, rfl, rfl, rfl, trivial⟩ .slnil
  ·
   refine GoH.exit rfl (gS (gR ?_))
   refine gAs ?_
   refine gE ?_
   refine GoH.ret Tryd.f35 Tryd.func35 rfl (fun w' hS => ?_)
   exact ⟨hS.ext, rfl⟩
abbrev evN : Nat → Value := fun i => .int .i64 i
def keyD (a b : List Int) (i : Nat) : Int × Int := (a.getD i 0, b.getD i 0)
theorem mget_ins {L : List ((Int × Int) × Nat)} {key : Nat → Int × Int} {k : Nat} (h : ∀ q, mget (fun a b : Int × Int => a.1 == b.1 && a.2 == b.2) L q = ldr key q k) (_hn : ldr key (key k) k = none) :
    ∀ q, mget (fun a b : Int × Int => a.1 == b.1 && a.2 == b.2) (L ++ [(key k, k)]) q = ldr key q (k + 1) := by
  have hap : ∀ (L : List ((Int × Int) × Nat)) (q : Int × Int), mget (fun a b : Int × Int => a.1 == b.1 && a.2 == b.2) (L ++ [(key k, k)]) q = match mget (fun a b : Int × Int => a.1 == b.1 && a.2 == b.2) L q with | some v => some v | none => if q = key k then some k else none := by
    intro L q
    induction L with
    | nil =>
      simp only [List.nil_append, mget]
      by_cases e : q = key k
      · subst e; simp
      · rw [if_neg e, if_neg]
        intro hh; apply e; simp at hh; exact Prod.ext hh.1 hh.2
    | cons x L ih =>
      simp only [List.cons_append, mget]
      split
      · rfl
      · exact ih
  intro q
  rw [hap, h q]
  cases hq : ldr key q k with
  | some v => rw [ldr_keep hq]
  | none =>
    by_cases e : q = key k
    · subst e; rw [if_pos rfl, ldr_hit hq rfl]
    · rw [if_neg e, ldr_skip (fun e' => e e'.symm), hq]
theorem divide_c (a : Option Addr) (ca : Nat) (xs : List Int) (b : Option Addr) (cb : Nat) (ys : List Int) (w : World) (ha : SlI w a xs) (hb : SlI w b ys) (hl : xs.length ≤ 64) (hy : ys.length = xs.length) :
    Cn Tryd.prog 45 [.slice a xs.length ca, .slice b ys.length cb] w (fun v w' => ∃ q, v = .slice (some ⟨q, 0, none⟩) xs.length xs.length ∧ w.heap.size ≤ q ∧ w'.heap[q]? = some (ob I64 3 (divP xs ys) [])) := by
  obtain ⟨i0, hi, hz, hsz, hby⟩ := info_parts infoI
  have hK := KeyOk.arr2 (P := Tryd.prog) (kt := 101) (et := 3) Tryd.underlying101 Tryd.underlying3 Tryd.sizeOf3 Tryd.isAgg3
  refine Cn.of Tryd.func45 rfl rfl ?_
  refine gS (gR ?_)
  refine gAs ?_
  refine gE (gS (gR ?_))
  refine GoH.mkMap arr2 evN rfl rfl rfl (fun b11 => ?_)
  refine gAs ?_
  refine gE (gS (gR ?_))
  refine gMv ?_
  refine gBl Tryd.underlying29 ?_
  refine GoH.mkE I64 0 rfl rfl rfl rfl rfl Tryd.underlying29 hi hz rfl hsz (by rw [hby]; omega) (by unfold maxLen; omega) (fun b14 => ?_)
  refine gAs ?_
  refine gE (gS (gS (gR ?_)))
  refine gMv ?_
  refine gBl Tryd.underlying29 ?_
  refine gMv ?_
  refine gE (gB ?_)
  refine GoH.loop (σ := Nat × List ((Int × Int) × Nat)) (fun z => [(0, .slice a xs.length ca), (1, .slice b ys.length cb), (5, .map (some b11)), (6, .slice (some ⟨b14, 0, none⟩) xs.length xs.length), (16, .int .i64 xs.length), (17, .int .i64 z.1)])
    (fun z => [(some b14, ob I64 3 (fillI xs.length (fun i => (led (keyD xs ys) i : Int)) z.1) []), (some b11, mobj arr2 evN z.2)]) (fun z => z.1 ≤ xs.length ∧ ∀ q, mget (fun a b : Int × Int => a.1 == b.1 && a.2 == b.2) z.2 q = ldr (keyD xs ys) q z.1) (fun z => xs.length - z.1) (0, []) ⟨Nat.zero_le _, fun _ => rfl⟩ ⟨rfl, rfl, rfl, rfl, rfl, rfl, trivial⟩ (by rw [fillI_zero]; exact List.Sublist.refl _) (fun z hI IH => ?_)
  obtain ⟨k, L⟩ := z
  obtain ⟨hk, hL⟩ := hI
  dsimp only at hk hL IH ⊢
  refine gS (gR ?_)
  refine gBi bLt ?_
  refine gE (gS ?_)
  refine GoH.cond rfl (fun hc => ?_) (fun hc => ?_)
  ·
   have hlt : k < xs.length := by simpa using hc
   have hlt2 : k < ys.length := by omega
   have hkey : keyD xs ys k = (xs[k], ys[k]) := by rw [keyD, lowE hlt, lowE hlt2]
   refine gK (gS (gB (gS (gR ?_))))
   refine gMv ?_
   refine gAs ?_
   refine gE (gS ?_)
   refine GoH.drawT 9 12 mixed rfl ?_
   iterate 2 refine RdT.v (Vop.mv rfl rfl rfl rfl) ?_
   refine RdT.v (Vop.idx rfl rfl rfl rfl rfl Tryd.underlying29 Tryd.sizeOf3 ⟨_, ha⟩ (by simp) (k) ⟨rfl, by simpa using hlt⟩) ?_
   refine RdT.v (Vop.ld rfl rfl rfl rfl Tryd.isAgg3 (fun w _ hS => (SlI.ex0 ha hS.ext).at (k) hlt)) ?_
   iterate 2 refine RdT.v (Vop.mv rfl rfl rfl rfl) ?_
   refine RdT.v (Vop.idx rfl rfl rfl rfl rfl Tryd.underlying29 Tryd.sizeOf3 ⟨_, hb⟩ (by simp) (k) ⟨rfl, by simpa using hlt2⟩) ?_
   refine RdT.v (Vop.ld rfl rfl rfl rfl Tryd.isAgg3 (fun w _ hS => (SlI.ex0 hb hS.ext).at (k) hlt2)) ?_
   refine RdT.v (Vop.bld (ps := [(0, .int .i64 xs[k]), (1, .int .i64 ys[k])]) rfl rfl rfl rfl (bldA (c := [_, _]) Tryd.underlying101 Tryd.sizeOf3 Tryd.zeroValue101 rfl)) ?_
   refine RdT.nil ?_
   refine Tl.one (d := 8) rfl ?_
   refine Mop.alc rfl rfl rfl (fun _ => Tryd.zeroValue101 _) (fun b8 => ⟨by repeat (first | exact List.Sublist.refl _ | exact List.nil_sublist _ | refine List.Sublist.cons_cons _ ?_ | refine List.Sublist.cons _ ?_), ?_⟩)
   refine Tl.sw [10] rfl rfl ?_
   refine GoH.stB rfl rfl rfl rfl Tryd.sizeOf101 0 rfl rfl rfl rfl ?_
   refine gE (gS (gS (gR ?_)))
   refine gMv ?_
   refine GoH.v (Vop.ldB rfl rfl rfl rfl Tryd.isAgg101 0 rfl Tryd.sizeOf101 rfl) ?_
   refine GoH.v (Vop.lkup (ev := evN) (a := (xs[k], ys[k])) (z := .int .i64 0) (L := L) hK rfl rfl rfl rfl rfl Tryd.underlying100 (fun _ => Tryd.zeroValue3 _) 2 rfl) ?_
   refine gMv ?_
   iterate 2 refine gEx ?_
   iterate 2 refine gAs ?_
   refine gE (gS (gR ?_))
   refine gMv ?_
   refine gUn uNot ?_
   refine gE ?_
   refine GoH.cond rfl (fun hc => ?_) (fun hc => ?_)
   ·
    have hno : ldr (keyD xs ys) (keyD xs ys k) k = none := by
      rw [← hL, hkey]
      cases h : mget (fun a b : Int × Int => a.1 == b.1 && a.2 == b.2) L (xs[k], ys[k]) with
      | none => rfl
      | some v => rw [h] at hc; simp at hc
    have hL2 := mget_ins hL hno
    have hled := led_new hno
    refine gR ?_
    refine gMv ?_
    refine GoH.v (Vop.ldB rfl rfl rfl rfl Tryd.isAgg101 0 rfl Tryd.sizeOf101 rfl) ?_
    refine gMv ?_
    refine GoH.mapIns hK rfl (.inl rfl) rfl rfl rfl (a := (xs[k], ys[k])) (v := k) rfl rfl Tryd.underlying100 2 rfl (by rw [← hkey, hL, hno]) ?_
    rw [← hkey]
    refine gE (gR ?_)
    iterate 3 refine gMv ?_
    refine GoH.v (Vop.ldB rfl rfl rfl rfl Tryd.isAgg101 0 rfl Tryd.sizeOf101 rfl) ?_
    refine GoH.v (Vop.lkup1 (ev := evN) (a := keyD xs ys k) (v := led (keyD xs ys) k) hK rfl rfl rfl (by rw [hkey]; rfl) rfl Tryd.underlying100 2 rfl (by rw [hL2, ldr_hit hno rfl, hled])) ?_
    refine GoH.v (Vop.idxS rfl rfl rfl rfl rfl Tryd.underlying29 Tryd.sizeOf3 (k) ⟨rfl, (by simpa using hlt)⟩) ?_
    refine GoH.stE (Value.int .i64) _ rfl rfl rfl rfl Tryd.sizeOf3 rfl 1 rfl (by rw [fillI_len]; exact hlt) ?_
    refine gE (gIb (gR ?_))
    refine GoH.v (Vop.bin rfl rfl rfl rfl (bAdd (by omega)) rfl) ?_
    refine gMv ?_
    refine gE ?_
    exact IH (k + 1, L ++ [(keyD xs ys k, k)]) _ _ ⟨hlt, hL2⟩ (by dsimp only; omega) ⟨rfl, rfl, rfl, rfl, rfl, rfl, trivial⟩ (by rw [← fillI_set hlt]; exact .cons _ (List.Sublist.refl _))
   ·
    obtain ⟨v, hv⟩ : ∃ v, mget (fun a b : Int × Int => a.1 == b.1 && a.2 == b.2) L (xs[k], ys[k]) = some v := by
      cases h : mget (fun a b : Int × Int => a.1 == b.1 && a.2 == b.2) L (xs[k], ys[k]) with
      | none => rw [h] at hc; simp at hc
      | some v => exact ⟨v, rfl⟩
    have hold : ldr (keyD xs ys) (keyD xs ys k) k = some v := by rw [← hL, hkey]; exact hv
    have hled := led_old hold
    have hL2 : ∀ q, mget (fun a b : Int × Int => a.1 == b.1 && a.2 == b.2) L q = ldr (keyD xs ys) q (k + 1) := fun q => by
      rw [hL]
      by_cases e : keyD xs ys k = q
      · subst e; rw [hold, ldr_keep hold]
      · rw [ldr_skip e]
    refine gK (gR ?_)
    iterate 3 refine gMv ?_
    refine GoH.v (Vop.ldB rfl rfl rfl rfl Tryd.isAgg101 0 rfl Tryd.sizeOf101 rfl) ?_
    refine GoH.v (Vop.lkup1 (ev := evN) (a := (xs[k], ys[k])) (v := led (keyD xs ys) k) hK rfl rfl rfl rfl rfl Tryd.underlying100 2 rfl (by rw [hv, hled])) ?_
    refine GoH.v (Vop.idxS rfl rfl rfl rfl rfl Tryd.underlying29 Tryd.sizeOf3 (k) ⟨rfl, (by simpa using hlt)⟩) ?_
    refine GoH.stE (Value.int .i64) _ rfl rfl rfl rfl Tryd.sizeOf3 rfl 1 rfl (by rw [fillI_len]; exact hlt) ?_
    refine gE (gIb (gR ?_))
    refine GoH.v (Vop.bin rfl rfl rfl rfl (bAdd (by omega)) rfl) ?_
    refine gMv ?_
    refine gE ?_
    exact IH (k + 1, L) _ _ ⟨hlt, hL2⟩ (by dsimp only; omega) ⟨rfl, rfl, rfl, rfl, rfl, rfl, trivial⟩ (by rw [← fillI_set hlt]; exact .cons _ (List.Sublist.refl _))
  ·
   have hge : ¬ k < xs.length := by simpa using hc
   obtain rfl : k = xs.length := by omega
   refine GoH.exit rfl (gS (gR ?_))
   refine gMv ?_
   refine gAs ?_
   refine gE ?_
   refine GoH.ret Tryd.f45 Tryd.func45 rfl (fun w' hS => ?_)
   exact ⟨hS.ext, b14, rfl, hS.fresh (j := 0) rfl, by rw [hS.get (j := 0) rfl, fillI_all]; rfl⟩
theorem split_c (a : Option Addr) (ca : Nat) (xs : List Int) (b : Option Addr) (cb : Nat) (ys : List Int) (w : World) (ha : SlI w a xs) (hb : SlI w b ys) (hp : OkP xs) (hy : ys.length = xs.length) :
    Cn Tryd.prog 30 [.slice a xs.length ca, .slice b ys.length cb] w (fun v w' => ∃ q, v = .tuple #[.slice (some ⟨q, 0, none⟩) xs.length xs.length, .int .i64 0] ∧ w.heap.size ≤ q ∧ w'.heap[q]? = some (ob I64 3 (divP xs ys) [])) := by
  refine Cn.of Tryd.func30 rfl rfl ?_
  refine gS (gR ?_)
  iterate 2 refine gAs ?_
  refine gE (gS (gS (gR ?_)))
  refine gMv ?_
  refine GoH.callP rfl rfl rfl rfl rfl (fun _ _ => Tryd.call35 _ _) (fun w _ hS => pchk_c a ca xs w (ha.ex0 hS.ext) hp) ?_
  refine gAs ?_
  refine gE (gS (gR ?_))
  refine gMv ?_
  refine GoH.v (Vop.bin rfl rfl rfl rfl (bNeV (v := false) rfl) rfl) ?_
  refine gE (GoH.condF rfl (gK (gS (gS (gR ?_)))))
  refine gMv ?_
  refine gBl Tryd.underlying29 ?_
  refine gMv ?_
  refine gBl Tryd.underlying29 ?_
  refine GoH.v (Vop.bin rfl rfl rfl rfl (bNeV (v := false) (by rw [hy]; simp)) rfl) ?_
  refine gE (GoH.condF rfl (gK (gS (gR ?_))))
  iterate 2 refine gMv ?_
  refine GoH.callM _ rfl rfl rfl rfl rfl (fun _ _ => Tryd.call45 _ _) (fun w _ hS => divide_c a ca xs b cb ys w (ha.ex0 hS.ext) (hb.ex0 hS.ext) hp.len hy) ?_
  rintro v w1 w2 Y' hS he ⟨q, rfl, hq, hh⟩
  refine ⟨_, hS.gain he hh rfl hq, ?_⟩
  iterate 2 refine gAs ?_
  refine gE ?_
  refine GoH.ret Tryd.f30 Tryd.func30 rfl (fun w' hS => ?_)
  exact ⟨hS.ext, q, rfl, hS.fresh (j := 0) rfl, hS.get (j := 0) rfl⟩
end Go.Proofs.YthojdcaojjmoaaaDoor
