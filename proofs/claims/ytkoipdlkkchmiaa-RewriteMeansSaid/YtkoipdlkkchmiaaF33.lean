/- What calls of the program return, under the conditions that each theorem states. -/
import Derived.Test.YtkoipdlkkchmiaaF29
import Derived.Test.YtkoipdlkkchmiaaF32
import Derived.Test.YtkoipdlkkchmiaaF14
import Derived.Test.YtkoipdlkkchmiaaF03
import Derived.Test.YtkoipdlkkchmiaaF27
import Derived.Test.YtkoipdlkkchmiaaF22
import Derived.Test.YtkoipdlkkchmiaaF25
import Derived.Test.YtkoipdlkkchmiaaF15
import Derived.Test.YtkoipdlkkchmiaaF13
namespace Go.Proofs.Ytkoipdlkkchmiaa
open Go.RowKit Go.Proofs.Wit
/-! truth at four worlds -/
theorem after_c (m : W4) (g : Nat) (hg : g < 16) (both : Bool) (set : B8) (w : World) : Cn Try.prog 68 [.agg (w4c m), .int .i64 g, .bool both, B set] w (fun v _ => v = B (af m g both set)) := by
  refine Cn.of Try.func68 rfl rfl ?_
  refine gS (gR ?_)
  refine GoH.bx rfl rfl rfl rfl (fun b4 => ?_)
  refine gAs ?_
  refine gE (gS (gR ?_))
  refine gAs ?_
  refine gE (gS (gS (gR ?_)))
  refine gMv ?_
  refine gE (gB ?_)
  refine GoH.loop (σ := Nat) (fun k => [(1, .int .i64 g), (2, .bool both), (3, B set), (4, .pointer (some ⟨b4, 0, none⟩)), (9, B (afB m g both set k)), (13, .int .i64 k)]) (fun _ => [(some b4, .cells (w4c m) 43 (0, 0))]) (fun k => k ≤ 4) (fun k => 4 - k) 0 (Nat.zero_le _) ⟨rfl, rfl, rfl, rfl, rfl, rfl, trivial⟩ (List.Sublist.refl _) (fun k hk IH => ?_)
  refine gS (gR ?_)
  refine gBi bLt ?_
  refine gE (gS ?_)
  refine GoH.cond rfl (fun hc => ?_) (fun hc => ?_)
  ·
   have hm : k < 4 := by simp at hc; omega
   refine gK (gS (gB (gS (gR ?_))))
   refine gMv ?_
   refine gAs ?_
   refine gE (gS (gR ?_))
   refine gAs ?_
   refine gE (gS (gS (gR ?_)))
   refine gMv ?_
   refine gE ?_
   refine GoH.cond rfl (fun hc => ?_) (fun hc => ?_)
   ·
    have hb : both = true := hc
    refine gR ?_
    refine gAs ?_
    refine gE (gS (gS (gR ?_)))
    refine gMv ?_
    refine gE (gB ?_)
    refine GoH.loop (σ := Nat) (fun a => [(1, .int .i64 g), (2, .bool both), (3, B set), (4, .pointer (some ⟨b4, 0, none⟩)), (9, B (afB m g both set k)), (10, .int .i64 k), (11, B (toB m g both k a)), (13, .int .i64 k), (17, .int .i64 a)]) (fun _ => [(some b4, .cells (w4c m) 43 (0, 0))]) (fun a => a ≤ 2) (fun a => 2 - a) 0 (Nat.zero_le _) ⟨rfl, rfl, rfl, rfl, rfl, rfl, (by rw [toB, hb]; rfl), rfl, rfl, trivial⟩ (List.Sublist.refl _) (fun a ha IHa => ?_)
    refine gS (gR ?_)
    refine gBi bLt ?_
    refine gE (gS ?_)
    refine GoH.cond rfl (fun hc => ?_) (fun hc => ?_)
    ·
     have ha2 : a < 2 := by simp at hc; omega
     refine gK (gS (gB (gS (gR ?_))))
     refine gMv ?_
     refine gAs ?_
     refine gE (gS (gR ?_))
     iterate 2 refine gMv ?_
     refine GoH.v (Vop.bin rfl rfl rfl rfl (bShrN (j := a) rfl (by omega) (by omega)) rfl) ?_
     refine GoH.v (Vop.bin rfl rfl rfl rfl (bAnd1N (Nat.lt_of_le_of_lt (Nat.div_le_self _ _) (by omega))) rfl) ?_
     refine gBi bEq ?_
     refine gE ?_
     refine GoH.cond rfl (fun hc => ?_) (fun hc => ?_)
     ·
      have hgb : gbit g a = true := decide_eq_true (Int.ofNat_inj.1 (show ((g / 2 ^ a % 2 : Nat) : Int) = ((1 : Nat) : Int) from beq_iff_eq.1 hc))
      refine gS (gR ?_)
      refine gMv ?_
      refine gE ?_
      refine GoH.cond rfl (fun hc => ?_) (fun hc => ?_)
      ·
       refine gR ?_
       iterate 3 refine gMv ?_
       refine GoH.v (Vop.idxAN rfl rfl rfl rfl rfl Try.underlying43 Try.sizeOf42 k rfl hm (k * 3) (by omega)) ?_
       refine GoH.v (Vop.fldP rfl rfl rfl rfl Try.underlying42 rfl (by exact Try.sizeOf40) (k * 3 + 1) rfl) ?_
       refine GoH.v (Vop.idxAN rfl rfl rfl rfl rfl Try.underlying40 Try.sizeOf5 a rfl ha2 (3 * k + 1 + a) (by omega)) ?_
       refine GoH.v (Vop.ld rfl rfl rfl rfl Try.isAgg5 (fun w _ hS => w4_at (hS.get (j := 0) rfl) (by omega))) ?_
       refine GoH.v (Vop.bin rfl rfl rfl rfl (bAndB (x := toB m g both k a)) rfl) ?_
       refine gAs ?_
       refine gE (gIb (gR ?_))
       refine GoH.v (Vop.bin rfl rfl rfl rfl (bAdd (by omega)) rfl) ?_
       refine gMv ?_
       refine gE ?_
       exact IHa (a + 1) _ _ (by omega) (by omega) ⟨rfl, rfl, rfl, rfl, rfl, rfl, (by rw [toB, if_pos hgb, if_pos hb]; rfl), rfl, rfl, trivial⟩ (List.Sublist.refl _)
      ·
       rw [hb] at hc; cases hc
     ·
      have hgb : ¬ gbit g a = true := fun h => by
        have h1 : g / 2 ^ a % 2 = 1 := of_decide_eq_true h
        have h2 : ((g / 2 ^ a % 2 : Nat) : Int) ≠ 1 := beq_eq_false_iff_ne.1 hc
        exact h2 (by rw [h1]; rfl)
      refine gK (gIb (gR ?_))
      refine GoH.v (Vop.bin rfl rfl rfl rfl (bAdd (by omega)) rfl) ?_
      refine gMv ?_
      refine gE ?_
      exact IHa (a + 1) _ _ (by omega) (by omega) ⟨rfl, rfl, rfl, rfl, rfl, rfl, (by rw [toB, if_neg hgb]; rfl), rfl, rfl, trivial⟩ (List.Sublist.refl _)
    ·
     have hge : a = 2 := by simp at hc; omega
     subst hge
     refine GoH.exit rfl (gS (gR ?_))
     iterate 2 refine gMv ?_
     refine GoH.v (Vop.bin rfl rfl rfl rfl (bAndNotB (x := toB m g both k 2)) rfl) ?_
     refine GoH.v (Vop.bin rfl rfl rfl rfl (bEqB8 (y := 0#8)) rfl) ?_
     refine gE ?_
     refine GoH.cond rfl (fun hc => ?_) (fun hc => ?_)
     ·
      have hz : (toB m g both k 2 &&& ~~~set == 0#8) = true := hc
      refine gR ?_
      iterate 2 refine gMv ?_
      refine GoH.v (Vop.bin rfl rfl rfl rfl (bShlB (x := 1#8) k rfl) rfl) ?_
      refine GoH.v (Vop.bin rfl rfl rfl rfl (bOrB (x := afB m g both set k)) rfl) ?_
      refine gAs ?_
      refine gE (gIb (gR ?_))
      refine GoH.v (Vop.bin rfl rfl rfl rfl (bAdd (by omega)) rfl) ?_
      refine gMv ?_
      refine gE ?_
      exact IH (k + 1) _ _ (by omega) (by omega) ⟨rfl, rfl, rfl, rfl, (by rw [afB, if_pos hz]; rfl), rfl, trivial⟩ (List.Sublist.refl _)
     ·
      have hz : ¬ (toB m g both k 2 &&& ~~~set == 0#8) = true := by rw [show (toB m g both k 2 &&& ~~~set == 0#8) = false from hc]; simp
      refine gK (gIb (gR ?_))
      refine GoH.v (Vop.bin rfl rfl rfl rfl (bAdd (by omega)) rfl) ?_
      refine gMv ?_
      refine gE ?_
      exact IH (k + 1) _ _ (by omega) (by omega) ⟨rfl, rfl, rfl, rfl, (by rw [afB, if_neg hz]; rfl), rfl, trivial⟩ (List.Sublist.refl _)
   ·
    have hb : both = false := hc
    refine gK (gS (gS (gR ?_)))
    refine gMv ?_
    refine gE (gB ?_)
    refine GoH.loop (σ := Nat) (fun a => [(1, .int .i64 g), (2, .bool both), (3, B set), (4, .pointer (some ⟨b4, 0, none⟩)), (9, B (afB m g both set k)), (10, .int .i64 k), (11, B (toB m g both k a)), (13, .int .i64 k), (17, .int .i64 a)]) (fun _ => [(some b4, .cells (w4c m) 43 (0, 0))]) (fun a => a ≤ 2) (fun a => 2 - a) 0 (Nat.zero_le _) ⟨rfl, rfl, rfl, rfl, rfl, rfl, (by rw [toB, hb]; rfl), rfl, rfl, trivial⟩ (List.Sublist.refl _) (fun a ha IHa => ?_)
    refine gS (gR ?_)
    refine gBi bLt ?_
    refine gE (gS ?_)
    refine GoH.cond rfl (fun hc => ?_) (fun hc => ?_)
    ·
     have ha2 : a < 2 := by simp at hc; omega
     refine gK (gS (gB (gS (gR ?_))))
     refine gMv ?_
     refine gAs ?_
     refine gE (gS (gR ?_))
     iterate 2 refine gMv ?_
     refine GoH.v (Vop.bin rfl rfl rfl rfl (bShrN (j := a) rfl (by omega) (by omega)) rfl) ?_
     refine GoH.v (Vop.bin rfl rfl rfl rfl (bAnd1N (Nat.lt_of_le_of_lt (Nat.div_le_self _ _) (by omega))) rfl) ?_
     refine gBi bEq ?_
     refine gE ?_
     refine GoH.cond rfl (fun hc => ?_) (fun hc => ?_)
     ·
      have hgb : gbit g a = true := decide_eq_true (Int.ofNat_inj.1 (show ((g / 2 ^ a % 2 : Nat) : Int) = ((1 : Nat) : Int) from beq_iff_eq.1 hc))
      refine gS (gR ?_)
      refine gMv ?_
      refine gE ?_
      refine GoH.cond rfl (fun hc => ?_) (fun hc => ?_)
      ·
       rw [hb] at hc; cases hc
      ·
       refine gR ?_
       iterate 3 refine gMv ?_
       refine GoH.v (Vop.idxAN rfl rfl rfl rfl rfl Try.underlying43 Try.sizeOf42 k rfl hm (k * 3) (by omega)) ?_
       refine GoH.v (Vop.fldP rfl rfl rfl rfl Try.underlying42 rfl (by exact Try.sizeOf40) (k * 3 + 1) rfl) ?_
       refine GoH.v (Vop.idxAN rfl rfl rfl rfl rfl Try.underlying40 Try.sizeOf5 a rfl ha2 (3 * k + 1 + a) (by omega)) ?_
       refine GoH.v (Vop.ld rfl rfl rfl rfl Try.isAgg5 (fun w _ hS => w4_at (hS.get (j := 0) rfl) (by omega))) ?_
       refine GoH.v (Vop.bin rfl rfl rfl rfl (bAndB (y := 15#8)) rfl) ?_
       refine GoH.v (Vop.bin rfl rfl rfl rfl (bOrB (x := toB m g both k a)) rfl) ?_
       refine gAs ?_
       refine gE (gIb (gR ?_))
       refine GoH.v (Vop.bin rfl rfl rfl rfl (bAdd (by omega)) rfl) ?_
       refine gMv ?_
       refine gE ?_
       exact IHa (a + 1) _ _ (by omega) (by omega) ⟨rfl, rfl, rfl, rfl, rfl, rfl, (by rw [toB, if_pos hgb, if_neg (by rw [hb]; simp)]; rfl), rfl, rfl, trivial⟩ (List.Sublist.refl _)
     ·
      have hgb : ¬ gbit g a = true := fun h => by
        have h1 : g / 2 ^ a % 2 = 1 := of_decide_eq_true h
        have h2 : ((g / 2 ^ a % 2 : Nat) : Int) ≠ 1 := beq_eq_false_iff_ne.1 hc
        exact h2 (by rw [h1]; rfl)
      refine gK (gIb (gR ?_))
      refine GoH.v (Vop.bin rfl rfl rfl rfl (bAdd (by omega)) rfl) ?_
      refine gMv ?_
      refine gE ?_
      exact IHa (a + 1) _ _ (by omega) (by omega) ⟨rfl, rfl, rfl, rfl, rfl, rfl, (by rw [toB, if_neg hgb]; rfl), rfl, rfl, trivial⟩ (List.Sublist.refl _)
    ·
     have hge : a = 2 := by simp at hc; omega
     subst hge
     refine GoH.exit rfl (gS (gR ?_))
     iterate 2 refine gMv ?_
     refine GoH.v (Vop.bin rfl rfl rfl rfl (bAndNotB (x := toB m g both k 2)) rfl) ?_
     refine GoH.v (Vop.bin rfl rfl rfl rfl (bEqB8 (y := 0#8)) rfl) ?_
     refine gE ?_
     refine GoH.cond rfl (fun hc => ?_) (fun hc => ?_)
     ·
      have hz : (toB m g both k 2 &&& ~~~set == 0#8) = true := hc
      refine gR ?_
      iterate 2 refine gMv ?_
      refine GoH.v (Vop.bin rfl rfl rfl rfl (bShlB (x := 1#8) k rfl) rfl) ?_
      refine GoH.v (Vop.bin rfl rfl rfl rfl (bOrB (x := afB m g both set k)) rfl) ?_
      refine gAs ?_
      refine gE (gIb (gR ?_))
      refine GoH.v (Vop.bin rfl rfl rfl rfl (bAdd (by omega)) rfl) ?_
      refine gMv ?_
      refine gE ?_
      exact IH (k + 1) _ _ (by omega) (by omega) ⟨rfl, rfl, rfl, rfl, (by rw [afB, if_pos hz]; rfl), rfl, trivial⟩ (List.Sublist.refl _)
     ·
      have hz : ¬ (toB m g both k 2 &&& ~~~set == 0#8) = true := by rw [show (toB m g both k 2 &&& ~~~set == 0#8) = false from hc]; simp
      refine gK (gIb (gR ?_))
      refine GoH.v (Vop.bin rfl rfl rfl rfl (bAdd (by omega)) rfl) ?_
      refine gMv ?_
      refine gE ?_
      exact IH (k + 1) _ _ (by omega) (by omega) ⟨rfl, rfl, rfl, rfl, (by rw [afB, if_neg hz]; rfl), rfl, trivial⟩ (List.Sublist.refl _)
  ·
   have hge : k = 4 := by simp at hc; omega
   subst hge
   refine GoH.exit rfl (gS (gR ?_))
   refine gMv ?_
   refine gAs ?_
   refine gE ?_
   refine GoH.ret Try.f68 Try.func68 rfl (fun w' hS => ?_)
   exact ⟨hS.ext, rfl⟩
theorem common_c (m : W4) (g : Nat) (hg : g < 16) (x y : B8) (w : World) : Cn Try.prog 69 [.agg (w4c m), .int .i64 g, B x, B y] w (fun v _ => v = B (cm m g x y)) := by
  refine Cn.of Try.func69 rfl rfl ?_
  refine gS (gR ?_)
  refine GoH.bx rfl rfl rfl rfl (fun b4 => ?_)
  refine gAs ?_
  refine gE (gS (gR ?_))
  refine gAs ?_
  refine gE (gS (gS (gR ?_)))
  refine gMv ?_
  refine gE (gB ?_)
  refine GoH.loop (σ := Nat) (fun k => [(1, .int .i64 g), (2, B x), (3, B y), (4, .pointer (some ⟨b4, 0, none⟩)), (9, B (cmB m g x y k)), (10, .int .i64 k)]) (fun _ => [(some b4, .cells (w4c m) 43 (0, 0))]) (fun k => k ≤ 5) (fun k => 5 - k) 0 (Nat.zero_le _) ⟨rfl, rfl, rfl, rfl, rfl, rfl, trivial⟩ (List.Sublist.refl _) (fun k hk IH => ?_)
  refine gS (gR ?_)
  refine gBi bLt ?_
  refine gE (gS ?_)
  refine GoH.cond rfl (fun hc => ?_) (fun hc => ?_)
  ·
   have hm : k < 5 := by simp at hc; omega
   refine gK (gS (gB (gR ?_)))
   refine GoH.v (Vop.ldB rfl rfl rfl rfl Try.isAgg43 0 rfl Try.sizeOf43 rfl) ?_
   iterate 2 refine gMv ?_
   refine GoH.v (Vop.un rfl rfl rfl uXorB rfl) ?_
   refine GoH.v (Vop.bin rfl rfl rfl rfl (bAndB (y := 15#8)) rfl) ?_
   iterate 2 refine gMv ?_
   refine GoH.v (Vop.bin rfl rfl rfl rfl (bAndB (x := y)) rfl) ?_
   refine GoH.v (Vop.bin rfl rfl rfl rfl (bOrB (x := ~~~x &&& 15#8)) rfl) ?_
   refine GoH.callP rfl rfl rfl rfl rfl (fun _ _ => Try.call68 _ _) (fun w _ hS => (by exact after_c m g hg false _ w)) ?_
   refine gAs ?_
   refine gE (gIb (gR ?_))
   refine GoH.v (Vop.bin rfl rfl rfl rfl (bAdd (by omega)) rfl) ?_
   refine gMv ?_
   refine gE ?_
   exact IH (k + 1) _ _ (by omega) (by omega) ⟨rfl, rfl, rfl, rfl, rfl, rfl, trivial⟩ (List.Sublist.refl _)
  ·
   have hge : k = 5 := by simp at hc; omega
   subst hge
   refine GoH.exit rfl (gS (gR ?_))
   refine gMv ?_
   refine gAs ?_
   refine gE ?_
   refine GoH.ret Try.f69 Try.func69 rfl (fun w' hS => ?_)
   exact ⟨hS.ext, rfl⟩
end Go.Proofs.Ytkoipdlkkchmiaa
namespace Go.Proofs.Ytkoipdlkkchmiaa
open Go.RowKit Go.Proofs.Wit
/-! truth of a formula at four worlds -/
theorem infoU8 : (Try.prog.info? 5).map (fun i => (i.zero, i.size, i.bytes)) = some (some (Value.int .u8 0), 1, 1) := by kernel_rfl
set_option maxRecDepth 8000 in
theorem truth_c (m : W4) (a : Option Addr) (ca : Nat) (f : List NV) (w : World) (ha : FA w a f) (hl : f.length ≤ maxLen) (h0 : chkF f = 0) (hst : St13 (topT f)) :
    Cn Try.prog 31 [.agg (w4c m), .slice a f.length ca] w (fun v _ => v = .tuple #[B (truM m (topT f)), .bool true]) := by
  obtain ⟨i1, hi1, hz1, hsz1, hby1⟩ := info_parts infoU8
  have hT := (chkF_zero.1 h0).top
  obtain ⟨t, ht⟩ : ∃ t, t = topT f := ⟨_, rfl⟩
  have hce := compF_eq h0
  have hcl := (compF_ok h0).len
  rw [← ht] at hT hce hst
  rw [hce] at hcl
  refine Cn.of Try.func31 rfl rfl ?_
  refine gS (gR ?_)
  refine GoH.bx rfl rfl rfl rfl (fun b2 => ?_)
  iterate 2 refine gAs ?_
  refine gE (gS (gR ?_))
  refine gAs ?_
  refine gE (gS (gS (gR ?_)))
  refine gMv ?_
  refine GoH.callM _ rfl rfl rfl rfl rfl (fun _ _ => Try.call19 _ _) (fun w _ hS => (by exact rcompact_c a ca f w (ha.ex0 hS.ext) hl)) ?_
  rintro v w1 w2 Y' hS he ho
  rw [subF_top, hce] at ho
  obtain ⟨qc, capc, spc, rfl, hqc, hcapc, hS'⟩ := gainN hS he ho
  refine ⟨_, hS', ?_⟩
  refine gBl Try.underlying22 ?_
  refine gMv ?_
  refine gE (gB ?_)
  have hcp := canT_pos t
  have hNd := canT_nodes hT
  have hops : ∀ (k : Nat) (h : k < (canT t).length), (canT t)[k].op ≤ 13 := fun k h => st_ops hst h
  obtain ⟨c, hct⟩ : ∃ c, c = canT t := ⟨_, rfl⟩
  rw [← hct] at hqc hcapc hcp hcl hNd ⊢
  simp only [← hct] at hops
  obtain ⟨bc, rfl⟩ : ∃ bc, qc = some bc := by
    cases qc with
    | none => have := (hqc rfl).1; omega
    | some b => exact ⟨b, rfl⟩
  refine GoH.addNone (ob B 5 [] []) ?_
  refine GoH.pick (pre' := [(some b2, .cells (w4c m) 43 (0, 0)), (some bc, obN 49 c spc), (none, ob B 5 [] [])]) [2, 1, 0] (by decide) rfl ?_
  refine GoH.loop (σ := Nat × Option Nat × Nat × List B8 × List Value) (fun z => [(2, .pointer (some ⟨b2, 0, none⟩)), (6, osv z.2.1 z.2.2.2.1.length z.2.2.1), (14, osv (some bc) c.length capc), (15, .int .i64 c.length), (16, .int .i64 z.1)])
    (fun z => [(some b2, .cells (w4c m) 43 (0, 0)), (some bc, obN 49 c spc), (z.2.1, ob B 5 z.2.2.2.1 z.2.2.2.2)])
    (fun z => z.1 ≤ c.length ∧ z.2.2.2.1.length = z.1 ∧ (z.2.1 = none → z.2.2.2.1.length = 0 ∧ z.2.2.1 = 0) ∧ (z.2.2.2.1.map B ++ z.2.2.2.2).length = z.2.2.1 ∧ ∀ (k : Nat), k < z.2.2.2.1.length → z.2.2.2.1.getD k 0#8 = truM m (treeAt c k))
    (fun z => c.length - z.1) (0, none, 0, [], []) ⟨Nat.zero_le _, rfl, fun _ => ⟨rfl, rfl⟩, rfl, fun _ h => absurd h (Nat.not_lt_zero _)⟩ ⟨rfl, rfl, rfl, rfl, rfl, trivial⟩ (List.Sublist.refl _) (fun z hI IH => ?_)
  obtain ⟨i, q, cap, xs, sp⟩ := z
  obtain ⟨hi, hxl, hq, hcap, hxs⟩ := hI
  dsimp only at hi hxl hq hcap hxs IH ⊢
  refine gS (gR ?_)
  refine gBi bLt ?_
  refine gE (gS ?_)
  refine GoH.cond rfl (fun hc => ?_) (fun hc => ?_)
  ·
   have hm : i < c.length := by simp at hc; omega
   have hok := hNd i hm
   have hun := tru_node (m := m) hm hNd
   have hop := hok.op
   have hF := fldOk_of hok.fld
   have h13 := hops i hm
   refine gK (gS (gB (gS (gR ?_))))
   refine GoH.v (Vop.idxS rfl rfl rfl rfl rfl Try.underlying22 Try.sizeOf49 i ⟨rfl, hm⟩) ?_
   refine GoH.v (Vop.ldN (cs := NV.cells c[i]) rfl rfl rfl rfl Try.isAgg49 Try.sizeOf49 (fun w _ hS => Sl.many (enc := NV.cells) (sz := 6) (a := some ⟨bc, 0, none⟩) (Sl.blk (hS.get (j := 1) rfl)) (fun _ => rfl) hm)) ?_
   refine GoH.alc rfl rfl rfl (fun _ => Try.zeroValue49 _) (fun b8 => ?_)
   refine GoH.stB rfl rfl rfl rfl Try.sizeOf49 0 rfl rfl rfl rfl ?_
   refine gE (gS (gR ?_))
   iterate 3 refine gAs ?_
   refine gE (gS (gS (gR ?_)))
   refine gFp Try.underlying49 Try.sizeOf3 0 ?_
   refine gLo Try.isAgg3 0 ?_
   refine GoH.callP rfl rfl rfl rfl rfl (fun _ _ => Try.call42 _ _) (fun w _ hS => (by exact usesX_c c[i].op w)) ?_
   refine gE ?_
   refine GoH.cond rfl (fun hc => ?_) (fun hc => ?_)
   ·
    have hX : usX c[i].op = true := hc
    rw [if_pos hX] at hun
    obtain ⟨bq, rfl⟩ : ∃ b, q = some b := by
      cases q with
      | none => have := (hq rfl).1; have := hok.x hX; omega
      | some b => exact ⟨b, rfl⟩
    have hrx := hok.x hX
    obtain ⟨kx, hkx⟩ : ∃ k : Nat, c[i].x = (k : Int) := ⟨c[i].x.toNat, by omega⟩
    have hlx : kx < xs.length := by omega
    have htx : c[i].x.toNat = kx := by omega
    have hgx := hxs kx hlx
    rw [htx] at hun
    refine gR ?_
    refine gMv ?_
    refine gFp Try.underlying49 Try.sizeOf3 4 ?_
    refine gLo Try.isAgg3 0 ?_
    refine GoH.v (Vop.idxS rfl rfl rfl rfl rfl Try.underlying64 Try.sizeOf5 (kx) ⟨hkx, hlx⟩) ?_
    refine GoH.v (Vop.ldE B 0#8 rfl rfl rfl rfl Try.isAgg5 3 rfl hlx) ?_
    refine gAs ?_
    refine gE (gS (gS (gR ?_)))
    refine gFp Try.underlying49 Try.sizeOf3 0 ?_
    refine gLo Try.isAgg3 0 ?_
    refine GoH.callP rfl rfl rfl rfl rfl (fun _ _ => Try.call43 _ _) (fun w _ hS => (by exact usesY_c c[i].op w)) ?_
    refine gE ?_
    refine GoH.cond rfl (fun hc => ?_) (fun hc => ?_)
    ·
     have hY : usY c[i].op = true := hc
     rw [if_pos hY] at hun
     have hry := hok.y hY
     obtain ⟨ky, hky⟩ : ∃ k : Nat, c[i].y = (k : Int) := ⟨c[i].y.toNat, by omega⟩
     have hly : ky < xs.length := by omega
     have hty : c[i].y.toNat = ky := by omega
     have hgy := hxs ky hly
     rw [hty] at hun
     refine gR ?_
     refine gMv ?_
     refine gFp Try.underlying49 Try.sizeOf3 5 ?_
     refine gLo Try.isAgg3 0 ?_
     refine GoH.v (Vop.idxS rfl rfl rfl rfl rfl Try.underlying64 Try.sizeOf5 (ky) ⟨hky, hly⟩) ?_
     refine GoH.v (Vop.ldE B 0#8 rfl rfl rfl rfl Try.isAgg5 3 rfl hly) ?_
     refine gAs ?_
     refine gE (gS (gS (gR ?_)))
     refine gFp Try.underlying49 Try.sizeOf3 0 ?_
     refine gLo Try.isAgg3 0 ?_
     refine gE (gB (gS (gR ?_)))
     refine gBi bEq ?_
     refine gAs ?_
     refine gE ?_
     refine GoH.cond rfl (fun hc => ?_) (fun hc => ?_)
     ·
      have ho : c[i].op = 1 := by simpa using hc
      rw [ho] at hX; exact absurd hX (by decide)
     ·
      have n1 : ¬ c[i].op = 1 := by simpa using hc
      refine gS (gR ?_)
      refine gBi bEq ?_
      refine gAs ?_
      refine gE ?_
      refine GoH.cond rfl (fun hc => ?_) (fun hc => ?_)
      ·
       have ho : c[i].op = 2 := by simpa using hc
       rw [ho] at hX; exact absurd hX (by decide)
      ·
       have n2 : ¬ c[i].op = 2 := by simpa using hc
       refine gS (gR ?_)
       refine gBi bEq ?_
       refine gAs ?_
       refine gE ?_
       refine GoH.cond rfl (fun hc => ?_) (fun hc => ?_)
       ·
        have ho : c[i].op = 3 := by simpa using hc
        rw [ho] at hX; exact absurd hX (by decide)
       ·
        have n3 : ¬ c[i].op = 3 := by simpa using hc
        refine gS (gR ?_)
        refine gBi bEq ?_
        refine gAs ?_
        refine gE ?_
        refine GoH.cond rfl (fun hc => ?_) (fun hc => ?_)
        ·
         have ho : c[i].op = 4 := by simpa using hc
         rw [ho] at hY; exact absurd hY (by decide)
        ·
         have n4 : ¬ c[i].op = 4 := by simpa using hc
         refine gS (gR ?_)
         refine gBi bEq ?_
         refine gAs ?_
         refine gE ?_
         refine GoH.cond rfl (fun hc => ?_) (fun hc => ?_)
         ·
          have ho : c[i].op = 5 := by simpa using hc
          refine gR ?_
          iterate 2 refine gMv ?_
          refine GoH.v (Vop.bin rfl rfl rfl rfl (bAndB (x := xs.getD kx 0#8)) rfl) ?_
          have hv : xs.getD kx 0#8 &&& xs.getD ky 0#8 = truM m (treeAt c i) := by rw [hgx, hgy, hun, ho]; rfl
          refine gAs ?_
          refine gE (gIb (gR ?_))
          iterate 2 refine gMv ?_
          refine GoH.bsN (c := [_]) rfl rfl rfl rfl Try.underlying64 Try.sizeOf5 Try.zeroValue5 rfl rfl (fun b128 => ?_)
          refine GoH.appE B (news := [xs.getD kx 0#8 &&& xs.getD ky 0#8]) (spn := []) (xs := xs) (sp := sp) (q := (some bq)) rfl rfl rfl rfl rfl Try.underlying64 hi1 hz1 hsz1 rfl hq 4 rfl 0 rfl hcap rfl (by decide) (fun _ => rfl) (by simp [maxLen]; omega) (by simp [hby1]; omega) (fun b' sp' cap' hlen => ?_)
          refine gAs ?_
          refine gE (gIb (gR ?_))
          refine GoH.v (Vop.bin rfl rfl rfl rfl (bAdd (by omega)) rfl) ?_
          refine gMv ?_
          refine gE ?_
          refine GoH.subH (.cons _ (.cons _ (List.Sublist.refl _))) ?_
          refine IH (i + 1, some b', cap', xs ++ [xs.getD kx 0#8 &&& xs.getD ky 0#8], sp') _ _ ⟨hm, by simp [hxl], (fun e => by cases e), hlen, fun k hk => ?_⟩ (by dsimp only; omega) ⟨rfl, rfl, rfl, rfl, rfl, trivial⟩ (List.Sublist.refl _)
          by_cases hk2 : k < xs.length
          · dsimp only; rw [getD_app_lt hk2]; exact hxs k hk2
          · have e : k = xs.length := by simp at hk; omega
            subst e
            dsimp only
            rw [getD_app_eq, hxl]; exact hv
         ·
          have n5 : ¬ c[i].op = 5 := by simpa using hc
          refine gS (gR ?_)
          refine gBi bEq ?_
          refine gAs ?_
          refine gE ?_
          refine GoH.cond rfl (fun hc => ?_) (fun hc => ?_)
          ·
           have ho : c[i].op = 6 := by simpa using hc
           refine gR ?_
           iterate 2 refine gMv ?_
           refine GoH.v (Vop.bin rfl rfl rfl rfl (bOrB (x := xs.getD kx 0#8)) rfl) ?_
           have hv : xs.getD kx 0#8 ||| xs.getD ky 0#8 = truM m (treeAt c i) := by rw [hgx, hgy, hun, ho]; rfl
           refine gAs ?_
           refine gE (gIb (gR ?_))
           iterate 2 refine gMv ?_
           refine GoH.bsN (c := [_]) rfl rfl rfl rfl Try.underlying64 Try.sizeOf5 Try.zeroValue5 rfl rfl (fun b128 => ?_)
           refine GoH.appE B (news := [xs.getD kx 0#8 ||| xs.getD ky 0#8]) (spn := []) (xs := xs) (sp := sp) (q := (some bq)) rfl rfl rfl rfl rfl Try.underlying64 hi1 hz1 hsz1 rfl hq 4 rfl 0 rfl hcap rfl (by decide) (fun _ => rfl) (by simp [maxLen]; omega) (by simp [hby1]; omega) (fun b' sp' cap' hlen => ?_)
           refine gAs ?_
           refine gE (gIb (gR ?_))
           refine GoH.v (Vop.bin rfl rfl rfl rfl (bAdd (by omega)) rfl) ?_
           refine gMv ?_
           refine gE ?_
           refine GoH.subH (.cons _ (.cons _ (List.Sublist.refl _))) ?_
           refine IH (i + 1, some b', cap', xs ++ [xs.getD kx 0#8 ||| xs.getD ky 0#8], sp') _ _ ⟨hm, by simp [hxl], (fun e => by cases e), hlen, fun k hk => ?_⟩ (by dsimp only; omega) ⟨rfl, rfl, rfl, rfl, rfl, trivial⟩ (List.Sublist.refl _)
           by_cases hk2 : k < xs.length
           · dsimp only; rw [getD_app_lt hk2]; exact hxs k hk2
           · have e : k = xs.length := by simp at hk; omega
             subst e
             dsimp only
             rw [getD_app_eq, hxl]; exact hv
          ·
           have n6 : ¬ c[i].op = 6 := by simpa using hc
           refine gS (gR ?_)
           refine gBi bEq ?_
           refine gAs ?_
           refine gE ?_
           refine GoH.cond rfl (fun hc => ?_) (fun hc => ?_)
           ·
            have ho : c[i].op = 7 := by simpa using hc
            refine gR ?_
            refine gMv ?_
            refine GoH.v (Vop.bin rfl rfl rfl rfl (bAndNotB (x := 15#8) (y := xs.getD kx 0#8)) rfl) ?_
            refine gMv ?_
            refine GoH.v (Vop.bin rfl rfl rfl rfl (bOrB (x := nt (xs.getD kx 0#8))) rfl) ?_
            have hv : nt (xs.getD kx 0#8) ||| xs.getD ky 0#8 = truM m (treeAt c i) := by rw [hgx, hgy, hun, ho]; rfl
            refine gAs ?_
            refine gE (gIb (gR ?_))
            iterate 2 refine gMv ?_
            refine GoH.bsN (c := [_]) rfl rfl rfl rfl Try.underlying64 Try.sizeOf5 Try.zeroValue5 rfl rfl (fun b128 => ?_)
            refine GoH.appE B (news := [nt (xs.getD kx 0#8) ||| xs.getD ky 0#8]) (spn := []) (xs := xs) (sp := sp) (q := (some bq)) rfl rfl rfl rfl rfl Try.underlying64 hi1 hz1 hsz1 rfl hq 4 rfl 0 rfl hcap rfl (by decide) (fun _ => rfl) (by simp [maxLen]; omega) (by simp [hby1]; omega) (fun b' sp' cap' hlen => ?_)
            refine gAs ?_
            refine gE (gIb (gR ?_))
            refine GoH.v (Vop.bin rfl rfl rfl rfl (bAdd (by omega)) rfl) ?_
            refine gMv ?_
            refine gE ?_
            refine GoH.subH (.cons _ (.cons _ (List.Sublist.refl _))) ?_
            refine IH (i + 1, some b', cap', xs ++ [nt (xs.getD kx 0#8) ||| xs.getD ky 0#8], sp') _ _ ⟨hm, by simp [hxl], (fun e => by cases e), hlen, fun k hk => ?_⟩ (by dsimp only; omega) ⟨rfl, rfl, rfl, rfl, rfl, trivial⟩ (List.Sublist.refl _)
            by_cases hk2 : k < xs.length
            · dsimp only; rw [getD_app_lt hk2]; exact hxs k hk2
            · have e : k = xs.length := by simp at hk; omega
              subst e
              dsimp only
              rw [getD_app_eq, hxl]; exact hv
           ·
            have n7 : ¬ c[i].op = 7 := by simpa using hc
            refine gS (gR ?_)
            refine gBi bEq ?_
            refine gAs ?_
            refine gE ?_
            refine GoH.cond rfl (fun hc => ?_) (fun hc => ?_)
            ·
             have ho : c[i].op = 8 := by simpa using hc
             refine gR ?_
             iterate 2 refine gMv ?_
             refine GoH.v (Vop.bin rfl rfl rfl rfl (bXorB (x := xs.getD kx 0#8)) rfl) ?_
             refine GoH.v (Vop.bin rfl rfl rfl rfl (bAndNotB (x := 15#8) (y := xs.getD kx 0#8 ^^^ xs.getD ky 0#8)) rfl) ?_
             have hv : nt (xs.getD kx 0#8 ^^^ xs.getD ky 0#8) = truM m (treeAt c i) := by rw [hgx, hgy, hun, ho]; rfl
             refine gAs ?_
             refine gE (gIb (gR ?_))
             iterate 2 refine gMv ?_
             refine GoH.bsN (c := [_]) rfl rfl rfl rfl Try.underlying64 Try.sizeOf5 Try.zeroValue5 rfl rfl (fun b128 => ?_)
             refine GoH.appE B (news := [nt (xs.getD kx 0#8 ^^^ xs.getD ky 0#8)]) (spn := []) (xs := xs) (sp := sp) (q := (some bq)) rfl rfl rfl rfl rfl Try.underlying64 hi1 hz1 hsz1 rfl hq 4 rfl 0 rfl hcap rfl (by decide) (fun _ => rfl) (by simp [maxLen]; omega) (by simp [hby1]; omega) (fun b' sp' cap' hlen => ?_)
             refine gAs ?_
             refine gE (gIb (gR ?_))
             refine GoH.v (Vop.bin rfl rfl rfl rfl (bAdd (by omega)) rfl) ?_
             refine gMv ?_
             refine gE ?_
             refine GoH.subH (.cons _ (.cons _ (List.Sublist.refl _))) ?_
             refine IH (i + 1, some b', cap', xs ++ [nt (xs.getD kx 0#8 ^^^ xs.getD ky 0#8)], sp') _ _ ⟨hm, by simp [hxl], (fun e => by cases e), hlen, fun k hk => ?_⟩ (by dsimp only; omega) ⟨rfl, rfl, rfl, rfl, rfl, trivial⟩ (List.Sublist.refl _)
             by_cases hk2 : k < xs.length
             · dsimp only; rw [getD_app_lt hk2]; exact hxs k hk2
             · have e : k = xs.length := by simp at hk; omega
               subst e
               dsimp only
               rw [getD_app_eq, hxl]; exact hv
            ·
             have n8 : ¬ c[i].op = 8 := by simpa using hc
             refine gS (gR ?_)
             refine gBi bEq ?_
             refine gAs ?_
             refine gE ?_
             refine GoH.cond rfl (fun hc => ?_) (fun hc => ?_)
             ·
              have ho : c[i].op = 9 := by simpa using hc
              rw [ho] at hY; exact absurd hY (by decide)
             ·
              have n9 : ¬ c[i].op = 9 := by simpa using hc
              refine gS (gR ?_)
              refine gBi bEq ?_
              refine gAs ?_
              refine gE ?_
              refine GoH.cond rfl (fun hc => ?_) (fun hc => ?_)
              ·
               have ho : c[i].op = 10 := by simpa using hc
               rw [ho] at hY; exact absurd hY (by decide)
              ·
               have n10 : ¬ c[i].op = 10 := by simpa using hc
               refine gS (gR ?_)
               refine gBi bEq ?_
               refine gAs ?_
               refine gE ?_
               refine GoH.cond rfl (fun hc => ?_) (fun hc => ?_)
               ·
                have ho : c[i].op = 11 := by simpa using hc
                rw [ho] at hY; exact absurd hY (by decide)
               ·
                have n11 : ¬ c[i].op = 11 := by simpa using hc
                refine gS (gR ?_)
                refine gBi bEq ?_
                refine gAs ?_
                refine gE ?_
                refine GoH.cond rfl (fun hc => ?_) (fun hc => ?_)
                ·
                 have ho : c[i].op = 12 := by simpa using hc
                 rw [ho] at hY; exact absurd hY (by decide)
                ·
                 have n12 : ¬ c[i].op = 12 := by simpa using hc
                 refine gS (gR ?_)
                 refine gBi bEq ?_
                 refine gAs ?_
                 refine gE ?_
                 refine GoH.cond rfl (fun hc => ?_) (fun hc => ?_)
                 ·
                  have ho : c[i].op = 13 := by simpa using hc
                  have hFg := hF.gr (by rw [ho]; rfl)
                  obtain ⟨kg, hkg⟩ : ∃ k : Nat, c[i].g = (k : Int) := ⟨c[i].g.toNat, by omega⟩
                  have hkg2 : c[i].g.toNat = kg := by omega
                  refine gR ?_
                  refine GoH.v (Vop.ldB rfl rfl rfl rfl Try.isAgg43 1 rfl Try.sizeOf43 rfl) ?_
                  refine gFp Try.underlying49 Try.sizeOf3 3 ?_
                  refine gLo Try.isAgg3 0 ?_
                  iterate 2 refine gMv ?_
                  refine GoH.callP rfl rfl rfl rfl rfl (fun _ _ => Try.call69 _ _) (fun w _ hS => (by
                  have := common_c m kg (by omega) (xs.getD kx 0#8) (xs.getD ky 0#8) w
                  rw [← hkg] at this; exact this)) ?_
                  have hv : cm m kg (xs.getD kx 0#8) (xs.getD ky 0#8) = truM m (treeAt c i) := by rw [hgx, hgy, hun, ho, ← hkg2]; rfl
                  refine gAs ?_
                  refine gE (gIb (gR ?_))
                  iterate 2 refine gMv ?_
                  refine GoH.bsN (c := [_]) rfl rfl rfl rfl Try.underlying64 Try.sizeOf5 Try.zeroValue5 rfl rfl (fun b128 => ?_)
                  refine GoH.appE B (news := [cm m kg (xs.getD kx 0#8) (xs.getD ky 0#8)]) (spn := []) (xs := xs) (sp := sp) (q := (some bq)) rfl rfl rfl rfl rfl Try.underlying64 hi1 hz1 hsz1 rfl hq 4 rfl 0 rfl hcap rfl (by decide) (fun _ => rfl) (by simp [maxLen]; omega) (by simp [hby1]; omega) (fun b' sp' cap' hlen => ?_)
                  refine gAs ?_
                  refine gE (gIb (gR ?_))
                  refine GoH.v (Vop.bin rfl rfl rfl rfl (bAdd (by omega)) rfl) ?_
                  refine gMv ?_
                  refine gE ?_
                  refine GoH.subH (.cons _ (.cons _ (List.Sublist.refl _))) ?_
                  refine IH (i + 1, some b', cap', xs ++ [cm m kg (xs.getD kx 0#8) (xs.getD ky 0#8)], sp') _ _ ⟨hm, by simp [hxl], (fun e => by cases e), hlen, fun k hk => ?_⟩ (by dsimp only; omega) ⟨rfl, rfl, rfl, rfl, rfl, trivial⟩ (List.Sublist.refl _)
                  by_cases hk2 : k < xs.length
                  · dsimp only; rw [getD_app_lt hk2]; exact hxs k hk2
                  · have e : k = xs.length := by simp at hk; omega
                    subst e
                    dsimp only
                    rw [getD_app_eq, hxl]; exact hv
                 ·
                  have n13 : ¬ c[i].op = 13 := by simpa using hc
                  omega
    ·
     have hY : usY c[i].op = false := hc
     rw [if_neg (by rw [hY]; simp)] at hun
     refine gK (gS (gS (gR ?_)))
     refine gFp Try.underlying49 Try.sizeOf3 0 ?_
     refine gLo Try.isAgg3 0 ?_
     refine gE (gB (gS (gR ?_)))
     refine gBi bEq ?_
     refine gAs ?_
     refine gE ?_
     refine GoH.cond rfl (fun hc => ?_) (fun hc => ?_)
     ·
      have ho : c[i].op = 1 := by simpa using hc
      rw [ho] at hX; exact absurd hX (by decide)
     ·
      have n1 : ¬ c[i].op = 1 := by simpa using hc
      refine gS (gR ?_)
      refine gBi bEq ?_
      refine gAs ?_
      refine gE ?_
      refine GoH.cond rfl (fun hc => ?_) (fun hc => ?_)
      ·
       have ho : c[i].op = 2 := by simpa using hc
       rw [ho] at hX; exact absurd hX (by decide)
      ·
       have n2 : ¬ c[i].op = 2 := by simpa using hc
       refine gS (gR ?_)
       refine gBi bEq ?_
       refine gAs ?_
       refine gE ?_
       refine GoH.cond rfl (fun hc => ?_) (fun hc => ?_)
       ·
        have ho : c[i].op = 3 := by simpa using hc
        rw [ho] at hX; exact absurd hX (by decide)
       ·
        have n3 : ¬ c[i].op = 3 := by simpa using hc
        refine gS (gR ?_)
        refine gBi bEq ?_
        refine gAs ?_
        refine gE ?_
        refine GoH.cond rfl (fun hc => ?_) (fun hc => ?_)
        ·
         have ho : c[i].op = 4 := by simpa using hc
         refine gR ?_
         refine gMv ?_
         refine GoH.v (Vop.bin rfl rfl rfl rfl (bAndNotB (x := 15#8) (y := xs.getD kx 0#8)) rfl) ?_
         have hv : nt (xs.getD kx 0#8) = truM m (treeAt c i) := by rw [hgx, hun, ho]; rfl
         refine gAs ?_
         refine gE (gIb (gR ?_))
         iterate 2 refine gMv ?_
         refine GoH.bsN (c := [_]) rfl rfl rfl rfl Try.underlying64 Try.sizeOf5 Try.zeroValue5 rfl rfl (fun b128 => ?_)
         refine GoH.appE B (news := [nt (xs.getD kx 0#8)]) (spn := []) (xs := xs) (sp := sp) (q := (some bq)) rfl rfl rfl rfl rfl Try.underlying64 hi1 hz1 hsz1 rfl hq 4 rfl 0 rfl hcap rfl (by decide) (fun _ => rfl) (by simp [maxLen]; omega) (by simp [hby1]; omega) (fun b' sp' cap' hlen => ?_)
         refine gAs ?_
         refine gE (gIb (gR ?_))
         refine GoH.v (Vop.bin rfl rfl rfl rfl (bAdd (by omega)) rfl) ?_
         refine gMv ?_
         refine gE ?_
         refine GoH.subH (.cons _ (.cons _ (List.Sublist.refl _))) ?_
         refine IH (i + 1, some b', cap', xs ++ [nt (xs.getD kx 0#8)], sp') _ _ ⟨hm, by simp [hxl], (fun e => by cases e), hlen, fun k hk => ?_⟩ (by dsimp only; omega) ⟨rfl, rfl, rfl, rfl, rfl, trivial⟩ (List.Sublist.refl _)
         by_cases hk2 : k < xs.length
         · dsimp only; rw [getD_app_lt hk2]; exact hxs k hk2
         · have e : k = xs.length := by simp at hk; omega
           subst e
           dsimp only
           rw [getD_app_eq, hxl]; exact hv
        ·
         have n4 : ¬ c[i].op = 4 := by simpa using hc
         refine gS (gR ?_)
         refine gBi bEq ?_
         refine gAs ?_
         refine gE ?_
         refine GoH.cond rfl (fun hc => ?_) (fun hc => ?_)
         ·
          have ho : c[i].op = 5 := by simpa using hc
          rw [ho] at hY; exact absurd hY (by decide)
         ·
          have n5 : ¬ c[i].op = 5 := by simpa using hc
          refine gS (gR ?_)
          refine gBi bEq ?_
          refine gAs ?_
          refine gE ?_
          refine GoH.cond rfl (fun hc => ?_) (fun hc => ?_)
          ·
           have ho : c[i].op = 6 := by simpa using hc
           rw [ho] at hY; exact absurd hY (by decide)
          ·
           have n6 : ¬ c[i].op = 6 := by simpa using hc
           refine gS (gR ?_)
           refine gBi bEq ?_
           refine gAs ?_
           refine gE ?_
           refine GoH.cond rfl (fun hc => ?_) (fun hc => ?_)
           ·
            have ho : c[i].op = 7 := by simpa using hc
            rw [ho] at hY; exact absurd hY (by decide)
           ·
            have n7 : ¬ c[i].op = 7 := by simpa using hc
            refine gS (gR ?_)
            refine gBi bEq ?_
            refine gAs ?_
            refine gE ?_
            refine GoH.cond rfl (fun hc => ?_) (fun hc => ?_)
            ·
             have ho : c[i].op = 8 := by simpa using hc
             rw [ho] at hY; exact absurd hY (by decide)
            ·
             have n8 : ¬ c[i].op = 8 := by simpa using hc
             refine gS (gR ?_)
             refine gBi bEq ?_
             refine gAs ?_
             refine gE ?_
             refine GoH.cond rfl (fun hc => ?_) (fun hc => ?_)
             ·
              have ho : c[i].op = 9 := by simpa using hc
              have hFk := hF.ag (by rw [ho]; rfl)
              obtain ⟨ki, hki⟩ : ∃ k : Nat, c[i].i = (k : Int) := ⟨c[i].i.toNat, by omega⟩
              have hki2 : c[i].i.toNat = ki := by omega
              have hpw : 1 * 2 ^ ki < 16 := by
                have : ki = 0 ∨ ki = 1 ∨ ki = 2 ∨ ki = 3 := by omega
                rcases this with rfl | rfl | rfl | rfl <;> decide
              refine GoH.drawCh 8 mixed ?_
              refine RdC.v (i := 0) (Vop.ldB rfl rfl rfl rfl Try.isAgg43 1 rfl Try.sizeOf43 rfl) rfl rfl (by repeat (first | exact List.Sublist.refl _ | exact List.nil_sublist _ | refine List.Sublist.cons_cons _ ?_ | refine List.Sublist.cons _ ?_)) ?_
              refine RdC.v (i := 1) (Vop.fldP rfl rfl rfl rfl Try.underlying49 rfl (by exact Try.sizeOf3) 1 rfl) rfl rfl (by repeat (first | exact List.Sublist.refl _ | exact List.nil_sublist _ | refine List.Sublist.cons_cons _ ?_ | refine List.Sublist.cons _ ?_)) ?_
              refine RdC.v (i := 2) (Vop.ldo rfl rfl rfl rfl Try.isAgg3 0 rfl rfl) rfl rfl (by repeat (first | exact List.Sublist.refl _ | exact List.nil_sublist _ | refine List.Sublist.cons_cons _ ?_ | refine List.Sublist.cons _ ?_)) ?_
              refine RdC.v (i := 3) (Vop.bin rfl rfl rfl rfl (bShlN (x := 1) (j := ki) hki (by omega) (by omega)) rfl) rfl rfl (by repeat (first | exact List.Sublist.refl _ | exact List.nil_sublist _ | refine List.Sublist.cons_cons _ ?_ | refine List.Sublist.cons _ ?_)) ?_
              refine RdC.v (i := 4) (Vop.mv rfl rfl rfl rfl) rfl rfl (by repeat (first | exact List.Sublist.refl _ | exact List.nil_sublist _ | refine List.Sublist.cons_cons _ ?_ | refine List.Sublist.cons _ ?_)) ?_
              refine RdC.callP (i := 5) rfl rfl rfl rfl rfl rfl (fun _ _ => Try.call68 _ _) (fun w _ hS => (by exact after_c m (1 * 2 ^ ki) hpw false (xs.getD kx 0#8) w)) (by repeat (first | exact List.Sublist.refl _ | exact List.nil_sublist _ | refine List.Sublist.cons_cons _ ?_ | refine List.Sublist.cons _ ?_)) ?_
              have hv : af m (1 * 2 ^ ki) false (xs.getD kx 0#8) = truM m (treeAt c i) := by rw [hgx, hun, ho, Nat.one_mul, ← hki2]; rfl
              refine RdC.v (i := 6) (Vop.asg rfl rfl rfl rfl) rfl rfl (by repeat (first | exact List.Sublist.refl _ | exact List.nil_sublist _ | refine List.Sublist.cons_cons _ ?_ | refine List.Sublist.cons _ ?_)) ?_
              refine RdC.done rfl ?_
              refine gE (gIb (gR ?_))
              iterate 2 refine gMv ?_
              refine GoH.bsN (c := [_]) rfl rfl rfl rfl Try.underlying64 Try.sizeOf5 Try.zeroValue5 rfl rfl (fun b128 => ?_)
              refine GoH.appE B (news := [af m (1 * 2 ^ ki) false (xs.getD kx 0#8)]) (spn := []) (xs := xs) (sp := sp) (q := (some bq)) rfl rfl rfl rfl rfl Try.underlying64 hi1 hz1 hsz1 rfl hq 4 rfl 0 rfl hcap rfl (by decide) (fun _ => rfl) (by simp [maxLen]; omega) (by simp [hby1]; omega) (fun b' sp' cap' hlen => ?_)
              refine gAs ?_
              refine gE (gIb (gR ?_))
              refine GoH.v (Vop.bin rfl rfl rfl rfl (bAdd (by omega)) rfl) ?_
              refine gMv ?_
              refine gE ?_
              refine GoH.subH (.cons _ (.cons _ (List.Sublist.refl _))) ?_
              refine IH (i + 1, some b', cap', xs ++ [af m (1 * 2 ^ ki) false (xs.getD kx 0#8)], sp') _ _ ⟨hm, by simp [hxl], (fun e => by cases e), hlen, fun k hk => ?_⟩ (by dsimp only; omega) ⟨rfl, rfl, rfl, rfl, rfl, trivial⟩ (List.Sublist.refl _)
              by_cases hk2 : k < xs.length
              · dsimp only; rw [getD_app_lt hk2]; exact hxs k hk2
              · have e : k = xs.length := by simp at hk; omega
                subst e
                dsimp only
                rw [getD_app_eq, hxl]; exact hv
             ·
              have n9 : ¬ c[i].op = 9 := by simpa using hc
              refine gS (gR ?_)
              refine gBi bEq ?_
              refine gAs ?_
              refine gE ?_
              refine GoH.cond rfl (fun hc => ?_) (fun hc => ?_)
              ·
               have ho : c[i].op = 10 := by simpa using hc
               have hFk := hF.ag (by rw [ho]; rfl)
               obtain ⟨ki, hki⟩ : ∃ k : Nat, c[i].i = (k : Int) := ⟨c[i].i.toNat, by omega⟩
               have hki2 : c[i].i.toNat = ki := by omega
               have hpw : 1 * 2 ^ ki < 16 := by
                 have : ki = 0 ∨ ki = 1 ∨ ki = 2 ∨ ki = 3 := by omega
                 rcases this with rfl | rfl | rfl | rfl <;> decide
               refine GoH.drawCh 10 mixed ?_
               refine RdC.v (i := 0) (Vop.ldB rfl rfl rfl rfl Try.isAgg43 1 rfl Try.sizeOf43 rfl) rfl rfl (by repeat (first | exact List.Sublist.refl _ | exact List.nil_sublist _ | refine List.Sublist.cons_cons _ ?_ | refine List.Sublist.cons _ ?_)) ?_
               refine RdC.v (i := 1) (Vop.fldP rfl rfl rfl rfl Try.underlying49 rfl (by exact Try.sizeOf3) 1 rfl) rfl rfl (by repeat (first | exact List.Sublist.refl _ | exact List.nil_sublist _ | refine List.Sublist.cons_cons _ ?_ | refine List.Sublist.cons _ ?_)) ?_
               refine RdC.v (i := 2) (Vop.ldo rfl rfl rfl rfl Try.isAgg3 0 rfl rfl) rfl rfl (by repeat (first | exact List.Sublist.refl _ | exact List.nil_sublist _ | refine List.Sublist.cons_cons _ ?_ | refine List.Sublist.cons _ ?_)) ?_
               refine RdC.v (i := 3) (Vop.bin rfl rfl rfl rfl (bShlN (x := 1) (j := ki) hki (by omega) (by omega)) rfl) rfl rfl (by repeat (first | exact List.Sublist.refl _ | exact List.nil_sublist _ | refine List.Sublist.cons_cons _ ?_ | refine List.Sublist.cons _ ?_)) ?_
               refine RdC.v (i := 4) (Vop.mv rfl rfl rfl rfl) rfl rfl (by repeat (first | exact List.Sublist.refl _ | exact List.nil_sublist _ | refine List.Sublist.cons_cons _ ?_ | refine List.Sublist.cons _ ?_)) ?_
               refine RdC.v (i := 5) (Vop.bin rfl rfl rfl rfl (bAndNotB (x := 15#8) (y := xs.getD kx 0#8)) rfl) rfl rfl (by repeat (first | exact List.Sublist.refl _ | exact List.nil_sublist _ | refine List.Sublist.cons_cons _ ?_ | refine List.Sublist.cons _ ?_)) ?_
               refine RdC.callP (i := 6) rfl rfl rfl rfl rfl rfl (fun _ _ => Try.call68 _ _) (fun w _ hS => (by exact after_c m (1 * 2 ^ ki) hpw false (nt (xs.getD kx 0#8)) w)) (by repeat (first | exact List.Sublist.refl _ | exact List.nil_sublist _ | refine List.Sublist.cons_cons _ ?_ | refine List.Sublist.cons _ ?_)) ?_
               refine RdC.v (i := 7) (Vop.bin rfl rfl rfl rfl (bAndNotB (x := 15#8) (y := af m (1 * 2 ^ ki) false (nt (xs.getD kx 0#8)))) rfl) rfl rfl (by repeat (first | exact List.Sublist.refl _ | exact List.nil_sublist _ | refine List.Sublist.cons_cons _ ?_ | refine List.Sublist.cons _ ?_)) ?_
               have hv : nt (af m (1 * 2 ^ ki) false (nt (xs.getD kx 0#8))) = truM m (treeAt c i) := by rw [hgx, hun, ho, Nat.one_mul, ← hki2]; rfl
               refine RdC.v (i := 8) (Vop.asg rfl rfl rfl rfl) rfl rfl (by repeat (first | exact List.Sublist.refl _ | exact List.nil_sublist _ | refine List.Sublist.cons_cons _ ?_ | refine List.Sublist.cons _ ?_)) ?_
               refine RdC.done rfl ?_
               refine gE (gIb (gR ?_))
               iterate 2 refine gMv ?_
               refine GoH.bsN (c := [_]) rfl rfl rfl rfl Try.underlying64 Try.sizeOf5 Try.zeroValue5 rfl rfl (fun b128 => ?_)
               refine GoH.appE B (news := [nt (af m (1 * 2 ^ ki) false (nt (xs.getD kx 0#8)))]) (spn := []) (xs := xs) (sp := sp) (q := (some bq)) rfl rfl rfl rfl rfl Try.underlying64 hi1 hz1 hsz1 rfl hq 4 rfl 0 rfl hcap rfl (by decide) (fun _ => rfl) (by simp [maxLen]; omega) (by simp [hby1]; omega) (fun b' sp' cap' hlen => ?_)
               refine gAs ?_
               refine gE (gIb (gR ?_))
               refine GoH.v (Vop.bin rfl rfl rfl rfl (bAdd (by omega)) rfl) ?_
               refine gMv ?_
               refine gE ?_
               refine GoH.subH (.cons _ (.cons _ (List.Sublist.refl _))) ?_
               refine IH (i + 1, some b', cap', xs ++ [nt (af m (1 * 2 ^ ki) false (nt (xs.getD kx 0#8)))], sp') _ _ ⟨hm, by simp [hxl], (fun e => by cases e), hlen, fun k hk => ?_⟩ (by dsimp only; omega) ⟨rfl, rfl, rfl, rfl, rfl, trivial⟩ (List.Sublist.refl _)
               by_cases hk2 : k < xs.length
               · dsimp only; rw [getD_app_lt hk2]; exact hxs k hk2
               · have e : k = xs.length := by simp at hk; omega
                 subst e
                 dsimp only
                 rw [getD_app_eq, hxl]; exact hv
              ·
               have n10 : ¬ c[i].op = 10 := by simpa using hc
               refine gS (gR ?_)
               refine gBi bEq ?_
               refine gAs ?_
               refine gE ?_
               refine GoH.cond rfl (fun hc => ?_) (fun hc => ?_)
               ·
                have ho : c[i].op = 11 := by simpa using hc
                have hFg := hF.gr (by rw [ho]; rfl)
                obtain ⟨kg, hkg⟩ : ∃ k : Nat, c[i].g = (k : Int) := ⟨c[i].g.toNat, by omega⟩
                have hkg2 : c[i].g.toNat = kg := by omega
                refine gR ?_
                refine GoH.v (Vop.ldB rfl rfl rfl rfl Try.isAgg43 1 rfl Try.sizeOf43 rfl) ?_
                refine gFp Try.underlying49 Try.sizeOf3 3 ?_
                refine gLo Try.isAgg3 0 ?_
                refine gMv ?_
                refine GoH.callP rfl rfl rfl rfl rfl (fun _ _ => Try.call68 _ _) (fun w _ hS => (by
                have := after_c m kg (by omega) false (xs.getD kx 0#8) w
                rw [← hkg] at this; exact this)) ?_
                have hv : af m kg false (xs.getD kx 0#8) = truM m (treeAt c i) := by rw [hgx, hun, ho, ← hkg2]; rfl
                refine gAs ?_
                refine gE (gIb (gR ?_))
                iterate 2 refine gMv ?_
                refine GoH.bsN (c := [_]) rfl rfl rfl rfl Try.underlying64 Try.sizeOf5 Try.zeroValue5 rfl rfl (fun b128 => ?_)
                refine GoH.appE B (news := [af m kg false (xs.getD kx 0#8)]) (spn := []) (xs := xs) (sp := sp) (q := (some bq)) rfl rfl rfl rfl rfl Try.underlying64 hi1 hz1 hsz1 rfl hq 4 rfl 0 rfl hcap rfl (by decide) (fun _ => rfl) (by simp [maxLen]; omega) (by simp [hby1]; omega) (fun b' sp' cap' hlen => ?_)
                refine gAs ?_
                refine gE (gIb (gR ?_))
                refine GoH.v (Vop.bin rfl rfl rfl rfl (bAdd (by omega)) rfl) ?_
                refine gMv ?_
                refine gE ?_
                refine GoH.subH (.cons _ (.cons _ (List.Sublist.refl _))) ?_
                refine IH (i + 1, some b', cap', xs ++ [af m kg false (xs.getD kx 0#8)], sp') _ _ ⟨hm, by simp [hxl], (fun e => by cases e), hlen, fun k hk => ?_⟩ (by dsimp only; omega) ⟨rfl, rfl, rfl, rfl, rfl, trivial⟩ (List.Sublist.refl _)
                by_cases hk2 : k < xs.length
                · dsimp only; rw [getD_app_lt hk2]; exact hxs k hk2
                · have e : k = xs.length := by simp at hk; omega
                  subst e
                  dsimp only
                  rw [getD_app_eq, hxl]; exact hv
               ·
                have n11 : ¬ c[i].op = 11 := by simpa using hc
                refine gS (gR ?_)
                refine gBi bEq ?_
                refine gAs ?_
                refine gE ?_
                refine GoH.cond rfl (fun hc => ?_) (fun hc => ?_)
                ·
                 have ho : c[i].op = 12 := by simpa using hc
                 have hFg := hF.gr (by rw [ho]; rfl)
                 obtain ⟨kg, hkg⟩ : ∃ k : Nat, c[i].g = (k : Int) := ⟨c[i].g.toNat, by omega⟩
                 have hkg2 : c[i].g.toNat = kg := by omega
                 refine gR ?_
                 refine GoH.v (Vop.ldB rfl rfl rfl rfl Try.isAgg43 1 rfl Try.sizeOf43 rfl) ?_
                 refine gFp Try.underlying49 Try.sizeOf3 3 ?_
                 refine gLo Try.isAgg3 0 ?_
                 refine gMv ?_
                 refine GoH.callP rfl rfl rfl rfl rfl (fun _ _ => Try.call68 _ _) (fun w _ hS => (by
                 have := after_c m kg (by omega) true (xs.getD kx 0#8) w
                 rw [← hkg] at this; exact this)) ?_
                 have hv : af m kg true (xs.getD kx 0#8) = truM m (treeAt c i) := by rw [hgx, hun, ho, ← hkg2]; rfl
                 refine gAs ?_
                 refine gE (gIb (gR ?_))
                 iterate 2 refine gMv ?_
                 refine GoH.bsN (c := [_]) rfl rfl rfl rfl Try.underlying64 Try.sizeOf5 Try.zeroValue5 rfl rfl (fun b128 => ?_)
                 refine GoH.appE B (news := [af m kg true (xs.getD kx 0#8)]) (spn := []) (xs := xs) (sp := sp) (q := (some bq)) rfl rfl rfl rfl rfl Try.underlying64 hi1 hz1 hsz1 rfl hq 4 rfl 0 rfl hcap rfl (by decide) (fun _ => rfl) (by simp [maxLen]; omega) (by simp [hby1]; omega) (fun b' sp' cap' hlen => ?_)
                 refine gAs ?_
                 refine gE (gIb (gR ?_))
                 refine GoH.v (Vop.bin rfl rfl rfl rfl (bAdd (by omega)) rfl) ?_
                 refine gMv ?_
                 refine gE ?_
                 refine GoH.subH (.cons _ (.cons _ (List.Sublist.refl _))) ?_
                 refine IH (i + 1, some b', cap', xs ++ [af m kg true (xs.getD kx 0#8)], sp') _ _ ⟨hm, by simp [hxl], (fun e => by cases e), hlen, fun k hk => ?_⟩ (by dsimp only; omega) ⟨rfl, rfl, rfl, rfl, rfl, trivial⟩ (List.Sublist.refl _)
                 by_cases hk2 : k < xs.length
                 · dsimp only; rw [getD_app_lt hk2]; exact hxs k hk2
                 · have e : k = xs.length := by simp at hk; omega
                   subst e
                   dsimp only
                   rw [getD_app_eq, hxl]; exact hv
                ·
                 have n12 : ¬ c[i].op = 12 := by simpa using hc
                 refine gS (gR ?_)
                 refine gBi bEq ?_
                 refine gAs ?_
                 refine gE ?_
                 refine GoH.cond rfl (fun hc => ?_) (fun hc => ?_)
                 ·
                  have ho : c[i].op = 13 := by simpa using hc
                  rw [ho] at hY; exact absurd hY (by decide)
                 ·
                  have n13 : ¬ c[i].op = 13 := by simpa using hc
                  omega
   ·
    have hX : usX c[i].op = false := hc
    have hY := usX_of_Y hX
    rw [if_neg (by rw [hX]; simp), if_neg (by rw [hY]; simp)] at hun
    refine gK (gS (gS (gR ?_)))
    refine gFp Try.underlying49 Try.sizeOf3 0 ?_
    refine gLo Try.isAgg3 0 ?_
    refine GoH.callP rfl rfl rfl rfl rfl (fun _ _ => Try.call43 _ _) (fun w _ hS => (by exact usesY_c c[i].op w)) ?_
    refine gE ?_
    refine GoH.cond rfl (fun hc => ?_) (fun hc => ?_)
    ·
     exact absurd (hY.symm.trans hc) (by decide)
    ·
     refine gK (gS (gS (gR ?_)))
     refine gFp Try.underlying49 Try.sizeOf3 0 ?_
     refine gLo Try.isAgg3 0 ?_
     refine gE (gB (gS (gR ?_)))
     refine gBi bEq ?_
     refine gAs ?_
     refine gE ?_
     refine GoH.cond rfl (fun hc => ?_) (fun hc => ?_)
     ·
      have ho : c[i].op = 1 := by simpa using hc
      have hv : 15#8 = truM m (treeAt c i) := by rw [hun, ho]; rfl
      refine gR ?_
      refine gAs ?_
      refine gE (gIb (gR ?_))
      iterate 2 refine gMv ?_
      refine GoH.bsN (c := [_]) rfl rfl rfl rfl Try.underlying64 Try.sizeOf5 Try.zeroValue5 rfl rfl (fun b128 => ?_)
      refine GoH.appE B (news := [15#8]) (spn := []) (xs := xs) (sp := sp) (q := q) rfl rfl rfl rfl rfl Try.underlying64 hi1 hz1 hsz1 rfl hq 4 rfl 0 rfl hcap rfl (by decide) (fun _ => rfl) (by simp [maxLen]; omega) (by simp [hby1]; omega) (fun b' sp' cap' hlen => ?_)
      refine gAs ?_
      refine gE (gIb (gR ?_))
      refine GoH.v (Vop.bin rfl rfl rfl rfl (bAdd (by omega)) rfl) ?_
      refine gMv ?_
      refine gE ?_
      refine GoH.subH (.cons _ (.cons _ (List.Sublist.refl _))) ?_
      refine IH (i + 1, some b', cap', xs ++ [15#8], sp') _ _ ⟨hm, by simp [hxl], (fun e => by cases e), hlen, fun k hk => ?_⟩ (by dsimp only; omega) ⟨rfl, rfl, rfl, rfl, rfl, trivial⟩ (List.Sublist.refl _)
      by_cases hk2 : k < xs.length
      · dsimp only; rw [getD_app_lt hk2]; exact hxs k hk2
      · have e : k = xs.length := by simp at hk; omega
        subst e
        dsimp only
        rw [getD_app_eq, hxl]; exact hv
     ·
      have n1 : ¬ c[i].op = 1 := by simpa using hc
      refine gS (gR ?_)
      refine gBi bEq ?_
      refine gAs ?_
      refine gE ?_
      refine GoH.cond rfl (fun hc => ?_) (fun hc => ?_)
      ·
       have ho : c[i].op = 2 := by simpa using hc
       have hv : 0#8 = truM m (treeAt c i) := by rw [hun, ho]; rfl
       refine gK (gIb (gR ?_))
       iterate 2 refine gMv ?_
       refine GoH.bsN (c := [_]) rfl rfl rfl rfl Try.underlying64 Try.sizeOf5 Try.zeroValue5 rfl rfl (fun b128 => ?_)
       refine GoH.appE B (news := [0#8]) (spn := []) (xs := xs) (sp := sp) (q := q) rfl rfl rfl rfl rfl Try.underlying64 hi1 hz1 hsz1 rfl hq 4 rfl 0 rfl hcap rfl (by decide) (fun _ => rfl) (by simp [maxLen]; omega) (by simp [hby1]; omega) (fun b' sp' cap' hlen => ?_)
       refine gAs ?_
       refine gE (gIb (gR ?_))
       refine GoH.v (Vop.bin rfl rfl rfl rfl (bAdd (by omega)) rfl) ?_
       refine gMv ?_
       refine gE ?_
       refine GoH.subH (.cons _ (.cons _ (List.Sublist.refl _))) ?_
       refine IH (i + 1, some b', cap', xs ++ [0#8], sp') _ _ ⟨hm, by simp [hxl], (fun e => by cases e), hlen, fun k hk => ?_⟩ (by dsimp only; omega) ⟨rfl, rfl, rfl, rfl, rfl, trivial⟩ (List.Sublist.refl _)
       by_cases hk2 : k < xs.length
       · dsimp only; rw [getD_app_lt hk2]; exact hxs k hk2
       · have e : k = xs.length := by simp at hk; omega
         subst e
         dsimp only
         rw [getD_app_eq, hxl]; exact hv
      ·
       have n2 : ¬ c[i].op = 2 := by simpa using hc
       refine gS (gR ?_)
       refine gBi bEq ?_
       refine gAs ?_
       refine gE ?_
       refine GoH.cond rfl (fun hc => ?_) (fun hc => ?_)
       ·
        have ho : c[i].op = 3 := by simpa using hc
        have hFk := hF.fact ho
        obtain ⟨kf, hkf⟩ : ∃ k : Nat, c[i].i = (k : Int) := ⟨c[i].i.toNat, by omega⟩
        have hv : fcB m kf 4 = truM m (treeAt c i) := by
          rw [hun, ho, show kf = c[i].i.toNat from by omega]; rfl
        refine gS (gR ?_)
        refine gMv ?_
        refine gE (gB ?_)
        refine GoH.loop (σ := Nat) (fun k => [(2, .pointer (some ⟨b2, 0, none⟩)), (6, osv q xs.length cap), (8, .pointer (some ⟨b8, 0, none⟩)), (11, B (fcB m kf k)), (14, osv (some bc) c.length capc), (15, .int .i64 c.length), (16, .int .i64 i), (44, .int .i64 k)])
          (fun _ => [(some b8, .cells (NV.cells c[i]).toArray 49 (0, 0)), (some b2, .cells (w4c m) 43 (0, 0)), (some bc, obN 49 c spc), (q, ob B 5 xs sp)]) (fun k => k ≤ 4) (fun k => 4 - k) 0 (Nat.zero_le _) ⟨rfl, rfl, rfl, rfl, rfl, rfl, rfl, rfl, trivial⟩ (List.Sublist.refl _) (fun k hk IHk => ?_)
        refine gS (gR ?_)
        refine gBi bLt ?_
        refine gE (gS ?_)
        refine GoH.cond rfl (fun hc => ?_) (fun hc => ?_)
        ·
         have hk4 : k < 4 := by simp at hc; omega
         refine gK (gS (gB (gS (gR ?_))))
         refine gMv ?_
         refine gAs ?_
         refine gE ?_
         refine GoH.drawCh 14 mixed ?_
         refine RdC.v (i := 0) (Vop.mv rfl rfl rfl rfl) rfl rfl (by repeat (first | exact List.Sublist.refl _ | exact List.nil_sublist _ | refine List.Sublist.cons_cons _ ?_ | refine List.Sublist.cons _ ?_)) ?_
         refine RdC.v (i := 1) (Vop.mv rfl rfl rfl rfl) rfl rfl (by repeat (first | exact List.Sublist.refl _ | exact List.nil_sublist _ | refine List.Sublist.cons_cons _ ?_ | refine List.Sublist.cons _ ?_)) ?_
         refine RdC.v (i := 2) (Vop.idxAN rfl rfl rfl rfl rfl Try.underlying43 Try.sizeOf42 k rfl hk4 (3 * k) (by omega)) rfl rfl (by repeat (first | exact List.Sublist.refl _ | exact List.nil_sublist _ | refine List.Sublist.cons_cons _ ?_ | refine List.Sublist.cons _ ?_)) ?_
         refine RdC.v (i := 3) (Vop.fldP rfl rfl rfl rfl Try.underlying42 rfl (by exact Try.sizeOf5) (3 * k) rfl) rfl rfl (by repeat (first | exact List.Sublist.refl _ | exact List.nil_sublist _ | refine List.Sublist.cons_cons _ ?_ | refine List.Sublist.cons _ ?_)) ?_
         refine RdC.v (i := 4) (Vop.ld rfl rfl rfl rfl Try.isAgg5 (fun w _ hS => w4_at (hS.get (j := 1) rfl) (by omega))) rfl rfl (by repeat (first | exact List.Sublist.refl _ | exact List.nil_sublist _ | refine List.Sublist.cons_cons _ ?_ | refine List.Sublist.cons _ ?_)) ?_
         refine RdC.v (i := 5) (Vop.fldP rfl rfl rfl rfl Try.underlying49 rfl (by exact Try.sizeOf3) 1 rfl) rfl rfl (by repeat (first | exact List.Sublist.refl _ | exact List.nil_sublist _ | refine List.Sublist.cons_cons _ ?_ | refine List.Sublist.cons _ ?_)) ?_
         refine RdC.v (i := 6) (Vop.ldo rfl rfl rfl rfl Try.isAgg3 0 rfl rfl) rfl rfl (by repeat (first | exact List.Sublist.refl _ | exact List.nil_sublist _ | refine List.Sublist.cons_cons _ ?_ | refine List.Sublist.cons _ ?_)) ?_
         refine RdC.v (i := 7) (Vop.bin rfl rfl rfl rfl (bShrB (x := m (3 * k)) kf hkf) rfl) rfl rfl (by repeat (first | exact List.Sublist.refl _ | exact List.nil_sublist _ | refine List.Sublist.cons_cons _ ?_ | refine List.Sublist.cons _ ?_)) ?_
         refine RdC.v (i := 8) (Vop.bin rfl rfl rfl rfl (bAndB (y := 1#8)) rfl) rfl rfl (by repeat (first | exact List.Sublist.refl _ | exact List.nil_sublist _ | refine List.Sublist.cons_cons _ ?_ | refine List.Sublist.cons _ ?_)) ?_
         refine RdC.v (i := 9) (Vop.mv rfl rfl rfl rfl) rfl rfl (by repeat (first | exact List.Sublist.refl _ | exact List.nil_sublist _ | refine List.Sublist.cons_cons _ ?_ | refine List.Sublist.cons _ ?_)) ?_
         refine RdC.v (i := 10) (Vop.bin rfl rfl rfl rfl (bShlB (x := (m (3 * k) >>> kf) &&& 1#8) k rfl) rfl) rfl rfl (by repeat (first | exact List.Sublist.refl _ | exact List.nil_sublist _ | refine List.Sublist.cons_cons _ ?_ | refine List.Sublist.cons _ ?_)) ?_
         refine RdC.v (i := 11) (Vop.bin rfl rfl rfl rfl (bOrB (x := fcB m kf k)) rfl) rfl rfl (by repeat (first | exact List.Sublist.refl _ | exact List.nil_sublist _ | refine List.Sublist.cons_cons _ ?_ | refine List.Sublist.cons _ ?_)) ?_
         refine RdC.v (i := 12) (Vop.asg rfl rfl rfl rfl) rfl rfl (by repeat (first | exact List.Sublist.refl _ | exact List.nil_sublist _ | refine List.Sublist.cons_cons _ ?_ | refine List.Sublist.cons _ ?_)) ?_
         refine RdC.done rfl ?_
         refine gE (gIb (gR ?_))
         refine GoH.v (Vop.bin rfl rfl rfl rfl (bAdd (by omega)) rfl) ?_
         refine gMv ?_
         refine gE ?_
         exact IHk (k + 1) _ _ (by omega) (by omega) ⟨rfl, rfl, rfl, rfl, rfl, rfl, rfl, rfl, trivial⟩ (List.Sublist.refl _)
        ·
         have hge : k = 4 := by simp at hc; omega
         subst hge
         refine GoH.exit rfl (gIb (gR ?_))
         iterate 2 refine gMv ?_
         refine GoH.bsN (c := [_]) rfl rfl rfl rfl Try.underlying64 Try.sizeOf5 Try.zeroValue5 rfl rfl (fun b128 => ?_)
         refine GoH.appE B (news := [fcB m kf 4]) (spn := []) (xs := xs) (sp := sp) (q := q) rfl rfl rfl rfl rfl Try.underlying64 hi1 hz1 hsz1 rfl hq 4 rfl 0 rfl hcap rfl (by decide) (fun _ => rfl) (by simp [maxLen]; omega) (by simp [hby1]; omega) (fun b' sp' cap' hlen => ?_)
         refine gAs ?_
         refine gE (gIb (gR ?_))
         refine GoH.v (Vop.bin rfl rfl rfl rfl (bAdd (by omega)) rfl) ?_
         refine gMv ?_
         refine gE ?_
         refine GoH.subH (.cons _ (.cons _ (List.Sublist.refl _))) ?_
         refine IH (i + 1, some b', cap', xs ++ [fcB m kf 4], sp') _ _ ⟨hm, by simp [hxl], (fun e => by cases e), hlen, fun k hk => ?_⟩ (by dsimp only; omega) ⟨rfl, rfl, rfl, rfl, rfl, trivial⟩ (List.Sublist.refl _)
         by_cases hk2 : k < xs.length
         · dsimp only; rw [getD_app_lt hk2]; exact hxs k hk2
         · have e : k = xs.length := by simp at hk; omega
           subst e
           dsimp only
           rw [getD_app_eq, hxl]; exact hv
       ·
        have n3 : ¬ c[i].op = 3 := by simpa using hc
        refine gS (gR ?_)
        refine gBi bEq ?_
        refine gAs ?_
        refine gE ?_
        refine GoH.cond rfl (fun hc => ?_) (fun hc => ?_)
        ·
         have ho : c[i].op = 4 := by simpa using hc
         rw [ho] at hX; exact absurd hX (by decide)
        ·
         have n4 : ¬ c[i].op = 4 := by simpa using hc
         refine gS (gR ?_)
         refine gBi bEq ?_
         refine gAs ?_
         refine gE ?_
         refine GoH.cond rfl (fun hc => ?_) (fun hc => ?_)
         ·
          have ho : c[i].op = 5 := by simpa using hc
          rw [ho] at hX; exact absurd hX (by decide)
         ·
          have n5 : ¬ c[i].op = 5 := by simpa using hc
          refine gS (gR ?_)
          refine gBi bEq ?_
          refine gAs ?_
          refine gE ?_
          refine GoH.cond rfl (fun hc => ?_) (fun hc => ?_)
          ·
           have ho : c[i].op = 6 := by simpa using hc
           rw [ho] at hX; exact absurd hX (by decide)
          ·
           have n6 : ¬ c[i].op = 6 := by simpa using hc
           refine gS (gR ?_)
           refine gBi bEq ?_
           refine gAs ?_
           refine gE ?_
           refine GoH.cond rfl (fun hc => ?_) (fun hc => ?_)
           ·
            have ho : c[i].op = 7 := by simpa using hc
            rw [ho] at hX; exact absurd hX (by decide)
           ·
            have n7 : ¬ c[i].op = 7 := by simpa using hc
            refine gS (gR ?_)
            refine gBi bEq ?_
            refine gAs ?_
            refine gE ?_
            refine GoH.cond rfl (fun hc => ?_) (fun hc => ?_)
            ·
             have ho : c[i].op = 8 := by simpa using hc
             rw [ho] at hX; exact absurd hX (by decide)
            ·
             have n8 : ¬ c[i].op = 8 := by simpa using hc
             refine gS (gR ?_)
             refine gBi bEq ?_
             refine gAs ?_
             refine gE ?_
             refine GoH.cond rfl (fun hc => ?_) (fun hc => ?_)
             ·
              have ho : c[i].op = 9 := by simpa using hc
              rw [ho] at hX; exact absurd hX (by decide)
             ·
              have n9 : ¬ c[i].op = 9 := by simpa using hc
              refine gS (gR ?_)
              refine gBi bEq ?_
              refine gAs ?_
              refine gE ?_
              refine GoH.cond rfl (fun hc => ?_) (fun hc => ?_)
              ·
               have ho : c[i].op = 10 := by simpa using hc
               rw [ho] at hX; exact absurd hX (by decide)
              ·
               have n10 : ¬ c[i].op = 10 := by simpa using hc
               refine gS (gR ?_)
               refine gBi bEq ?_
               refine gAs ?_
               refine gE ?_
               refine GoH.cond rfl (fun hc => ?_) (fun hc => ?_)
               ·
                have ho : c[i].op = 11 := by simpa using hc
                rw [ho] at hX; exact absurd hX (by decide)
               ·
                have n11 : ¬ c[i].op = 11 := by simpa using hc
                refine gS (gR ?_)
                refine gBi bEq ?_
                refine gAs ?_
                refine gE ?_
                refine GoH.cond rfl (fun hc => ?_) (fun hc => ?_)
                ·
                 have ho : c[i].op = 12 := by simpa using hc
                 rw [ho] at hX; exact absurd hX (by decide)
                ·
                 have n12 : ¬ c[i].op = 12 := by simpa using hc
                 refine gS (gR ?_)
                 refine gBi bEq ?_
                 refine gAs ?_
                 refine gE ?_
                 refine GoH.cond rfl (fun hc => ?_) (fun hc => ?_)
                 ·
                  have ho : c[i].op = 13 := by simpa using hc
                  rw [ho] at hX; exact absurd hX (by decide)
                 ·
                  have n13 : ¬ c[i].op = 13 := by simpa using hc
                  omega
  ·
   have hge : ¬ i < c.length := by simp at hc; omega
   obtain rfl : i = c.length := by omega
   obtain ⟨bq, rfl⟩ : ∃ b, q = some b := by
     cases q with
     | none => have := (hq rfl).1; omega
     | some b => exact ⟨b, rfl⟩
   have hlast : c.length - 1 < xs.length := by omega
   have htop : xs.getD (c.length - 1) 0#8 = truM m (topT f) := by
     rw [hxs _ hlast, hct, canAt_top hT, ht]
   refine GoH.exit rfl (gS (gR ?_))
   iterate 2 refine gMv ?_
   refine gBl Try.underlying64 ?_
   refine GoH.v (Vop.bin rfl rfl rfl rfl (bSubE (c := ((c.length - 1 : Nat) : Int)) (by omega) (by omega)) rfl) ?_
   refine GoH.v (Vop.idxS rfl rfl rfl rfl rfl Try.underlying64 Try.sizeOf5 (c.length - 1) ⟨rfl, hlast⟩) ?_
   refine GoH.v (Vop.ldE B 0#8 rfl rfl rfl rfl Try.isAgg5 2 rfl hlast) ?_
   iterate 2 refine gAs ?_
   refine gE ?_
   refine GoH.ret Try.f31 Try.func31 rfl (fun w' hS => ?_)
   exact ⟨hS.ext, by rw [htop]; rfl⟩
end Go.Proofs.Ytkoipdlkkchmiaa
namespace Go.Proofs.Ytkoipdlkkchmiaa
open Go.RowKit Go.Proofs.Wit
/-! formulas with few operators -/
theorem notT_c (x : FV) (t : Tr) (w : World) (ha : FA w x.a x.f) (hf : x.f = bT t) (ht : t.ok) : Cn Try.prog 72 [x.v] w (fun v w' => OwnN 49 w w' v (bT (ntT t))) := by
  have := not_c x.a x.c x.f w ha (bT_max hf)
  rw [show bldF ⟨4, 0, 0, 0, 0, 0⟩ [x.f] = bT (ntT t) from by rw [hf]; exact bld_un ht (by decide) rfl rfl rfl] at this
  exact this
theorem andT_c (x y : FV) (t u : Tr) (w : World) (ha : FA w x.a x.f) (hf : x.f = bT t) (ht : t.ok) (hb : FA w y.a y.f) (hg : y.f = bT u) (hu : u.ok) : Cn Try.prog 73 [x.v, y.v] w (fun v w' => OwnN 49 w w' v (bT (.bin 5 0 0 0 t u))) := by
  have := and_c x.a x.c x.f y.a y.c y.f w ha (bT_max hf) hb (bT_max hg)
  rw [show bldF ⟨5, 0, 0, 0, 0, 0⟩ [x.f, y.f] = bT (.bin 5 0 0 0 t u) from by rw [hf, hg]; exact bld_bin ht hu (by decide) rfl rfl] at this
  exact this
theorem knowT_c (i : Int) (x : FV) (t : Tr) (w : World) (hi : 0 ≤ i ∧ i < 4) (ha : FA w x.a x.f) (hf : x.f = bT t) (ht : t.ok) : Cn Try.prog 76 [.int .i64 i, x.v] w (fun v w' => OwnN 49 w w' v (bT (.un 9 i 0 0 t))) := by
  have := know_c i x.a x.c x.f w ha (bT_max hf)
  rw [show bldF ⟨9, i, 0, 0, 0, 0⟩ [x.f] = bT (.un 9 i 0 0 t) from by rw [hf]; exact bld_un ht (by decide) rfl rfl (knP_ok (.inl rfl) hi ht).2.2.2.1] at this
  exact this
theorem falseT_c (w : World) : Cn Try.prog 75 [] w (fun v w' => OwnN 49 w w' v (bT (cT 2))) := by
  have := false_c w
  rw [show bldF ⟨2, 0, 0, 0, 0, 0⟩ [] = bT (cT 2) from bld0 (n := ⟨2, 0, 0, 0, 0, 0⟩) (by decide) rfl rfl rfl rfl] at this
  exact this
theorem without_c (x y : FV) (t u : Tr) (w : World) (ha : FA w x.a x.f) (hf : x.f = bT t) (ht : t.ok) (hb : FA w y.a y.f) (hg : y.f = bT u) (hu : u.ok) : Cn Try.prog 71 [x.v, y.v] w (fun v w' => OwnN 49 w w' v (bT (wiT t u))) := by
  refine Cn.of Try.func71 rfl rfl ?_
  refine gS (gR ?_)
  refine gAs ?_
  refine gE (gS (gR ?_))
  iterate 2 refine gMv ?_
  refine GoH.callM _ rfl rfl rfl rfl rfl (fun _ _ => Try.call72 _ _) (fun w _ hS => (by exact notT_c y u w (hb.ex0 hS.ext) hg hu)) ?_
  rintro v w1 w2 Y' hS he ho
  obtain ⟨q1, capq1, spq1, rfl, hq1, hcapq1, hS'⟩ := gainN hS he ho
  refine ⟨_, hS', ?_⟩
  refine GoH.callM _ rfl rfl rfl rfl rfl (fun _ _ => Try.call73 _ _) (fun w _ hS => (by exact andT_c x ⟨q1.map (fun b => ⟨b, 0, none⟩), capq1, bT (ntT u)⟩ t (ntT u) w (ha.ex0 hS.ext) hf ht (faAt hS 0 rfl (fun e => (hq1 e).1)) rfl (ntT_ok hu))) ?_
  rintro v w1 w2 Y' hS he ho
  obtain ⟨q2, capq2, spq2, rfl, hq2, hcapq2, hS'⟩ := gainN hS he ho
  refine ⟨_, hS', ?_⟩
  refine GoH.callM _ rfl rfl rfl rfl rfl (fun _ _ => Try.call72 _ _) (fun w _ hS => (by exact notT_c ⟨q2.map (fun b => ⟨b, 0, none⟩), capq2, bT (.bin 5 0 0 0 t (ntT u))⟩ (.bin 5 0 0 0 t (ntT u)) w (faAt hS 0 rfl (fun e => (hq2 e).1)) rfl (and_ok ht (ntT_ok hu)))) ?_
  rintro v w1 w2 Y' hS he ho
  obtain ⟨q3, capq3, spq3, rfl, hq3, hcapq3, hS'⟩ := gainN hS he ho
  refine ⟨_, hS', ?_⟩
  refine gAs ?_
  refine gE ?_
  refine GoH.ret Try.f71 Try.func71 rfl (fun w' hS => ?_)
  exact ⟨hS.ext, OwnN.mk hS 0 rfl rfl hq3 hcapq3⟩
theorem core2_r (bW : Nat) (w : World) (hb : w.heap[bW]? = some (.cells #[.func (.func 71) #[] #[]] 51 (0, 0))) :
    RulC Try.prog 49 corR 74 [.pointer (some ⟨bW, 0, none⟩)] w := by
  refine ⟨(fun _ _ => Try.call74 _ _), fun w1 hw n a b ta tb hop hf ha hb2 hna hnb => ?_⟩
  have hb := hw.keep hb
  clear hw
  obtain ⟨op, i, e, g, x, y⟩ := n
  dsimp only at hop hf ha hb2 hna hnb ⊢
  have HB : ∀ {w' : World} {j : Nat} {v : Value}, Ex [] w1 w' → (#[Value.func (.func 71) #[] #[]])[j]? = some v → w'.cell? ⟨bW, j, none⟩ = some v := fun e h => Ex.cellS e (by simp) hb h
  refine Cn.of Try.func74 rfl rfl ?_
  refine gS (gR ?_)
  refine GoH.bx rfl rfl rfl rfl (fun b4 => ?_)
  refine gAs ?_
  refine gE (gS (gS (gR ?_)))
  refine gFp Try.underlying49 Try.sizeOf3 0 ?_
  refine gLo Try.isAgg3 0 ?_
  refine gE (gB (gS (gR ?_)))
  refine gBi bEq ?_
  refine gAs ?_
  refine gE ?_
  refine GoH.cond rfl (fun hc => ?_) (fun hc => ?_)
  ·
   obtain rfl : op = 1 := by simpa using hc
   refine gS (gR ?_)
   refine GoH.callM _ rfl rfl rfl rfl rfl (fun _ _ => Try.call75 _ _) (fun w _ hS => (by exact falseT_c w)) ?_
   rintro v w1 w2 Y' hS he ho
   obtain ⟨q1, capq1, spq1, rfl, hq1, hcapq1, hS'⟩ := gainN hS he ho
   refine ⟨_, hS', ?_⟩
   refine GoH.callM _ rfl rfl rfl rfl rfl (fun _ _ => Try.call72 _ _) (fun w _ hS => (by exact notT_c ⟨q1.map (fun b => ⟨b, 0, none⟩), capq1, bT (cT 2)⟩ (cT 2) w (faAt hS 0 rfl (fun e => (hq1 e).1)) rfl (cT_ok (.inr rfl)))) ?_
   rintro v w1 w2 Y' hS he ho
   obtain ⟨q2, capq2, spq2, rfl, hq2, hcapq2, hS'⟩ := gainN hS he ho
   refine ⟨_, hS', ?_⟩
   refine gAs ?_
   refine gE ?_
   refine GoH.ret Try.f74 Try.func74 rfl (fun w' hS => ?_)
   exact ⟨hS.ext, RvP.own (OwnN.mk hS 0 rfl rfl hq2 hcapq2)⟩
  ·
   have n1 : ¬ op = 1 := by simpa using hc
   refine gS (gR ?_)
   refine gBi bEq ?_
   refine gAs ?_
   refine gE ?_
   refine GoH.cond rfl (fun hc => ?_) (fun hc => ?_)
   ·
    obtain rfl : op = 6 := by simpa using hc
    obtain ⟨hFa, hfa, hoa⟩ := ha rfl
    obtain ⟨hFb, hfb, hob⟩ := hb2 rfl
    refine gS ?_
    refine GoH.drawCh 7 mixed ?_
    refine RdC.v (i := 0) (Vop.ld (p := ⟨bW, 0, none⟩) rfl rfl rfl rfl Try.isAgg51 (fun w _ hS => HB hS.ext rfl)) rfl rfl (by repeat (first | exact List.Sublist.refl _ | exact List.nil_sublist _ | refine List.Sublist.cons_cons _ ?_ | refine List.Sublist.cons _ ?_)) ?_
    refine RdC.v (i := 1) (Vop.mv rfl rfl rfl rfl) rfl rfl (by repeat (first | exact List.Sublist.refl _ | exact List.nil_sublist _ | refine List.Sublist.cons_cons _ ?_ | refine List.Sublist.cons _ ?_)) ?_
    refine RdC.v (i := 3) (Vop.mv rfl rfl rfl rfl) rfl rfl (by repeat (first | exact List.Sublist.refl _ | exact List.nil_sublist _ | refine List.Sublist.cons_cons _ ?_ | refine List.Sublist.cons _ ?_)) ?_
    refine RdC.call (i := 2) _ rfl rfl rfl rfl rfl rfl (fun _ _ => Try.call72 _ _) (fun w _ hS => (by exact notT_c a ta w (hFa.ex0 hS.ext) hfa hoa)) ?_
    rintro v w1 w2 Y' hS he ho
    obtain ⟨q1, capq1, spq1, rfl, hq1, hcapq1, hS'⟩ := gainN hS he ho
    refine ⟨_, hS', (by repeat (first | exact List.Sublist.refl _ | refine List.Sublist.cons _ ?_)), ?_⟩
    refine RdC.call (i := 4) _ rfl rfl rfl rfl rfl rfl (fun _ _ => Try.call71 _ _) (fun w _ hS => (by exact without_c ⟨q1.map (fun b => ⟨b, 0, none⟩), capq1, bT (ntT ta)⟩ b (ntT ta) tb w (faAt hS 0 rfl (fun e => (hq1 e).1)) rfl (ntT_ok hoa) (hFb.ex0 hS.ext) hfb hob)) ?_
    rintro v w1 w2 Y' hS he ho
    obtain ⟨q2, capq2, spq2, rfl, hq2, hcapq2, hS'⟩ := gainN hS he ho
    refine ⟨_, hS', (by repeat (first | exact List.Sublist.refl _ | refine List.Sublist.cons _ ?_)), ?_⟩
    refine RdC.v (i := 5) (Vop.asg rfl rfl rfl rfl) rfl rfl (by repeat (first | exact List.Sublist.refl _ | exact List.nil_sublist _ | refine List.Sublist.cons_cons _ ?_ | refine List.Sublist.cons _ ?_)) ?_
    refine RdC.done rfl ?_
    refine gE ?_
    refine GoH.ret Try.f74 Try.func74 rfl (fun w' hS => ?_)
    exact ⟨hS.ext, RvP.own (OwnN.mk hS 0 rfl rfl hq2 hcapq2)⟩
   ·
    have n6 : ¬ op = 6 := by simpa using hc
    refine gS (gR ?_)
    refine gBi bEq ?_
    refine gAs ?_
    refine gE ?_
    refine GoH.cond rfl (fun hc => ?_) (fun hc => ?_)
    ·
     obtain rfl : op = 7 := by simpa using hc
     obtain ⟨hFa, hfa, hoa⟩ := ha rfl
     obtain ⟨hFb, hfb, hob⟩ := hb2 rfl
     refine gS (gR ?_)
     refine GoH.v (Vop.ld (p := ⟨bW, 0, none⟩) rfl rfl rfl rfl Try.isAgg51 (fun w _ hS => HB hS.ext rfl)) ?_
     iterate 2 refine gMv ?_
     refine GoH.callM _ rfl rfl rfl rfl rfl (fun _ _ => Try.call71 _ _) (fun w _ hS => (by exact without_c a b ta tb w (hFa.ex0 hS.ext) hfa hoa (hFb.ex0 hS.ext) hfb hob)) ?_
     rintro v w1 w2 Y' hS he ho
     obtain ⟨q1, capq1, spq1, rfl, hq1, hcapq1, hS'⟩ := gainN hS he ho
     refine ⟨_, hS', ?_⟩
     refine gAs ?_
     refine gE ?_
     refine GoH.ret Try.f74 Try.func74 rfl (fun w' hS => ?_)
     exact ⟨hS.ext, RvP.own (OwnN.mk hS 0 rfl rfl hq1 hcapq1)⟩
    ·
     have n7 : ¬ op = 7 := by simpa using hc
     refine gS (gR ?_)
     refine gBi bEq ?_
     refine gAs ?_
     refine gE ?_
     refine GoH.cond rfl (fun hc => ?_) (fun hc => ?_)
     ·
      obtain rfl : op = 8 := by simpa using hc
      obtain ⟨hFa, hfa, hoa⟩ := ha rfl
      obtain ⟨hFb, hfb, hob⟩ := hb2 rfl
      refine gS ?_
      refine GoH.drawCh 11 mixed ?_
      refine RdC.v (i := 0) (Vop.ld (p := ⟨bW, 0, none⟩) rfl rfl rfl rfl Try.isAgg51 (fun w _ hS => HB hS.ext rfl)) rfl rfl (by repeat (first | exact List.Sublist.refl _ | exact List.nil_sublist _ | refine List.Sublist.cons_cons _ ?_ | refine List.Sublist.cons _ ?_)) ?_
      refine RdC.v (i := 1) (Vop.mv rfl rfl rfl rfl) rfl rfl (by repeat (first | exact List.Sublist.refl _ | exact List.nil_sublist _ | refine List.Sublist.cons_cons _ ?_ | refine List.Sublist.cons _ ?_)) ?_
      refine RdC.v (i := 2) (Vop.mv rfl rfl rfl rfl) rfl rfl (by repeat (first | exact List.Sublist.refl _ | exact List.nil_sublist _ | refine List.Sublist.cons_cons _ ?_ | refine List.Sublist.cons _ ?_)) ?_
      refine RdC.v (i := 4) (Vop.ld (p := ⟨bW, 0, none⟩) rfl rfl rfl rfl Try.isAgg51 (fun w _ hS => HB hS.ext rfl)) rfl rfl (by repeat (first | exact List.Sublist.refl _ | exact List.nil_sublist _ | refine List.Sublist.cons_cons _ ?_ | refine List.Sublist.cons _ ?_)) ?_
      refine RdC.v (i := 5) (Vop.mv rfl rfl rfl rfl) rfl rfl (by repeat (first | exact List.Sublist.refl _ | exact List.nil_sublist _ | refine List.Sublist.cons_cons _ ?_ | refine List.Sublist.cons _ ?_)) ?_
      refine RdC.v (i := 6) (Vop.mv rfl rfl rfl rfl) rfl rfl (by repeat (first | exact List.Sublist.refl _ | exact List.nil_sublist _ | refine List.Sublist.cons_cons _ ?_ | refine List.Sublist.cons _ ?_)) ?_
      refine RdC.call (i := 3) _ rfl rfl rfl rfl rfl rfl (fun _ _ => Try.call71 _ _) (fun w _ hS => (by exact without_c a b ta tb w (hFa.ex0 hS.ext) hfa hoa (hFb.ex0 hS.ext) hfb hob)) ?_
      rintro v w1 w2 Y' hS he ho
      obtain ⟨q1, capq1, spq1, rfl, hq1, hcapq1, hS'⟩ := gainN hS he ho
      refine ⟨_, hS', (by repeat (first | exact List.Sublist.refl _ | refine List.Sublist.cons _ ?_)), ?_⟩
      refine RdC.call (i := 7) _ rfl rfl rfl rfl rfl rfl (fun _ _ => Try.call71 _ _) (fun w _ hS => (by exact without_c b a tb ta w (hFb.ex0 hS.ext) hfb hob (hFa.ex0 hS.ext) hfa hoa)) ?_
      rintro v w1 w2 Y' hS he ho
      obtain ⟨q2, capq2, spq2, rfl, hq2, hcapq2, hS'⟩ := gainN hS he ho
      refine ⟨_, hS', (by repeat (first | exact List.Sublist.refl _ | refine List.Sublist.cons _ ?_)), ?_⟩
      refine RdC.call (i := 8) _ rfl rfl rfl rfl rfl rfl (fun _ _ => Try.call73 _ _) (fun w _ hS => (by exact andT_c ⟨q1.map (fun b => ⟨b, 0, none⟩), capq1, bT (wiT ta tb)⟩ ⟨q2.map (fun b => ⟨b, 0, none⟩), capq2, bT (wiT tb ta)⟩ (wiT ta tb) (wiT tb ta) w (faAt hS 1 rfl (fun e => (hq1 e).1)) rfl (wiT_ok hoa hob) (faAt hS 0 rfl (fun e => (hq2 e).1)) rfl (wiT_ok hob hoa))) ?_
      rintro v w1 w2 Y' hS he ho
      obtain ⟨q3, capq3, spq3, rfl, hq3, hcapq3, hS'⟩ := gainN hS he ho
      refine ⟨_, hS', (by repeat (first | exact List.Sublist.refl _ | refine List.Sublist.cons _ ?_)), ?_⟩
      refine RdC.v (i := 9) (Vop.asg rfl rfl rfl rfl) rfl rfl (by repeat (first | exact List.Sublist.refl _ | exact List.nil_sublist _ | refine List.Sublist.cons_cons _ ?_ | refine List.Sublist.cons _ ?_)) ?_
      refine RdC.done rfl ?_
      refine gE ?_
      refine GoH.ret Try.f74 Try.func74 rfl (fun w' hS => ?_)
      exact ⟨hS.ext, RvP.own (OwnN.mk hS 0 rfl rfl hq3 hcapq3)⟩
     ·
      have n8 : ¬ op = 8 := by simpa using hc
      refine gS (gR ?_)
      refine gBi bEq ?_
      refine gAs ?_
      refine gE ?_
      refine GoH.cond rfl (fun hc => ?_) (fun hc => ?_)
      ·
       obtain rfl : op = 10 := by simpa using hc
       obtain ⟨hFa, hfa, hoa⟩ := ha rfl
       have hag := (fldOk_of hf).ag rfl
       refine gS ?_
       refine GoH.drawCh 8 mixed ?_
       refine RdC.v (i := 0) (Vop.fldP rfl rfl rfl rfl Try.underlying49 rfl (by exact Try.sizeOf3) 1 rfl) rfl rfl (by repeat (first | exact List.Sublist.refl _ | exact List.nil_sublist _ | refine List.Sublist.cons_cons _ ?_ | refine List.Sublist.cons _ ?_)) ?_
       refine RdC.v (i := 1) (Vop.ldo rfl rfl rfl rfl Try.isAgg3 0 rfl rfl) rfl rfl (by repeat (first | exact List.Sublist.refl _ | exact List.nil_sublist _ | refine List.Sublist.cons_cons _ ?_ | refine List.Sublist.cons _ ?_)) ?_
       refine RdC.v (i := 2) (Vop.mv rfl rfl rfl rfl) rfl rfl (by repeat (first | exact List.Sublist.refl _ | exact List.nil_sublist _ | refine List.Sublist.cons_cons _ ?_ | refine List.Sublist.cons _ ?_)) ?_
       refine RdC.call (i := 3) _ rfl rfl rfl rfl rfl rfl (fun _ _ => Try.call72 _ _) (fun w _ hS => (by exact notT_c a ta w (hFa.ex0 hS.ext) hfa hoa)) ?_
       rintro v w1 w2 Y' hS he ho
       obtain ⟨q1, capq1, spq1, rfl, hq1, hcapq1, hS'⟩ := gainN hS he ho
       refine ⟨_, hS', (by repeat (first | exact List.Sublist.refl _ | refine List.Sublist.cons _ ?_)), ?_⟩
       refine RdC.call (i := 4) _ rfl rfl rfl rfl rfl rfl (fun _ _ => Try.call76 _ _) (fun w _ hS => (by exact knowT_c i ⟨q1.map (fun b => ⟨b, 0, none⟩), capq1, bT (ntT ta)⟩ (ntT ta) w hag (faAt hS 0 rfl (fun e => (hq1 e).1)) rfl (ntT_ok hoa))) ?_
       rintro v w1 w2 Y' hS he ho
       obtain ⟨q2, capq2, spq2, rfl, hq2, hcapq2, hS'⟩ := gainN hS he ho
       refine ⟨_, hS', (by repeat (first | exact List.Sublist.refl _ | refine List.Sublist.cons _ ?_)), ?_⟩
       refine RdC.call (i := 5) _ rfl rfl rfl rfl rfl rfl (fun _ _ => Try.call72 _ _) (fun w _ hS => (by exact notT_c ⟨q2.map (fun b => ⟨b, 0, none⟩), capq2, bT (.un 9 i 0 0 (ntT ta))⟩ (.un 9 i 0 0 (ntT ta)) w (faAt hS 0 rfl (fun e => (hq2 e).1)) rfl (knP_ok (.inl rfl) hag (ntT_ok hoa)))) ?_
       rintro v w1 w2 Y' hS he ho
       obtain ⟨q3, capq3, spq3, rfl, hq3, hcapq3, hS'⟩ := gainN hS he ho
       refine ⟨_, hS', (by repeat (first | exact List.Sublist.refl _ | refine List.Sublist.cons _ ?_)), ?_⟩
       refine RdC.v (i := 6) (Vop.asg rfl rfl rfl rfl) rfl rfl (by repeat (first | exact List.Sublist.refl _ | exact List.nil_sublist _ | refine List.Sublist.cons_cons _ ?_ | refine List.Sublist.cons _ ?_)) ?_
       refine RdC.done rfl ?_
       refine gE ?_
       refine GoH.ret Try.f74 Try.func74 rfl (fun w' hS => ?_)
       exact ⟨hS.ext, RvP.own (OwnN.mk hS 0 rfl rfl hq3 hcapq3)⟩
      ·
       have n10 : ¬ op = 10 := by simpa using hc
       refine gK (gIb (gS (gR ?_)))
       refine GoH.v (Vop.ldB rfl rfl rfl rfl Try.isAgg49 0 rfl Try.sizeOf49 rfl) ?_
       iterate 2 refine gMv ?_
       refine GoH.callM _ rfl rfl rfl rfl rfl (fun _ _ => Try.call51 _ _) (fun w _ hS => (by exact rbuild0_c op i e g x y a b ta tb w hop hf (ha.ex0 hS.ext) (hb2.ex0 hS.ext))) ?_
       rintro v w1 w2 Y' hS he ho
       obtain ⟨q1, capq1, spq1, rfl, hq1, hcapq1, hS'⟩ := gainN hS he ho
       refine ⟨_, hS', ?_⟩
       refine gAs ?_
       refine gE ?_
       refine GoH.ret Try.f74 Try.func74 rfl (fun w' hS => ?_)
       exact ⟨hS.ext, by rw [corR, if_neg n1, if_neg n6, if_neg n7, if_neg n8, if_neg n10]; exact RvP.own (OwnN.mk hS 0 rfl rfl hq1 hcapq1)⟩
theorem core_c (a : Option Addr) (ca : Nat) (f : List NV) (w : World) (ha : FA w a f) (hl : f.length ≤ maxLen) : Cn Try.prog 33 [.slice a f.length ca] w (fun v w' => ∃ sv o e, v = .tuple #[sv, .int .i64 e] ∧ OwnN 49 w w' sv o ∧ UpP corR f o e) := by
  refine Cn.of Try.func33 rfl rfl ?_
  refine gS (gR ?_)
  iterate 2 refine gAs ?_
  refine gE (gS (gR ?_))
  refine GoH.alc rfl rfl rfl (fun _ => Try.zeroValue51 _) (fun b4 => ?_)
  refine GoH.st rfl rfl rfl rfl Try.sizeOf51 rfl 0 rfl rfl ?_
  refine gE (gS (gR ?_))
  refine gMv ?_
  refine GoH.v (Vop.mkFunc rfl rfl rfl rfl rfl) ?_
  refine GoH.callM _ rfl rfl rfl rfl rfl (fun _ _ => Try.call40 _ _) (fun w _ hS => (by exact upward_c corR _ [.pointer (some ⟨b4, 0, none⟩)] a ca f w corR_ok (ha.ex0 hS.ext) hl (core2_r b4 w (hS.get (j := 0) rfl)))) ?_
  rintro v w1 w2 Y' hS he ⟨sv, o, e, rfl, ho, hup⟩
  obtain ⟨q, cap, sp, rfl, hq, hcap, hS'⟩ := gainN hS he ho
  refine ⟨_, hS', ?_⟩
  iterate 2 refine gEx ?_
  iterate 2 refine gAs ?_
  refine gE ?_
  refine GoH.ret Try.f33 Try.func33 rfl (fun w' hS => ?_)
  exact ⟨hS.ext, _, o, e, rfl, OwnN.mk hS 0 rfl rfl hq hcap, hup⟩
end Go.Proofs.Ytkoipdlkkchmiaa
