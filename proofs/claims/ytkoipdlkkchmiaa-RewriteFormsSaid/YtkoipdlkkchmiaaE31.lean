/- What calls of the program return, under the conditions that each theorem states. -/
import Derived.Test.YtkoipdlkkchmiaaE29
import Derived.Test.YtkoipdlkkchmiaaE30
import Derived.Test.YtkoipdlkkchmiaaE10
import Derived.Test.YtkoipdlkkchmiaaRows
import Derived.Test.YtkoipdlkkchmiaaE03
import Derived.Test.YtkoipdlkkchmiaaE22
import Derived.Test.YtkoipdlkkchmiaaE25
import Derived.Test.YtkoipdlkkchmiaaE15
import Derived.Test.YtkoipdlkkchmiaaE13
import Derived.Test.YtkoipdlkkchmiaaE19
import Derived.Test.YtkoipdlkkchmiaaE14
namespace Go.Proofs.Ytkoipdlkkchmiaa
open Go Go.RowKit Go.ChangeShapes Go.WideShapes Go.ChangeAt Go.Proofs.Wit
/-! from the contracts to the rows -/
theorem ownK : ownKnob Try.prog.godebug = none := by kernel_rfl
theorem laidOk : laidOutB Try.prog = true := by kernel_rfl
end Go.Proofs.Ytkoipdlkkchmiaa
namespace Go.Proofs.Ytkoipdlkkchmiaa
open Go.RowKit Go.Proofs.Wit
/-! formulas with few operators -/
theorem notT_c (x : FV) (t : Tr) (w : World) (ha : FA w x.a x.f) (hf : x.f = bT t) (ht : t.ok) : Cn Try.prog 72 [x.v] w (fun v w' => OwnN 49 w w' v (bT (ntT t))) := by
  have := not_c x.a x.c x.f w ha (bT_max hf)
  rw [show bldF ⟨4, 0, 0, 0, 0, 0⟩ [x.f] = bT (ntT t) from by rw [hf]; exact bld_un ht (by decide) rfl rfl rfl] at this
  exact this
theorem andT_c (x y : FV) (t u : Tr) (w : World) (ha : FA w x.a x.f) (hf : x.f = bT t) (ht : t.ok) (hb : FA w y.a y.f) (hg : y.f = bT u) (hu : u.ok) : Cn Try.prog 73 [x.v, y.v] w (fun v w' => OwnN 49 w w' v (bT (.bin 5 0 0 0 t u))) := by
  have := and_c x.a x.c x.f y.a y.c y.f w ha (bT_max hf) hb (bT_max hg)
  rw [show bldF ⟨5, 0, 0, 0, 0, 0⟩ [x.f, y.f] = bT (.bin 5 0 0 0 t u) from by rw [hf, hg]; exact bld_bin ht hu (by decide) rfl rfl] at this
  exact this
theorem knowT_c (i : Int) (x : FV) (t : Tr) (w : World) (hi : 0 ≤ i ∧ i < 4) (ha : FA w x.a x.f) (hf : x.f = bT t) (ht : t.ok) : Cn Try.prog 76 [.int .i64 i, x.v] w (fun v w' => OwnN 49 w w' v (bT (.un 9 i 0 0 t))) := by
  have := know_c i x.a x.c x.f w ha (bT_max hf)
  rw [show bldF ⟨9, i, 0, 0, 0, 0⟩ [x.f] = bT (.un 9 i 0 0 t) from by rw [hf]; exact bld_un ht (by decide) rfl rfl (knP_ok (.inl rfl) hi ht).2.2.2.1] at this
  exact this
theorem falseT_c (w : World) : Cn Try.prog 75 [] w (fun v w' => OwnN 49 w w' v (bT (cT 2))) := by
  have := false_c w
  rw [show bldF ⟨2, 0, 0, 0, 0, 0⟩ [] = bT (cT 2) from bld0 (n := ⟨2, 0, 0, 0, 0, 0⟩) (by decide) rfl rfl rfl rfl] at this
  exact this
theorem without_c (x y : FV) (t u : Tr) (w : World) (ha : FA w x.a x.f) (hf : x.f = bT t) (ht : t.ok) (hb : FA w y.a y.f) (hg : y.f = bT u) (hu : u.ok) : Cn Try.prog 71 [x.v, y.v] w (fun v w' => OwnN 49 w w' v (bT (wiT t u))) := by
  refine Cn.of Try.func71 rfl rfl ?_
  refine gS (gR ?_)
  refine gAs ?_
  refine gE (gS (gR ?_))
  iterate 2 refine gMv ?_
  refine GoH.callM _ rfl rfl rfl rfl rfl (fun _ _ => Try.call72 _ _) (fun w _ hS => (by exact notT_c y u w (hb.ex0 hS.ext) hg hu)) ?_
  rintro v w1 w2 Y' hS he ho
  obtain ⟨q1, capq1, spq1, rfl, hq1, hcapq1, hS'⟩ := gainN hS he ho
  refine ⟨_, hS', ?_⟩
  refine GoH.callM _ rfl rfl rfl rfl rfl (fun _ _ => Try.call73 _ _) (fun w _ hS => (by exact andT_c x ⟨q1.map (fun b => ⟨b, 0, none⟩), capq1, bT (ntT u)⟩ t (ntT u) w (ha.ex0 hS.ext) hf ht (faAt hS 0 rfl (fun e => (hq1 e).1)) rfl (ntT_ok hu))) ?_
  rintro v w1 w2 Y' hS he ho
  obtain ⟨q2, capq2, spq2, rfl, hq2, hcapq2, hS'⟩ := gainN hS he ho
  refine ⟨_, hS', ?_⟩
  refine GoH.callM _ rfl rfl rfl rfl rfl (fun _ _ => Try.call72 _ _) (fun w _ hS => (by exact notT_c ⟨q2.map (fun b => ⟨b, 0, none⟩), capq2, bT (.bin 5 0 0 0 t (ntT u))⟩ (.bin 5 0 0 0 t (ntT u)) w (faAt hS 0 rfl (fun e => (hq2 e).1)) rfl (and_ok ht (ntT_ok hu)))) ?_
  rintro v w1 w2 Y' hS he ho
  obtain ⟨q3, capq3, spq3, rfl, hq3, hcapq3, hS'⟩ := gainN hS he ho
  refine ⟨_, hS', ?_⟩
  refine gAs ?_
  refine gE ?_
  refine GoH.ret Try.f71 Try.func71 rfl (fun w' hS => ?_)
  exact ⟨hS.ext, OwnN.mk hS 0 rfl rfl hq3 hcapq3⟩
theorem core2_r (bW : Nat) (w : World) (hb : w.heap[bW]? = some (.cells #[.func (.func 71) #[] #[]] 51 (0, 0))) :
    RulC Try.prog 49 corR 74 [.pointer (some ⟨bW, 0, none⟩)] w := by
  refine ⟨(fun _ _ => Try.call74 _ _), fun w1 hw n a b ta tb hop hf ha hb2 hna hnb => ?_⟩
  have hb := hw.keep hb
  clear hw
  obtain ⟨op, i, e, g, x, y⟩ := n
  dsimp only at hop hf ha hb2 hna hnb ⊢
  have HB : ∀ {w' : World} {j : Nat} {v : Value}, Ex [] w1 w' → (#[Value.func (.func 71) #[] #[]])[j]? = some v → w'.cell? ⟨bW, j, none⟩ = some v := fun e h => Ex.cellS e (by simp) hb h
  refine Cn.of Try.func74 rfl rfl ?_
  refine gS (gR ?_)
  refine GoH.bx rfl rfl rfl rfl (fun b4 => ?_)
  refine gAs ?_
  refine gE (gS (gS (gR ?_)))
  refine gFp Try.underlying49 Try.sizeOf3 0 ?_
  refine gLo Try.isAgg3 0 ?_
  refine gE (gB (gS (gR ?_)))
  refine gBi bEq ?_
  refine gAs ?_
  refine gE ?_
  refine GoH.cond rfl (fun hc => ?_) (fun hc => ?_)
  ·
   obtain rfl : op = 1 := by simpa using hc
   refine gS (gR ?_)
   refine GoH.callM _ rfl rfl rfl rfl rfl (fun _ _ => Try.call75 _ _) (fun w _ hS => (by exact falseT_c w)) ?_
   rintro v w1 w2 Y' hS he ho
   obtain ⟨q1, capq1, spq1, rfl, hq1, hcapq1, hS'⟩ := gainN hS he ho
   refine ⟨_, hS', ?_⟩
   refine GoH.callM _ rfl rfl rfl rfl rfl (fun _ _ => Try.call72 _ _) (fun w _ hS => (by exact notT_c ⟨q1.map (fun b => ⟨b, 0, none⟩), capq1, bT (cT 2)⟩ (cT 2) w (faAt hS 0 rfl (fun e => (hq1 e).1)) rfl (cT_ok (.inr rfl)))) ?_
   rintro v w1 w2 Y' hS he ho
   obtain ⟨q2, capq2, spq2, rfl, hq2, hcapq2, hS'⟩ := gainN hS he ho
   refine ⟨_, hS', ?_⟩
   refine gAs ?_
   refine gE ?_
   refine GoH.ret Try.f74 Try.func74 rfl (fun w' hS => ?_)
   exact ⟨hS.ext, RvP.own (OwnN.mk hS 0 rfl rfl hq2 hcapq2)⟩
  ·
   have n1 : ¬ op = 1 := by simpa using hc
   refine gS (gR ?_)
   refine gBi bEq ?_
   refine gAs ?_
   refine gE ?_
   refine GoH.cond rfl (fun hc => ?_) (fun hc => ?_)
   ·
    obtain rfl : op = 6 := by simpa using hc
    obtain ⟨hFa, hfa, hoa⟩ := ha rfl
    obtain ⟨hFb, hfb, hob⟩ := hb2 rfl
    refine gS ?_
    refine GoH.drawCh 7 mixed ?_
    refine RdC.v (i := 0) (Vop.ld (p := ⟨bW, 0, none⟩) rfl rfl rfl rfl Try.isAgg51 (fun w _ hS => HB hS.ext rfl)) rfl rfl (by repeat (first | exact List.Sublist.refl _ | exact List.nil_sublist _ | refine List.Sublist.cons_cons _ ?_ | refine List.Sublist.cons _ ?_)) ?_
    refine RdC.v (i := 1) (Vop.mv rfl rfl rfl rfl) rfl rfl (by repeat (first | exact List.Sublist.refl _ | exact List.nil_sublist _ | refine List.Sublist.cons_cons _ ?_ | refine List.Sublist.cons _ ?_)) ?_
    refine RdC.v (i := 3) (Vop.mv rfl rfl rfl rfl) rfl rfl (by repeat (first | exact List.Sublist.refl _ | exact List.nil_sublist _ | refine List.Sublist.cons_cons _ ?_ | refine List.Sublist.cons _ ?_)) ?_
    refine RdC.call (i := 2) _ rfl rfl rfl rfl rfl rfl (fun _ _ => Try.call72 _ _) (fun w _ hS => (by exact notT_c a ta w (hFa.ex0 hS.ext) hfa hoa)) ?_
    rintro v w1 w2 Y' hS he ho
    obtain ⟨q1, capq1, spq1, rfl, hq1, hcapq1, hS'⟩ := gainN hS he ho
    refine ⟨_, hS', (by repeat (first | exact List.Sublist.refl _ | refine List.Sublist.cons _ ?_)), ?_⟩
    refine RdC.call (i := 4) _ rfl rfl rfl rfl rfl rfl (fun _ _ => Try.call71 _ _) (fun w _ hS => (by exact without_c ⟨q1.map (fun b => ⟨b, 0, none⟩), capq1, bT (ntT ta)⟩ b (ntT ta) tb w (faAt hS 0 rfl (fun e => (hq1 e).1)) rfl (ntT_ok hoa) (hFb.ex0 hS.ext) hfb hob)) ?_
    rintro v w1 w2 Y' hS he ho
    obtain ⟨q2, capq2, spq2, rfl, hq2, hcapq2, hS'⟩ := gainN hS he ho
    refine ⟨_, hS', (by repeat (first | exact List.Sublist.refl _ | refine List.Sublist.cons _ ?_)), ?_⟩
    refine RdC.v (i := 5) (Vop.asg rfl rfl rfl rfl) rfl rfl (by repeat (first | exact List.Sublist.refl _ | exact List.nil_sublist _ | refine List.Sublist.cons_cons _ ?_ | refine List.Sublist.cons _ ?_)) ?_
    refine RdC.done rfl ?_
    refine gE ?_
    refine GoH.ret Try.f74 Try.func74 rfl (fun w' hS => ?_)
    exact ⟨hS.ext, RvP.own (OwnN.mk hS 0 rfl rfl hq2 hcapq2)⟩
   ·
    have n6 : ¬ op = 6 := by simpa using hc
    refine gS (gR ?_)
    refine gBi bEq ?_
    refine gAs ?_
    refine gE ?_
    refine GoH.cond rfl (fun hc => ?_) (fun hc => ?_)
    ·
     obtain rfl : op = 7 := by simpa using hc
     obtain ⟨hFa, hfa, hoa⟩ := ha rfl
     obtain ⟨hFb, hfb, hob⟩ := hb2 rfl
     refine gS (gR ?_)
     refine GoH.v (Vop.ld (p := ⟨bW, 0, none⟩) rfl rfl rfl rfl Try.isAgg51 (fun w _ hS => HB hS.ext rfl)) ?_
     iterate 2 refine gMv ?_
     refine GoH.callM _ rfl rfl rfl rfl rfl (fun _ _ => Try.call71 _ _) (fun w _ hS => (by exact without_c a b ta tb w (hFa.ex0 hS.ext) hfa hoa (hFb.ex0 hS.ext) hfb hob)) ?_
     rintro v w1 w2 Y' hS he ho
     obtain ⟨q1, capq1, spq1, rfl, hq1, hcapq1, hS'⟩ := gainN hS he ho
     refine ⟨_, hS', ?_⟩
     refine gAs ?_
     refine gE ?_
     refine GoH.ret Try.f74 Try.func74 rfl (fun w' hS => ?_)
     exact ⟨hS.ext, RvP.own (OwnN.mk hS 0 rfl rfl hq1 hcapq1)⟩
    ·
     have n7 : ¬ op = 7 := by simpa using hc
     refine gS (gR ?_)
     refine gBi bEq ?_
     refine gAs ?_
     refine gE ?_
     refine GoH.cond rfl (fun hc => ?_) (fun hc => ?_)
     ·
      obtain rfl : op = 8 := by simpa using hc
      obtain ⟨hFa, hfa, hoa⟩ := ha rfl
      obtain ⟨hFb, hfb, hob⟩ := hb2 rfl
      refine gS ?_
      refine GoH.drawCh 11 mixed ?_
      refine RdC.v (i := 0) (Vop.ld (p := ⟨bW, 0, none⟩) rfl rfl rfl rfl Try.isAgg51 (fun w _ hS => HB hS.ext rfl)) rfl rfl (by repeat (first | exact List.Sublist.refl _ | exact List.nil_sublist _ | refine List.Sublist.cons_cons _ ?_ | refine List.Sublist.cons _ ?_)) ?_
      refine RdC.v (i := 1) (Vop.mv rfl rfl rfl rfl) rfl rfl (by repeat (first | exact List.Sublist.refl _ | exact List.nil_sublist _ | refine List.Sublist.cons_cons _ ?_ | refine List.Sublist.cons _ ?_)) ?_
      refine RdC.v (i := 2) (Vop.mv rfl rfl rfl rfl) rfl rfl (by repeat (first | exact List.Sublist.refl _ | exact List.nil_sublist _ | refine List.Sublist.cons_cons _ ?_ | refine List.Sublist.cons _ ?_)) ?_
      refine RdC.v (i := 4) (Vop.ld (p := ⟨bW, 0, none⟩) rfl rfl rfl rfl Try.isAgg51 (fun w _ hS => HB hS.ext rfl)) rfl rfl (by repeat (first | exact List.Sublist.refl _ | exact List.nil_sublist _ | refine List.Sublist.cons_cons _ ?_ | refine List.Sublist.cons _ ?_)) ?_
      refine RdC.v (i := 5) (Vop.mv rfl rfl rfl rfl) rfl rfl (by repeat (first | exact List.Sublist.refl _ | exact List.nil_sublist _ | refine List.Sublist.cons_cons _ ?_ | refine List.Sublist.cons _ ?_)) ?_
      refine RdC.v (i := 6) (Vop.mv rfl rfl rfl rfl) rfl rfl (by repeat (first | exact List.Sublist.refl _ | exact List.nil_sublist _ | refine List.Sublist.cons_cons _ ?_ | refine List.Sublist.cons _ ?_)) ?_
      refine RdC.call (i := 3) _ rfl rfl rfl rfl rfl rfl (fun _ _ => Try.call71 _ _) (fun w _ hS => (by exact without_c a b ta tb w (hFa.ex0 hS.ext) hfa hoa (hFb.ex0 hS.ext) hfb hob)) ?_
      rintro v w1 w2 Y' hS he ho
      obtain ⟨q1, capq1, spq1, rfl, hq1, hcapq1, hS'⟩ := gainN hS he ho
      refine ⟨_, hS', (by repeat (first | exact List.Sublist.refl _ | refine List.Sublist.cons _ ?_)), ?_⟩
      refine RdC.call (i := 7) _ rfl rfl rfl rfl rfl rfl (fun _ _ => Try.call71 _ _) (fun w _ hS => (by exact without_c b a tb ta w (hFb.ex0 hS.ext) hfb hob (hFa.ex0 hS.ext) hfa hoa)) ?_
      rintro v w1 w2 Y' hS he ho
      obtain ⟨q2, capq2, spq2, rfl, hq2, hcapq2, hS'⟩ := gainN hS he ho
      refine ⟨_, hS', (by repeat (first | exact List.Sublist.refl _ | refine List.Sublist.cons _ ?_)), ?_⟩
      refine RdC.call (i := 8) _ rfl rfl rfl rfl rfl rfl (fun _ _ => Try.call73 _ _) (fun w _ hS => (by exact andT_c ⟨q1.map (fun b => ⟨b, 0, none⟩), capq1, bT (wiT ta tb)⟩ ⟨q2.map (fun b => ⟨b, 0, none⟩), capq2, bT (wiT tb ta)⟩ (wiT ta tb) (wiT tb ta) w (faAt hS 1 rfl (fun e => (hq1 e).1)) rfl (wiT_ok hoa hob) (faAt hS 0 rfl (fun e => (hq2 e).1)) rfl (wiT_ok hob hoa))) ?_
      rintro v w1 w2 Y' hS he ho
      obtain ⟨q3, capq3, spq3, rfl, hq3, hcapq3, hS'⟩ := gainN hS he ho
      refine ⟨_, hS', (by repeat (first | exact List.Sublist.refl _ | refine List.Sublist.cons _ ?_)), ?_⟩
      refine RdC.v (i := 9) (Vop.asg rfl rfl rfl rfl) rfl rfl (by repeat (first | exact List.Sublist.refl _ | exact List.nil_sublist _ | refine List.Sublist.cons_cons _ ?_ | refine List.Sublist.cons _ ?_)) ?_
      refine RdC.done rfl ?_
      refine gE ?_
      refine GoH.ret Try.f74 Try.func74 rfl (fun w' hS => ?_)
      exact ⟨hS.ext, RvP.own (OwnN.mk hS 0 rfl rfl hq3 hcapq3)⟩
     ·
      have n8 : ¬ op = 8 := by simpa using hc
      refine gS (gR ?_)
      refine gBi bEq ?_
      refine gAs ?_
      refine gE ?_
      refine GoH.cond rfl (fun hc => ?_) (fun hc => ?_)
      ·
       obtain rfl : op = 10 := by simpa using hc
       obtain ⟨hFa, hfa, hoa⟩ := ha rfl
       have hag := (fldOk_of hf).ag rfl
       refine gS ?_
       refine GoH.drawCh 8 mixed ?_
       refine RdC.v (i := 0) (Vop.fldP rfl rfl rfl rfl Try.underlying49 rfl (by exact Try.sizeOf3) 1 rfl) rfl rfl (by repeat (first | exact List.Sublist.refl _ | exact List.nil_sublist _ | refine List.Sublist.cons_cons _ ?_ | refine List.Sublist.cons _ ?_)) ?_
       refine RdC.v (i := 1) (Vop.ldo rfl rfl rfl rfl Try.isAgg3 0 rfl rfl) rfl rfl (by repeat (first | exact List.Sublist.refl _ | exact List.nil_sublist _ | refine List.Sublist.cons_cons _ ?_ | refine List.Sublist.cons _ ?_)) ?_
       refine RdC.v (i := 2) (Vop.mv rfl rfl rfl rfl) rfl rfl (by repeat (first | exact List.Sublist.refl _ | exact List.nil_sublist _ | refine List.Sublist.cons_cons _ ?_ | refine List.Sublist.cons _ ?_)) ?_
       refine RdC.call (i := 3) _ rfl rfl rfl rfl rfl rfl (fun _ _ => Try.call72 _ _) (fun w _ hS => (by exact notT_c a ta w (hFa.ex0 hS.ext) hfa hoa)) ?_
       rintro v w1 w2 Y' hS he ho
       obtain ⟨q1, capq1, spq1, rfl, hq1, hcapq1, hS'⟩ := gainN hS he ho
       refine ⟨_, hS', (by repeat (first | exact List.Sublist.refl _ | refine List.Sublist.cons _ ?_)), ?_⟩
       refine RdC.call (i := 4) _ rfl rfl rfl rfl rfl rfl (fun _ _ => Try.call76 _ _) (fun w _ hS => (by exact knowT_c i ⟨q1.map (fun b => ⟨b, 0, none⟩), capq1, bT (ntT ta)⟩ (ntT ta) w hag (faAt hS 0 rfl (fun e => (hq1 e).1)) rfl (ntT_ok hoa))) ?_
       rintro v w1 w2 Y' hS he ho
       obtain ⟨q2, capq2, spq2, rfl, hq2, hcapq2, hS'⟩ := gainN hS he ho
       refine ⟨_, hS', (by repeat (first | exact List.Sublist.refl _ | refine List.Sublist.cons _ ?_)), ?_⟩
       refine RdC.call (i := 5) _ rfl rfl rfl rfl rfl rfl (fun _ _ => Try.call72 _ _) (fun w _ hS => (by exact notT_c ⟨q2.map (fun b => ⟨b, 0, none⟩), capq2, bT (.un 9 i 0 0 (ntT ta))⟩ (.un 9 i 0 0 (ntT ta)) w (faAt hS 0 rfl (fun e => (hq2 e).1)) rfl (knP_ok (.inl rfl) hag (ntT_ok hoa)))) ?_
       rintro v w1 w2 Y' hS he ho
       obtain ⟨q3, capq3, spq3, rfl, hq3, hcapq3, hS'⟩ := gainN hS he ho
       refine ⟨_, hS', (by repeat (first | exact List.Sublist.refl _ | refine List.Sublist.cons _ ?_)), ?_⟩
       refine RdC.v (i := 6) (Vop.asg rfl rfl rfl rfl) rfl rfl (by repeat (first | exact List.Sublist.refl _ | exact List.nil_sublist _ | refine List.Sublist.cons_cons _ ?_ | refine List.Sublist.cons _ ?_)) ?_
       refine RdC.done rfl ?_
       refine gE ?_
       refine GoH.ret Try.f74 Try.func74 rfl (fun w' hS => ?_)
       exact ⟨hS.ext, RvP.own (OwnN.mk hS 0 rfl rfl hq3 hcapq3)⟩
      ·
       have n10 : ¬ op = 10 := by simpa using hc
       refine gK (gIb (gS (gR ?_)))
       refine GoH.v (Vop.ldB rfl rfl rfl rfl Try.isAgg49 0 rfl Try.sizeOf49 rfl) ?_
       iterate 2 refine gMv ?_
       refine GoH.callM _ rfl rfl rfl rfl rfl (fun _ _ => Try.call51 _ _) (fun w _ hS => (by exact rbuild0_c op i e g x y a b ta tb w hop hf (ha.ex0 hS.ext) (hb2.ex0 hS.ext))) ?_
       rintro v w1 w2 Y' hS he ho
       obtain ⟨q1, capq1, spq1, rfl, hq1, hcapq1, hS'⟩ := gainN hS he ho
       refine ⟨_, hS', ?_⟩
       refine gAs ?_
       refine gE ?_
       refine GoH.ret Try.f74 Try.func74 rfl (fun w' hS => ?_)
       exact ⟨hS.ext, by rw [corR, if_neg n1, if_neg n6, if_neg n7, if_neg n8, if_neg n10]; exact RvP.own (OwnN.mk hS 0 rfl rfl hq1 hcapq1)⟩
theorem core_c (a : Option Addr) (ca : Nat) (f : List NV) (w : World) (ha : FA w a f) (hl : f.length ≤ maxLen) : Cn Try.prog 33 [.slice a f.length ca] w (fun v w' => ∃ sv o e, v = .tuple #[sv, .int .i64 e] ∧ OwnN 49 w w' sv o ∧ UpP corR f o e) := by
  refine Cn.of Try.func33 rfl rfl ?_
  refine gS (gR ?_)
  iterate 2 refine gAs ?_
  refine gE (gS (gR ?_))
  refine GoH.alc rfl rfl rfl (fun _ => Try.zeroValue51 _) (fun b4 => ?_)
  refine GoH.st rfl rfl rfl rfl Try.sizeOf51 rfl 0 rfl rfl ?_
  refine gE (gS (gR ?_))
  refine gMv ?_
  refine GoH.v (Vop.mkFunc rfl rfl rfl rfl rfl) ?_
  refine GoH.callM _ rfl rfl rfl rfl rfl (fun _ _ => Try.call40 _ _) (fun w _ hS => (by exact upward_c corR _ [.pointer (some ⟨b4, 0, none⟩)] a ca f w corR_ok (ha.ex0 hS.ext) hl (core2_r b4 w (hS.get (j := 0) rfl)))) ?_
  rintro v w1 w2 Y' hS he ⟨sv, o, e, rfl, ho, hup⟩
  obtain ⟨q, cap, sp, rfl, hq, hcap, hS'⟩ := gainN hS he ho
  refine ⟨_, hS', ?_⟩
  iterate 2 refine gEx ?_
  iterate 2 refine gAs ?_
  refine gE ?_
  refine GoH.ret Try.f33 Try.func33 rfl (fun w' hS => ?_)
  exact ⟨hS.ext, _, o, e, rfl, OwnN.mk hS 0 rfl rfl hq hcap, hup⟩
end Go.Proofs.Ytkoipdlkkchmiaa
namespace Go.Proofs.Ytkoipdlkkchmiaa
open Go.RowKit Go.Proofs.Wit
/-! the reference's masks, and which formulas fit -/
theorem rfew_c (a : Option Addr) (ca : Nat) (f : List NV) (x : Int) (w : World) : Cn Try.prog 10 [.slice a f.length ca, .int .i64 x] w (fun v _ => v = .bool (decide ((f.length : Int) ≤ x))) := by
  refine Cn.of Try.func10 rfl rfl ?_
  refine gS (gR ?_)
  refine gAs ?_
  refine gE (gS (gR ?_))
  refine gMv ?_
  refine gBl Try.underlying22 ?_
  refine gMv ?_
  refine gBi bLe ?_
  refine gAs ?_
  refine gE ?_
  refine GoH.ret Try.f10 Try.func10 rfl (fun w' hS => ?_)
  exact ⟨hS.ext, rfl⟩
theorem compF_nodes (f : List NV) : NodesOk (compF f) := by
  by_cases h : chkF f = 0
  · exact (compF_ok h).nodes
  · rw [compF, if_pos h]; intro i hi; exact absurd hi (Nat.not_lt_zero _)
end Go.Proofs.Ytkoipdlkkchmiaa
