/- What calls of the program return, under the conditions that each theorem states. -/
import Derived.Test.YtkoipdlkkchmiaaF24
import Derived.Test.YtkoipdlkkchmiaaF25
import Derived.Test.YtkoipdlkkchmiaaF03
namespace Go.Proofs.Ytkoipdlkkchmiaa
open Go.RowKit Go.Proofs.Wit
/-! negation normal forms -/
abbrev mpt (bk : Nat) : Value := .pointer (some ⟨bk, 0, none⟩)
abbrev NPreN (c : List NV) (na : Option Addr) (nc bk m0 m1 : Nat) (w : World) (L0 L1 : Nm) : Prop := NPre 49 71 c na nc bk m0 m1 w L0 L1
def OfOk (c : List NV) (na : Option Addr) (nc bk m0 m1 i : Nat) : Prop := ∀ (no : Bool) (w : World) (L0 L1 : Nm), NPreN c na nc bk m0 m1 w L0 L1 → CnS Try.prog 70 [mpt bk, .int .i64 i, .bool no] w (nmH m0 L0 m1 L1) (NfPost 49 c m0 m1 (i + 1) (pn no (nnT (treeAt c i))) L0 L1)
def PsOk (c : List NV) (na : Option Addr) (nc bk m0 m1 i : Nat) (hi : i < c.length) : Prop := ∀ (w : World) (L0 L1 : Nm), NPreN c na nc bk m0 m1 w L0 L1 → CnS Try.prog 114 [mpt bk, c[i].v] w (nmH m0 L0 m1 L1) (NfPost 49 c m0 m1 i (nnT (treeAt c i)).1 L0 L1)
def NgOk (c : List NV) (na : Option Addr) (nc bk m0 m1 i : Nat) (hi : i < c.length) : Prop := ∀ (w : World) (L0 L1 : Nm), NPreN c na nc bk m0 m1 w L0 L1 → CnS Try.prog 113 [mpt bk, c[i].v] w (nmH m0 L0 m1 L1) (NfPost 49 c m0 m1 i (nnT (treeAt c i)).2 L0 L1)

set_option maxRecDepth 8000 in
theorem ps_of {c : List NV} {na : Option Addr} {nc bk m0 m1 i : Nat} (hi : i < c.length) (hO : NodesOk c) (hOf : ∀ j, j < i → OfOk c na nc bk m0 m1 j) : PsOk c na nc bk m0 m1 i hi := by
  intro w L0 L1 hp
  have hok := hO i hi
  have hop := hok.op
  have hfl := hok.fld
  have hF := fldOk_of hfl
  have hK := kids_node hi hO
  have hch : ∀ k : Nat, k < i → (nnT (treeAt c k)).1.ok ∧ (nnT (treeAt c k)).2.ok := fun k hk => nnT_ok (hO.tree k (by omega))
  have g0 : NGrew 49 c i L0 L1 L0 L1 [] := NGrew.refl hp.memo
  refine CnS.of hp.has Try.func114 rfl rfl ?_
  rw [show blks (nmH m0 L0 m1 L1) = [m0, m1] from rfl]
  refine GoH.subH (h' := nmH m0 L0 m1 L1 ++ []) (List.Sublist.refl _) ?_
  refine gS (gR ?_)
  refine GoH.bx rfl rfl rfl rfl (fun b3 => ?_)
  refine gAs ?_
  refine gE (gS (gS (gR ?_)))
  refine gFp Try.underlying49 Try.sizeOf3 0 ?_
  refine gLo Try.isAgg3 0 ?_
  refine gE (gB (gS (gR ?_)))
  refine gBi bEq ?_
  refine gAs ?_
  refine gE ?_
  refine GoH.cond rfl (fun hc => ?_) (fun hc => ?_)
  ·
   have ho : c[i].op = 4 := by simpa using hc
   have hX : usX c[i].op = true := by rw [ho]; rfl
   have hY : usY c[i].op = false := by rw [ho]; rfl
   have hT : treeAt c i = .un c[i].op c[i].i c[i].e c[i].g (treeAt c c[i].x.toNat) := by
     rcases hK with ⟨h1, _⟩ | ⟨_, _, h1⟩ | ⟨h1, _⟩
     · rw [hX] at h1; cases h1
     · exact h1
     · rw [hY] at h1; cases h1
   have hrx := hok.x hX
   obtain ⟨kx, hkx⟩ : ∃ k : Nat, c[i].x = (k : Int) := ⟨c[i].x.toNat, by omega⟩
   have htx : c[i].x.toNat = kx := by omega
   rw [htx, ho] at hT
   refine gS (gR ?_)
   refine gMv ?_
   refine gFp Try.underlying49 Try.sizeOf3 4 ?_
   refine gLo Try.isAgg3 0 ?_
   refine GoH.nStep (D' := kx + 1) (u := (nnT (treeAt c kx)).2) hp g0 (by omega) rfl rfl rfl rfl rfl (fun _ _ => Try.call70 _ _) (fun w L0 L1 h => by have := hOf kx (by omega) true w L0 L1 h; rw [pn_t, ← hkx] at this; exact this) (fun fv1 La1 Lb1 F1 g1 hs1 hf1 hh1 => ?_)
   have ho1 : (nnT (treeAt c kx)).2.ok := (hch kx (by omega)).2
   refine gAs ?_
   refine gE ?_
   refine GoH.ret Try.f114 Try.func114 rfl (fun w' hS => ?_)
   refine nRet g1 ?_ hh1 hS
   rw [hf1, hT]; rfl
  ·
   have n4 : ¬ c[i].op = 4 := by simpa using hc
   refine gS (gR ?_)
   refine gBi bEq ?_
   refine gAs ?_
   refine gE ?_
   refine GoH.cond rfl (fun hc => ?_) (fun hc => ?_)
   ·
    have ho : c[i].op = 7 := by simpa using hc
    have hY : usY c[i].op = true := by rw [ho]; rfl
    have hX := usY_X hY
    have hT : treeAt c i = .bin c[i].op c[i].i c[i].e c[i].g (treeAt c c[i].x.toNat) (treeAt c c[i].y.toNat) := by
      rcases hK with ⟨h1, _⟩ | ⟨_, h1, _⟩ | ⟨_, h1⟩
      · rw [hX] at h1; cases h1
      · rw [hY] at h1; cases h1
      · exact h1
    have hrx := hok.x hX
    obtain ⟨kx, hkx⟩ : ∃ k : Nat, c[i].x = (k : Int) := ⟨c[i].x.toNat, by omega⟩
    have htx : c[i].x.toNat = kx := by omega
    have hry := hok.y hY
    obtain ⟨ky, hky⟩ : ∃ k : Nat, c[i].y = (k : Int) := ⟨c[i].y.toNat, by omega⟩
    have hty : c[i].y.toNat = ky := by omega
    rw [htx, hty, ho] at hT
    refine gS ?_
    refine GoH.drawXB [0, 1, 2, 4, 5, 6] 3 [7, 8, 9] mixed rfl ?_
    refine RdXB.v (fun _ => (Vop.mv rfl rfl rfl rfl)) ?_
    refine RdXB.v (fun _ => (Vop.fldP rfl rfl rfl rfl Try.underlying49 rfl (by exact Try.sizeOf3) 4 rfl)) ?_
    refine RdXB.v (fun _ => (Vop.ldo rfl rfl rfl rfl Try.isAgg3 0 rfl rfl)) ?_
    refine RdXB.v (fun _ => (Vop.mv rfl rfl rfl rfl)) ?_
    refine RdXB.v (fun _ => (Vop.fldP rfl rfl rfl rfl Try.underlying49 rfl (by exact Try.sizeOf3) 5 rfl)) ?_
    refine RdXB.v (fun _ => (Vop.ldo rfl rfl rfl rfl Try.isAgg3 0 rfl rfl)) ?_
    refine RdXB.nStep (D' := kx + 1) (u := (nnT (treeAt c kx)).2) hp g0 (by omega) rfl rfl rfl rfl rfl (fun _ _ => Try.call70 _ _) (fun w L0 L1 h => by have := hOf kx (by omega) true w L0 L1 h; rw [pn_t, ← hkx] at this; exact this) (fun fv1 La1 Lb1 F1 g1 hs1 hf1 hh1 => ?_)
    have ho1 : (nnT (treeAt c kx)).2.ok := (hch kx (by omega)).2
    refine GoH.nStep (D' := ky + 1) (u := (nnT (treeAt c ky)).1) hp g1 (by omega) rfl rfl rfl rfl rfl (fun _ _ => Try.call70 _ _) (fun w L0 L1 h => by have := hOf ky (by omega) false w L0 L1 h; rw [pn_f, ← hky] at this; exact this) (fun fv2 La2 Lb2 F2 g2 hs2 hf2 hh2 => ?_)
    replace hh1 := hs2 _ hh1
    have ho2 : (nnT (treeAt c ky)).1.ok := (hch ky (by omega)).1
    refine GoH.nMk (u := .bin 6 0 0 0 (nnT (treeAt c kx)).2 (nnT (treeAt c ky)).1) g2 rfl rfl rfl rfl rfl (fun _ _ => Try.call91 _ _) (fun w _ hS => ?_) (fun fv3 F3 g3 hs3 hf3 hh3 => ?_)
    · have := or_c fv1.a fv1.c fv1.f fv2.a fv2.c fv2.f w (hh1.fa hp g2 hS.ext hS (fun _ h => List.mem_cons_of_mem _ (List.mem_append_right _ h))) (bT_max hf1) (hh2.fa hp g2 hS.ext hS (fun _ h => List.mem_cons_of_mem _ (List.mem_append_right _ h))) (bT_max hf2)
      rw [show bldF ⟨6, 0, 0, 0, 0, 0⟩ [fv1.f, fv2.f] = bT (.bin 6 0 0 0 (nnT (treeAt c kx)).2 (nnT (treeAt c ky)).1) from by rw [hf1, hf2]; exact bld_bin ho1 ho2 (by decide) rfl rfl] at this; exact this
    replace hh1 := hs3 _ hh1
    replace hh2 := hs3 _ hh2
    have ho3 : (Tr.bin 6 0 0 0 (nnT (treeAt c kx)).2 (nnT (treeAt c ky)).1).ok := or_ok ho1 ho2
    refine gAs ?_
    refine gE ?_
    refine GoH.ret Try.f114 Try.func114 rfl (fun w' hS => ?_)
    refine nRet g3 ?_ hh3 hS
    rw [hf3, hT]; rfl
   ·
    have n7 : ¬ c[i].op = 7 := by simpa using hc
    refine gS (gR ?_)
    refine gBi bEq ?_
    refine gAs ?_
    refine gE ?_
    refine GoH.cond rfl (fun hc => ?_) (fun hc => ?_)
    ·
     have ho : c[i].op = 8 := by simpa using hc
     have hY : usY c[i].op = true := by rw [ho]; rfl
     have hX := usY_X hY
     have hT : treeAt c i = .bin c[i].op c[i].i c[i].e c[i].g (treeAt c c[i].x.toNat) (treeAt c c[i].y.toNat) := by
       rcases hK with ⟨h1, _⟩ | ⟨_, h1, _⟩ | ⟨_, h1⟩
       · rw [hX] at h1; cases h1
       · rw [hY] at h1; cases h1
       · exact h1
     have hrx := hok.x hX
     obtain ⟨kx, hkx⟩ : ∃ k : Nat, c[i].x = (k : Int) := ⟨c[i].x.toNat, by omega⟩
     have htx : c[i].x.toNat = kx := by omega
     have hry := hok.y hY
     obtain ⟨ky, hky⟩ : ∃ k : Nat, c[i].y = (k : Int) := ⟨c[i].y.toNat, by omega⟩
     have hty : c[i].y.toNat = ky := by omega
     rw [htx, hty, ho] at hT
     refine gS ?_
     refine GoH.drawC1 21 mixed ?_
     refine RdC.v (i := 0) (Vop.mv rfl rfl rfl rfl) rfl rfl (by repeat (first | exact List.Sublist.refl _ | exact List.nil_sublist _ | refine List.Sublist.cons_cons _ ?_ | refine List.Sublist.cons _ ?_)) ?_
     refine RdC.v (i := 1) (Vop.fldP rfl rfl rfl rfl Try.underlying49 rfl (by exact Try.sizeOf3) 4 rfl) rfl rfl (by repeat (first | exact List.Sublist.refl _ | exact List.nil_sublist _ | refine List.Sublist.cons_cons _ ?_ | refine List.Sublist.cons _ ?_)) ?_
     refine RdC.v (i := 2) (Vop.ldo rfl rfl rfl rfl Try.isAgg3 0 rfl rfl) rfl rfl (by repeat (first | exact List.Sublist.refl _ | exact List.nil_sublist _ | refine List.Sublist.cons_cons _ ?_ | refine List.Sublist.cons _ ?_)) ?_
     refine RdC.v (i := 4) (Vop.mv rfl rfl rfl rfl) rfl rfl (by repeat (first | exact List.Sublist.refl _ | exact List.nil_sublist _ | refine List.Sublist.cons_cons _ ?_ | refine List.Sublist.cons _ ?_)) ?_
     refine RdC.v (i := 5) (Vop.fldP rfl rfl rfl rfl Try.underlying49 rfl (by exact Try.sizeOf3) 5 rfl) rfl rfl (by repeat (first | exact List.Sublist.refl _ | exact List.nil_sublist _ | refine List.Sublist.cons_cons _ ?_ | refine List.Sublist.cons _ ?_)) ?_
     refine RdC.v (i := 6) (Vop.ldo rfl rfl rfl rfl Try.isAgg3 0 rfl rfl) rfl rfl (by repeat (first | exact List.Sublist.refl _ | exact List.nil_sublist _ | refine List.Sublist.cons_cons _ ?_ | refine List.Sublist.cons _ ?_)) ?_
     refine RdC.v (i := 9) (Vop.mv rfl rfl rfl rfl) rfl rfl (by repeat (first | exact List.Sublist.refl _ | exact List.nil_sublist _ | refine List.Sublist.cons_cons _ ?_ | refine List.Sublist.cons _ ?_)) ?_
     refine RdC.v (i := 10) (Vop.fldP rfl rfl rfl rfl Try.underlying49 rfl (by exact Try.sizeOf3) 4 rfl) rfl rfl (by repeat (first | exact List.Sublist.refl _ | exact List.nil_sublist _ | refine List.Sublist.cons_cons _ ?_ | refine List.Sublist.cons _ ?_)) ?_
     refine RdC.v (i := 11) (Vop.ldo rfl rfl rfl rfl Try.isAgg3 0 rfl rfl) rfl rfl (by repeat (first | exact List.Sublist.refl _ | exact List.nil_sublist _ | refine List.Sublist.cons_cons _ ?_ | refine List.Sublist.cons _ ?_)) ?_
     refine RdC.v (i := 13) (Vop.mv rfl rfl rfl rfl) rfl rfl (by repeat (first | exact List.Sublist.refl _ | exact List.nil_sublist _ | refine List.Sublist.cons_cons _ ?_ | refine List.Sublist.cons _ ?_)) ?_
     refine RdC.v (i := 14) (Vop.fldP rfl rfl rfl rfl Try.underlying49 rfl (by exact Try.sizeOf3) 5 rfl) rfl rfl (by repeat (first | exact List.Sublist.refl _ | exact List.nil_sublist _ | refine List.Sublist.cons_cons _ ?_ | refine List.Sublist.cons _ ?_)) ?_
     refine RdC.v (i := 15) (Vop.ldo rfl rfl rfl rfl Try.isAgg3 0 rfl rfl) rfl rfl (by repeat (first | exact List.Sublist.refl _ | exact List.nil_sublist _ | refine List.Sublist.cons_cons _ ?_ | refine List.Sublist.cons _ ?_)) ?_
     refine RdC.nStep (i := 3) (D' := kx + 1) (u := (nnT (treeAt c kx)).2) hp g0 (by omega) rfl rfl rfl rfl rfl rfl (fun _ _ => Try.call70 _ _) (fun w L0 L1 h => by have := hOf kx (by omega) true w L0 L1 h; rw [pn_t, ← hkx] at this; exact this) (fun fv1 La1 Lb1 F1 g1 hs1 hf1 hh1 => ?_)
     have ho1 : (nnT (treeAt c kx)).2.ok := (hch kx (by omega)).2
     refine RdC.nStep (i := 7) (D' := ky + 1) (u := (nnT (treeAt c ky)).1) hp g1 (by omega) rfl rfl rfl rfl rfl rfl (fun _ _ => Try.call70 _ _) (fun w L0 L1 h => by have := hOf ky (by omega) false w L0 L1 h; rw [pn_f, ← hky] at this; exact this) (fun fv2 La2 Lb2 F2 g2 hs2 hf2 hh2 => ?_)
     replace hh1 := hs2 _ hh1
     have ho2 : (nnT (treeAt c ky)).1.ok := (hch ky (by omega)).1
     refine RdC.nMk (i := 8) (u := .bin 6 0 0 0 (nnT (treeAt c kx)).2 (nnT (treeAt c ky)).1) g2 rfl rfl rfl rfl rfl rfl (fun _ _ => Try.call91 _ _) (fun w _ hS => ?_) (fun fv3 F3 g3 hs3 hf3 hh3 => ?_)
     · have := or_c fv1.a fv1.c fv1.f fv2.a fv2.c fv2.f w (hh1.fa hp g2 hS.ext hS (fun _ h => List.mem_cons_of_mem _ (List.mem_append_right _ h))) (bT_max hf1) (hh2.fa hp g2 hS.ext hS (fun _ h => List.mem_cons_of_mem _ (List.mem_append_right _ h))) (bT_max hf2)
       rw [show bldF ⟨6, 0, 0, 0, 0, 0⟩ [fv1.f, fv2.f] = bT (.bin 6 0 0 0 (nnT (treeAt c kx)).2 (nnT (treeAt c ky)).1) from by rw [hf1, hf2]; exact bld_bin ho1 ho2 (by decide) rfl rfl] at this; exact this
     replace hh1 := hs3 _ hh1
     replace hh2 := hs3 _ hh2
     have ho3 : (Tr.bin 6 0 0 0 (nnT (treeAt c kx)).2 (nnT (treeAt c ky)).1).ok := or_ok ho1 ho2
     refine RdC.nStep (i := 12) (D' := kx + 1) (u := (nnT (treeAt c kx)).1) hp g3 (by omega) rfl rfl rfl rfl rfl rfl (fun _ _ => Try.call70 _ _) (fun w L0 L1 h => by have := hOf kx (by omega) false w L0 L1 h; rw [pn_f, ← hkx] at this; exact this) (fun fv4 La4 Lb4 F4 g4 hs4 hf4 hh4 => ?_)
     replace hh1 := hs4 _ hh1
     replace hh2 := hs4 _ hh2
     replace hh3 := hs4 _ hh3
     have ho4 : (nnT (treeAt c kx)).1.ok := (hch kx (by omega)).1
     refine RdC.nStep (i := 16) (D' := ky + 1) (u := (nnT (treeAt c ky)).2) hp g4 (by omega) rfl rfl rfl rfl rfl rfl (fun _ _ => Try.call70 _ _) (fun w L0 L1 h => by have := hOf ky (by omega) true w L0 L1 h; rw [pn_t, ← hky] at this; exact this) (fun fv5 La5 Lb5 F5 g5 hs5 hf5 hh5 => ?_)
     replace hh1 := hs5 _ hh1
     replace hh2 := hs5 _ hh2
     replace hh3 := hs5 _ hh3
     replace hh4 := hs5 _ hh4
     have ho5 : (nnT (treeAt c ky)).2.ok := (hch ky (by omega)).2
     refine RdC.nMk (i := 17) (u := .bin 6 0 0 0 (nnT (treeAt c kx)).1 (nnT (treeAt c ky)).2) g5 rfl rfl rfl rfl rfl rfl (fun _ _ => Try.call91 _ _) (fun w _ hS => ?_) (fun fv6 F6 g6 hs6 hf6 hh6 => ?_)
     · have := or_c fv4.a fv4.c fv4.f fv5.a fv5.c fv5.f w (hh4.fa hp g5 hS.ext hS (fun _ h => List.mem_cons_of_mem _ (List.mem_append_right _ h))) (bT_max hf4) (hh5.fa hp g5 hS.ext hS (fun _ h => List.mem_cons_of_mem _ (List.mem_append_right _ h))) (bT_max hf5)
       rw [show bldF ⟨6, 0, 0, 0, 0, 0⟩ [fv4.f, fv5.f] = bT (.bin 6 0 0 0 (nnT (treeAt c kx)).1 (nnT (treeAt c ky)).2) from by rw [hf4, hf5]; exact bld_bin ho4 ho5 (by decide) rfl rfl] at this; exact this
     replace hh1 := hs6 _ hh1
     replace hh2 := hs6 _ hh2
     replace hh3 := hs6 _ hh3
     replace hh4 := hs6 _ hh4
     replace hh5 := hs6 _ hh5
     have ho6 : (Tr.bin 6 0 0 0 (nnT (treeAt c kx)).1 (nnT (treeAt c ky)).2).ok := or_ok ho4 ho5
     refine RdC.nMk (i := 18) (u := .bin 5 0 0 0 (.bin 6 0 0 0 (nnT (treeAt c kx)).2 (nnT (treeAt c ky)).1) (.bin 6 0 0 0 (nnT (treeAt c kx)).1 (nnT (treeAt c ky)).2)) g6 rfl rfl rfl rfl rfl rfl (fun _ _ => Try.call73 _ _) (fun w _ hS => ?_) (fun fv7 F7 g7 hs7 hf7 hh7 => ?_)
     · have := and_c fv3.a fv3.c fv3.f fv6.a fv6.c fv6.f w (hh3.fa hp g6 hS.ext hS (fun _ h => List.mem_cons_of_mem _ (List.mem_append_right _ h))) (bT_max hf3) (hh6.fa hp g6 hS.ext hS (fun _ h => List.mem_cons_of_mem _ (List.mem_append_right _ h))) (bT_max hf6)
       rw [show bldF ⟨5, 0, 0, 0, 0, 0⟩ [fv3.f, fv6.f] = bT (.bin 5 0 0 0 (.bin 6 0 0 0 (nnT (treeAt c kx)).2 (nnT (treeAt c ky)).1) (.bin 6 0 0 0 (nnT (treeAt c kx)).1 (nnT (treeAt c ky)).2)) from by rw [hf3, hf6]; exact bld_bin ho3 ho6 (by decide) rfl rfl] at this; exact this
     replace hh1 := hs7 _ hh1
     replace hh2 := hs7 _ hh2
     replace hh3 := hs7 _ hh3
     replace hh4 := hs7 _ hh4
     replace hh5 := hs7 _ hh5
     replace hh6 := hs7 _ hh6
     have ho7 : (Tr.bin 5 0 0 0 (.bin 6 0 0 0 (nnT (treeAt c kx)).2 (nnT (treeAt c ky)).1) (.bin 6 0 0 0 (nnT (treeAt c kx)).1 (nnT (treeAt c ky)).2)).ok := and_ok ho3 ho6
     refine RdC.v (i := 19) (Vop.asg rfl rfl rfl rfl) rfl rfl (by repeat (first | exact List.Sublist.refl _ | exact List.nil_sublist _ | refine List.Sublist.cons_cons _ ?_ | refine List.Sublist.cons _ ?_)) ?_
     refine RdC.done rfl ?_
     refine gE ?_
     refine GoH.ret Try.f114 Try.func114 rfl (fun w' hS => ?_)
     refine nRet g7 ?_ hh7 hS
     rw [hf7, hT]; rfl
    ·
     have n8 : ¬ c[i].op = 8 := by simpa using hc
     refine gK (gIb (gS (gR ?_)))
     iterate 2 refine gAs ?_
     refine gE (gS (gS (gR ?_)))
     refine gFp Try.underlying49 Try.sizeOf3 0 ?_
     refine gLo Try.isAgg3 0 ?_
     refine gBi bGe ?_
     refine gE ?_
     refine GoH.cond rfl (fun hc => ?_) (fun hc => ?_)
     ·
      have hX : usX c[i].op = true := by rw [usX_iff hop]; simpa using hc
      have hrx := hok.x hX
      obtain ⟨kx, hkx⟩ : ∃ k : Nat, c[i].x = (k : Int) := ⟨c[i].x.toNat, by omega⟩
      have htx : c[i].x.toNat = kx := by omega
      refine gR ?_
      refine gMv ?_
      refine gFp Try.underlying49 Try.sizeOf3 4 ?_
      refine gLo Try.isAgg3 0 ?_
      refine GoH.nStep (D' := kx + 1) (u := (nnT (treeAt c kx)).1) hp g0 (by omega) rfl rfl rfl rfl rfl (fun _ _ => Try.call70 _ _) (fun w L0 L1 h => by have := hOf kx (by omega) false w L0 L1 h; rw [pn_f, ← hkx] at this; exact this) (fun fv1 La1 Lb1 F1 g1 hs1 hf1 hh1 => ?_)
      have ho1 : (nnT (treeAt c kx)).1.ok := (hch kx (by omega)).1
      refine gAs ?_
      refine gE (gS (gS (gR ?_)))
      refine gFp Try.underlying49 Try.sizeOf3 0 ?_
      refine gLo Try.isAgg3 0 ?_
      refine GoH.callP rfl rfl rfl rfl rfl (fun _ _ => Try.call80 _ _) (fun w _ hS => (by exact binary_c c[i].op w hop)) ?_
      refine gE ?_
      refine GoH.cond rfl (fun hc => ?_) (fun hc => ?_)
      ·
       have hY : usY c[i].op = true := hc
       have hT : treeAt c i = .bin c[i].op c[i].i c[i].e c[i].g (treeAt c c[i].x.toNat) (treeAt c c[i].y.toNat) := by
         rcases hK with ⟨h1, _⟩ | ⟨_, h1, _⟩ | ⟨_, h1⟩
         · rw [hX] at h1; cases h1
         · rw [hY] at h1; cases h1
         · exact h1
       have hry := hok.y hY
       obtain ⟨ky, hky⟩ : ∃ k : Nat, c[i].y = (k : Int) := ⟨c[i].y.toNat, by omega⟩
       have hty : c[i].y.toNat = ky := by omega
       rw [htx, hty] at hT
       refine gR ?_
       refine gMv ?_
       refine gFp Try.underlying49 Try.sizeOf3 5 ?_
       refine gLo Try.isAgg3 0 ?_
       refine GoH.nStep (D' := ky + 1) (u := (nnT (treeAt c ky)).1) hp g1 (by omega) rfl rfl rfl rfl rfl (fun _ _ => Try.call70 _ _) (fun w L0 L1 h => by have := hOf ky (by omega) false w L0 L1 h; rw [pn_f, ← hky] at this; exact this) (fun fv2 La2 Lb2 F2 g2 hs2 hf2 hh2 => ?_)
       replace hh1 := hs2 _ hh1
       have ho2 : (nnT (treeAt c ky)).1.ok := (hch ky (by omega)).1
       refine gAs ?_
       refine gE (gS (gR ?_))
       refine GoH.v (Vop.ldB rfl rfl rfl rfl Try.isAgg49 0 rfl Try.sizeOf49 rfl) ?_
       iterate 2 refine gMv ?_
       refine GoH.nMk (u := mkQ c[i].op c[i].i c[i].e c[i].g (nnT (treeAt c kx)).1 (nnT (treeAt c ky)).1) g2 rfl rfl rfl rfl rfl (fun _ _ => Try.call51 _ _) (fun w _ hS => ?_) (fun fv3 F3 g3 hs3 hf3 hh3 => ?_)
       · exact rbuild_c c[i] fv1 fv2 (nnT (treeAt c kx)).1 (nnT (treeAt c ky)).1 w hop hfl (fun _ => ⟨(hh1.fa hp g2 hS.ext hS (fun _ h => List.mem_cons_of_mem _ (List.mem_append_right _ h))), hf1, ho1⟩) (fun _ => ⟨(hh2.fa hp g2 hS.ext hS (fun _ h => List.mem_cons_of_mem _ (List.mem_append_right _ h))), hf2, ho2⟩)
       replace hh1 := hs3 _ hh1
       replace hh2 := hs3 _ hh2
       refine gAs ?_
       refine gE ?_
       refine GoH.ret Try.f114 Try.func114 rfl (fun w' hS => ?_)
       refine nRet g3 ?_ hh3 hS
       rw [hf3, hT, nn1_bin n7 n8, mkQ_bin hY]
      ·
       have hY : usY c[i].op = false := hc
       have hT : treeAt c i = .un c[i].op c[i].i c[i].e c[i].g (treeAt c c[i].x.toNat) := by
         rcases hK with ⟨h1, _⟩ | ⟨_, _, h1⟩ | ⟨h1, _⟩
         · rw [hX] at h1; cases h1
         · exact h1
         · rw [hY] at h1; cases h1
       rw [htx] at hT
       refine gK (gS (gR ?_))
       refine GoH.v (Vop.ldB rfl rfl rfl rfl Try.isAgg49 0 rfl Try.sizeOf49 rfl) ?_
       iterate 2 refine gMv ?_
       refine GoH.nMk (u := mkQ c[i].op c[i].i c[i].e c[i].g (nnT (treeAt c kx)).1 tr0) g1 rfl rfl rfl rfl rfl (fun _ _ => Try.call51 _ _) (fun w _ hS => ?_) (fun fv2 F2 g2 hs2 hf2 hh2 => ?_)
       · exact rbuild_c c[i] fv1 FV.z (nnT (treeAt c kx)).1 tr0 w hop hfl (fun _ => ⟨(hh1.fa hp g1 hS.ext hS (fun _ h => List.mem_cons_of_mem _ (List.mem_append_right _ h))), hf1, ho1⟩) (fun e => absurd (hY.symm.trans e) (by decide))
       replace hh1 := hs2 _ hh1
       refine gAs ?_
       refine gE ?_
       refine GoH.ret Try.f114 Try.func114 rfl (fun w' hS => ?_)
       refine nRet g2 ?_ hh2 hS
       rw [hf2, hT, nn1_un n4, mkQ_un hX hY]
     ·
      have hX : usX c[i].op = false := by rw [usX_iff hop]; simpa using hc
      have hY := usX_of_Y hX
      have hT : treeAt c i = .leaf c[i].op c[i].i c[i].e c[i].g := by
        rcases hK with ⟨_, h1⟩ | ⟨h1, _, _⟩ | ⟨h1, _⟩
        · exact h1
        · rw [hX] at h1; cases h1
        · rw [hY] at h1; cases h1
      refine gK (gS (gS (gR ?_)))
      refine gFp Try.underlying49 Try.sizeOf3 0 ?_
      refine gLo Try.isAgg3 0 ?_
      refine GoH.callP rfl rfl rfl rfl rfl (fun _ _ => Try.call80 _ _) (fun w _ hS => (by exact binary_c c[i].op w hop)) ?_
      refine gE ?_
      refine GoH.cond rfl (fun hc => ?_) (fun hc => ?_)
      ·
       exact absurd (hY.symm.trans hc) (by decide)
      ·
       refine gK (gS (gR ?_))
       refine GoH.v (Vop.ldB rfl rfl rfl rfl Try.isAgg49 0 rfl Try.sizeOf49 rfl) ?_
       iterate 2 refine gMv ?_
       refine GoH.nMk (u := mkQ c[i].op c[i].i c[i].e c[i].g tr0 tr0) g0 rfl rfl rfl rfl rfl (fun _ _ => Try.call51 _ _) (fun w _ hS => ?_) (fun fv1 F1 g1 hs1 hf1 hh1 => ?_)
       · exact rbuild_c c[i] FV.z FV.z tr0 tr0 w hop hfl (fun e => absurd (hX.symm.trans e) (by decide)) (fun e => absurd (hY.symm.trans e) (by decide))
       refine gAs ?_
       refine gE ?_
       refine GoH.ret Try.f114 Try.func114 rfl (fun w' hS => ?_)
       refine nRet g1 ?_ hh1 hS
       rw [hf1, hT, mkQ_leaf hX]; rfl
set_option maxRecDepth 8000 in
theorem ng_of {c : List NV} {na : Option Addr} {nc bk m0 m1 i : Nat} (hi : i < c.length) (hO : NodesOk c) (hOf : ∀ j, j < i → OfOk c na nc bk m0 m1 j) (hPs : PsOk c na nc bk m0 m1 i hi) : NgOk c na nc bk m0 m1 i hi := by
  intro w L0 L1 hp
  have hok := hO i hi
  have hop := hok.op
  have hfl := hok.fld
  have hF := fldOk_of hfl
  have hK := kids_node hi hO
  have hch : ∀ k : Nat, k < i → (nnT (treeAt c k)).1.ok ∧ (nnT (treeAt c k)).2.ok := fun k hk => nnT_ok (hO.tree k (by omega))
  have g0 : NGrew 49 c i L0 L1 L0 L1 [] := NGrew.refl hp.memo
  refine CnS.of hp.has Try.func113 rfl rfl ?_
  rw [show blks (nmH m0 L0 m1 L1) = [m0, m1] from rfl]
  refine GoH.subH (h' := nmH m0 L0 m1 L1 ++ []) (List.Sublist.refl _) ?_
  refine gS (gR ?_)
  refine GoH.bx rfl rfl rfl rfl (fun b3 => ?_)
  refine gAs ?_
  refine gE (gS (gS (gR ?_)))
  refine gFp Try.underlying49 Try.sizeOf3 0 ?_
  refine gLo Try.isAgg3 0 ?_
  refine gE (gB (gS (gR ?_)))
  refine gBi bEq ?_
  refine gAs ?_
  refine gE ?_
  refine GoH.cond rfl (fun hc => ?_) (fun hc => ?_)
  ·
   have ho : c[i].op = 1 := by simpa using hc
   have hX : usX c[i].op = false := by rw [ho]; rfl
   have hY : usY c[i].op = false := by rw [ho]; rfl
   have hT : treeAt c i = .leaf c[i].op c[i].i c[i].e c[i].g := by
     rcases hK with ⟨_, h1⟩ | ⟨h1, _, _⟩ | ⟨h1, _⟩
     · exact h1
     · rw [hX] at h1; cases h1
     · rw [hY] at h1; cases h1
   rw [ho] at hT
   refine gS (gR ?_)
   refine GoH.nMk (u := cT 2) g0 rfl rfl rfl rfl rfl (fun _ _ => Try.call75 _ _) (fun w _ hS => ?_) (fun fv1 F1 g1 hs1 hf1 hh1 => ?_)
   · have := false_c w
     rw [cT_bT (.inr rfl)] at this; exact this
   refine gAs ?_
   refine gE ?_
   refine GoH.ret Try.f113 Try.func113 rfl (fun w' hS => ?_)
   refine nRet g1 ?_ hh1 hS
   rw [hf1, hT]; rfl
  ·
   have n1 : ¬ c[i].op = 1 := by simpa using hc
   refine gS (gR ?_)
   refine gBi bEq ?_
   refine gAs ?_
   refine gE ?_
   refine GoH.cond rfl (fun hc => ?_) (fun hc => ?_)
   ·
    have ho : c[i].op = 2 := by simpa using hc
    have hX : usX c[i].op = false := by rw [ho]; rfl
    have hY : usY c[i].op = false := by rw [ho]; rfl
    have hT : treeAt c i = .leaf c[i].op c[i].i c[i].e c[i].g := by
      rcases hK with ⟨_, h1⟩ | ⟨h1, _, _⟩ | ⟨h1, _⟩
      · exact h1
      · rw [hX] at h1; cases h1
      · rw [hY] at h1; cases h1
    rw [ho] at hT
    refine gS (gR ?_)
    refine GoH.nMk (u := cT 1) g0 rfl rfl rfl rfl rfl (fun _ _ => Try.call82 _ _) (fun w _ hS => ?_) (fun fv1 F1 g1 hs1 hf1 hh1 => ?_)
    · have := true_c w
      rw [cT_bT (.inl rfl)] at this; exact this
    refine gAs ?_
    refine gE ?_
    refine GoH.ret Try.f113 Try.func113 rfl (fun w' hS => ?_)
    refine nRet g1 ?_ hh1 hS
    rw [hf1, hT]; rfl
   ·
    have n2 : ¬ c[i].op = 2 := by simpa using hc
    refine gS (gR ?_)
    refine gBi bEq ?_
    refine gAs ?_
    refine gE ?_
    refine GoH.cond rfl (fun hc => ?_) (fun hc => ?_)
    ·
     have ho : c[i].op = 4 := by simpa using hc
     have hX : usX c[i].op = true := by rw [ho]; rfl
     have hY : usY c[i].op = false := by rw [ho]; rfl
     have hT : treeAt c i = .un c[i].op c[i].i c[i].e c[i].g (treeAt c c[i].x.toNat) := by
       rcases hK with ⟨h1, _⟩ | ⟨_, _, h1⟩ | ⟨h1, _⟩
       · rw [hX] at h1; cases h1
       · exact h1
       · rw [hY] at h1; cases h1
     have hrx := hok.x hX
     obtain ⟨kx, hkx⟩ : ∃ k : Nat, c[i].x = (k : Int) := ⟨c[i].x.toNat, by omega⟩
     have htx : c[i].x.toNat = kx := by omega
     rw [htx, ho] at hT
     refine gS (gR ?_)
     refine gMv ?_
     refine gFp Try.underlying49 Try.sizeOf3 4 ?_
     refine gLo Try.isAgg3 0 ?_
     refine GoH.nStep (D' := kx + 1) (u := (nnT (treeAt c kx)).1) hp g0 (by omega) rfl rfl rfl rfl rfl (fun _ _ => Try.call70 _ _) (fun w L0 L1 h => by have := hOf kx (by omega) false w L0 L1 h; rw [pn_f, ← hkx] at this; exact this) (fun fv1 La1 Lb1 F1 g1 hs1 hf1 hh1 => ?_)
     have ho1 : (nnT (treeAt c kx)).1.ok := (hch kx (by omega)).1
     refine gAs ?_
     refine gE ?_
     refine GoH.ret Try.f113 Try.func113 rfl (fun w' hS => ?_)
     refine nRet g1 ?_ hh1 hS
     rw [hf1, hT]; rfl
    ·
     have n4 : ¬ c[i].op = 4 := by simpa using hc
     refine gS (gR ?_)
     refine gBi bEq ?_
     refine gAs ?_
     refine gE ?_
     refine GoH.cond rfl (fun hc => ?_) (fun hc => ?_)
     ·
      have ho : c[i].op = 5 := by simpa using hc
      have hY : usY c[i].op = true := by rw [ho]; rfl
      have hX := usY_X hY
      have hT : treeAt c i = .bin c[i].op c[i].i c[i].e c[i].g (treeAt c c[i].x.toNat) (treeAt c c[i].y.toNat) := by
        rcases hK with ⟨h1, _⟩ | ⟨_, h1, _⟩ | ⟨_, h1⟩
        · rw [hX] at h1; cases h1
        · rw [hY] at h1; cases h1
        · exact h1
      have hrx := hok.x hX
      obtain ⟨kx, hkx⟩ : ∃ k : Nat, c[i].x = (k : Int) := ⟨c[i].x.toNat, by omega⟩
      have htx : c[i].x.toNat = kx := by omega
      have hry := hok.y hY
      obtain ⟨ky, hky⟩ : ∃ k : Nat, c[i].y = (k : Int) := ⟨c[i].y.toNat, by omega⟩
      have hty : c[i].y.toNat = ky := by omega
      rw [htx, hty, ho] at hT
      refine gS ?_
      refine GoH.drawXB [0, 1, 2, 4, 5, 6] 3 [7, 8, 9] mixed rfl ?_
      refine RdXB.v (fun _ => (Vop.mv rfl rfl rfl rfl)) ?_
      refine RdXB.v (fun _ => (Vop.fldP rfl rfl rfl rfl Try.underlying49 rfl (by exact Try.sizeOf3) 4 rfl)) ?_
      refine RdXB.v (fun _ => (Vop.ldo rfl rfl rfl rfl Try.isAgg3 0 rfl rfl)) ?_
      refine RdXB.v (fun _ => (Vop.mv rfl rfl rfl rfl)) ?_
      refine RdXB.v (fun _ => (Vop.fldP rfl rfl rfl rfl Try.underlying49 rfl (by exact Try.sizeOf3) 5 rfl)) ?_
      refine RdXB.v (fun _ => (Vop.ldo rfl rfl rfl rfl Try.isAgg3 0 rfl rfl)) ?_
      refine RdXB.nStep (D' := kx + 1) (u := (nnT (treeAt c kx)).2) hp g0 (by omega) rfl rfl rfl rfl rfl (fun _ _ => Try.call70 _ _) (fun w L0 L1 h => by have := hOf kx (by omega) true w L0 L1 h; rw [pn_t, ← hkx] at this; exact this) (fun fv1 La1 Lb1 F1 g1 hs1 hf1 hh1 => ?_)
      have ho1 : (nnT (treeAt c kx)).2.ok := (hch kx (by omega)).2
      refine GoH.nStep (D' := ky + 1) (u := (nnT (treeAt c ky)).2) hp g1 (by omega) rfl rfl rfl rfl rfl (fun _ _ => Try.call70 _ _) (fun w L0 L1 h => by have := hOf ky (by omega) true w L0 L1 h; rw [pn_t, ← hky] at this; exact this) (fun fv2 La2 Lb2 F2 g2 hs2 hf2 hh2 => ?_)
      replace hh1 := hs2 _ hh1
      have ho2 : (nnT (treeAt c ky)).2.ok := (hch ky (by omega)).2
      refine GoH.nMk (u := .bin 6 0 0 0 (nnT (treeAt c kx)).2 (nnT (treeAt c ky)).2) g2 rfl rfl rfl rfl rfl (fun _ _ => Try.call91 _ _) (fun w _ hS => ?_) (fun fv3 F3 g3 hs3 hf3 hh3 => ?_)
      · have := or_c fv1.a fv1.c fv1.f fv2.a fv2.c fv2.f w (hh1.fa hp g2 hS.ext hS (fun _ h => List.mem_cons_of_mem _ (List.mem_append_right _ h))) (bT_max hf1) (hh2.fa hp g2 hS.ext hS (fun _ h => List.mem_cons_of_mem _ (List.mem_append_right _ h))) (bT_max hf2)
        rw [show bldF ⟨6, 0, 0, 0, 0, 0⟩ [fv1.f, fv2.f] = bT (.bin 6 0 0 0 (nnT (treeAt c kx)).2 (nnT (treeAt c ky)).2) from by rw [hf1, hf2]; exact bld_bin ho1 ho2 (by decide) rfl rfl] at this; exact this
      replace hh1 := hs3 _ hh1
      replace hh2 := hs3 _ hh2
      have ho3 : (Tr.bin 6 0 0 0 (nnT (treeAt c kx)).2 (nnT (treeAt c ky)).2).ok := or_ok ho1 ho2
      refine gAs ?_
      refine gE ?_
      refine GoH.ret Try.f113 Try.func113 rfl (fun w' hS => ?_)
      refine nRet g3 ?_ hh3 hS
      rw [hf3, hT]; rfl
     ·
      have n5 : ¬ c[i].op = 5 := by simpa using hc
      refine gS (gR ?_)
      refine gBi bEq ?_
      refine gAs ?_
      refine gE ?_
      refine GoH.cond rfl (fun hc => ?_) (fun hc => ?_)
      ·
       have ho : c[i].op = 6 := by simpa using hc
       have hY : usY c[i].op = true := by rw [ho]; rfl
       have hX := usY_X hY
       have hT : treeAt c i = .bin c[i].op c[i].i c[i].e c[i].g (treeAt c c[i].x.toNat) (treeAt c c[i].y.toNat) := by
         rcases hK with ⟨h1, _⟩ | ⟨_, h1, _⟩ | ⟨_, h1⟩
         · rw [hX] at h1; cases h1
         · rw [hY] at h1; cases h1
         · exact h1
       have hrx := hok.x hX
       obtain ⟨kx, hkx⟩ : ∃ k : Nat, c[i].x = (k : Int) := ⟨c[i].x.toNat, by omega⟩
       have htx : c[i].x.toNat = kx := by omega
       have hry := hok.y hY
       obtain ⟨ky, hky⟩ : ∃ k : Nat, c[i].y = (k : Int) := ⟨c[i].y.toNat, by omega⟩
       have hty : c[i].y.toNat = ky := by omega
       rw [htx, hty, ho] at hT
       refine gS ?_
       refine GoH.drawXB [0, 1, 2, 4, 5, 6] 3 [7, 8, 9] mixed rfl ?_
       refine RdXB.v (fun _ => (Vop.mv rfl rfl rfl rfl)) ?_
       refine RdXB.v (fun _ => (Vop.fldP rfl rfl rfl rfl Try.underlying49 rfl (by exact Try.sizeOf3) 4 rfl)) ?_
       refine RdXB.v (fun _ => (Vop.ldo rfl rfl rfl rfl Try.isAgg3 0 rfl rfl)) ?_
       refine RdXB.v (fun _ => (Vop.mv rfl rfl rfl rfl)) ?_
       refine RdXB.v (fun _ => (Vop.fldP rfl rfl rfl rfl Try.underlying49 rfl (by exact Try.sizeOf3) 5 rfl)) ?_
       refine RdXB.v (fun _ => (Vop.ldo rfl rfl rfl rfl Try.isAgg3 0 rfl rfl)) ?_
       refine RdXB.nStep (D' := kx + 1) (u := (nnT (treeAt c kx)).2) hp g0 (by omega) rfl rfl rfl rfl rfl (fun _ _ => Try.call70 _ _) (fun w L0 L1 h => by have := hOf kx (by omega) true w L0 L1 h; rw [pn_t, ← hkx] at this; exact this) (fun fv1 La1 Lb1 F1 g1 hs1 hf1 hh1 => ?_)
       have ho1 : (nnT (treeAt c kx)).2.ok := (hch kx (by omega)).2
       refine GoH.nStep (D' := ky + 1) (u := (nnT (treeAt c ky)).2) hp g1 (by omega) rfl rfl rfl rfl rfl (fun _ _ => Try.call70 _ _) (fun w L0 L1 h => by have := hOf ky (by omega) true w L0 L1 h; rw [pn_t, ← hky] at this; exact this) (fun fv2 La2 Lb2 F2 g2 hs2 hf2 hh2 => ?_)
       replace hh1 := hs2 _ hh1
       have ho2 : (nnT (treeAt c ky)).2.ok := (hch ky (by omega)).2
       refine GoH.nMk (u := .bin 5 0 0 0 (nnT (treeAt c kx)).2 (nnT (treeAt c ky)).2) g2 rfl rfl rfl rfl rfl (fun _ _ => Try.call73 _ _) (fun w _ hS => ?_) (fun fv3 F3 g3 hs3 hf3 hh3 => ?_)
       · have := and_c fv1.a fv1.c fv1.f fv2.a fv2.c fv2.f w (hh1.fa hp g2 hS.ext hS (fun _ h => List.mem_cons_of_mem _ (List.mem_append_right _ h))) (bT_max hf1) (hh2.fa hp g2 hS.ext hS (fun _ h => List.mem_cons_of_mem _ (List.mem_append_right _ h))) (bT_max hf2)
         rw [show bldF ⟨5, 0, 0, 0, 0, 0⟩ [fv1.f, fv2.f] = bT (.bin 5 0 0 0 (nnT (treeAt c kx)).2 (nnT (treeAt c ky)).2) from by rw [hf1, hf2]; exact bld_bin ho1 ho2 (by decide) rfl rfl] at this; exact this
       replace hh1 := hs3 _ hh1
       replace hh2 := hs3 _ hh2
       have ho3 : (Tr.bin 5 0 0 0 (nnT (treeAt c kx)).2 (nnT (treeAt c ky)).2).ok := and_ok ho1 ho2
       refine gAs ?_
       refine gE ?_
       refine GoH.ret Try.f113 Try.func113 rfl (fun w' hS => ?_)
       refine nRet g3 ?_ hh3 hS
       rw [hf3, hT]; rfl
      ·
       have n6 : ¬ c[i].op = 6 := by simpa using hc
       refine gS (gR ?_)
       refine gBi bEq ?_
       refine gAs ?_
       refine gE ?_
       refine GoH.cond rfl (fun hc => ?_) (fun hc => ?_)
       ·
        have ho : c[i].op = 7 := by simpa using hc
        have hY : usY c[i].op = true := by rw [ho]; rfl
        have hX := usY_X hY
        have hT : treeAt c i = .bin c[i].op c[i].i c[i].e c[i].g (treeAt c c[i].x.toNat) (treeAt c c[i].y.toNat) := by
          rcases hK with ⟨h1, _⟩ | ⟨_, h1, _⟩ | ⟨_, h1⟩
          · rw [hX] at h1; cases h1
          · rw [hY] at h1; cases h1
          · exact h1
        have hrx := hok.x hX
        obtain ⟨kx, hkx⟩ : ∃ k : Nat, c[i].x = (k : Int) := ⟨c[i].x.toNat, by omega⟩
        have htx : c[i].x.toNat = kx := by omega
        have hry := hok.y hY
        obtain ⟨ky, hky⟩ : ∃ k : Nat, c[i].y = (k : Int) := ⟨c[i].y.toNat, by omega⟩
        have hty : c[i].y.toNat = ky := by omega
        rw [htx, hty, ho] at hT
        refine gS ?_
        refine GoH.drawXB [0, 1, 2, 4, 5, 6] 3 [7, 8, 9] mixed rfl ?_
        refine RdXB.v (fun _ => (Vop.mv rfl rfl rfl rfl)) ?_
        refine RdXB.v (fun _ => (Vop.fldP rfl rfl rfl rfl Try.underlying49 rfl (by exact Try.sizeOf3) 4 rfl)) ?_
        refine RdXB.v (fun _ => (Vop.ldo rfl rfl rfl rfl Try.isAgg3 0 rfl rfl)) ?_
        refine RdXB.v (fun _ => (Vop.mv rfl rfl rfl rfl)) ?_
        refine RdXB.v (fun _ => (Vop.fldP rfl rfl rfl rfl Try.underlying49 rfl (by exact Try.sizeOf3) 5 rfl)) ?_
        refine RdXB.v (fun _ => (Vop.ldo rfl rfl rfl rfl Try.isAgg3 0 rfl rfl)) ?_
        refine RdXB.nStep (D' := kx + 1) (u := (nnT (treeAt c kx)).1) hp g0 (by omega) rfl rfl rfl rfl rfl (fun _ _ => Try.call70 _ _) (fun w L0 L1 h => by have := hOf kx (by omega) false w L0 L1 h; rw [pn_f, ← hkx] at this; exact this) (fun fv1 La1 Lb1 F1 g1 hs1 hf1 hh1 => ?_)
        have ho1 : (nnT (treeAt c kx)).1.ok := (hch kx (by omega)).1
        refine GoH.nStep (D' := ky + 1) (u := (nnT (treeAt c ky)).2) hp g1 (by omega) rfl rfl rfl rfl rfl (fun _ _ => Try.call70 _ _) (fun w L0 L1 h => by have := hOf ky (by omega) true w L0 L1 h; rw [pn_t, ← hky] at this; exact this) (fun fv2 La2 Lb2 F2 g2 hs2 hf2 hh2 => ?_)
        replace hh1 := hs2 _ hh1
        have ho2 : (nnT (treeAt c ky)).2.ok := (hch ky (by omega)).2
        refine GoH.nMk (u := .bin 5 0 0 0 (nnT (treeAt c kx)).1 (nnT (treeAt c ky)).2) g2 rfl rfl rfl rfl rfl (fun _ _ => Try.call73 _ _) (fun w _ hS => ?_) (fun fv3 F3 g3 hs3 hf3 hh3 => ?_)
        · have := and_c fv1.a fv1.c fv1.f fv2.a fv2.c fv2.f w (hh1.fa hp g2 hS.ext hS (fun _ h => List.mem_cons_of_mem _ (List.mem_append_right _ h))) (bT_max hf1) (hh2.fa hp g2 hS.ext hS (fun _ h => List.mem_cons_of_mem _ (List.mem_append_right _ h))) (bT_max hf2)
          rw [show bldF ⟨5, 0, 0, 0, 0, 0⟩ [fv1.f, fv2.f] = bT (.bin 5 0 0 0 (nnT (treeAt c kx)).1 (nnT (treeAt c ky)).2) from by rw [hf1, hf2]; exact bld_bin ho1 ho2 (by decide) rfl rfl] at this; exact this
        replace hh1 := hs3 _ hh1
        replace hh2 := hs3 _ hh2
        have ho3 : (Tr.bin 5 0 0 0 (nnT (treeAt c kx)).1 (nnT (treeAt c ky)).2).ok := and_ok ho1 ho2
        refine gAs ?_
        refine gE ?_
        refine GoH.ret Try.f113 Try.func113 rfl (fun w' hS => ?_)
        refine nRet g3 ?_ hh3 hS
        rw [hf3, hT]; rfl
       ·
        have n7 : ¬ c[i].op = 7 := by simpa using hc
        refine gS (gR ?_)
        refine gBi bEq ?_
        refine gAs ?_
        refine gE ?_
        refine GoH.cond rfl (fun hc => ?_) (fun hc => ?_)
        ·
         have ho : c[i].op = 8 := by simpa using hc
         have hY : usY c[i].op = true := by rw [ho]; rfl
         have hX := usY_X hY
         have hT : treeAt c i = .bin c[i].op c[i].i c[i].e c[i].g (treeAt c c[i].x.toNat) (treeAt c c[i].y.toNat) := by
           rcases hK with ⟨h1, _⟩ | ⟨_, h1, _⟩ | ⟨_, h1⟩
           · rw [hX] at h1; cases h1
           · rw [hY] at h1; cases h1
           · exact h1
         have hrx := hok.x hX
         obtain ⟨kx, hkx⟩ : ∃ k : Nat, c[i].x = (k : Int) := ⟨c[i].x.toNat, by omega⟩
         have htx : c[i].x.toNat = kx := by omega
         have hry := hok.y hY
         obtain ⟨ky, hky⟩ : ∃ k : Nat, c[i].y = (k : Int) := ⟨c[i].y.toNat, by omega⟩
         have hty : c[i].y.toNat = ky := by omega
         rw [htx, hty, ho] at hT
         refine gS ?_
         refine GoH.drawC1 21 mixed ?_
         refine RdC.v (i := 0) (Vop.mv rfl rfl rfl rfl) rfl rfl (by repeat (first | exact List.Sublist.refl _ | exact List.nil_sublist _ | refine List.Sublist.cons_cons _ ?_ | refine List.Sublist.cons _ ?_)) ?_
         refine RdC.v (i := 1) (Vop.fldP rfl rfl rfl rfl Try.underlying49 rfl (by exact Try.sizeOf3) 4 rfl) rfl rfl (by repeat (first | exact List.Sublist.refl _ | exact List.nil_sublist _ | refine List.Sublist.cons_cons _ ?_ | refine List.Sublist.cons _ ?_)) ?_
         refine RdC.v (i := 2) (Vop.ldo rfl rfl rfl rfl Try.isAgg3 0 rfl rfl) rfl rfl (by repeat (first | exact List.Sublist.refl _ | exact List.nil_sublist _ | refine List.Sublist.cons_cons _ ?_ | refine List.Sublist.cons _ ?_)) ?_
         refine RdC.v (i := 4) (Vop.mv rfl rfl rfl rfl) rfl rfl (by repeat (first | exact List.Sublist.refl _ | exact List.nil_sublist _ | refine List.Sublist.cons_cons _ ?_ | refine List.Sublist.cons _ ?_)) ?_
         refine RdC.v (i := 5) (Vop.fldP rfl rfl rfl rfl Try.underlying49 rfl (by exact Try.sizeOf3) 5 rfl) rfl rfl (by repeat (first | exact List.Sublist.refl _ | exact List.nil_sublist _ | refine List.Sublist.cons_cons _ ?_ | refine List.Sublist.cons _ ?_)) ?_
         refine RdC.v (i := 6) (Vop.ldo rfl rfl rfl rfl Try.isAgg3 0 rfl rfl) rfl rfl (by repeat (first | exact List.Sublist.refl _ | exact List.nil_sublist _ | refine List.Sublist.cons_cons _ ?_ | refine List.Sublist.cons _ ?_)) ?_
         refine RdC.v (i := 9) (Vop.mv rfl rfl rfl rfl) rfl rfl (by repeat (first | exact List.Sublist.refl _ | exact List.nil_sublist _ | refine List.Sublist.cons_cons _ ?_ | refine List.Sublist.cons _ ?_)) ?_
         refine RdC.v (i := 10) (Vop.fldP rfl rfl rfl rfl Try.underlying49 rfl (by exact Try.sizeOf3) 4 rfl) rfl rfl (by repeat (first | exact List.Sublist.refl _ | exact List.nil_sublist _ | refine List.Sublist.cons_cons _ ?_ | refine List.Sublist.cons _ ?_)) ?_
         refine RdC.v (i := 11) (Vop.ldo rfl rfl rfl rfl Try.isAgg3 0 rfl rfl) rfl rfl (by repeat (first | exact List.Sublist.refl _ | exact List.nil_sublist _ | refine List.Sublist.cons_cons _ ?_ | refine List.Sublist.cons _ ?_)) ?_
         refine RdC.v (i := 13) (Vop.mv rfl rfl rfl rfl) rfl rfl (by repeat (first | exact List.Sublist.refl _ | exact List.nil_sublist _ | refine List.Sublist.cons_cons _ ?_ | refine List.Sublist.cons _ ?_)) ?_
         refine RdC.v (i := 14) (Vop.fldP rfl rfl rfl rfl Try.underlying49 rfl (by exact Try.sizeOf3) 5 rfl) rfl rfl (by repeat (first | exact List.Sublist.refl _ | exact List.nil_sublist _ | refine List.Sublist.cons_cons _ ?_ | refine List.Sublist.cons _ ?_)) ?_
         refine RdC.v (i := 15) (Vop.ldo rfl rfl rfl rfl Try.isAgg3 0 rfl rfl) rfl rfl (by repeat (first | exact List.Sublist.refl _ | exact List.nil_sublist _ | refine List.Sublist.cons_cons _ ?_ | refine List.Sublist.cons _ ?_)) ?_
         refine RdC.nStep (i := 3) (D' := kx + 1) (u := (nnT (treeAt c kx)).1) hp g0 (by omega) rfl rfl rfl rfl rfl rfl (fun _ _ => Try.call70 _ _) (fun w L0 L1 h => by have := hOf kx (by omega) false w L0 L1 h; rw [pn_f, ← hkx] at this; exact this) (fun fv1 La1 Lb1 F1 g1 hs1 hf1 hh1 => ?_)
         have ho1 : (nnT (treeAt c kx)).1.ok := (hch kx (by omega)).1
         refine RdC.nStep (i := 7) (D' := ky + 1) (u := (nnT (treeAt c ky)).2) hp g1 (by omega) rfl rfl rfl rfl rfl rfl (fun _ _ => Try.call70 _ _) (fun w L0 L1 h => by have := hOf ky (by omega) true w L0 L1 h; rw [pn_t, ← hky] at this; exact this) (fun fv2 La2 Lb2 F2 g2 hs2 hf2 hh2 => ?_)
         replace hh1 := hs2 _ hh1
         have ho2 : (nnT (treeAt c ky)).2.ok := (hch ky (by omega)).2
         refine RdC.nMk (i := 8) (u := .bin 5 0 0 0 (nnT (treeAt c kx)).1 (nnT (treeAt c ky)).2) g2 rfl rfl rfl rfl rfl rfl (fun _ _ => Try.call73 _ _) (fun w _ hS => ?_) (fun fv3 F3 g3 hs3 hf3 hh3 => ?_)
         · have := and_c fv1.a fv1.c fv1.f fv2.a fv2.c fv2.f w (hh1.fa hp g2 hS.ext hS (fun _ h => List.mem_cons_of_mem _ (List.mem_append_right _ h))) (bT_max hf1) (hh2.fa hp g2 hS.ext hS (fun _ h => List.mem_cons_of_mem _ (List.mem_append_right _ h))) (bT_max hf2)
           rw [show bldF ⟨5, 0, 0, 0, 0, 0⟩ [fv1.f, fv2.f] = bT (.bin 5 0 0 0 (nnT (treeAt c kx)).1 (nnT (treeAt c ky)).2) from by rw [hf1, hf2]; exact bld_bin ho1 ho2 (by decide) rfl rfl] at this; exact this
         replace hh1 := hs3 _ hh1
         replace hh2 := hs3 _ hh2
         have ho3 : (Tr.bin 5 0 0 0 (nnT (treeAt c kx)).1 (nnT (treeAt c ky)).2).ok := and_ok ho1 ho2
         refine RdC.nStep (i := 12) (D' := kx + 1) (u := (nnT (treeAt c kx)).2) hp g3 (by omega) rfl rfl rfl rfl rfl rfl (fun _ _ => Try.call70 _ _) (fun w L0 L1 h => by have := hOf kx (by omega) true w L0 L1 h; rw [pn_t, ← hkx] at this; exact this) (fun fv4 La4 Lb4 F4 g4 hs4 hf4 hh4 => ?_)
         replace hh1 := hs4 _ hh1
         replace hh2 := hs4 _ hh2
         replace hh3 := hs4 _ hh3
         have ho4 : (nnT (treeAt c kx)).2.ok := (hch kx (by omega)).2
         refine RdC.nStep (i := 16) (D' := ky + 1) (u := (nnT (treeAt c ky)).1) hp g4 (by omega) rfl rfl rfl rfl rfl rfl (fun _ _ => Try.call70 _ _) (fun w L0 L1 h => by have := hOf ky (by omega) false w L0 L1 h; rw [pn_f, ← hky] at this; exact this) (fun fv5 La5 Lb5 F5 g5 hs5 hf5 hh5 => ?_)
         replace hh1 := hs5 _ hh1
         replace hh2 := hs5 _ hh2
         replace hh3 := hs5 _ hh3
         replace hh4 := hs5 _ hh4
         have ho5 : (nnT (treeAt c ky)).1.ok := (hch ky (by omega)).1
         refine RdC.nMk (i := 17) (u := .bin 5 0 0 0 (nnT (treeAt c kx)).2 (nnT (treeAt c ky)).1) g5 rfl rfl rfl rfl rfl rfl (fun _ _ => Try.call73 _ _) (fun w _ hS => ?_) (fun fv6 F6 g6 hs6 hf6 hh6 => ?_)
         · have := and_c fv4.a fv4.c fv4.f fv5.a fv5.c fv5.f w (hh4.fa hp g5 hS.ext hS (fun _ h => List.mem_cons_of_mem _ (List.mem_append_right _ h))) (bT_max hf4) (hh5.fa hp g5 hS.ext hS (fun _ h => List.mem_cons_of_mem _ (List.mem_append_right _ h))) (bT_max hf5)
           rw [show bldF ⟨5, 0, 0, 0, 0, 0⟩ [fv4.f, fv5.f] = bT (.bin 5 0 0 0 (nnT (treeAt c kx)).2 (nnT (treeAt c ky)).1) from by rw [hf4, hf5]; exact bld_bin ho4 ho5 (by decide) rfl rfl] at this; exact this
         replace hh1 := hs6 _ hh1
         replace hh2 := hs6 _ hh2
         replace hh3 := hs6 _ hh3
         replace hh4 := hs6 _ hh4
         replace hh5 := hs6 _ hh5
         have ho6 : (Tr.bin 5 0 0 0 (nnT (treeAt c kx)).2 (nnT (treeAt c ky)).1).ok := and_ok ho4 ho5
         refine RdC.nMk (i := 18) (u := .bin 6 0 0 0 (.bin 5 0 0 0 (nnT (treeAt c kx)).1 (nnT (treeAt c ky)).2) (.bin 5 0 0 0 (nnT (treeAt c kx)).2 (nnT (treeAt c ky)).1)) g6 rfl rfl rfl rfl rfl rfl (fun _ _ => Try.call91 _ _) (fun w _ hS => ?_) (fun fv7 F7 g7 hs7 hf7 hh7 => ?_)
         · have := or_c fv3.a fv3.c fv3.f fv6.a fv6.c fv6.f w (hh3.fa hp g6 hS.ext hS (fun _ h => List.mem_cons_of_mem _ (List.mem_append_right _ h))) (bT_max hf3) (hh6.fa hp g6 hS.ext hS (fun _ h => List.mem_cons_of_mem _ (List.mem_append_right _ h))) (bT_max hf6)
           rw [show bldF ⟨6, 0, 0, 0, 0, 0⟩ [fv3.f, fv6.f] = bT (.bin 6 0 0 0 (.bin 5 0 0 0 (nnT (treeAt c kx)).1 (nnT (treeAt c ky)).2) (.bin 5 0 0 0 (nnT (treeAt c kx)).2 (nnT (treeAt c ky)).1)) from by rw [hf3, hf6]; exact bld_bin ho3 ho6 (by decide) rfl rfl] at this; exact this
         replace hh1 := hs7 _ hh1
         replace hh2 := hs7 _ hh2
         replace hh3 := hs7 _ hh3
         replace hh4 := hs7 _ hh4
         replace hh5 := hs7 _ hh5
         replace hh6 := hs7 _ hh6
         have ho7 : (Tr.bin 6 0 0 0 (.bin 5 0 0 0 (nnT (treeAt c kx)).1 (nnT (treeAt c ky)).2) (.bin 5 0 0 0 (nnT (treeAt c kx)).2 (nnT (treeAt c ky)).1)).ok := or_ok ho3 ho6
         refine RdC.v (i := 19) (Vop.asg rfl rfl rfl rfl) rfl rfl (by repeat (first | exact List.Sublist.refl _ | exact List.nil_sublist _ | refine List.Sublist.cons_cons _ ?_ | refine List.Sublist.cons _ ?_)) ?_
         refine RdC.done rfl ?_
         refine gE ?_
         refine GoH.ret Try.f113 Try.func113 rfl (fun w' hS => ?_)
         refine nRet g7 ?_ hh7 hS
         rw [hf7, hT]; rfl
        ·
         have n8 : ¬ c[i].op = 8 := by simpa using hc
         refine gS (gR ?_)
         refine gBi bEq ?_
         refine gAs ?_
         refine gE ?_
         refine GoH.cond rfl (fun hc => ?_) (fun hc => ?_)
         ·
          have ho : c[i].op = 9 := by simpa using hc
          have hX : usX c[i].op = true := by rw [ho]; rfl
          have hY : usY c[i].op = false := by rw [ho]; rfl
          have hT : treeAt c i = .un c[i].op c[i].i c[i].e c[i].g (treeAt c c[i].x.toNat) := by
            rcases hK with ⟨h1, _⟩ | ⟨_, _, h1⟩ | ⟨h1, _⟩
            · rw [hX] at h1; cases h1
            · exact h1
            · rw [hY] at h1; cases h1
          have hrx := hok.x hX
          obtain ⟨kx, hkx⟩ : ∃ k : Nat, c[i].x = (k : Int) := ⟨c[i].x.toNat, by omega⟩
          have htx : c[i].x.toNat = kx := by omega
          rw [htx, ho] at hT
          have hag := hF.ag (by rw [ho]; rfl)
          refine gS ?_
          refine GoH.drawXB [0, 1, 2, 3, 4] 5 [6, 7] mixed rfl ?_
          refine RdXB.v (fun _ => (Vop.fldP rfl rfl rfl rfl Try.underlying49 rfl (by exact Try.sizeOf3) 1 rfl)) ?_
          refine RdXB.v (fun _ => (Vop.ldo rfl rfl rfl rfl Try.isAgg3 0 rfl rfl)) ?_
          refine RdXB.v (fun _ => (Vop.mv rfl rfl rfl rfl)) ?_
          refine RdXB.v (fun _ => (Vop.fldP rfl rfl rfl rfl Try.underlying49 rfl (by exact Try.sizeOf3) 4 rfl)) ?_
          refine RdXB.v (fun _ => (Vop.ldo rfl rfl rfl rfl Try.isAgg3 0 rfl rfl)) ?_
          refine RdXB.nStep (D' := kx + 1) (u := (nnT (treeAt c kx)).2) hp g0 (by omega) rfl rfl rfl rfl rfl (fun _ _ => Try.call70 _ _) (fun w L0 L1 h => by have := hOf kx (by omega) true w L0 L1 h; rw [pn_t, ← hkx] at this; exact this) (fun fv1 La1 Lb1 F1 g1 hs1 hf1 hh1 => ?_)
          have ho1 : (nnT (treeAt c kx)).2.ok := (hch kx (by omega)).2
          refine GoH.nMk (u := .un 10 c[i].i 0 0 (nnT (treeAt c kx)).2) g1 rfl rfl rfl rfl rfl (fun _ _ => Try.call94 _ _) (fun w _ hS => ?_) (fun fv2 F2 g2 hs2 hf2 hh2 => ?_)
          · have := poss_c c[i].i fv1.a fv1.c fv1.f w (hh1.fa hp g1 hS.ext hS (fun _ h => List.mem_cons_of_mem _ (List.mem_append_right _ h))) (bT_max hf1)
            rw [show bldF ⟨10, c[i].i, 0, 0, 0, 0⟩ [fv1.f] = bT (.un 10 c[i].i 0 0 (nnT (treeAt c kx)).2) from by rw [hf1]; exact bld_un ho1 (by decide) rfl rfl (knP_ok (.inr rfl) hag ho1).2.2.2.1] at this; exact this
          replace hh1 := hs2 _ hh1
          refine gAs ?_
          refine gE ?_
          refine GoH.ret Try.f113 Try.func113 rfl (fun w' hS => ?_)
          refine nRet g2 ?_ hh2 hS
          rw [hf2, hT]; rfl
         ·
          have n9 : ¬ c[i].op = 9 := by simpa using hc
          refine gS (gR ?_)
          refine gBi bEq ?_
          refine gAs ?_
          refine gE ?_
          refine GoH.cond rfl (fun hc => ?_) (fun hc => ?_)
          ·
           have ho : c[i].op = 10 := by simpa using hc
           have hX : usX c[i].op = true := by rw [ho]; rfl
           have hY : usY c[i].op = false := by rw [ho]; rfl
           have hT : treeAt c i = .un c[i].op c[i].i c[i].e c[i].g (treeAt c c[i].x.toNat) := by
             rcases hK with ⟨h1, _⟩ | ⟨_, _, h1⟩ | ⟨h1, _⟩
             · rw [hX] at h1; cases h1
             · exact h1
             · rw [hY] at h1; cases h1
           have hrx := hok.x hX
           obtain ⟨kx, hkx⟩ : ∃ k : Nat, c[i].x = (k : Int) := ⟨c[i].x.toNat, by omega⟩
           have htx : c[i].x.toNat = kx := by omega
           rw [htx, ho] at hT
           have hag := hF.ag (by rw [ho]; rfl)
           refine gS ?_
           refine GoH.drawXB [0, 1, 2, 3, 4] 5 [6, 7] mixed rfl ?_
           refine RdXB.v (fun _ => (Vop.fldP rfl rfl rfl rfl Try.underlying49 rfl (by exact Try.sizeOf3) 1 rfl)) ?_
           refine RdXB.v (fun _ => (Vop.ldo rfl rfl rfl rfl Try.isAgg3 0 rfl rfl)) ?_
           refine RdXB.v (fun _ => (Vop.mv rfl rfl rfl rfl)) ?_
           refine RdXB.v (fun _ => (Vop.fldP rfl rfl rfl rfl Try.underlying49 rfl (by exact Try.sizeOf3) 4 rfl)) ?_
           refine RdXB.v (fun _ => (Vop.ldo rfl rfl rfl rfl Try.isAgg3 0 rfl rfl)) ?_
           refine RdXB.nStep (D' := kx + 1) (u := (nnT (treeAt c kx)).2) hp g0 (by omega) rfl rfl rfl rfl rfl (fun _ _ => Try.call70 _ _) (fun w L0 L1 h => by have := hOf kx (by omega) true w L0 L1 h; rw [pn_t, ← hkx] at this; exact this) (fun fv1 La1 Lb1 F1 g1 hs1 hf1 hh1 => ?_)
           have ho1 : (nnT (treeAt c kx)).2.ok := (hch kx (by omega)).2
           refine GoH.nMk (u := .un 9 c[i].i 0 0 (nnT (treeAt c kx)).2) g1 rfl rfl rfl rfl rfl (fun _ _ => Try.call76 _ _) (fun w _ hS => ?_) (fun fv2 F2 g2 hs2 hf2 hh2 => ?_)
           · have := know_c c[i].i fv1.a fv1.c fv1.f w (hh1.fa hp g1 hS.ext hS (fun _ h => List.mem_cons_of_mem _ (List.mem_append_right _ h))) (bT_max hf1)
             rw [show bldF ⟨9, c[i].i, 0, 0, 0, 0⟩ [fv1.f] = bT (.un 9 c[i].i 0 0 (nnT (treeAt c kx)).2) from by rw [hf1]; exact bld_un ho1 (by decide) rfl rfl (knP_ok (.inl rfl) hag ho1).2.2.2.1] at this; exact this
           replace hh1 := hs2 _ hh1
           refine gAs ?_
           refine gE ?_
           refine GoH.ret Try.f113 Try.func113 rfl (fun w' hS => ?_)
           refine nRet g2 ?_ hh2 hS
           rw [hf2, hT]; rfl
          ·
           have n10 : ¬ c[i].op = 10 := by simpa using hc
           have hng : (nnT (treeAt c i)).2 = ntT (nnT (treeAt c i)).1 := by
             rcases hK with ⟨_, h1⟩ | ⟨_, _, h1⟩ | ⟨_, h1⟩
             · rw [h1, nnT]; simp [n1, n2]
             · rw [h1, nnT]; simp [n4, n9, n10]
             · rw [h1, nnT]; simp [n5, n6, n7, n8]
           have hpk := (nnT_ok (hO.tree i hi)).1
           refine gK (gIb (gS (gR ?_)))
           refine gMv ?_
           refine GoH.v (Vop.ldB rfl rfl rfl rfl Try.isAgg49 0 rfl Try.sizeOf49 rfl) ?_
           refine GoH.nStep (D' := i) (u := (nnT (treeAt c i)).1) hp g0 (Nat.le_refl _) rfl rfl rfl rfl rfl (fun _ _ => Try.call114 _ _) (fun w L0 L1 h => hPs w L0 L1 h) (fun fv1 La1 Lb1 F1 g1 hs1 hf1 hh1 => ?_)
           refine GoH.nMk (u := ntT (nnT (treeAt c i)).1) g1 rfl rfl rfl rfl rfl (fun _ _ => Try.call72 _ _) (fun w _ hS => ?_) (fun fv2 F2 g2 hs2 hf2 hh2 => ?_)
           · have := not_c fv1.a fv1.c fv1.f w (hh1.fa hp g1 hS.ext hS (fun _ h => List.mem_cons_of_mem _ (List.mem_append_right _ h))) (bT_max hf1)
             rw [show bldF ⟨4, 0, 0, 0, 0, 0⟩ [fv1.f] = bT (ntT (nnT (treeAt c i)).1) from by rw [hf1]; exact bld_un hpk (by decide) rfl rfl rfl] at this; exact this
           replace hh1 := hs2 _ hh1
           refine gAs ?_
           refine gE ?_
           refine GoH.ret Try.f113 Try.func113 rfl (fun w' hS => ?_)
           refine nRet g2 ?_ hh2 hS
           rw [hf2, hng]
end Go.Proofs.Ytkoipdlkkchmiaa
namespace Go.Proofs.Ytkoipdlkkchmiaa
open Go.RowKit Go.Proofs.Wit
/-! negation normal forms, from the memo -/
set_option maxRecDepth 8000 in
theorem of_of {c : List NV} {na : Option Addr} {nc bk m0 m1 i : Nat} (hi : i < c.length) (hPs : PsOk c na nc bk m0 m1 i hi) (hNg : NgOk c na nc bk m0 m1 i hi) : OfOk c na nc bk m0 m1 i := by
  intro no w L0 L1 hp
  have hK : KeyOk Try.prog 3 (Value.int .i64) iq := KeyOk.int Try.underlying3
  have HB : ∀ {w' : World} {j : Nat} {v : Value}, Ex [m0, m1] w w' → (nmBk na c.length nc m0 m1)[j]? = some v → w'.cell? ⟨bk, j, none⟩ = some v := fun e h => Ex.cellS e hp.ne hp.blk h
  have has : FAS [m0, m1] w na c := ⟨hp.fa.at_, notIn_maps hp.maps hp.fa.at_ (by rw [flatN]; omega)⟩
  refine CnS.of hp.has Try.func70 rfl rfl ?_
  rw [show blks (nmH m0 L0 m1 L1) = [m0, m1] from rfl]
  refine gS (gR ?_)
  refine gAs ?_
  refine gE (gS (gR ?_))
  refine gAs ?_
  refine gE (gS (gS (gR ?_)))
  refine gMv ?_
  refine gE ?_
  refine GoH.cond rfl (fun hc => ?_) (fun hc => ?_)
  ·
   obtain rfl : no = true := hc
   refine gR ?_
   refine gAs ?_
   refine gE (gS (gS (gR ?_)))
   iterate 2 refine gMv ?_
   refine gNk ?_
   refine gFp Try.underlying71 Try.sizeOf69 1 ?_
   refine GoH.v (Vop.idxA rfl rfl rfl rfl rfl Try.underlying69 Try.sizeOf68 1 rfl (by decide)) ?_
   refine GoH.v (Vop.ld rfl rfl rfl rfl Try.isAgg68 (fun w _ hS => HB (j := 2) hS.ext rfl)) ?_
   refine gMv ?_
   refine GoH.v (Vop.lkup (ev := FV.v) (a := (i : Int)) (z := .slice none 0 0) (L := L1) hK rfl rfl rfl rfl rfl Try.underlying68 (fun _ => Try.zeroValue22 _) 1 rfl) ?_
   refine gMv ?_
   iterate 2 refine gEx ?_
   iterate 2 refine gAs ?_
   refine gE (gS (gR ?_))
   refine gMv ?_
   refine gE ?_
   refine GoH.cond rfl (fun hc => ?_) (fun hc => ?_)
   ·
    obtain ⟨fv, hfv⟩ : ∃ fv, mget iq L1 (i : Int) = some fv := by
      cases h : mget iq L1 (i : Int) with
      | none => rw [h] at hc; simp at hc
      | some fv => exact ⟨fv, rfl⟩
    obtain ⟨k, hk, hfe⟩ := hp.memo.e1 _ (mgetI_mem hfv)
    obtain rfl : i = k := by simp only [] at hk; omega
    refine gS (gR ?_)
    refine gMv ?_
    refine gAs ?_
    refine gE ?_
    refine GoH.ret Try.f70 Try.func70 rfl (fun w' hS => ?_)
    exact ⟨_, ⟨fv, L0, L1, [], by rw [hfv]; rfl, rfl, NGrew.refl hp.memo, hfe, .inr (.inr ⟨i, mgetI_mem hfv⟩)⟩, hS⟩
   ·
    have hno : mget iq L1 (i : Int) = none := by
      cases h : mget iq L1 (i : Int) with
      | none => rfl
      | some fv => rw [h] at hc; simp at hc
    refine gK (gS (gR ?_))
    refine gMv ?_
    refine gNk ?_
    refine gFp Try.underlying71 Try.sizeOf22 0 ?_
    refine GoH.v (Vop.ld (p := ⟨bk, 0, none⟩) rfl rfl rfl rfl Try.isAgg22 (fun w _ hS => HB hS.ext rfl)) ?_
    refine gMv ?_
    refine GoH.v (Vop.idxN rfl rfl rfl rfl rfl Try.underlying22 Try.sizeOf49 ⟨_, (has).at_⟩ (flat_len (enc := NV.cells) (sz := 6) (fun _ => rfl)) (by decide) (i) ⟨rfl, hi⟩) ?_
    refine GoH.v (Vop.ldN (cs := NV.cells c[i]) rfl rfl rfl rfl Try.isAgg49 Try.sizeOf49 (fun w _ hS => Sl.many (enc := NV.cells) (sz := 6) (has.ex0 hS.ext).at_ (fun _ => rfl) hi)) ?_
    refine GoH.alc rfl rfl rfl (fun _ => Try.zeroValue49 _) (fun b10 => ?_)
    refine GoH.stB rfl rfl rfl rfl Try.sizeOf49 0 rfl rfl rfl rfl ?_
    refine gE (gS (gR ?_))
    refine gAs ?_
    refine gE (gS (gS (gR ?_)))
    refine gMv ?_
    refine gE ?_
    refine GoH.cond rfl (fun hc => ?_) (fun hc => ?_)
    ·
     refine gR ?_
     refine gMv ?_
     refine GoH.v (Vop.ldB rfl rfl rfl rfl Try.isAgg49 0 rfl Try.sizeOf49 rfl) ?_
     refine GoH.subH (h' := (some b10, .cells (NV.cells c[i]).toArray 49 (0, 0)) :: (nmH m0 L0 m1 L1 ++ [])) (List.Sublist.refl _) ?_
     refine GoH.nStep (D' := i) (D := i) (u := (nnT (treeAt c i)).2) hp (NGrew.refl hp.memo) (Nat.le_refl _) rfl rfl rfl rfl rfl (fun _ _ => Try.call113 _ _) (fun w L0 L1 h => hNg w L0 L1 h) (fun fv1 La1 Lb1 F1 g1 hs1 hf1 hh1 => ?_)
     have hno2 : mget iq Lb1 (i : Int) = none := mgetI_none.2 (fun e he => by
       rcases g1.n1 e he with h | h
       · exact mgetI_none.1 hno e h
       · omega)
     refine gAs ?_
     refine gE (gS (gR ?_))
     iterate 2 refine gMv ?_
     refine gNk ?_
     refine gFp Try.underlying71 Try.sizeOf69 1 ?_
     refine GoH.v (Vop.idxA rfl rfl rfl rfl rfl Try.underlying69 Try.sizeOf68 1 rfl (by decide)) ?_
     refine GoH.v (Vop.ld rfl rfl rfl rfl Try.isAgg68 (fun w _ hS => HB (j := 2) hS.ext rfl)) ?_
     iterate 2 refine gMv ?_
     refine GoH.mapIns hK rfl (.inl rfl) rfl rfl rfl (a := (i : Int)) (v := fv1) rfl rfl Try.underlying68 2 rfl hno2 ?_
     refine gE (gS (gR ?_))
     refine gMv ?_
     refine gAs ?_
     refine gE ?_
     refine GoH.ret Try.f70 Try.func70 rfl (fun w' hS => ?_)
     exact nRet (u := (nnT (treeAt c i)).2) (F := F1) (g1.add1 hf1 hh1) hf1 (hh1.mono (fun _ h => h) (fun _ h => List.mem_append_left _ h) (fun _ h => h)) hS
    ·
     exact absurd hc (by decide)
  ·
   obtain rfl : no = false := hc
   refine gK (gS (gS (gR ?_)))
   iterate 2 refine gMv ?_
   refine gNk ?_
   refine gFp Try.underlying71 Try.sizeOf69 1 ?_
   refine GoH.v (Vop.idxA rfl rfl rfl rfl rfl Try.underlying69 Try.sizeOf68 0 rfl (by decide)) ?_
   refine GoH.v (Vop.ld rfl rfl rfl rfl Try.isAgg68 (fun w _ hS => HB (j := 1) hS.ext rfl)) ?_
   refine gMv ?_
   refine GoH.v (Vop.lkup (ev := FV.v) (a := (i : Int)) (z := .slice none 0 0) (L := L0) hK rfl rfl rfl rfl rfl Try.underlying68 (fun _ => Try.zeroValue22 _) 0 rfl) ?_
   refine gMv ?_
   iterate 2 refine gEx ?_
   iterate 2 refine gAs ?_
   refine gE (gS (gR ?_))
   refine gMv ?_
   refine gE ?_
   refine GoH.cond rfl (fun hc => ?_) (fun hc => ?_)
   ·
    obtain ⟨fv, hfv⟩ : ∃ fv, mget iq L0 (i : Int) = some fv := by
      cases h : mget iq L0 (i : Int) with
      | none => rw [h] at hc; simp at hc
      | some fv => exact ⟨fv, rfl⟩
    obtain ⟨k, hk, hfe⟩ := hp.memo.e0 _ (mgetI_mem hfv)
    obtain rfl : i = k := by simp only [] at hk; omega
    refine gS (gR ?_)
    refine gMv ?_
    refine gAs ?_
    refine gE ?_
    refine GoH.ret Try.f70 Try.func70 rfl (fun w' hS => ?_)
    exact ⟨_, ⟨fv, L0, L1, [], by rw [hfv]; rfl, rfl, NGrew.refl hp.memo, hfe, .inr (.inl ⟨i, mgetI_mem hfv⟩)⟩, hS⟩
   ·
    have hno : mget iq L0 (i : Int) = none := by
      cases h : mget iq L0 (i : Int) with
      | none => rfl
      | some fv => rw [h] at hc; simp at hc
    refine gK (gS (gR ?_))
    refine gMv ?_
    refine gNk ?_
    refine gFp Try.underlying71 Try.sizeOf22 0 ?_
    refine GoH.v (Vop.ld (p := ⟨bk, 0, none⟩) rfl rfl rfl rfl Try.isAgg22 (fun w _ hS => HB hS.ext rfl)) ?_
    refine gMv ?_
    refine GoH.v (Vop.idxN rfl rfl rfl rfl rfl Try.underlying22 Try.sizeOf49 ⟨_, (has).at_⟩ (flat_len (enc := NV.cells) (sz := 6) (fun _ => rfl)) (by decide) (i) ⟨rfl, hi⟩) ?_
    refine GoH.v (Vop.ldN (cs := NV.cells c[i]) rfl rfl rfl rfl Try.isAgg49 Try.sizeOf49 (fun w _ hS => Sl.many (enc := NV.cells) (sz := 6) (has.ex0 hS.ext).at_ (fun _ => rfl) hi)) ?_
    refine GoH.alc rfl rfl rfl (fun _ => Try.zeroValue49 _) (fun b10 => ?_)
    refine GoH.stB rfl rfl rfl rfl Try.sizeOf49 0 rfl rfl rfl rfl ?_
    refine gE (gS (gR ?_))
    refine gAs ?_
    refine gE (gS (gS (gR ?_)))
    refine gMv ?_
    refine gE ?_
    refine GoH.cond rfl (fun hc => ?_) (fun hc => ?_)
    ·
     exact absurd hc (by decide)
    ·
     refine gR ?_
     refine gMv ?_
     refine GoH.v (Vop.ldB rfl rfl rfl rfl Try.isAgg49 0 rfl Try.sizeOf49 rfl) ?_
     refine GoH.subH (h' := (some b10, .cells (NV.cells c[i]).toArray 49 (0, 0)) :: (nmH m0 L0 m1 L1 ++ [])) (List.Sublist.refl _) ?_
     refine GoH.nStep (D' := i) (D := i) (u := (nnT (treeAt c i)).1) hp (NGrew.refl hp.memo) (Nat.le_refl _) rfl rfl rfl rfl rfl (fun _ _ => Try.call114 _ _) (fun w L0 L1 h => hPs w L0 L1 h) (fun fv1 La1 Lb1 F1 g1 hs1 hf1 hh1 => ?_)
     have hno2 : mget iq La1 (i : Int) = none := mgetI_none.2 (fun e he => by
       rcases g1.n0 e he with h | h
       · exact mgetI_none.1 hno e h
       · omega)
     refine gAs ?_
     refine gE (gS (gR ?_))
     iterate 2 refine gMv ?_
     refine gNk ?_
     refine gFp Try.underlying71 Try.sizeOf69 1 ?_
     refine GoH.v (Vop.idxA rfl rfl rfl rfl rfl Try.underlying69 Try.sizeOf68 0 rfl (by decide)) ?_
     refine GoH.v (Vop.ld rfl rfl rfl rfl Try.isAgg68 (fun w _ hS => HB (j := 1) hS.ext rfl)) ?_
     iterate 2 refine gMv ?_
     refine GoH.mapIns hK rfl (.inl rfl) rfl rfl rfl (a := (i : Int)) (v := fv1) rfl rfl Try.underlying68 1 rfl hno2 ?_
     refine gE (gS (gR ?_))
     refine gMv ?_
     refine gAs ?_
     refine gE ?_
     refine GoH.ret Try.f70 Try.func70 rfl (fun w' hS => ?_)
     exact nRet (u := (nnT (treeAt c i)).1) (F := F1) (g1.add0 hf1 hh1) hf1 (hh1.mono (fun _ h => List.mem_append_left _ h) (fun _ h => h) (fun _ h => h)) hS
theorem of_ok {c : List NV} {na : Option Addr} {nc bk m0 m1 : Nat} (hO : NodesOk c) : ∀ i, i < c.length → OfOk c na nc bk m0 m1 i := by
  intro i
  induction i using Nat.strongRecOn with
  | _ i ih =>
    intro hi
    have h1 := ps_of (na := na) (nc := nc) (bk := bk) (m0 := m0) (m1 := m1) hi hO (fun j hj => ih j hj (by omega))
    exact of_of hi h1 (ng_of hi hO (fun j hj => ih j hj (by omega)) h1)
set_option maxRecDepth 8000 in
theorem nnf_c (a : Option Addr) (ca : Nat) (f : List NV) (w : World) (ha : FA w a f) (hl : f.length ≤ maxLen) : Cn Try.prog 32 [.slice a f.length ca] w (fun v w' => ∃ sv o e, v = .tuple #[sv, .int .i64 e] ∧ OwnN 49 w w' sv o ∧ NnfP f o e) := by
  refine Cn.of Try.func32 rfl rfl ?_
  refine gS (gR ?_)
  iterate 2 refine gAs ?_
  refine gE (gS (gS (gR ?_)))
  refine gMv ?_
  refine GoH.callP rfl rfl rfl rfl rfl (fun _ _ => Try.call48 _ _) (fun w _ hS => (by exact fcheck_c a ca f w (ha.ex0 hS.ext) hl)) ?_
  refine gAs ?_
  refine gE (gS (gR ?_))
  refine gMv ?_
  refine gBi bNe ?_
  refine gE ?_
  refine GoH.cond rfl (fun hc => ?_) (fun hc => ?_)
  ·
   have h1 : chkF f ≠ 0 := by simpa using hc
   refine gS (gR ?_)
   refine gMv ?_
   iterate 2 refine gAs ?_
   refine gE ?_
   refine GoH.ret Try.f32 Try.func32 rfl (fun w' hS => ?_)
   exact ⟨hS.ext, _, [], _, rfl, OwnN.nil0, .inl ⟨h1, rfl, rfl⟩⟩
  ·
   have h0 : chkF f = 0 := by simpa using hc
   have hT := (chkF_zero.1 h0).top
   have hce := compF_eq h0
   have hcp := (compF_ok h0).pos
   have hcl := (compF_ok h0).len
   have hNd := compF_nodes f
   refine gK (gS (gR ?_))
   refine gMv ?_
   refine GoH.callM _ rfl rfl rfl rfl rfl (fun _ _ => Try.call50 _ _) (fun w _ hS => (by exact fcompact_c a ca f w (ha.ex0 hS.ext) hl)) ?_
   rintro v w1 w2 Y' hS he ho
   rw [subF_top] at ho
   obtain ⟨qc, capc, spc, rfl, hqc, hcapc, hS'⟩ := gainN hS he ho
   refine ⟨_, hS', ?_⟩
   refine GoH.v (Vop.bld rfl rfl rfl rfl (bld (c := [_, _, _]) Try.underlying71 (Szs.cons Try.sizeOf22 (Szs.cons Try.sizeOf69 Szs.nil)) Try.zeroValue71 rfl)) ?_
   refine GoH.bx rfl rfl rfl rfl (fun b15 => ?_)
   refine gAs ?_
   refine gE (gS (gS (gR ?_)))
   refine gMv ?_
   refine gE (gB ?_)
   obtain ⟨sl, hsl⟩ : ∃ sl, sl = osv qc (compF f).length capc := ⟨_, rfl⟩
   rw [← hsl]
   refine GoH.loop (σ := List Nat) (fun ms => [(5, .pointer (some ⟨b15, 0, none⟩)), (16, .int .i64 ms.length)]) (fun ms => (some b15, .cells (nmArr sl ms) 71 (0, 0)) :: (qc, obN 49 (compF f) spc) :: ms.map (fun m => (some m, mobj (Value.int .i64) FV.v ([] : Nm)))) (fun ms => ms.length ≤ 2) (fun ms => 2 - ms.length) [] (Nat.zero_le _) ⟨rfl, rfl, trivial⟩ (List.Sublist.refl _) (fun ms hms IH => ?_)
   refine gS (gR ?_)
   refine gBi bLt ?_
   refine gE (gS ?_)
   refine GoH.cond rfl (fun hc => ?_) (fun hc => ?_)
   ·
    have hlt : ms.length < 2 := by simp at hc; omega
    refine gK (gS (gB (gS (gR ?_))))
    refine gMv ?_
    refine gAs ?_
    refine gE (gR ?_)
    iterate 2 refine gMv ?_
    refine GoH.mkMap (Value.int .i64) FV.v rfl rfl rfl (fun bm => ?_)
    refine gNk ?_
    refine gFp Try.underlying71 Try.sizeOf69 1 ?_
    refine GoH.v (Vop.idxA rfl rfl rfl rfl rfl Try.underlying69 Try.sizeOf68 ms.length rfl hlt) ?_
    refine GoH.st (cs := nmArr sl ms) rfl rfl rfl rfl Try.sizeOf68 rfl 1 rfl (by simp [nmArr, Nat.blt_eq]; omega) ?_
    refine gE (gIb (gR ?_))
    refine GoH.v (Vop.bin rfl rfl rfl rfl (bAdd (by omega)) rfl) ?_
    refine gMv ?_
    refine gE ?_
    refine GoH.permH (h' := (some b15, .cells (nmArr sl (ms ++ [bm])) 71 (0, 0)) :: (qc, obN 49 (compF f) spc) :: ((ms ++ [bm]).map (fun m => (some m, mobj (Value.int .i64) FV.v ([] : Nm))))) (by rw [← nmArr_set hlt, List.map_append]; exact (List.perm_append_singleton _ (_ :: _ :: _)).symm) ?_
    exact IH (ms ++ [bm]) _ _ (by simp; omega) (by simp; omega) ⟨rfl, by rw [show (ms ++ [bm]).length = ms.length + 1 from by simp]; rfl, trivial⟩ (List.Sublist.refl _)
   ·
    have hge : ms.length = 2 := by simp at hc; omega
    obtain ⟨m0, m1, rfl⟩ := two_of hge
    subst hsl
    refine GoH.exit rfl (gS (gR ?_))
    iterate 2 refine gMv ?_
    refine gNk ?_
    refine gFp Try.underlying71 Try.sizeOf22 0 ?_
    refine gLo Try.isAgg22 0 ?_
    refine gBl Try.underlying22 ?_
    refine GoH.v (Vop.bin rfl rfl rfl rfl (bSubE (c := (((compF f).length - 1 : Nat) : Int)) (by omega) (by omega)) rfl) ?_
    refine GoH.pick (pre := [_, _, _, _]) (pre' := nmH m0 [] m1 [] ++ [(some b15, .cells (nmBk (qc.map (fun b => ⟨b, 0, none⟩)) (compF f).length capc m0 m1) 71 (0, 0)), (qc, obN 49 (compF f) spc)]) [2, 3, 0, 1] (by decide) rfl ?_
    refine GoH.callS (h := nmH m0 [] m1 []) (hF := [(some b15, .cells (nmBk (qc.map (fun b => ⟨b, 0, none⟩)) (compF f).length capc m0 m1) 71 (0, 0)), (qc, obN 49 (compF f) spc)]) (fs := []) (cs := []) (fun _ => NfPost 49 (compF f) m0 m1 ((compF f).length - 1 + 1) (nnT (treeAt (compF f) ((compF f).length - 1))).1 [] []) rfl rfl rfl rfl rfl (fun _ _ => Try.call70 _ _) (fun w1 Y' hS => ?_) (fun w1 u1 h1 hR => ?_)
    · have := of_ok (na := qc.map (fun b => ⟨b, 0, none⟩)) (nc := capc) (bk := b15) (m0 := m0) (m1 := m1) hNd ((compF f).length - 1) (by omega) false w1 [] [] ⟨(hS.subH (List.sublist_append_left _ _)).has, hS.get (j := 2) rfl, faAt hS 3 rfl (fun e => (hqc e).1), (fun _ h => by cases h), (fun _ h => by cases h), ⟨(fun _ h => by cases h), (fun _ h => by cases h)⟩⟩
      rw [pn_f] at this; exact this
    obtain ⟨fv, L0', L1', F, rfl, rfl, g, hf, hh⟩ := hR
    have hin : fv.In 49 F := (hh.base g).resolve_right (by rintro (⟨_, h⟩ | ⟨_, h⟩) <;> cases h)
    have hres : fv.f = bT (nnT (topT f)).1 := by
      rw [hf]
      congr 2
      have := canAt_top hT
      rw [← hce] at this
      rw [this]
    refine GoH.callP rfl rfl rfl rfl rfl (fun _ _ => Try.call61 _ _) (fun w _ hS => (by exact long_c fv.a fv.c fv.f w)) ?_
    iterate 2 refine gEx ?_
    iterate 2 refine gAs ?_
    refine gE ?_
    refine GoH.ret Try.f32 Try.func32 rfl (fun w' hS => ?_)
    by_cases h5 : fv.f = []
    · rw [if_pos h5, if_pos h5]
      exact ⟨hS.ext, _, [], _, rfl, OwnN.nil0, .inr ⟨h0, by rw [← hres]; exact h5.symm, rfl⟩⟩
    · rw [if_neg h5, if_neg h5]
      exact ⟨hS.ext, _, _, _, rfl, (hin.mono (fun _ h => List.mem_append_left _ (List.mem_append_right _ h))).own hS, .inr ⟨h0, hres, by rw [if_neg h5]⟩⟩
end Go.Proofs.Ytkoipdlkkchmiaa
