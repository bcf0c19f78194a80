/- What calls of the program return, under the conditions that each theorem states. -/
import Derived.Test.YthojdcaojjmoaaaGreatDoorB24
import Derived.Test.YthojdcaojjmoaaaGreatDoorB25
import Derived.Test.YthojdcaojjmoaaaGreatDoorB04
namespace Go.Proofs.YthojdcaojjmoaaaGreatDoor
open Go.RowKit Go.Proofs.Wit
/-! the fragments of a formula -/
theorem frags1_c (n : NV) (op : Int) (w : World) : Cn Tryz.prog 86 [n.v, usV op] w (fun v _ => v = .int .i64 (frO op)) := by
  refine Cn.of Tryz.func86 rfl rfl ?_
  refine gS (gR ?_)
  refine GoH.bx rfl rfl rfl rfl (fun b2 => ?_)
  refine GoH.bx rfl rfl rfl rfl (fun b3 => ?_)
  refine gAs ?_
  refine gE (gS (gR ?_))
  refine gFp Tryz.underlying121 Tryz.sizeOf3 6 ?_
  refine gLo Tryz.isAgg3 0 ?_
  refine gAs ?_
  refine gE ?_
  refine GoH.ret Tryz.f86 Tryz.func86 rfl (fun w' hS => ?_)
  exact ⟨hS.ext, rfl⟩
set_option maxRecDepth 4000 in
theorem funion_c (a : Option Addr) (ca : Nat) (f : List NV) (w : World) (ha : FA w a f) (hl : f.length ≤ maxLen) : Cn Tryz.prog 85 [.slice a f.length ca, .func (.func 86) #[] #[]] w (fun v _ => v = .int .i64 (frgL (compF f))) := by
  have hcl := compF_le f
  refine Cn.of Tryz.func85 rfl rfl ?_
  refine gS (gR ?_)
  refine gAs ?_
  refine gE (gS (gR ?_))
  refine gAs ?_
  refine gE (gS (gS (gR ?_)))
  refine gMv ?_
  refine GoH.callM _ rfl rfl rfl rfl rfl (fun _ _ => Tryz.call107 _ _) (fun w _ hS => fcompact_c a ca f w (ha.ex0 hS.ext) hl) ?_
  rintro v w1 w2 Y' hS he ho
  rw [subF_top] at ho
  obtain ⟨q, cap, sp, rfl, hq, hcap, hS'⟩ := gainN hS he ho
  refine ⟨_, hS', ?_⟩
  refine gBl Tryz.underlying26 ?_
  refine gMv ?_
  refine gE (gB ?_)
  refine GoH.loop (σ := Nat) (fun k => [(1, .func (.func 86) #[] #[]), (5, .int .i64 (frgL ((compF f).take k))), (11, osv q (compF f).length cap), (12, .int .i64 (compF f).length), (13, .int .i64 k)]) (fun _ => [(q, obN 54 (compF f) sp)]) (fun k => k ≤ (compF f).length) (fun k => (compF f).length - k) 0 (Nat.zero_le _) ⟨rfl, rfl, rfl, rfl, rfl, trivial⟩ (List.Sublist.refl _) (fun k hk IH => ?_)
  refine gS (gR ?_)
  refine gBi bLt ?_
  refine gE (gS ?_)
  refine GoH.cond rfl (fun hc => ?_) (fun hc => ?_)
  ·
   have hm : k < (compF f).length := by simpa using hc
   obtain ⟨b, rfl⟩ : ∃ b, q = some b := by
     cases q with
     | none => have := (hq rfl).1; omega
     | some b => exact ⟨b, rfl⟩
   have h1 := frgL_lt ((compF f).take k)
   have h2 := frO_lt (compF f)[k].op
   have h3 := frN_eq (compF f)[k]
   have ht : frgL ((compF f).take (k + 1)) = frgL ((compF f).take k) ||| frN (compF f)[k] := by rw [List.take_succ_eq_append_getElem hm, frgL_snoc]
   refine gK (gS (gB (gS (gR ?_))))
   refine GoH.v (Vop.idxS rfl rfl rfl rfl rfl Tryz.underlying26 Tryz.sizeOf54 k ⟨rfl, hm⟩) ?_
   refine GoH.v (Vop.ldN (cs := NV.cells (compF f)[k]) rfl rfl rfl rfl Tryz.isAgg54 Tryz.sizeOf54 (fun w _ hS => Sl.many (enc := NV.cells) (sz := 6) (a := some ⟨b, 0, none⟩) (Sl.blk (hS.get (j := 0) rfl)) (fun _ => rfl) hm)) ?_
   refine GoH.alc rfl rfl rfl (fun _ => Tryz.zeroValue54 _) (fun b7 => ?_)
   refine GoH.stB rfl rfl rfl rfl Tryz.sizeOf54 0 rfl rfl rfl rfl ?_
   refine gE (gS (gR ?_))
   refine gFp Tryz.underlying54 Tryz.sizeOf3 0 ?_
   refine gLo Tryz.isAgg3 0 ?_
   refine GoH.callP rfl rfl rfl rfl rfl (fun _ _ => Tryz.call104 _ _) (fun w _ hS => (by exact uses_c (compF f)[k].op w)) ?_
   refine gMv ?_
   iterate 2 refine gEx ?_
   refine GoH.alc rfl rfl rfl (fun _ => Tryz.zeroValue121 _) (fun b8 => ?_)
   refine GoH.stB rfl rfl rfl rfl Tryz.sizeOf121 0 rfl rfl rfl rfl ?_
   refine gAs ?_
   refine gE (gR ?_)
   iterate 2 refine gMv ?_
   refine GoH.v (Vop.ldB rfl rfl rfl rfl Tryz.isAgg54 1 rfl Tryz.sizeOf54 rfl) ?_
   refine GoH.v (Vop.ldB rfl rfl rfl rfl Tryz.isAgg121 0 rfl Tryz.sizeOf121 rfl) ?_
   refine GoH.callP rfl rfl rfl rfl rfl (fun _ _ => Tryz.call86 _ _) (fun w _ hS => (by have := frags1_c (compF f)[k] (compF f)[k].op w; rw [← h3] at this; exact this)) ?_
   refine GoH.v (Vop.bin rfl rfl rfl rfl (bOrI h1 (by omega) ht) rfl) ?_
   refine gAs ?_
   refine gE (gIb (gR ?_))
   refine GoH.v (Vop.bin rfl rfl rfl rfl (bAdd (by omega)) rfl) ?_
   refine gMv ?_
   refine gE ?_
   exact IH (k + 1) _ _ hm (by omega) ⟨rfl, rfl, rfl, rfl, rfl, trivial⟩ (.cons _ (.cons _ (List.Sublist.refl _)))
  ·
   have hge : ¬ k < (compF f).length := by simpa using hc
   obtain rfl : k = (compF f).length := by omega
   rw [List.take_length]
   refine GoH.exit rfl (gS (gR ?_))
   refine gMv ?_
   refine gAs ?_
   refine gE ?_
   refine GoH.ret Tryz.f85 Tryz.func85 rfl (fun w' hS => ?_)
   exact ⟨hS.ext, rfl⟩
theorem frags_c (a : Option Addr) (ca : Nat) (f : List NV) (w : World) (ha : FA w a f) (hl : f.length ≤ maxLen) : Cn Tryz.prog 60 [.slice a f.length ca] w (fun v _ => v = .int .i64 (frgL (compF f))) := by
  refine Cn.of Tryz.func60 rfl rfl ?_
  refine gS (gR ?_)
  refine gAs ?_
  refine gE (gS (gR ?_))
  refine gMv ?_
  refine GoH.callP rfl rfl rfl rfl rfl (fun _ _ => Tryz.call85 _ _) (fun w _ hS => (by exact funion_c a ca f w (ha.ex0 hS.ext) hl)) ?_
  refine gAs ?_
  refine gE ?_
  refine GoH.ret Tryz.f60 Tryz.func60 rfl (fun w' hS => ?_)
  exact ⟨hS.ext, rfl⟩
end Go.Proofs.YthojdcaojjmoaaaGreatDoor
