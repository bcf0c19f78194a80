/- What calls of the program return, under the conditions that each theorem states. -/
import Derived.Test.YthojdcaojjmoaaaDoorA24
import Derived.Test.YthojdcaojjmoaaaDoorA25
import Derived.Test.YthojdcaojjmoaaaDoorA04
namespace Go.Proofs.YthojdcaojjmoaaaDoor
open Go.RowKit Go.Proofs.Wit
/-! the fragments of a formula -/
theorem frags1_c (n : NV) (op : Int) (w : World) : Cn Tryd.prog 38 [n.v, usV op] w (fun v _ => v = .int .i64 (frO op)) := by
  refine Cn.of Tryd.func38 rfl rfl ?_
  refine gS (gR ?_)
  refine GoH.bx rfl rfl rfl rfl (fun b2 => ?_)
  refine GoH.bx rfl rfl rfl rfl (fun b3 => ?_)
  refine gAs ?_
  refine gE (gS (gR ?_))
  refine gFp Tryd.underlying52 Tryd.sizeOf3 6 ?_
  refine gLo Tryd.isAgg3 0 ?_
  refine gAs ?_
  refine gE ?_
  refine GoH.ret Tryd.f38 Tryd.func38 rfl (fun w' hS => ?_)
  exact ⟨hS.ext, rfl⟩
set_option maxRecDepth 4000 in
theorem funion_c (a : Option Addr) (ca : Nat) (f : List NV) (w : World) (ha : FA w a f) (hl : f.length ≤ maxLen) : Cn Tryd.prog 37 [.slice a f.length ca, .func (.func 38) #[] #[]] w (fun v _ => v = .int .i64 (frgL (compF f))) := by
  have hcl := compF_le f
  refine Cn.of Tryd.func37 rfl rfl ?_
  refine gS (gR ?_)
  refine gAs ?_
  refine gE (gS (gR ?_))
  refine gAs ?_
  refine gE (gS (gS (gR ?_)))
  refine gMv ?_
  refine GoH.callM _ rfl rfl rfl rfl rfl (fun _ _ => Tryd.call18 _ _) (fun w _ hS => fcompact_c a ca f w (ha.ex0 hS.ext) hl) ?_
  rintro v w1 w2 Y' hS he ho
  rw [subF_top] at ho
  obtain ⟨q, cap, sp, rfl, hq, hcap, hS'⟩ := gainN hS he ho
  refine ⟨_, hS', ?_⟩
  refine gBl Tryd.underlying26 ?_
  refine gMv ?_
  refine gE (gB ?_)
  refine GoH.loop (σ := Nat) (fun k => [(1, .func (.func 38) #[] #[]), (5, .int .i64 (frgL ((compF f).take k))), (11, osv q (compF f).length cap), (12, .int .i64 (compF f).length), (13, .int .i64 k)]) (fun _ => [(q, obN 50 (compF f) sp)]) (fun k => k ≤ (compF f).length) (fun k => (compF f).length - k) 0 (Nat.zero_le _) ⟨rfl, rfl, rfl, rfl, rfl, trivial⟩ (List.Sublist.refl _) (fun k hk IH => ?_)
  refine gS (gR ?_)
  refine gBi bLt ?_
  refine gE (gS ?_)
  refine GoH.cond rfl (fun hc => ?_) (fun hc => ?_)
  ·
   have hm : k < (compF f).length := by simpa using hc
   obtain ⟨b, rfl⟩ : ∃ b, q = some b := by
     cases q with
     | none => have := (hq rfl).1; omega
     | some b => exact ⟨b, rfl⟩
   have h1 := frgL_lt ((compF f).take k)
   have h2 := frO_lt (compF f)[k].op
   have h3 := frN_eq (compF f)[k]
   have ht : frgL ((compF f).take (k + 1)) = frgL ((compF f).take k) ||| frN (compF f)[k] := by rw [List.take_succ_eq_append_getElem hm, frgL_snoc]
   refine gK (gS (gB (gS (gR ?_))))
   refine GoH.v (Vop.idxS rfl rfl rfl rfl rfl Tryd.underlying26 Tryd.sizeOf50 k ⟨rfl, hm⟩) ?_
   refine GoH.v (Vop.ldN (cs := NV.cells (compF f)[k]) rfl rfl rfl rfl Tryd.isAgg50 Tryd.sizeOf50 (fun w _ hS => Sl.many (enc := NV.cells) (sz := 6) (a := some ⟨b, 0, none⟩) (Sl.blk (hS.get (j := 0) rfl)) (fun _ => rfl) hm)) ?_
   refine GoH.alc rfl rfl rfl (fun _ => Tryd.zeroValue50 _) (fun b7 => ?_)
   refine GoH.stB rfl rfl rfl rfl Tryd.sizeOf50 0 rfl rfl rfl rfl ?_
   refine gE (gS (gR ?_))
   refine gFp Tryd.underlying50 Tryd.sizeOf3 0 ?_
   refine gLo Tryd.isAgg3 0 ?_
   refine GoH.callP rfl rfl rfl rfl rfl (fun _ _ => Tryd.call19 _ _) (fun w _ hS => (by exact uses_c (compF f)[k].op w)) ?_
   refine gMv ?_
   iterate 2 refine gEx ?_
   refine GoH.alc rfl rfl rfl (fun _ => Tryd.zeroValue52 _) (fun b8 => ?_)
   refine GoH.stB rfl rfl rfl rfl Tryd.sizeOf52 0 rfl rfl rfl rfl ?_
   refine gAs ?_
   refine gE (gR ?_)
   iterate 2 refine gMv ?_
   refine GoH.v (Vop.ldB rfl rfl rfl rfl Tryd.isAgg50 1 rfl Tryd.sizeOf50 rfl) ?_
   refine GoH.v (Vop.ldB rfl rfl rfl rfl Tryd.isAgg52 0 rfl Tryd.sizeOf52 rfl) ?_
   refine GoH.callP rfl rfl rfl rfl rfl (fun _ _ => Tryd.call38 _ _) (fun w _ hS => (by have := frags1_c (compF f)[k] (compF f)[k].op w; rw [← h3] at this; exact this)) ?_
   refine GoH.v (Vop.bin rfl rfl rfl rfl (bOrI h1 (by omega) ht) rfl) ?_
   refine gAs ?_
   refine gE (gIb (gR ?_))
   refine GoH.v (Vop.bin rfl rfl rfl rfl (bAdd (by omega)) rfl) ?_
   refine gMv ?_
   refine gE ?_
   exact IH (k + 1) _ _ hm (by omega) ⟨rfl, rfl, rfl, rfl, rfl, trivial⟩ (.cons _ (.cons _ (List.Sublist.refl _)))
  ·
   have hge : ¬ k < (compF f).length := by simpa using hc
   obtain rfl : k = (compF f).length := by omega
   rw [List.take_length]
   refine GoH.exit rfl (gS (gR ?_))
   refine gMv ?_
   refine gAs ?_
   refine gE ?_
   refine GoH.ret Tryd.f37 Tryd.func37 rfl (fun w' hS => ?_)
   exact ⟨hS.ext, rfl⟩
theorem frags_c (a : Option Addr) (ca : Nat) (f : List NV) (w : World) (ha : FA w a f) (hl : f.length ≤ maxLen) : Cn Tryd.prog 22 [.slice a f.length ca] w (fun v _ => v = .int .i64 (frgL (compF f))) := by
  refine Cn.of Tryd.func22 rfl rfl ?_
  refine gS (gR ?_)
  refine gAs ?_
  refine gE (gS (gR ?_))
  refine gMv ?_
  refine GoH.callP rfl rfl rfl rfl rfl (fun _ _ => Tryd.call37 _ _) (fun w _ hS => (by exact funion_c a ca f w (ha.ex0 hS.ext) hl)) ?_
  refine gAs ?_
  refine gE ?_
  refine GoH.ret Tryd.f22 Tryd.func22 rfl (fun w' hS => ?_)
  exact ⟨hS.ext, rfl⟩
end Go.Proofs.YthojdcaojjmoaaaDoor
