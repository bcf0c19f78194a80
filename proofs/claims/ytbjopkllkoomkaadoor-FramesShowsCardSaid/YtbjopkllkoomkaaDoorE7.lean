/- Contracts of functions of the program: what each call returns and that nothing else of memory is turned, under the conditions that each theorem states. -/
import Derived.Test.YtbjopkllkoomkaaDoorE6
namespace Go.Proofs.YtbjopkllkoomkaaDoor
open Go.RowKit Go.Proofs.Wit
/-! the program's compact, Sub and Compact -/
set_option maxRecDepth 8000 in
theorem fcomp_c (a : Option Addr) (ca : Nat) (f : List NV) (i : Nat) (w : World) (ha : FA w a f) (hf : NodesOk f) (hfl : f.length ≤ 10000) (hi : i < f.length) :
    Cn Tryd.prog 74 [.slice a f.length ca, .int .i64 i] w (fun v w' => OwnN 58 w w' v (canT (treeAt f i))) := by
  refine Cn.of Tryd.func74 rfl rfl ?_
  refine GoH.seq ?_
  refine GoH.region ?_
  refine GoH.bx rfl rfl rfl rfl (fun b2 => ?_)
  refine GoH.v (Vop.asg rfl rfl rfl rfl) ?_
  refine GoH.regionEnd ?_
  refine GoH.seq ?_
  refine GoH.region ?_
  refine GoH.alc rfl rfl rfl (fun _ => Tryd.zeroValue24 _) (fun b5 => ?_)
  refine GoH.regionEnd ?_
  refine GoH.seq ?_
  refine GoH.region ?_
  refine GoH.mkMap NV.v evM rfl rfl rfl (fun b9 => ?_)
  -- heap: b9 b5 b2
  refine GoH.alc rfl rfl rfl (fun _ => Tryd.zeroValue118 _) (fun b6 => ?_)
  refine GoH.st rfl rfl rfl rfl Tryd.sizeOf118 rfl 0 rfl rfl ?_
  refine GoH.regionEnd ?_
  refine GoH.seq ?_
  refine GoH.region ?_
  refine GoH.mkMap (Value.int .i64) evM rfl rfl rfl (fun b10 => ?_)
  -- heap: b10 b6 b9 b5 b2
  refine GoH.alc rfl rfl rfl (fun _ => Tryd.zeroValue119 _) (fun b7 => ?_)
  refine GoH.st rfl rfl rfl rfl Tryd.sizeOf119 rfl 0 rfl rfl ?_
  refine GoH.regionEnd ?_
  refine GoH.seq ?_
  refine GoH.region ?_
  refine GoH.alc rfl rfl rfl (fun _ => Tryd.zeroValue54 _) (fun b8 => ?_)
  refine GoH.regionEnd ?_
  refine GoH.seq ?_
  refine GoH.region ?_
  refine GoH.v (Vop.mkFunc rfl rfl rfl rfl rfl) ?_
  refine GoH.st rfl rfl rfl rfl Tryd.sizeOf54 rfl 0 rfl rfl ?_
  refine GoH.regionEnd ?_
  refine GoH.seq ?_
  refine GoH.region ?_
  refine GoH.v (Vop.ldo rfl rfl rfl rfl Tryd.isAgg54 0 rfl rfl) ?_
  refine GoH.v (Vop.mv rfl rfl rfl rfl) ?_
  refine GoH.addNone (obN 58 (nodesOf []) []) ?_
  refine GoH.pick (pre := [_, _, _, _, _, _, _, _]) (pre' := compH b7 b2 b8 b6 b5 b10 b9 a ca f.length none 0 [] [] [] ++ []) [2, 7, 1, 4, 6, 0, 3, 5] (by decide) rfl ?_
  refine GoH.callS (h := compH b7 b2 b8 b6 b5 b10 b9 a ca f.length none 0 [] [] []) (hF := []) (fs := []) (cs := [pt b7, pt b2, pt b8, pt b6, pt b5]) (fun _ v h' => CompPost f i b7 b2 b8 b6 b5 b10 b9 a ca f.length [] [] v h') rfl rfl rfl rfl rfl (fun _ _ => Tryd.call99 _ _) (fun w1 Y' hS => ?_) (fun w1 v h1 hR => ?_)
  · have hS1 := hS.subH (List.sublist_append_left (compH b7 b2 b8 b6 b5 b10 b9 a ca f.length none 0 [] [] []) _)
    exact comp1_c f a ca hf hfl b7 b2 b8 b6 b5 b10 b9 i hi w1 none 0 [] [] [] hS1.has (ha.ex0 hS.ext) (sepOf (h := []) ha (by omega) (by simp [blks]) hS1) ⟨fun _ => ⟨rfl, rfl⟩, rfl, Clo.nil, List.nodup_nil, fun u hu => by cases hu⟩ (List.nil_subset _) DoneM.nil
  obtain ⟨q1, cap1, sp1, L1, rfl, ho1, hd1, _, rfl⟩ := hR
  unfold compH
  -- heap: b7 b2 b8 b6 b5 q1 b10 b9
  refine GoH.regionEnd ?_
  refine GoH.seq ?_
  refine GoH.region ?_
  refine GoH.v (Vop.ldo rfl rfl rfl rfl Tryd.isAgg24 4 rfl rfl) ?_
  refine GoH.v (Vop.asg rfl rfl rfl rfl) ?_
  refine GoH.regionEnd ?_
  refine GoH.ret Tryd.f74 Tryd.func74 rfl (fun w' hS => ?_)
  exact ⟨hS.ext, OwnN.mk hS 5 rfl rfl ho1.nil ho1.cap⟩
set_option maxRecDepth 4000 in
theorem fsub_c (a : Option Addr) (ca : Nat) (f : List NV) (i : Int) (w : World) (ha : FA w a f) (hl : f.length ≤ maxLen) : Cn Tryd.prog 98 [.slice a f.length ca, .int .i64 i] w (fun v w' => OwnN 58 w w' v (subF f i)) := by
  refine Cn.of Tryd.func98 rfl rfl ?_
  refine GoH.seq ?_
  refine GoH.region ?_
  refine GoH.v (Vop.asg rfl rfl rfl rfl) ?_
  refine GoH.regionEnd ?_
  refine GoH.seq ?_
  refine GoH.seq ?_
  refine GoH.region ?_
  refine GoH.v (Vop.mv rfl rfl rfl rfl) ?_
  refine GoH.callP rfl rfl rfl rfl rfl (fun _ _ => Tryd.call22 _ _) (fun w _ hS => (by exact fcheck_c a ca f w (ha.ex0 hS.ext) hl)) ?_
  refine GoH.v (Vop.bin rfl rfl rfl rfl bNe rfl) ?_
  refine GoH.v (Vop.mv rfl rfl rfl rfl) ?_
  -- guard on slot 8 (formula.go:129)
  refine GoH.cases (d := 8) rfl (fun hc => ?_) (fun hc => ?_)
  · -- yes
    have h1 : chkF f ≠ 0 := by simpa using hc
    refine GoH.no rfl rfl rfl rfl ?_
    refine GoH.no rfl rfl rfl rfl ?_
    refine GoH.v (Vop.pickT rfl rfl rfl rfl rfl) ?_
    refine GoH.v (Vop.mv rfl rfl rfl rfl) ?_
    refine GoH.no rfl rfl rfl rfl ?_
    refine GoH.no rfl rfl rfl rfl ?_
    refine GoH.no rfl rfl rfl rfl ?_
    refine GoH.no rfl rfl rfl rfl ?_
    refine GoH.v (Vop.pickT rfl rfl rfl rfl rfl) ?_
    refine GoH.regionEnd ?_
    refine GoH.condT rfl ?_
    refine GoH.seq ?_
    refine GoH.region ?_
    refine GoH.v (Vop.asg rfl rfl rfl rfl) ?_
    refine GoH.regionEnd ?_
    refine GoH.ret Tryd.f98 Tryd.func98 rfl (fun w' hS => ?_)
    exact ⟨hS.ext, by rw [subF, if_pos (.inl h1)]; exact OwnN.nil0⟩
  · -- no
    have h1 : chkF f = 0 := by simpa using hc
    refine GoH.v (Vop.mv rfl rfl rfl rfl) ?_
    refine GoH.v (Vop.bin rfl rfl rfl rfl bLt rfl) ?_
    refine GoH.v (Vop.pickF rfl rfl rfl rfl rfl) ?_
    refine GoH.v (Vop.mv rfl rfl rfl rfl) ?_
    -- guard on slot 12 (formula.go:129)
    refine GoH.cases (d := 12) rfl (fun hc => ?_) (fun hc => ?_)
    · -- yes
      have h2 : i < 0 := by simpa using hc
      refine GoH.no rfl rfl rfl rfl ?_
      refine GoH.no rfl rfl rfl rfl ?_
      refine GoH.no rfl rfl rfl rfl ?_
      refine GoH.no rfl rfl rfl rfl ?_
      refine GoH.v (Vop.pickT rfl rfl rfl rfl rfl) ?_
      refine GoH.regionEnd ?_
      refine GoH.condT rfl ?_
      refine GoH.seq ?_
      refine GoH.region ?_
      refine GoH.v (Vop.asg rfl rfl rfl rfl) ?_
      refine GoH.regionEnd ?_
      refine GoH.ret Tryd.f98 Tryd.func98 rfl (fun w' hS => ?_)
      exact ⟨hS.ext, by rw [subF, if_pos (.inr (.inl h2))]; exact OwnN.nil0⟩
    · -- no
      have h2 : ¬ i < 0 := by simpa using hc
      refine GoH.v (Vop.mv rfl rfl rfl rfl) ?_
      refine GoH.v (Vop.mv rfl rfl rfl rfl) ?_
      refine GoH.v (Vop.blt rfl rfl rfl (blt_len_slice Tryd.underlying24) rfl) ?_
      refine GoH.v (Vop.bin rfl rfl rfl rfl bGe rfl) ?_
      refine GoH.v (Vop.pickF rfl rfl rfl rfl rfl) ?_
      refine GoH.regionEnd ?_
      refine GoH.cond rfl (fun hc => ?_) (fun hc => ?_)
      · -- yes
        have h3 : (f.length : Int) ≤ i := by simpa using hc
        refine GoH.seq ?_
        refine GoH.region ?_
        refine GoH.v (Vop.asg rfl rfl rfl rfl) ?_
        refine GoH.regionEnd ?_
        refine GoH.ret Tryd.f98 Tryd.func98 rfl (fun w' hS => ?_)
        exact ⟨hS.ext, by rw [subF, if_pos (.inr (.inr h3))]; exact OwnN.nil0⟩
      · -- no
        have h3 : ¬ (f.length : Int) ≤ i := by simpa using hc
        have hok := chkF_zero.1 h1
        have hnl := hok.len
        have hnp := hok.pos
        obtain ⟨i, rfl⟩ : ∃ I : Nat, i = I := ⟨i.toNat, by omega⟩
        have hi2 : i < f.length := by omega
        have he : subF f i = canT (treeAt f i) := by rw [subF, if_neg (by simp [h1]; omega)]; rfl
        refine GoH.skip ?_
        refine GoH.seq ?_
        refine GoH.region ?_
        refine GoH.v (Vop.mv rfl rfl rfl rfl) ?_
        refine GoH.v (Vop.mv rfl rfl rfl rfl) ?_
        refine GoH.callM _ rfl rfl rfl rfl rfl (fun _ _ => Tryd.call74 _ _) (fun w _ hS => fcomp_c a ca f i w (ha.ex0 hS.ext) hok.nodes (by omega) hi2) ?_
        rintro v w1 w2 Y' hS he2 ho
        obtain ⟨q, cap, sp, rfl, hq, hcap, hS'⟩ := gainN hS he2 ho
        refine ⟨_, hS', ?_⟩
        -- heap: q
        refine GoH.v (Vop.asg rfl rfl rfl rfl) ?_
        refine GoH.regionEnd ?_
        refine GoH.ret Tryd.f98 Tryd.func98 rfl (fun w' hS => ?_)
        exact ⟨hS.ext, by rw [he]; exact OwnN.mk hS 0 rfl rfl hq hcap⟩
theorem fcompact_c (a : Option Addr) (ca : Nat) (f : List NV) (w : World) (ha : FA w a f) (hl : f.length ≤ maxLen) : Cn Tryd.prog 72 [.slice a f.length ca] w (fun v w' => OwnN 58 w w' v (subF f ((f.length : Int) - 1))) := by
  unfold maxLen at hl
  refine Cn.of Tryd.func72 rfl rfl ?_
  refine GoH.seq ?_
  refine GoH.region ?_
  refine GoH.v (Vop.asg rfl rfl rfl rfl) ?_
  refine GoH.regionEnd ?_
  refine GoH.seq ?_
  refine GoH.region ?_
  refine GoH.v (Vop.mv rfl rfl rfl rfl) ?_
  refine GoH.v (Vop.mv rfl rfl rfl rfl) ?_
  refine GoH.v (Vop.blt rfl rfl rfl (blt_len_slice Tryd.underlying24) rfl) ?_
  refine GoH.v (Vop.bin rfl rfl rfl rfl (bSub (by omega)) rfl) ?_
  refine GoH.callM _ rfl rfl rfl rfl rfl (fun _ _ => Tryd.call98 _ _) (fun w _ hS => fsub_c a ca f ((f.length : Int) - 1) w (ha.ex0 hS.ext) hl) ?_
  rintro v w1 w2 Y' hS he ho
  obtain ⟨q, cap, sp, rfl, hq, hcap, hS'⟩ := gainN hS he ho
  refine ⟨_, hS', ?_⟩
  -- heap: q
  refine GoH.v (Vop.asg rfl rfl rfl rfl) ?_
  refine GoH.regionEnd ?_
  refine GoH.ret Tryd.f72 Tryd.func72 rfl (fun w' hS => ?_)
  exact ⟨hS.ext, OwnN.mk hS 0 rfl rfl hq hcap⟩
end Go.Proofs.YtbjopkllkoomkaaDoor
