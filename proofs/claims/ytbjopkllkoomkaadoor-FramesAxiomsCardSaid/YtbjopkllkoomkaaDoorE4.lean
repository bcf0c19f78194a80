/- Contracts of functions of the program: what each call returns and that nothing else of memory is turned, under the conditions that each theorem states. -/
import Derived.Test.YtbjopkllkoomkaaDoorE3
import Derived.Test.YtbjopkllkoomkaaDoorWI
namespace Go.Proofs.YtbjopkllkoomkaaDoor
open Go.RowKit Go.Proofs.Wit
/-! the reference's Sub and Compact -/
set_option maxRecDepth 4000 in
theorem rsub_c (a : Option Addr) (ca : Nat) (f : List NV) (i : Int) (w : World) (ha : FA w a f) (hl : f.length ≤ maxLen) : Cn Tryd.prog 53 [.slice a f.length ca, .int .i64 i] w (fun v w' => OwnN 58 w w' v (subF f i)) := by
  obtain ⟨i0, hi, hz, hsz, hby⟩ := info_parts infoI
  refine Cn.of Tryd.func53 rfl rfl ?_
  refine GoH.seq ?_
  refine GoH.region ?_
  refine GoH.v (Vop.asg rfl rfl rfl rfl) ?_
  refine GoH.regionEnd ?_
  refine GoH.seq ?_
  refine GoH.seq ?_
  refine GoH.region ?_
  refine GoH.v (Vop.mv rfl rfl rfl rfl) ?_
  refine GoH.callP rfl rfl rfl rfl rfl (fun _ _ => Tryd.call26 _ _) (fun w _ hS => (by exact rchk_c a ca f w (ha.ex0 hS.ext) hl)) ?_
  refine GoH.v (Vop.bin rfl rfl rfl rfl bNe rfl) ?_
  refine GoH.v (Vop.mv rfl rfl rfl rfl) ?_
  -- guard on slot 10 (ref.go:103)
  refine GoH.cases (d := 10) rfl (fun hc => ?_) (fun hc => ?_)
  · -- yes
    have h1 : chkF f ≠ 0 := by simpa using hc
    refine GoH.no rfl rfl rfl rfl ?_
    refine GoH.no rfl rfl rfl rfl ?_
    refine GoH.v (Vop.pickT rfl rfl rfl rfl rfl) ?_
    refine GoH.v (Vop.mv rfl rfl rfl rfl) ?_
    refine GoH.no rfl rfl rfl rfl ?_
    refine GoH.no rfl rfl rfl rfl ?_
    refine GoH.no rfl rfl rfl rfl ?_
    refine GoH.no rfl rfl rfl rfl ?_
    refine GoH.v (Vop.pickT rfl rfl rfl rfl rfl) ?_
    refine GoH.regionEnd ?_
    refine GoH.condT rfl ?_
    refine GoH.seq ?_
    refine GoH.region ?_
    refine GoH.v (Vop.asg rfl rfl rfl rfl) ?_
    refine GoH.regionEnd ?_
    refine GoH.ret Tryd.f53 Tryd.func53 rfl (fun w' hS => ?_)
    exact ⟨hS.ext, by rw [subF, if_pos (.inl h1)]; exact OwnN.nil0⟩
  · -- no
    have h1 : chkF f = 0 := by simpa using hc
    refine GoH.v (Vop.mv rfl rfl rfl rfl) ?_
    refine GoH.v (Vop.bin rfl rfl rfl rfl bLt rfl) ?_
    refine GoH.v (Vop.pickF rfl rfl rfl rfl rfl) ?_
    refine GoH.v (Vop.mv rfl rfl rfl rfl) ?_
    -- guard on slot 14 (ref.go:103)
    refine GoH.cases (d := 14) rfl (fun hc => ?_) (fun hc => ?_)
    · -- yes
      have h2 : i < 0 := by simpa using hc
      refine GoH.no rfl rfl rfl rfl ?_
      refine GoH.no rfl rfl rfl rfl ?_
      refine GoH.no rfl rfl rfl rfl ?_
      refine GoH.no rfl rfl rfl rfl ?_
      refine GoH.v (Vop.pickT rfl rfl rfl rfl rfl) ?_
      refine GoH.regionEnd ?_
      refine GoH.condT rfl ?_
      refine GoH.seq ?_
      refine GoH.region ?_
      refine GoH.v (Vop.asg rfl rfl rfl rfl) ?_
      refine GoH.regionEnd ?_
      refine GoH.ret Tryd.f53 Tryd.func53 rfl (fun w' hS => ?_)
      exact ⟨hS.ext, by rw [subF, if_pos (.inr (.inl h2))]; exact OwnN.nil0⟩
    · -- no
      have h2 : ¬ i < 0 := by simpa using hc
      refine GoH.v (Vop.mv rfl rfl rfl rfl) ?_
      refine GoH.v (Vop.mv rfl rfl rfl rfl) ?_
      refine GoH.v (Vop.blt rfl rfl rfl (blt_len_slice Tryd.underlying24) rfl) ?_
      refine GoH.v (Vop.bin rfl rfl rfl rfl bGe rfl) ?_
      refine GoH.v (Vop.pickF rfl rfl rfl rfl rfl) ?_
      refine GoH.regionEnd ?_
      refine GoH.cond rfl (fun hc => ?_) (fun hc => ?_)
      · -- yes
        have h3 : (f.length : Int) ≤ i := by simpa using hc
        refine GoH.seq ?_
        refine GoH.region ?_
        refine GoH.v (Vop.asg rfl rfl rfl rfl) ?_
        refine GoH.regionEnd ?_
        refine GoH.ret Tryd.f53 Tryd.func53 rfl (fun w' hS => ?_)
        exact ⟨hS.ext, by rw [subF, if_pos (.inr (.inr h3))]; exact OwnN.nil0⟩
      · -- no
        have h3 : ¬ (f.length : Int) ≤ i := by simpa using hc
        have hok := chkF_zero.1 h1
        have hnl := hok.len
        have hnp := hok.pos
        obtain ⟨i, rfl⟩ : ∃ I : Nat, i = I := ⟨i.toNat, by omega⟩
        have hi2 : i < f.length := by omega
        refine GoH.skip ?_
        refine GoH.seq ?_
        refine GoH.region ?_
        refine GoH.v (Vop.bld rfl rfl rfl rfl (bld (c := [_, _]) Tryd.underlying107 (Szs.cons Tryd.sizeOf24 (Szs.cons Tryd.sizeOf42 Szs.nil)) Tryd.zeroValue107 rfl)) ?_
        refine GoH.bx rfl rfl rfl rfl (fun b21 => ?_)
        refine GoH.v (Vop.asg rfl rfl rfl rfl) ?_
        refine GoH.regionEnd ?_
        refine GoH.seq ?_
        refine GoH.seq ?_
        refine GoH.region ?_
        refine GoH.v (Vop.asg rfl rfl rfl rfl) ?_
        refine GoH.regionEnd ?_
        refine GoH.block ?_
        refine GoH.addNone (obN 58 (nodesOf []) []) ?_
        refine GoH.addNone (ob I64 3 [] []) ?_
        refine GoH.pick (pre := [_, _, _]) (pre' := [_, _, _]) [2, 0, 1] (by decide) rfl ?_
        refine GoH.loop (σ := Nat × Option Nat × Nat × List Value) (fun z => [(0, .slice a f.length ca), (1, .int .i64 i), (5, .pointer (some ⟨b21, 0, none⟩)), (6, .int .i64 z.1)]) (fun z => [(some b21, .cells #[.slice none 0 0, osv z.2.1 (List.replicate z.1 (-1 : Int)).length z.2.2.1] 107 (0, 0)), (z.2.1, ob I64 3 (List.replicate z.1 (-1 : Int)) z.2.2.2)])
          (fun z => z.1 ≤ f.length ∧ (z.2.1 = none → (List.replicate z.1 (-1 : Int)).length = 0 ∧ z.2.2.1 = 0) ∧ ((List.replicate z.1 (-1 : Int)).map I64 ++ z.2.2.2).length = z.2.2.1) (fun z => f.length - z.1) (0, none, 0, []) ⟨Nat.zero_le _, fun _ => ⟨rfl, rfl⟩, rfl⟩ ⟨rfl, rfl, rfl, rfl, trivial⟩ (.cons_cons _ (.cons_cons _ (.cons _ .slnil))) (fun z hI IH => ?_)
        obtain ⟨k, q, cap, sp⟩ := z
        obtain ⟨hk, hq, hcap⟩ := hI
        dsimp only at hk hq hcap IH ⊢
        -- heap: b21 q
        -- ptr: 5=b21
        refine GoH.seq ?_
        refine GoH.seq ?_
        refine GoH.region ?_
        refine GoH.v (Vop.mv rfl rfl rfl rfl) ?_
        refine GoH.v (Vop.mv rfl rfl rfl rfl) ?_
        refine GoH.v (Vop.blt rfl rfl rfl (blt_len_slice Tryd.underlying24) rfl) ?_
        refine GoH.v (Vop.bin rfl rfl rfl rfl bLt rfl) ?_
        refine GoH.regionEnd ?_
        refine GoH.cond rfl (fun hc => ?_) (fun hc => ?_)
        · -- yes
          have hlt : k < f.length := by simpa using hc
          have hrl : (List.replicate k (-1 : Int)).length = k := List.length_replicate
          refine GoH.skip ?_
          refine GoH.seq ?_
          refine GoH.block ?_
          refine GoH.region ?_
          refine GoH.v (Vop.mv rfl rfl rfl rfl) ?_
          refine GoH.v (Vop.mv rfl rfl rfl rfl) ?_
          refine GoH.v (Vop.nilCk rfl rfl rfl rfl) ?_
          refine GoH.v (Vop.fldP rfl rfl rfl rfl Tryd.underlying107 rfl (by exact Tryd.sizeOf42) 1 rfl) ?_
          refine GoH.v (Vop.ldo rfl rfl rfl rfl Tryd.isAgg42 0 rfl rfl) ?_
          refine GoH.bsN (c := [_]) rfl rfl rfl rfl Tryd.underlying42 Tryd.sizeOf3 Tryd.zeroValue3 rfl rfl (fun b33 => ?_)
          refine GoH.appE I64 (xs := List.replicate k (-1 : Int)) (sp := sp) (news := [(-1 : Int)]) (spn := []) rfl rfl rfl rfl rfl Tryd.underlying42 hi hz hsz rfl hq 2 rfl 0 rfl hcap rfl (by decide) (fun _ => rfl) (by unfold maxLen; rw [hrl]; omega) (by rw [hby, hrl]; omega) (fun b' sp' cap' hlen2 => ?_)
          rw [← List.replicate_succ'] at *
          -- heap: b33 b21 b'
          refine GoH.v (Vop.nilCk rfl rfl rfl rfl) ?_
          refine GoH.v (Vop.fldP rfl rfl rfl rfl Tryd.underlying107 rfl (by exact Tryd.sizeOf42) 1 rfl) ?_
          refine GoH.st rfl rfl rfl rfl Tryd.sizeOf42 rfl 1 rfl rfl ?_
          refine GoH.regionEnd ?_
          refine GoH.inBlock ?_
          refine GoH.region ?_
          refine GoH.v (Vop.mv rfl rfl rfl rfl) ?_
          refine GoH.v (Vop.bin rfl rfl rfl rfl (bAdd (by omega)) rfl) ?_
          refine GoH.v (Vop.asg rfl rfl rfl rfl) ?_
          refine GoH.regionEnd ?_
          exact IH (k + 1, some b', cap', sp') _ _ ⟨hlt, (fun e => by cases e), hlen2⟩ (by dsimp only; omega) ⟨rfl, rfl, rfl, rfl, trivial⟩ (.cons _ (List.Sublist.refl _))
        · -- no
          have hge : ¬ k < f.length := by simpa using hc
          obtain rfl : k = f.length := by omega
          obtain ⟨bd, rfl⟩ : ∃ bd, q = some bd := by
            cases q with
            | none => have := (hq rfl).1; rw [List.length_replicate] at this; omega
            | some b => exact ⟨b, rfl⟩
          refine GoH.exit rfl ?_
          refine GoH.seq ?_
          refine GoH.region ?_
          refine GoH.v (Vop.mv rfl rfl rfl rfl) ?_
          refine GoH.v (Vop.mv rfl rfl rfl rfl) ?_
          refine GoH.v (Vop.mv rfl rfl rfl rfl) ?_
          refine GoH.addNone (obN 58 (nodesOf []) []) ?_
          refine GoH.pick (pre := [_, _, _]) (pre' := finH b21 none 0 [] [] bd cap (List.replicate f.length (-1)) sp ++ []) [1, 0, 2] (by decide) rfl ?_
          refine GoH.callS (h := finH b21 none 0 [] [] bd cap (List.replicate f.length (-1)) sp) (hF := []) (fs := []) (cs := []) (fun _ v h' => FinPost f i b21 bd cap sp [] v h') rfl rfl rfl rfl rfl (fun _ _ => Tryd.call81 _ _) (fun w1 Y' hS => ?_) (fun w1 v h1' hR => ?_)
          · have hS1 := hS.subH (List.sublist_append_left (finH b21 none 0 [] [] bd cap (List.replicate f.length (-1)) sp) _)
            exact finish_c f a ca hok.nodes (by omega) b21 bd cap sp i hi2 w1 none 0 [] [] _ hS1.has (ha.ex0 hS.ext) (sepOf (h := []) ha hnp (by simp [blks]) hS1) ⟨fun _ => ⟨rfl, rfl⟩, rfl, Clo.nil, List.nodup_nil, fun u hu => by cases hu⟩ (List.nil_subset _) DoneOk.start
          obtain ⟨q1, cap1, sp1, ds1, rfl, ho1, hd1, rfl⟩ := hR
          have he : subF f i = nodesOf (visit (treeAt f i) []) := by rw [subF, if_neg (by simp [h1]; omega)]; rfl
          unfold finH
          -- heap: b21 q1 bd
          refine GoH.regionEnd ?_
          refine GoH.seq ?_
          refine GoH.region ?_
          refine GoH.v (Vop.mv rfl rfl rfl rfl) ?_
          refine GoH.v (Vop.nilCk rfl rfl rfl rfl) ?_
          refine GoH.v (Vop.fldP rfl rfl rfl rfl Tryd.underlying107 rfl (by exact Tryd.sizeOf24) 0 rfl) ?_
          refine GoH.v (Vop.ldo rfl rfl rfl rfl Tryd.isAgg24 0 rfl rfl) ?_
          refine GoH.v (Vop.asg rfl rfl rfl rfl) ?_
          refine GoH.regionEnd ?_
          refine GoH.ret Tryd.f53 Tryd.func53 rfl (fun w' hS => ?_)
          exact ⟨hS.ext, by rw [he]; exact OwnN.mk hS 1 rfl rfl ho1.nil ho1.cap⟩
theorem rcompact_c (a : Option Addr) (ca : Nat) (f : List NV) (w : World) (ha : FA w a f) (hl : f.length ≤ maxLen) : Cn Tryd.prog 28 [.slice a f.length ca] w (fun v w' => OwnN 58 w w' v (subF f ((f.length : Int) - 1))) := by
  unfold maxLen at hl
  refine Cn.of Tryd.func28 rfl rfl ?_
  refine GoH.seq ?_
  refine GoH.region ?_
  refine GoH.v (Vop.asg rfl rfl rfl rfl) ?_
  refine GoH.regionEnd ?_
  refine GoH.seq ?_
  refine GoH.region ?_
  refine GoH.v (Vop.mv rfl rfl rfl rfl) ?_
  refine GoH.v (Vop.mv rfl rfl rfl rfl) ?_
  refine GoH.v (Vop.blt rfl rfl rfl (blt_len_slice Tryd.underlying24) rfl) ?_
  refine GoH.v (Vop.bin rfl rfl rfl rfl (bSub (by omega)) rfl) ?_
  refine GoH.callM _ rfl rfl rfl rfl rfl (fun _ _ => Tryd.call53 _ _) (fun w _ hS => rsub_c a ca f ((f.length : Int) - 1) w (ha.ex0 hS.ext) hl) ?_
  rintro v w1 w2 Y' hS he ho
  obtain ⟨q, cap, sp, rfl, hq, hcap, hS'⟩ := gainN hS he ho
  refine ⟨_, hS', ?_⟩
  -- heap: q
  refine GoH.v (Vop.asg rfl rfl rfl rfl) ?_
  refine GoH.regionEnd ?_
  refine GoH.ret Tryd.f28 Tryd.func28 rfl (fun w' hS => ?_)
  exact ⟨hS.ext, OwnN.mk hS 0 rfl rfl hq hcap⟩
theorem bNeN {a b : NV} : Bin Tryd.prog .neq 58 a.v b.v (.bool (a != b)) := by
  obtain ⟨fs, hu, hfs⟩ := nodeFsK
  exact bNeNode hu hfs Tryd.underlying3 Tryd.isAgg3 stoodK guardK
theorem rEqual_c (a : Option Addr) (ca : Nat) (f : List NV) (b : Option Addr) (cb : Nat) (g : List NV) (w : World) (ha : FA w a f) (hb : FA w b g) (hl : f.length ≤ maxLen) :
    Cn Tryd.prog 10 [.slice a f.length ca, .slice b g.length cb] w (fun v _ => v = .bool (decide (f = g))) := by
  unfold maxLen at hl
  refine Cn.of Tryd.func10 rfl rfl ?_
  refine GoH.seq ?_
  refine GoH.region ?_
  refine GoH.v (Vop.asg rfl rfl rfl rfl) ?_
  refine GoH.regionEnd ?_
  refine GoH.seq ?_
  refine GoH.seq ?_
  refine GoH.region ?_
  refine GoH.v (Vop.mv rfl rfl rfl rfl) ?_
  refine GoH.v (Vop.blt rfl rfl rfl (blt_len_slice Tryd.underlying24) rfl) ?_
  refine GoH.v (Vop.mv rfl rfl rfl rfl) ?_
  refine GoH.v (Vop.blt rfl rfl rfl (blt_len_slice Tryd.underlying24) rfl) ?_
  refine GoH.v (Vop.bin rfl rfl rfl rfl bNe rfl) ?_
  refine GoH.regionEnd ?_
  refine GoH.cond rfl (fun hc => ?_) (fun hc => ?_)
  · -- yes
    have h1 : f.length ≠ g.length := by simp at hc; omega
    refine GoH.seq ?_
    refine GoH.region ?_
    refine GoH.v (Vop.asg rfl rfl rfl rfl) ?_
    refine GoH.regionEnd ?_
    refine GoH.ret Tryd.f10 Tryd.func10 rfl (fun w' hS => ?_)
    exact ⟨hS.ext, by rw [decide_eq_false (fun e => h1 (by rw [e]))]; rfl⟩
  · -- no
    have h1 : f.length = g.length := by simp at hc; omega
    refine GoH.skip ?_
    refine GoH.seq ?_
    refine GoH.seq ?_
    refine GoH.region ?_
    refine GoH.v (Vop.asg rfl rfl rfl rfl) ?_
    refine GoH.regionEnd ?_
    refine GoH.block ?_
    refine GoH.loop (σ := Nat) (fun k => [(0, .slice a f.length ca), (1, .slice b g.length cb), (5, .int .i64 k)]) (fun _ => []) (fun k => k ≤ f.length ∧ f.take k = g.take k) (fun k => f.length - k) 0 ⟨Nat.zero_le _, rfl⟩ ⟨rfl, rfl, rfl, trivial⟩ .slnil (fun k hI IH => ?_)
    obtain ⟨hk, hz⟩ := hI
    refine GoH.seq ?_
    refine GoH.seq ?_
    refine GoH.region ?_
    refine GoH.v (Vop.mv rfl rfl rfl rfl) ?_
    refine GoH.v (Vop.mv rfl rfl rfl rfl) ?_
    refine GoH.v (Vop.blt rfl rfl rfl (blt_len_slice Tryd.underlying24) rfl) ?_
    refine GoH.v (Vop.bin rfl rfl rfl rfl bLt rfl) ?_
    refine GoH.regionEnd ?_
    refine GoH.cond rfl (fun hc => ?_) (fun hc => ?_)
    · -- yes
      have hlt : k < f.length := by simpa using hc
      have hlt2 : k < g.length := by omega
      refine GoH.skip ?_
      refine GoH.seq ?_
      refine GoH.block ?_
      refine GoH.seq ?_
      refine GoH.draw 9 mixed rfl ?_
      refine RdGo.v (Vop.mv rfl rfl rfl rfl) ?_
      refine RdGo.v (Vop.mv rfl rfl rfl rfl) ?_
      refine RdGo.v (Vop.idxN rfl rfl rfl rfl rfl Tryd.underlying24 Tryd.sizeOf58 ⟨_, (ha).at_⟩ (flat_len (enc := NV.cells) (sz := 6) (fun _ => rfl)) (by decide) (k) ⟨rfl, hlt⟩) ?_
      refine RdGo.v (Vop.ldN (cs := NV.cells f[k]) rfl rfl rfl rfl Tryd.isAgg58 Tryd.sizeOf58 (fun w _ hS => Sl.many (enc := NV.cells) (sz := 6) (ha.ex0 hS.ext).at_ (fun _ => rfl) hlt)) ?_
      refine RdGo.v (Vop.mv rfl rfl rfl rfl) ?_
      refine RdGo.v (Vop.mv rfl rfl rfl rfl) ?_
      refine RdGo.v (Vop.idxN rfl rfl rfl rfl rfl Tryd.underlying24 Tryd.sizeOf58 ⟨_, (hb).at_⟩ (flat_len (enc := NV.cells) (sz := 6) (fun _ => rfl)) (by decide) (k) ⟨rfl, hlt2⟩) ?_
      refine RdGo.v (Vop.ldN (cs := NV.cells g[k]) rfl rfl rfl rfl Tryd.isAgg58 Tryd.sizeOf58 (fun w _ hS => Sl.many (enc := NV.cells) (sz := 6) (hb.ex0 hS.ext).at_ (fun _ => rfl) hlt2)) ?_
      refine RdGo.v (Vop.bin rfl rfl rfl rfl (bNeN (a := f[k]) (b := g[k])) rfl) ?_
      refine RdGo.nil ?_
      refine GoH.regionEnd ?_
      refine GoH.cond rfl (fun hc => ?_) (fun hc => ?_)
      · -- yes
        have h3 : f[k] ≠ g[k] := by simpa using hc
        refine GoH.seq ?_
        refine GoH.region ?_
        refine GoH.v (Vop.asg rfl rfl rfl rfl) ?_
        refine GoH.regionEnd ?_
        refine GoH.ret Tryd.f10 Tryd.func10 rfl (fun w' hS => ?_)
        exact ⟨hS.ext, by rw [decide_eq_false (fun e => h3 (by subst e; rfl))]; rfl⟩
      · -- no
        have h3 : f[k] = g[k] := by simpa using hc
        refine GoH.skip ?_
        refine GoH.inBlock ?_
        refine GoH.region ?_
        refine GoH.v (Vop.mv rfl rfl rfl rfl) ?_
        refine GoH.v (Vop.bin rfl rfl rfl rfl (bAdd (by omega)) rfl) ?_
        refine GoH.v (Vop.asg rfl rfl rfl rfl) ?_
        refine GoH.regionEnd ?_
        exact IH (k + 1) _ _ ⟨hlt, by rw [List.take_succ_eq_append_getElem hlt, List.take_succ_eq_append_getElem hlt2, hz, h3]⟩ (by omega) ⟨rfl, rfl, rfl, trivial⟩ .slnil
    · -- no
      have hge : ¬ k < f.length := by simpa using hc
      obtain rfl : k = f.length := by omega
      have he : f = g := by rw [List.take_length, h1, List.take_length] at hz; exact hz
      refine GoH.exit rfl ?_
      refine GoH.seq ?_
      refine GoH.region ?_
      refine GoH.v (Vop.asg rfl rfl rfl rfl) ?_
      refine GoH.regionEnd ?_
      refine GoH.ret Tryd.f10 Tryd.func10 rfl (fun w' hS => ?_)
      exact ⟨hS.ext, by rw [decide_eq_true he]; rfl⟩
end Go.Proofs.YtbjopkllkoomkaaDoor
