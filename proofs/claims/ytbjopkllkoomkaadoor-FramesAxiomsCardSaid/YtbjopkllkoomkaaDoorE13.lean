/- Contracts of functions of the program: what each call returns and that nothing else of memory is turned, under the conditions that each theorem states. -/
import Derived.Test.YtbjopkllkoomkaaDoorE12
namespace Go.Proofs.YtbjopkllkoomkaaDoor
open Go.RowKit Go.Proofs.Wit
/-! the law FramesAxioms -/
set_option maxRecDepth 8000 in
theorem axioms15_c (a : Option Addr) (ca : Nat) (r : List W64) (p i : Int) (b : Option Addr) (cb : Nat) (f : List NV) (w : World) (hT : Tab w) (ha : SlU w a r) (hl : r.length ≤ maxLen) (hb : FA w b f) (hfl : f.length ≤ maxLen) :
    Cn Tryd.prog 3 [.slice a r.length ca, .agg #[.int .i64 p, .int .i64 i], .slice b f.length cb] w (fun v _ => v = .bool true) := by
  unfold maxLen at hl hfl
  refine Cn.of Tryd.func3 rfl rfl ?_
  refine GoH.seq ?_
  refine GoH.region ?_
  refine GoH.bx rfl rfl rfl rfl (fun b4 => ?_)
  refine GoH.v (Vop.asg rfl rfl rfl rfl) ?_
  refine GoH.regionEnd ?_
  refine GoH.seq ?_
  refine GoH.seq ?_
  refine GoH.region ?_
  refine GoH.v (Vop.mv rfl rfl rfl rfl) ?_
  refine GoH.v (Vop.blt rfl rfl rfl (blt_len_slice Tryd.underlying22) rfl) ?_
  refine GoH.v (Vop.bin rfl rfl rfl rfl bGt rfl) ?_
  refine GoH.v (Vop.mv rfl rfl rfl rfl) ?_
  -- guard on slot 20 (law.go:77)
  refine GoH.cases (d := 20) rfl (fun hc => ?_) (fun hc => ?_)
  · -- yes
    refine GoH.no rfl rfl rfl rfl ?_
    refine GoH.no rfl rfl rfl rfl ?_
    refine GoH.no rfl rfl rfl rfl ?_
    refine GoH.v (Vop.pickT rfl rfl rfl rfl rfl) ?_
    refine GoH.regionEnd ?_
    refine GoH.condT rfl ?_
    refine GoH.seq ?_
    refine GoH.region ?_
    refine GoH.callP rfl rfl rfl rfl rfl (fun _ _ => Tryd.call5 _ _) (fun w _ hS => awake15_c w (hT.ex hS.ext)) ?_
    refine GoH.v (Vop.asg rfl rfl rfl rfl) ?_
    refine GoH.regionEnd ?_
    refine GoH.ret Tryd.f3 Tryd.func3 rfl (fun w' hS => ?_)
    exact ⟨hS.ext, rfl⟩
  · -- no
    refine GoH.v (Vop.mv rfl rfl rfl rfl) ?_
    refine GoH.v (Vop.blt rfl rfl rfl (blt_len_slice Tryd.underlying24) rfl) ?_
    refine GoH.v (Vop.bin rfl rfl rfl rfl bGt rfl) ?_
    refine GoH.v (Vop.pickF rfl rfl rfl rfl rfl) ?_
    refine GoH.regionEnd ?_
    refine GoH.cond rfl (fun hc => ?_) (fun hc => ?_)
    · -- yes
      refine GoH.seq ?_
      refine GoH.region ?_
      refine GoH.callP rfl rfl rfl rfl rfl (fun _ _ => Tryd.call5 _ _) (fun w _ hS => awake15_c w (hT.ex hS.ext)) ?_
      refine GoH.v (Vop.asg rfl rfl rfl rfl) ?_
      refine GoH.regionEnd ?_
      refine GoH.ret Tryd.f3 Tryd.func3 rfl (fun w' hS => ?_)
      exact ⟨hS.ext, rfl⟩
    · -- no
      have h60 : f.length ≤ 60 := by have := of_decide_eq_false hc; omega
      have hlA : (axF p i f).length ≤ maxLen := by
        have := axF_len (p := p) (a := i) h60
        unfold maxLen; omega
      refine GoH.skip ?_
      refine GoH.seq ?_
      refine GoH.region ?_
      refine GoH.v (Vop.idxA rfl rfl rfl rfl rfl Tryd.underlying23 Tryd.sizeOf3 0 rfl (by decide)) ?_
      refine GoH.v (Vop.ldo rfl rfl rfl rfl Tryd.isAgg3 0 rfl rfl) ?_
      refine GoH.v (Vop.idxA rfl rfl rfl rfl rfl Tryd.underlying23 Tryd.sizeOf3 1 rfl (by decide)) ?_
      refine GoH.v (Vop.ldo rfl rfl rfl rfl Tryd.isAgg3 0 rfl rfl) ?_
      refine GoH.v (Vop.mv rfl rfl rfl rfl) ?_
      refine GoH.callM _ rfl rfl rfl rfl rfl (fun _ _ => Tryd.call6 _ _) (fun w _ hS => (by exact faxiom_c p i b cb f w (hb.ex0 hS.ext) h60)) ?_
      rintro v w1 w2 Y' hS he ⟨sv, rfl, ho⟩
      obtain ⟨q, cap, sp, rfl, hq, hcap, hS'⟩ := gainN hS he ho
      refine ⟨_, hS', ?_⟩
      -- heap: q b4
      refine GoH.v (Vop.mv rfl rfl rfl rfl) ?_
      refine GoH.v (Vop.ext rfl rfl rfl rfl rfl) ?_
      refine GoH.v (Vop.ext rfl rfl rfl rfl rfl) ?_
      refine GoH.v (Vop.asg rfl rfl rfl rfl) ?_
      refine GoH.v (Vop.asg rfl rfl rfl rfl) ?_
      refine GoH.regionEnd ?_
      refine GoH.seq ?_
      refine GoH.region ?_
      refine GoH.v (Vop.idxA rfl rfl rfl rfl rfl Tryd.underlying23 Tryd.sizeOf3 0 rfl (by decide)) ?_
      refine GoH.v (Vop.ldo rfl rfl rfl rfl Tryd.isAgg3 1 rfl rfl) ?_
      refine GoH.v (Vop.idxA rfl rfl rfl rfl rfl Tryd.underlying23 Tryd.sizeOf3 1 rfl (by decide)) ?_
      refine GoH.v (Vop.ldo rfl rfl rfl rfl Tryd.isAgg3 1 rfl rfl) ?_
      refine GoH.v (Vop.mv rfl rfl rfl rfl) ?_
      refine GoH.callM _ rfl rfl rfl rfl rfl (fun _ _ => Tryd.call7 _ _) (fun w _ hS => (by exact raxiom_c p i b cb f w (hb.ex0 hS.ext) h60)) ?_
      rintro v w1 w2 Y' hS he ⟨sv, rfl, ho⟩
      obtain ⟨q2, cap2, sp2, rfl, hq2, hcap2, hS'⟩ := gainN hS he ho
      refine ⟨_, hS', ?_⟩
      -- heap: q2 q b4
      refine GoH.v (Vop.mv rfl rfl rfl rfl) ?_
      refine GoH.v (Vop.ext rfl rfl rfl rfl rfl) ?_
      refine GoH.v (Vop.ext rfl rfl rfl rfl rfl) ?_
      refine GoH.v (Vop.asg rfl rfl rfl rfl) ?_
      refine GoH.v (Vop.asg rfl rfl rfl rfl) ?_
      refine GoH.regionEnd ?_
      refine GoH.seq ?_
      refine GoH.region ?_
      refine GoH.v (Vop.mv rfl rfl rfl rfl) ?_
      refine GoH.v (Vop.idxA rfl rfl rfl rfl rfl Tryd.underlying23 Tryd.sizeOf3 0 rfl (by decide)) ?_
      refine GoH.v (Vop.ldo rfl rfl rfl rfl Tryd.isAgg3 2 rfl rfl) ?_
      refine GoH.callP rfl rfl rfl rfl rfl (fun _ _ => Tryd.call8 _ _) (fun w _ hS => (by exact counter_c a ca r p w (ha.ex0 hS.ext) hl)) ?_
      refine GoH.v (Vop.mv rfl rfl rfl rfl) ?_
      refine GoH.v (Vop.ext rfl rfl rfl rfl rfl) ?_
      refine GoH.v (Vop.ext rfl rfl rfl rfl rfl) ?_
      refine GoH.v (Vop.ext rfl rfl rfl rfl rfl) ?_
      refine GoH.v (Vop.asg rfl rfl rfl rfl) ?_
      refine GoH.v (Vop.asg rfl rfl rfl rfl) ?_
      refine GoH.v (Vop.asg rfl rfl rfl rfl) ?_
      refine GoH.regionEnd ?_
      refine GoH.seq ?_
      refine GoH.region ?_
      refine GoH.v (Vop.mv rfl rfl rfl rfl) ?_
      refine GoH.v (Vop.idxA rfl rfl rfl rfl rfl Tryd.underlying23 Tryd.sizeOf3 0 rfl (by decide)) ?_
      refine GoH.v (Vop.ldo rfl rfl rfl rfl Tryd.isAgg3 2 rfl rfl) ?_
      refine GoH.callP rfl rfl rfl rfl rfl (fun _ _ => Tryd.call9 _ _) (fun w _ hS => (by exact rCounter_c a ca r p w (ha.ex0 hS.ext) hl)) ?_
      refine GoH.v (Vop.mv rfl rfl rfl rfl) ?_
      refine GoH.v (Vop.ext rfl rfl rfl rfl rfl) ?_
      refine GoH.v (Vop.ext rfl rfl rfl rfl rfl) ?_
      refine GoH.v (Vop.ext rfl rfl rfl rfl rfl) ?_
      refine GoH.v (Vop.asg rfl rfl rfl rfl) ?_
      refine GoH.v (Vop.asg rfl rfl rfl rfl) ?_
      refine GoH.v (Vop.asg rfl rfl rfl rfl) ?_
      refine GoH.regionEnd ?_
      refine GoH.seq ?_
      refine GoH.region ?_
      refine GoH.v (Vop.mv rfl rfl rfl rfl) ?_
      refine GoH.v (Vop.mv rfl rfl rfl rfl) ?_
      refine GoH.v (Vop.bin rfl rfl rfl rfl (bEqV (v := true) (by simp)) rfl) ?_
      refine GoH.v (Vop.mv rfl rfl rfl rfl) ?_
      refine GoH.v (Vop.mv rfl rfl rfl rfl) ?_
      refine GoH.v (Vop.mv rfl rfl rfl rfl) ?_
      refine GoH.v (Vop.bin rfl rfl rfl rfl (bEqV (v := true) (by simp)) rfl) ?_
      refine GoH.v (Vop.pickT rfl rfl rfl rfl rfl) ?_
      refine GoH.v (Vop.mv rfl rfl rfl rfl) ?_
      refine GoH.v (Vop.mv rfl rfl rfl rfl) ?_
      refine GoH.v (Vop.mv rfl rfl rfl rfl) ?_
      refine GoH.v (Vop.bin rfl rfl rfl rfl (bEqV (v := true) (by simp)) rfl) ?_
      refine GoH.v (Vop.pickT rfl rfl rfl rfl rfl) ?_
      refine GoH.v (Vop.mv rfl rfl rfl rfl) ?_
      refine GoH.v (Vop.mv rfl rfl rfl rfl) ?_
      refine GoH.v (Vop.mv rfl rfl rfl rfl) ?_
      refine GoH.v (Vop.bin rfl rfl rfl rfl (bEqUV (v := true) (by simp)) rfl) ?_
      refine GoH.v (Vop.pickT rfl rfl rfl rfl rfl) ?_
      refine GoH.v (Vop.mv rfl rfl rfl rfl) ?_
      refine GoH.v (Vop.mv rfl rfl rfl rfl) ?_
      refine GoH.v (Vop.mv rfl rfl rfl rfl) ?_
      refine GoH.callP rfl rfl rfl rfl rfl (fun _ _ => Tryd.call10 _ _) (fun w _ hS => (by have := rEqual_c (q.map (fun b => ⟨b, 0, none⟩)) cap (axF p i f) (q2.map (fun b => ⟨b, 0, none⟩)) cap2 (axF p i f) w (faAt hS 1 rfl (fun e => (hq e).1)) (faAt hS 0 rfl (fun e => (hq2 e).1)) hlA; rw [decide_eq_true rfl] at this; exact this)) ?_
      refine GoH.v (Vop.pickT rfl rfl rfl rfl rfl) ?_
      refine GoH.v (Vop.mv rfl rfl rfl rfl) ?_
      refine GoH.callP rfl rfl rfl rfl rfl (fun _ _ => Tryd.call5 _ _) (fun w _ hS => awake15_c w (hT.ex hS.ext)) ?_
      refine GoH.v (Vop.pickT rfl rfl rfl rfl rfl) ?_
      refine GoH.v (Vop.asg rfl rfl rfl rfl) ?_
      refine GoH.regionEnd ?_
      refine GoH.ret Tryd.f3 Tryd.func3 rfl (fun w' hS => ?_)
      exact ⟨hS.ext, rfl⟩
end Go.Proofs.YtbjopkllkoomkaaDoor
