/- Contracts of functions of the program: what each call returns and that nothing else of memory is turned, under the conditions that each theorem states. -/
import Derived.Test.YtpifbcbdbkbbjaaDoorD2
import Derived.Test.YtpifbcbdbkbbjaaDoorWE
namespace Go.Proofs.YtpifbcbdbkbbjaaDoor
open Go.RowKit Go.Proofs.Wit
/-! the laws of chapter 19, 2 -/
theorem relP_c (a : Option Addr) (ca : Nat) (p : List Int) (w : World) (ha : SlI w a p) (hp : OkP p) :
    Cn Tryd.prog 27 [.slice a p.length ca] w (fun v w' => OwnS U 44 w w' v (relP p)) := by
  obtain ⟨i0, hi, hz, hsz, hby⟩ := info_parts infoU
  have hpl := hp.len
  refine Cn.of Tryd.func27 rfl rfl ?_
  refine GoH.seq ?_
  refine GoH.region ?_
  refine GoH.v (Vop.asg rfl rfl rfl rfl) ?_
  refine GoH.regionEnd ?_
  refine GoH.seq ?_
  refine GoH.seq ?_
  refine GoH.region ?_
  refine GoH.v (Vop.mv rfl rfl rfl rfl) ?_
  refine GoH.callP rfl rfl rfl rfl rfl (fun _ _ => Tryd.call46 _ _) (fun w _ hS => pchk_c a ca p w (ha.ex0 hS.ext) hp) ?_
  refine GoH.v (Vop.bin rfl rfl rfl rfl (bNeV (v := false) rfl) rfl) ?_
  refine GoH.regionEnd ?_
  refine GoH.condF rfl ?_
  refine GoH.skip ?_
  refine GoH.seq ?_
  refine GoH.region ?_
  refine GoH.v (Vop.mv rfl rfl rfl rfl) ?_
  refine GoH.v (Vop.blt rfl rfl rfl (blt_len_slice Tryd.underlying28) rfl) ?_
  refine GoH.mkE U 0#64 (m := p.length) rfl rfl rfl rfl rfl Tryd.underlying22 hi hz rfl hsz (by rw [hby]; omega) (by unfold maxLen; omega) (fun b14 => ?_)
  -- heap: b14
  refine GoH.v (Vop.asg rfl rfl rfl rfl) ?_
  refine GoH.regionEnd ?_
  refine GoH.seq ?_
  refine GoH.seq ?_
  refine GoH.region ?_
  refine GoH.v (Vop.mv rfl rfl rfl rfl) ?_
  refine GoH.v (Vop.blt rfl rfl rfl (blt_len_slice Tryd.underlying28) rfl) ?_
  refine GoH.v (Vop.mv rfl rfl rfl rfl) ?_
  refine GoH.regionEnd ?_
  refine GoH.block ?_
  refine GoH.loop (σ := Nat) (fun k => [(0, .slice a p.length ca), (3, .slice (some ⟨b14, 0, none⟩) p.length p.length), (15, .slice a p.length ca), (16, .int .i64 p.length), (17, .int .i64 k)]) (fun k => [(some b14, ob U 44 (grps p k) [])])
    (fun k => k ≤ p.length) (fun k => p.length - k) 0 (Nat.zero_le _) ⟨rfl, rfl, rfl, rfl, rfl, trivial⟩ (by rw [← grps_zero]; exact List.Sublist.refl _) (fun k hI IH => ?_)
  -- heap: b14
  refine GoH.seq ?_
  refine GoH.region ?_
  refine GoH.v (Vop.bin rfl rfl rfl rfl bLt rfl) ?_
  refine GoH.regionEnd ?_
  refine GoH.seq ?_
  refine GoH.cond rfl (fun hc => ?_) (fun hc => ?_)
  · -- yes
    have hlt : k < p.length := by simpa using hc
    obtain ⟨h1, h2, h3⟩ := hp.low k hlt
    obtain ⟨x, hx⟩ : ∃ x : Nat, p.getD k 0 = x := ⟨(p.getD k 0).toNat, by omega⟩
    have hxl : x < p.length := by omega
    have hxg : x < (grps p k).length := by rw [grps_len]; exact hxl
    have hpx : p[k] = (x : Int) := by rw [lowE hlt]; exact hx
    refine GoH.skip ?_
    refine GoH.seq ?_
    refine GoH.block ?_
    refine GoH.seq ?_
    refine GoH.region ?_
    refine GoH.v (Vop.mv rfl rfl rfl rfl) ?_
    refine GoH.v (Vop.idx rfl rfl rfl rfl rfl Tryd.underlying28 Tryd.sizeOf3 ⟨_, ha⟩ (by simp) (k) ⟨rfl, by simpa using hlt⟩) ?_
    refine GoH.v (Vop.ld rfl rfl rfl rfl Tryd.isAgg3 (fun w _ hS => (SlI.ex0 ha hS.ext).at (k) hlt)) ?_
    refine GoH.v (Vop.asg rfl rfl rfl rfl) ?_
    refine GoH.v (Vop.asg rfl rfl rfl rfl) ?_
    refine GoH.regionEnd ?_
    refine GoH.draw 8 mixed rfl ?_
    refine RdGo.v (Vop.mv rfl rfl rfl rfl) ?_
    refine RdGo.v (Vop.mv rfl rfl rfl rfl) ?_
    refine RdGo.v (Vop.idxS rfl rfl rfl rfl rfl Tryd.underlying22 Tryd.sizeOf44 (x) ⟨hpx, hxl⟩) ?_
    refine RdGo.v (Vop.ldE U 0#64 rfl rfl rfl rfl Tryd.isAgg44 0 rfl hxg) ?_
    refine RdGo.v (Vop.mv rfl rfl rfl rfl) ?_
    refine RdGo.v (Vop.bin (a := U 1#64) rfl rfl rfl rfl (bShl _ rfl) rfl) ?_
    refine RdGo.v (Vop.bin rfl rfl rfl rfl bOr rfl) ?_
    refine RdGo.v (Vop.idxS rfl rfl rfl rfl rfl Tryd.underlying22 Tryd.sizeOf44 (x) ⟨hpx, hxl⟩) ?_
    refine RdGo.nil ?_
    refine GoH.stE U _ rfl rfl rfl rfl Tryd.sizeOf44 rfl 0 rfl hxg ?_
    refine GoH.regionEnd ?_
    refine GoH.inBlock ?_
    refine GoH.region ?_
    refine GoH.v (Vop.bin rfl rfl rfl rfl (bAdd (by omega)) rfl) ?_
    refine GoH.v (Vop.mv rfl rfl rfl rfl) ?_
    refine GoH.regionEnd ?_
    exact IH (k + 1) _ _ hlt (by omega) ⟨rfl, rfl, rfl, rfl, rfl, trivial⟩ (by rw [← grps_succ hx]; exact List.Sublist.refl _)
  · -- no
    have hge : ¬ k < p.length := by simpa using hc
    obtain rfl : k = p.length := by omega
    refine GoH.exit rfl ?_
    refine GoH.seq ?_
    refine GoH.region ?_
    refine GoH.v (Vop.mv rfl rfl rfl rfl) ?_
    refine GoH.v (Vop.blt rfl rfl rfl (blt_len_slice Tryd.underlying28) rfl) ?_
    refine GoH.mkE U 0#64 (m := p.length) rfl rfl rfl rfl rfl Tryd.underlying22 hi hz rfl hsz (by rw [hby]; omega) (by unfold maxLen; omega) (fun b33 => ?_)
    -- heap: b33 b14
    refine GoH.v (Vop.asg rfl rfl rfl rfl) ?_
    refine GoH.regionEnd ?_
    refine GoH.seq ?_
    refine GoH.seq ?_
    refine GoH.region ?_
    refine GoH.v (Vop.mv rfl rfl rfl rfl) ?_
    refine GoH.v (Vop.blt rfl rfl rfl (blt_len_slice Tryd.underlying28) rfl) ?_
    refine GoH.v (Vop.mv rfl rfl rfl rfl) ?_
    refine GoH.regionEnd ?_
    refine GoH.block ?_
    refine GoH.loop (σ := Nat) (fun k => [(0, .slice a p.length ca), (3, .slice (some ⟨b14, 0, none⟩) p.length p.length), (6, .slice (some ⟨b33, 0, none⟩) p.length p.length), (34, .slice a p.length ca), (35, .int .i64 p.length), (36, .int .i64 k)]) (fun k => [(some b33, ob U 44 (flm (fun i _ => grp p p.length (p.getD i 0)) (List.replicate p.length 0#64) k) []), (some b14, ob U 44 (grps p p.length) [])])
      (fun k => k ≤ p.length) (fun k => p.length - k) 0 (Nat.zero_le _) ⟨rfl, rfl, rfl, rfl, rfl, rfl, trivial⟩ (by rw [flm_zero]; exact List.Sublist.refl _) (fun k hI IH => ?_)
    -- heap: b33 b14
    refine GoH.seq ?_
    refine GoH.region ?_
    refine GoH.v (Vop.bin rfl rfl rfl rfl bLt rfl) ?_
    refine GoH.regionEnd ?_
    refine GoH.seq ?_
    refine GoH.cond rfl (fun hc => ?_) (fun hc => ?_)
    · -- yes
      have hlt : k < p.length := by simpa using hc
      obtain ⟨h1, h2, h3⟩ := hp.low k hlt
      obtain ⟨x, hx⟩ : ∃ x : Nat, p.getD k 0 = x := ⟨(p.getD k 0).toNat, by omega⟩
      have hxl : x < p.length := by omega
      have hxg : x < (grps p p.length).length := by rw [grps_len]; exact hxl
      have hpx : p[k] = (x : Int) := by rw [lowE hlt]; exact hx
      have hkf : k < (flm (fun i _ => grp p p.length (p.getD i 0)) (List.replicate p.length 0#64) k).length := by rw [flm_length]; simpa using hlt
      refine GoH.skip ?_
      refine GoH.seq ?_
      refine GoH.block ?_
      refine GoH.seq ?_
      refine GoH.region ?_
      refine GoH.v (Vop.mv rfl rfl rfl rfl) ?_
      refine GoH.v (Vop.idx rfl rfl rfl rfl rfl Tryd.underlying28 Tryd.sizeOf3 ⟨_, ha⟩ (by simp) (k) ⟨rfl, by simpa using hlt⟩) ?_
      refine GoH.v (Vop.ld rfl rfl rfl rfl Tryd.isAgg3 (fun w _ hS => (SlI.ex0 ha hS.ext).at (k) hlt)) ?_
      refine GoH.v (Vop.asg rfl rfl rfl rfl) ?_
      refine GoH.v (Vop.asg rfl rfl rfl rfl) ?_
      refine GoH.regionEnd ?_
      refine GoH.region ?_
      refine GoH.v (Vop.mv rfl rfl rfl rfl) ?_
      refine GoH.v (Vop.mv rfl rfl rfl rfl) ?_
      refine GoH.v (Vop.mv rfl rfl rfl rfl) ?_
      refine GoH.v (Vop.mv rfl rfl rfl rfl) ?_
      refine GoH.v (Vop.idxS rfl rfl rfl rfl rfl Tryd.underlying22 Tryd.sizeOf44 (x) ⟨hpx, hxl⟩) ?_
      refine GoH.v (Vop.ldE U 0#64 rfl rfl rfl rfl Tryd.isAgg44 1 rfl hxg) ?_
      refine GoH.v (Vop.idxS rfl rfl rfl rfl rfl Tryd.underlying22 Tryd.sizeOf44 (k) ⟨rfl, hlt⟩) ?_
      refine GoH.stE U _ rfl rfl rfl rfl Tryd.sizeOf44 rfl 0 rfl hkf ?_
      refine GoH.regionEnd ?_
      refine GoH.inBlock ?_
      refine GoH.region ?_
      refine GoH.v (Vop.bin rfl rfl rfl rfl (bAdd (by omega)) rfl) ?_
      refine GoH.v (Vop.mv rfl rfl rfl rfl) ?_
      refine GoH.regionEnd ?_
      exact IH (k + 1) _ _ hlt (by omega) ⟨rfl, rfl, rfl, rfl, rfl, rfl, trivial⟩ (by rw [← flm_succ (by simpa using hlt), hx, ← grps_get hxl]; exact List.Sublist.refl _)
    · -- no
      have hge : ¬ k < p.length := by simpa using hc
      obtain rfl : k = p.length := by omega
      rw [flm_relP]
      refine GoH.exit rfl ?_
      refine GoH.seq ?_
      refine GoH.region ?_
      refine GoH.v (Vop.mv rfl rfl rfl rfl) ?_
      refine GoH.v (Vop.asg rfl rfl rfl rfl) ?_
      refine GoH.regionEnd ?_
      refine GoH.ret Tryd.f27 Tryd.func27 rfl (fun w' hS => ?_)
      exact ⟨hS.ext, OwnS.one hS 0 rfl relP_len.symm⟩
theorem pboth_c (a : Option Addr) (ca : Nat) (p : List Int) (b : Option Addr) (cb : Nat) (q : List Int) (w : World) (ha : SlI w a p) (hb : SlI w b q) (hp : OkP p) (hq : OkP q) (hl : p.length = q.length) :
    Cn Tryd.prog 47 [.slice a p.length ca, .slice b q.length cb] w (fun v _ => v = .int .i64 0) := by
  refine Cn.of Tryd.func47 rfl rfl ?_
  refine GoH.seq ?_
  refine GoH.region ?_
  refine GoH.v (Vop.asg rfl rfl rfl rfl) ?_
  refine GoH.regionEnd ?_
  refine GoH.seq ?_
  refine GoH.seq ?_
  refine GoH.region ?_
  refine GoH.v (Vop.mv rfl rfl rfl rfl) ?_
  refine GoH.callP rfl rfl rfl rfl rfl (fun _ _ => Tryd.call46 _ _) (fun w _ hS => pchk_c a ca p w (ha.ex0 hS.ext) hp) ?_
  refine GoH.v (Vop.mv rfl rfl rfl rfl) ?_
  refine GoH.callP rfl rfl rfl rfl rfl (fun _ _ => Tryd.call46 _ _) (fun w _ hS => pchk_c b cb q w (hb.ex0 hS.ext) hq) ?_
  refine GoH.v (Vop.asg rfl rfl rfl rfl) ?_
  refine GoH.v (Vop.asg rfl rfl rfl rfl) ?_
  refine GoH.regionEnd ?_
  refine GoH.block ?_
  refine GoH.seq ?_
  refine GoH.region ?_
  refine GoH.v (Vop.mv rfl rfl rfl rfl) ?_
  refine GoH.v (Vop.bin rfl rfl rfl rfl (bNeV (v := false) rfl) rfl) ?_
  refine GoH.v (Vop.asg rfl rfl rfl rfl) ?_
  refine GoH.regionEnd ?_
  refine GoH.condF rfl ?_
  refine GoH.seq ?_
  refine GoH.region ?_
  refine GoH.v (Vop.mv rfl rfl rfl rfl) ?_
  refine GoH.v (Vop.bin rfl rfl rfl rfl (bNeV (v := false) rfl) rfl) ?_
  refine GoH.v (Vop.asg rfl rfl rfl rfl) ?_
  refine GoH.regionEnd ?_
  refine GoH.condF rfl ?_
  refine GoH.seq ?_
  refine GoH.region ?_
  refine GoH.v (Vop.mv rfl rfl rfl rfl) ?_
  refine GoH.v (Vop.blt rfl rfl rfl (blt_len_slice Tryd.underlying28) rfl) ?_
  refine GoH.v (Vop.mv rfl rfl rfl rfl) ?_
  refine GoH.v (Vop.blt rfl rfl rfl (blt_len_slice Tryd.underlying28) rfl) ?_
  refine GoH.v (Vop.bin rfl rfl rfl rfl (bNeV (v := false) (by rw [hl]; simp)) rfl) ?_
  refine GoH.v (Vop.asg rfl rfl rfl rfl) ?_
  refine GoH.regionEnd ?_
  refine GoH.condF rfl ?_
  refine GoH.skip ?_
  refine GoH.inBlock ?_
  refine GoH.seq ?_
  refine GoH.region ?_
  refine GoH.v (Vop.asg rfl rfl rfl rfl) ?_
  refine GoH.regionEnd ?_
  refine GoH.ret Tryd.f47 Tryd.func47 rfl (fun w' hS => ?_)
  exact ⟨hS.ext, rfl⟩
theorem refines_c (a : Option Addr) (ca : Nat) (p : List Int) (b : Option Addr) (cb : Nat) (q : List Int) (w : World) (ha : SlI w a p) (hb : SlI w b q) (hp : OkP p) (hq : OkP q) (hl : p.length = q.length)
    (hr : ∀ i, i < p.length → q.getD (p.getD i 0).toNat 0 = q.getD i 0) :
    Cn Tryd.prog 28 [.slice a p.length ca, .slice b q.length cb] w (fun v _ => v = .bool true) := by
  have hpl := hp.len
  refine Cn.of Tryd.func28 rfl rfl ?_
  refine GoH.seq ?_
  refine GoH.region ?_
  refine GoH.v (Vop.asg rfl rfl rfl rfl) ?_
  refine GoH.regionEnd ?_
  refine GoH.seq ?_
  refine GoH.seq ?_
  refine GoH.region ?_
  refine GoH.v (Vop.mv rfl rfl rfl rfl) ?_
  refine GoH.v (Vop.mv rfl rfl rfl rfl) ?_
  refine GoH.callP rfl rfl rfl rfl rfl (fun _ _ => Tryd.call47 _ _) (fun w _ hS => pboth_c a ca p b cb q w (ha.ex0 hS.ext) (hb.ex0 hS.ext) hp hq hl) ?_
  refine GoH.v (Vop.bin rfl rfl rfl rfl (bNeV (v := false) rfl) rfl) ?_
  refine GoH.regionEnd ?_
  refine GoH.condF rfl ?_
  refine GoH.skip ?_
  refine GoH.seq ?_
  refine GoH.seq ?_
  refine GoH.region ?_
  refine GoH.v (Vop.mv rfl rfl rfl rfl) ?_
  refine GoH.v (Vop.blt rfl rfl rfl (blt_len_slice Tryd.underlying28) rfl) ?_
  refine GoH.v (Vop.mv rfl rfl rfl rfl) ?_
  refine GoH.regionEnd ?_
  refine GoH.block ?_
  refine GoH.loop (σ := Nat) (fun k => [(1, .slice b q.length cb), (11, .slice a p.length ca), (12, .int .i64 p.length), (13, .int .i64 k)]) (fun _ => []) (fun k => k ≤ p.length) (fun k => p.length - k) 0 (Nat.zero_le _) ⟨rfl, rfl, rfl, rfl, trivial⟩ .slnil (fun k hI IH => ?_)
  refine GoH.seq ?_
  refine GoH.region ?_
  refine GoH.v (Vop.bin rfl rfl rfl rfl bLt rfl) ?_
  refine GoH.regionEnd ?_
  refine GoH.seq ?_
  refine GoH.cond rfl (fun hc => ?_) (fun hc => ?_)
  · -- yes
    have hlt : k < p.length := by simpa using hc
    have hlq : k < q.length := by omega
    obtain ⟨h1, h2, h3⟩ := hp.low k hlt
    have h0 := hr k hlt
    rw [← lowE hlt] at h0 h1 h2
    have hxq : p[k].toNat < q.length := by omega
    refine GoH.skip ?_
    refine GoH.seq ?_
    refine GoH.block ?_
    refine GoH.seq ?_
    refine GoH.region ?_
    refine GoH.v (Vop.mv rfl rfl rfl rfl) ?_
    refine GoH.v (Vop.idx rfl rfl rfl rfl rfl Tryd.underlying28 Tryd.sizeOf3 ⟨_, ha⟩ (by simp) (k) ⟨rfl, by simpa using hlt⟩) ?_
    refine GoH.v (Vop.ld rfl rfl rfl rfl Tryd.isAgg3 (fun w _ hS => (SlI.ex0 ha hS.ext).at (k) hlt)) ?_
    refine GoH.v (Vop.asg rfl rfl rfl rfl) ?_
    refine GoH.v (Vop.asg rfl rfl rfl rfl) ?_
    refine GoH.regionEnd ?_
    refine GoH.seq ?_
    refine GoH.draw 9 mixed rfl ?_
    refine RdGo.v (Vop.mv rfl rfl rfl rfl) ?_
    refine RdGo.v (Vop.mv rfl rfl rfl rfl) ?_
    refine RdGo.v (Vop.idx rfl rfl rfl rfl rfl Tryd.underlying28 Tryd.sizeOf3 ⟨_, hb⟩ (by simp) (k) ⟨rfl, by simpa using hlq⟩) ?_
    refine RdGo.v (Vop.ld rfl rfl rfl rfl Tryd.isAgg3 (fun w _ hS => (SlI.ex0 hb hS.ext).at (k) hlq)) ?_
    refine RdGo.v (Vop.mv rfl rfl rfl rfl) ?_
    refine RdGo.v (Vop.mv rfl rfl rfl rfl) ?_
    refine RdGo.v (Vop.idx rfl rfl rfl rfl rfl Tryd.underlying28 Tryd.sizeOf3 ⟨_, hb⟩ (by simp) p[k].toNat ⟨by omega, by simpa using hxq⟩) ?_
    refine RdGo.v (Vop.ld rfl rfl rfl rfl Tryd.isAgg3 (fun w _ hS => (SlI.ex0 hb hS.ext).at p[k].toNat hxq)) ?_
    refine RdGo.v (Vop.bin rfl rfl rfl rfl (bNeV (v := false) (by rw [lowE hlq, lowE hxq, h0]; simp)) rfl) ?_
    refine RdGo.nil ?_
    refine GoH.regionEnd ?_
    refine GoH.condF rfl ?_
    refine GoH.skip ?_
    refine GoH.inBlock ?_
    refine GoH.region ?_
    refine GoH.v (Vop.bin rfl rfl rfl rfl (bAdd (by omega)) rfl) ?_
    refine GoH.v (Vop.mv rfl rfl rfl rfl) ?_
    refine GoH.regionEnd ?_
    exact IH (k + 1) _ _ hlt (by omega) ⟨rfl, rfl, rfl, rfl, trivial⟩ .slnil
  · -- no
    refine GoH.exit rfl ?_
    refine GoH.seq ?_
    refine GoH.region ?_
    refine GoH.v (Vop.asg rfl rfl rfl rfl) ?_
    refine GoH.regionEnd ?_
    refine GoH.ret Tryd.f28 Tryd.func28 rfl (fun w' hS => ?_)
    exact ⟨hS.ext, rfl⟩
set_option maxRecDepth 4000 in
theorem bisimSelf_c (m : MV) (w : World) (hT : Tab w) (hm : m.At w) : Cn Tryd.prog 7 [m.v] w (fun v _ => v = .bool true) := by
  refine Cn.of Tryd.func7 rfl rfl ?_
  refine GoH.seq ?_
  refine GoH.region ?_
  refine GoH.bx rfl rfl rfl rfl (fun b1 => ?_)
  refine GoH.v (Vop.asg rfl rfl rfl rfl) ?_
  refine GoH.regionEnd ?_
  refine GoH.seq ?_
  refine GoH.seq ?_
  refine GoH.region ?_
  refine GoH.v (Vop.ldB rfl rfl rfl rfl Tryd.isAgg25 0 rfl Tryd.sizeOf25 rfl) ?_
  refine GoH.callM _ rfl rfl rfl rfl rfl (fun _ _ => Tryd.call10 _ _) (fun w _ hS => few_c m 14 w (hm.ex0 hS.ext)) ?_
  rintro v w1 w2 Y' hS he ⟨y1, rfl⟩
  refine ⟨_, hS.later he, ?_⟩
  refine GoH.v (Vop.un rfl rfl rfl uNot rfl) ?_
  refine GoH.v (Vop.mv rfl rfl rfl rfl) ?_
  -- guard on slot 10 (law.go:81)
  refine GoH.cases (d := 10) rfl (fun hc => ?_) (fun hc => ?_)
  · -- yes
    refine GoH.no rfl rfl rfl rfl ?_
    refine GoH.no rfl rfl rfl rfl ?_
    refine GoH.no rfl rfl rfl rfl ?_
    refine GoH.v (Vop.pickT rfl rfl rfl rfl rfl) ?_
    refine GoH.regionEnd ?_
    refine GoH.condT rfl ?_
    refine GoH.seq ?_
    refine GoH.region ?_
    refine GoH.callP rfl rfl rfl rfl rfl (fun _ _ => Tryd.call11 _ _) (fun w _ hS => awake19_c w (hT.ex hS.ext)) ?_
    refine GoH.v (Vop.asg rfl rfl rfl rfl) ?_
    refine GoH.regionEnd ?_
    refine GoH.ret Tryd.f7 Tryd.func7 rfl (fun w' hS => ?_)
    exact ⟨hS.ext, rfl⟩
  · -- no
    refine GoH.v (Vop.ldB rfl rfl rfl rfl Tryd.isAgg25 0 rfl Tryd.sizeOf25 rfl) ?_
    refine GoH.callP rfl rfl rfl rfl rfl (fun _ _ => Tryd.call26 _ _) (fun w _ hS => (by exact rmCheck_c m w (hm.ex0 hS.ext))) ?_
    refine GoH.v (Vop.bin rfl rfl rfl rfl bNe rfl) ?_
    refine GoH.v (Vop.pickF rfl rfl rfl rfl rfl) ?_
    refine GoH.regionEnd ?_
    refine GoH.cond rfl (fun hc => ?_) (fun hc => ?_)
    · -- yes
      refine GoH.seq ?_
      refine GoH.region ?_
      refine GoH.callP rfl rfl rfl rfl rfl (fun _ _ => Tryd.call11 _ _) (fun w _ hS => awake19_c w (hT.ex hS.ext)) ?_
      refine GoH.v (Vop.asg rfl rfl rfl rfl) ?_
      refine GoH.regionEnd ?_
      refine GoH.ret Tryd.f7 Tryd.func7 rfl (fun w' hS => ?_)
      exact ⟨hS.ext, rfl⟩
    · -- no
      have h1 : checkM m.n m.val m.rel = 0 := by simpa using hc
      have hv := checkM_zero.1 h1
      have hn1 := hv.n1
      have hn64 := hv.n64
      have hb0 : bothE m.n m.val m.rel m.n m.val m.rel = 0 := bothE_zero.2 ⟨hv, hv, rfl, rfl⟩
      have hok : OkP (crs m.n m.val m.rel) := by rw [crs_ok h1]; exact psq_ok (by omega) _
      have hz : BetZ m.n m.val m.rel m.n m.val m.rel (relP (crs m.n m.val m.rel)) := ⟨fun e => absurd hb0 e, fun _ => by
        rw [crs_ok h1]
        exact self_grt (by omega) (by omega) (fun r hr => ⟨by have := hv.len r hr; omega, hv.rels r hr⟩)⟩
      have hg := hz.2 hb0
      have hch : chkE m.n m.val m.rel m.n m.val m.rel (relP (crs m.n m.val m.rel)) = 0 := chkE_zero.2 ⟨hb0, by have := hg.len; omega, (outB_rng (by omega)).2 hg.rng, hg.sim⟩
      refine GoH.skip ?_
      refine GoH.seq ?_
      refine GoH.region ?_
      refine GoH.v (Vop.ldB rfl rfl rfl rfl Tryd.isAgg25 0 rfl Tryd.sizeOf25 rfl) ?_
      refine GoH.callM _ rfl rfl rfl rfl rfl (fun _ _ => Tryd.call14 _ _) (fun w _ hS => coarsest_c m w (hT.ex hS.ext) (hm.ex0 hS.ext)) ?_
      rintro v w1 w2 Y' hS he ⟨sv, rfl, ho⟩
      obtain ⟨q3, cap3, sp3, rfl, hq3, hcap3, hS'⟩ := gainS hS he ho
      refine ⟨_, hS', ?_⟩
      -- heap: q3 b1
      refine GoH.v (Vop.mv rfl rfl rfl rfl) ?_
      refine GoH.v (Vop.ext rfl rfl rfl rfl rfl) ?_
      refine GoH.v (Vop.ext rfl rfl rfl rfl rfl) ?_
      refine GoH.v (Vop.asg rfl rfl rfl rfl) ?_
      refine GoH.v (Vop.asg rfl rfl rfl rfl) ?_
      refine GoH.regionEnd ?_
      refine GoH.seq ?_
      refine GoH.region ?_
      refine GoH.v (Vop.ldB rfl rfl rfl rfl Tryd.isAgg25 1 rfl Tryd.sizeOf25 rfl) ?_
      refine GoH.v (Vop.ldB rfl rfl rfl rfl Tryd.isAgg25 1 rfl Tryd.sizeOf25 rfl) ?_
      refine GoH.callM _ rfl rfl rfl rfl rfl (fun _ _ => Tryd.call21 _ _) (fun w _ hS => between_c m m w (hT.ex hS.ext) (hm.ex0 hS.ext) (hm.ex0 hS.ext)) ?_
      rintro r w1 w2 Y' hS he ⟨sv, z, rfl, ho, hz2⟩
      obtain rfl := hz2.uniq hz
      obtain ⟨q5, cap5, sp5, rfl, hq5, hcap5, hS'⟩ := gainS hS he ho
      refine ⟨_, hS', ?_⟩
      -- heap: q5 q3 b1
      refine GoH.v (Vop.mv rfl rfl rfl rfl) ?_
      refine GoH.v (Vop.ext rfl rfl rfl rfl rfl) ?_
      refine GoH.v (Vop.ext rfl rfl rfl rfl rfl) ?_
      refine GoH.v (Vop.asg rfl rfl rfl rfl) ?_
      refine GoH.v (Vop.asg rfl rfl rfl rfl) ?_
      refine GoH.regionEnd ?_
      refine GoH.seq ?_
      refine GoH.region ?_
      refine GoH.v (Vop.mv rfl rfl rfl rfl) ?_
      refine GoH.v (Vop.bin rfl rfl rfl rfl (bEqV (v := true) (beq_iff_eq.2 h1)) rfl) ?_
      refine GoH.v (Vop.mv rfl rfl rfl rfl) ?_
      refine GoH.v (Vop.mv rfl rfl rfl rfl) ?_
      refine GoH.v (Vop.bin rfl rfl rfl rfl (bEqV (v := true) (beq_iff_eq.2 hb0)) rfl) ?_
      refine GoH.v (Vop.pickT rfl rfl rfl rfl rfl) ?_
      refine GoH.v (Vop.mv rfl rfl rfl rfl) ?_
      refine GoH.v (Vop.mv rfl rfl rfl rfl) ?_
      refine GoH.callM _ rfl rfl rfl rfl rfl (fun _ _ => Tryd.call27 _ _) (fun w _ hS => (by exact relP_c (q3.map (fun b => ⟨b, 0, none⟩)) cap3 (crs m.n m.val m.rel) w (sliAt hS 1 rfl (fun e => (hq3 e).1)) hok)) ?_
      rintro r w1 w2 Y' hS he ho
      obtain ⟨q35, cap35, sp35, rfl, hq35, hcap35, hS'⟩ := gainS hS he ho
      refine ⟨_, hS', ?_⟩
      -- heap: q35 q5 q3 b1
      refine GoH.v (Vop.mv rfl rfl rfl rfl) ?_
      refine GoH.callP rfl rfl rfl rfl rfl (fun _ _ => Tryd.call25 _ _) (fun w _ hS => (by exact equalUT_c (q35.map (fun b => ⟨b, 0, none⟩)) cap35 _ (q5.map (fun b => ⟨b, 0, none⟩)) cap5 _ w (sluAt hS 0 rfl hq35) (sluAt hS 1 rfl hq5) rfl (bet_mx hz))) ?_
      refine GoH.v (Vop.pickT rfl rfl rfl rfl rfl) ?_
      refine GoH.v (Vop.mv rfl rfl rfl rfl) ?_
      refine GoH.v (Vop.ldB rfl rfl rfl rfl Tryd.isAgg25 3 rfl Tryd.sizeOf25 rfl) ?_
      refine GoH.v (Vop.ldB rfl rfl rfl rfl Tryd.isAgg25 3 rfl Tryd.sizeOf25 rfl) ?_
      refine GoH.v (Vop.mv rfl rfl rfl rfl) ?_
      refine GoH.callP rfl rfl rfl rfl rfl (fun _ _ => Tryd.call19 _ _) (fun w _ hS => (by exact bcheck_c m m (q5.map (fun b => ⟨b, 0, none⟩)) cap5 _ w (hT.ex hS.ext) (hm.ex0 hS.ext) (hm.ex0 hS.ext) (sluAt hS 1 rfl hq5) (bet_mx hz))) ?_
      refine GoH.v (Vop.bin rfl rfl rfl rfl (bEqV (v := true) (beq_iff_eq.2 hch)) rfl) ?_
      refine GoH.v (Vop.pickT rfl rfl rfl rfl rfl) ?_
      refine GoH.v (Vop.mv rfl rfl rfl rfl) ?_
      refine GoH.callP rfl rfl rfl rfl rfl (fun _ _ => Tryd.call11 _ _) (fun w _ hS => awake19_c w (hT.ex hS.ext)) ?_
      refine GoH.v (Vop.pickT rfl rfl rfl rfl rfl) ?_
      refine GoH.v (Vop.asg rfl rfl rfl rfl) ?_
      refine GoH.regionEnd ?_
      refine GoH.ret Tryd.f7 Tryd.func7 rfl (fun w' hS => ?_)
      exact ⟨hS.ext, rfl⟩
set_option maxRecDepth 4000 in
theorem bisimEnds_c (m : MV) (w : World) (hT : Tab w) (hm : m.At w) : Cn Tryd.prog 8 [m.v] w (fun v _ => v = .bool true) := by
  refine Cn.of Tryd.func8 rfl rfl ?_
  refine GoH.seq ?_
  refine GoH.region ?_
  refine GoH.bx rfl rfl rfl rfl (fun b1 => ?_)
  refine GoH.v (Vop.asg rfl rfl rfl rfl) ?_
  refine GoH.regionEnd ?_
  refine GoH.seq ?_
  refine GoH.seq ?_
  refine GoH.region ?_
  refine GoH.v (Vop.ldB rfl rfl rfl rfl Tryd.isAgg25 0 rfl Tryd.sizeOf25 rfl) ?_
  refine GoH.callM _ rfl rfl rfl rfl rfl (fun _ _ => Tryd.call10 _ _) (fun w _ hS => few_c m 12 w (hm.ex0 hS.ext)) ?_
  rintro v w1 w2 Y' hS he ⟨y1, rfl⟩
  refine ⟨_, hS.later he, ?_⟩
  refine GoH.v (Vop.un rfl rfl rfl uNot rfl) ?_
  refine GoH.v (Vop.mv rfl rfl rfl rfl) ?_
  -- guard on slot 15 (law.go:153)
  refine GoH.cases (d := 15) rfl (fun hc => ?_) (fun hc => ?_)
  · -- yes
    refine GoH.no rfl rfl rfl rfl ?_
    refine GoH.no rfl rfl rfl rfl ?_
    refine GoH.no rfl rfl rfl rfl ?_
    refine GoH.v (Vop.pickT rfl rfl rfl rfl rfl) ?_
    refine GoH.regionEnd ?_
    refine GoH.condT rfl ?_
    refine GoH.seq ?_
    refine GoH.region ?_
    refine GoH.callP rfl rfl rfl rfl rfl (fun _ _ => Tryd.call11 _ _) (fun w _ hS => awake19_c w (hT.ex hS.ext)) ?_
    refine GoH.v (Vop.asg rfl rfl rfl rfl) ?_
    refine GoH.regionEnd ?_
    refine GoH.ret Tryd.f8 Tryd.func8 rfl (fun w' hS => ?_)
    exact ⟨hS.ext, rfl⟩
  · -- no
    refine GoH.v (Vop.ldB rfl rfl rfl rfl Tryd.isAgg25 0 rfl Tryd.sizeOf25 rfl) ?_
    refine GoH.callP rfl rfl rfl rfl rfl (fun _ _ => Tryd.call26 _ _) (fun w _ hS => (by exact rmCheck_c m w (hm.ex0 hS.ext))) ?_
    refine GoH.v (Vop.bin rfl rfl rfl rfl bNe rfl) ?_
    refine GoH.v (Vop.pickF rfl rfl rfl rfl rfl) ?_
    refine GoH.regionEnd ?_
    refine GoH.cond rfl (fun hc => ?_) (fun hc => ?_)
    · -- yes
      refine GoH.seq ?_
      refine GoH.region ?_
      refine GoH.callP rfl rfl rfl rfl rfl (fun _ _ => Tryd.call11 _ _) (fun w _ hS => awake19_c w (hT.ex hS.ext)) ?_
      refine GoH.v (Vop.asg rfl rfl rfl rfl) ?_
      refine GoH.regionEnd ?_
      refine GoH.ret Tryd.f8 Tryd.func8 rfl (fun w' hS => ?_)
      exact ⟨hS.ext, rfl⟩
    · -- no
      have h1 : checkM m.n m.val m.rel = 0 := by simpa using hc
      have hv := checkM_zero.1 h1
      have hn1 := hv.n1
      have hn64 := hv.n64
      obtain ⟨n, hn⟩ : ∃ n : Nat, m.n = n := ⟨m.n.toNat, by omega⟩
      obtain ⟨d, hd⟩ : ∃ d, dep n m.val m.rel = d := ⟨_, rfl⟩
      obtain ⟨hd1, hd2, hd3⟩ := dep_spec (n := n) (val := m.val) (rels := m.rel) (by omega) (by omega)
      rw [hd] at hd1 hd2 hd3
      have hpl : ∀ i, (psq n m.val m.rel i).length = n := fun i => psq_len i
      have hpo : ∀ i, OkP (psq n m.val m.rel i) := fun i => psq_ok (by omega) i
      have hdp : dpt m.n m.val m.rel = d := by rw [dpt, if_neg (by simp [h1]), hn, ← hd]; rfl
      have hcr : crs m.n m.val m.rel = psq n m.val m.rel d := by rw [crs_ok h1, hn, ← hd]; rfl
      have hre : ∀ k : Nat, rndsE m.n m.val m.rel k = 0 := fun k => by rw [rndsE, if_neg (by simp [h1]), if_neg (by omega)]
      have hrn : ∀ k : Nat, k ≤ n → rnds m.n m.val m.rel k = psq n m.val m.rel k := fun k hk => by
        rw [rnds_ok (hre k), hn]
        congr 1
        simp
        omega
      refine GoH.skip ?_
      refine GoH.seq ?_
      refine GoH.region ?_
      refine GoH.v (Vop.ldB rfl rfl rfl rfl Tryd.isAgg25 0 rfl Tryd.sizeOf25 rfl) ?_
      refine GoH.callP rfl rfl rfl rfl rfl (fun _ _ => Tryd.call16 _ _) (fun w _ hS => depth_c m w (hT.ex hS.ext) (hm.ex0 hS.ext)) ?_
      refine GoH.v (Vop.mv rfl rfl rfl rfl) ?_
      refine GoH.v (Vop.ext rfl rfl rfl rfl rfl) ?_
      refine GoH.v (Vop.ext rfl rfl rfl rfl rfl) ?_
      refine GoH.v (Vop.asg rfl rfl rfl rfl) ?_
      refine GoH.v (Vop.asg rfl rfl rfl rfl) ?_
      refine GoH.regionEnd ?_
      refine GoH.seq ?_
      refine GoH.region ?_
      refine GoH.v (Vop.ldB rfl rfl rfl rfl Tryd.isAgg25 0 rfl Tryd.sizeOf25 rfl) ?_
      refine GoH.callM _ rfl rfl rfl rfl rfl (fun _ _ => Tryd.call14 _ _) (fun w _ hS => coarsest_c m w (hT.ex hS.ext) (hm.ex0 hS.ext)) ?_
      rintro v w1 w2 Y' hS he ⟨sv, rfl, ho⟩
      rw [hcr] at ho
      obtain ⟨q5, cap5, sp5, rfl, hq5, hcap5, hS'⟩ := gainS hS he ho
      rw [hpl] at hq5 ⊢
      refine ⟨_, hS', ?_⟩
      -- heap: q5 b1
      refine GoH.v (Vop.mv rfl rfl rfl rfl) ?_
      refine GoH.v (Vop.ext rfl rfl rfl rfl rfl) ?_
      refine GoH.v (Vop.ext rfl rfl rfl rfl rfl) ?_
      refine GoH.v (Vop.asg rfl rfl rfl rfl) ?_
      refine GoH.v (Vop.asg rfl rfl rfl rfl) ?_
      refine GoH.regionEnd ?_
      refine GoH.seq ?_
      refine GoH.seq ?_
      refine GoH.region ?_
      refine GoH.v (Vop.mv rfl rfl rfl rfl) ?_
      refine GoH.v (Vop.bin rfl rfl rfl rfl (bNeV (v := false) (by rw [h1]; rfl)) rfl) ?_
      refine GoH.v (Vop.mv rfl rfl rfl rfl) ?_
      refine GoH.v (Vop.mv rfl rfl rfl rfl) ?_
      refine GoH.v (Vop.bin rfl rfl rfl rfl (bNeV (v := false) (by rw [h1]; rfl)) rfl) ?_
      refine GoH.v (Vop.pickF rfl rfl rfl rfl rfl) ?_
      refine GoH.v (Vop.mv rfl rfl rfl rfl) ?_
      refine GoH.v (Vop.mv rfl rfl rfl rfl) ?_
      refine GoH.v (Vop.bin rfl rfl rfl rfl (bLtV (v := false) (decide_eq_false (by rw [hdp]; omega))) rfl) ?_
      refine GoH.v (Vop.pickF rfl rfl rfl rfl rfl) ?_
      refine GoH.v (Vop.mv rfl rfl rfl rfl) ?_
      refine GoH.v (Vop.mv rfl rfl rfl rfl) ?_
      refine GoH.v (Vop.fldP rfl rfl rfl rfl Tryd.underlying25 rfl (by exact Tryd.sizeOf3) 0 rfl) ?_
      refine GoH.v (Vop.ldo (v := .int .i64 m.n) rfl rfl rfl rfl Tryd.isAgg3 1 rfl rfl) ?_
      refine GoH.v (Vop.bin rfl rfl rfl rfl (bGeV (v := false) (decide_eq_false (by rw [hdp]; omega))) rfl) ?_
      refine GoH.v (Vop.pickF rfl rfl rfl rfl rfl) ?_
      refine GoH.regionEnd ?_
      refine GoH.condF rfl ?_
      refine GoH.skip ?_
      refine GoH.seq ?_
      refine GoH.region ?_
      refine GoH.v (Vop.ldB rfl rfl rfl rfl Tryd.isAgg25 1 rfl Tryd.sizeOf25 rfl) ?_
      refine GoH.callM _ rfl rfl rfl rfl rfl (fun _ _ => Tryd.call12 _ _) (fun w _ hS => (by exact roundsX_c m ((0 : Nat) : Int) w (hT.ex hS.ext) (hm.ex0 hS.ext))) ?_
      rintro v w1 w2 Y' hS he ⟨sv, rfl, ho⟩
      rw [hrn 0 (Nat.zero_le _)] at ho
      rw [hre 0]
      obtain ⟨q7, cap7, sp7, rfl, hq7, hcap7, hS'⟩ := gainS hS he ho
      rw [hpl] at hq7 ⊢
      refine ⟨_, hS', ?_⟩
      -- heap: q7 q5 b1
      refine GoH.v (Vop.mv rfl rfl rfl rfl) ?_
      refine GoH.v (Vop.ext rfl rfl rfl rfl rfl) ?_
      refine GoH.v (Vop.ext rfl rfl rfl rfl rfl) ?_
      refine GoH.v (Vop.asg rfl rfl rfl rfl) ?_
      refine GoH.v (Vop.asg rfl rfl rfl rfl) ?_
      refine GoH.regionEnd ?_
      refine GoH.seq ?_
      refine GoH.seq ?_
      refine GoH.region ?_
      refine GoH.v (Vop.asg rfl rfl rfl rfl) ?_
      refine GoH.regionEnd ?_
      refine GoH.block ?_
      rw [hdp]
      refine GoH.loop (σ := Nat × Option Nat × Nat × List Value) (fun z => [(1, .pointer (some ⟨b1, 0, none⟩)), (3, .int .i64 d), (5, osv q5 n cap5), (7, osv z.2.1 n z.2.2.1), (8, .int .i64 0), (9, .int .i64 ((z.1 + 1 : Nat) : Int))])
        (fun z => [(z.2.1, ob I64 3 (psq n m.val m.rel z.1) z.2.2.2), (q5, ob I64 3 (psq n m.val m.rel d) sp5), (some b1, .cells m.v.cells 25 (0, 0))])
        (fun z => z.1 ≤ d + 1 ∧ (z.2.1 = none → n = 0 ∧ z.2.2.1 = 0)) (fun z => d + 1 - z.1) (0, q7, cap7, sp7) ⟨Nat.zero_le _, hq7⟩ ⟨rfl, rfl, rfl, rfl, rfl, rfl, trivial⟩ (List.Sublist.refl _) (fun z hI IH => ?_)
      obtain ⟨k, q, cap, sp⟩ := z
      obtain ⟨hk, hq⟩ := hI
      dsimp only at hk hq IH ⊢
      -- heap: q q5 b1
      -- ptr: 1=b1
      refine GoH.seq ?_
      refine GoH.seq ?_
      refine GoH.region ?_
      refine GoH.v (Vop.mv rfl rfl rfl rfl) ?_
      refine GoH.v (Vop.mv rfl rfl rfl rfl) ?_
      refine GoH.v (Vop.bin rfl rfl rfl rfl (bAdd (by omega)) rfl) ?_
      refine GoH.v (Vop.bin rfl rfl rfl rfl bLe rfl) ?_
      refine GoH.regionEnd ?_
      refine GoH.cond rfl (fun hc => ?_) (fun hc => ?_)
      · -- yes
        have hkd : k ≤ d := by have : ((k + 1 : Nat) : Int) ≤ (d : Int) + 1 := by simpa using hc
                               omega
        have hrk := hrn (k + 1) (by omega)
        have hek := hre (k + 1)
        refine GoH.skip ?_
        refine GoH.seq ?_
        refine GoH.block ?_
        refine GoH.seq ?_
        refine GoH.region ?_
        refine GoH.v (Vop.ldB rfl rfl rfl rfl Tryd.isAgg25 2 rfl Tryd.sizeOf25 rfl) ?_
        refine GoH.v (Vop.mv rfl rfl rfl rfl) ?_
        refine GoH.callM _ rfl rfl rfl rfl rfl (fun _ _ => Tryd.call12 _ _) (fun w _ hS => (by exact roundsX_c m ((k + 1 : Nat) : Int) w (hT.ex hS.ext) (hm.ex0 hS.ext))) ?_
        rintro v w1 w2 Y' hS he ⟨sv, rfl, ho⟩
        rw [hrk] at ho
        rw [hek]
        obtain ⟨q10, cap10, sp10, rfl, hq10, hcap10, hS'⟩ := gainS hS he ho
        rw [hpl] at hq10 ⊢
        refine ⟨_, hS', ?_⟩
        -- heap: q10 q q5 b1
        refine GoH.v (Vop.mv rfl rfl rfl rfl) ?_
        refine GoH.v (Vop.ext rfl rfl rfl rfl rfl) ?_
        refine GoH.v (Vop.ext rfl rfl rfl rfl rfl) ?_
        refine GoH.v (Vop.asg rfl rfl rfl rfl) ?_
        refine GoH.v (Vop.asg rfl rfl rfl rfl) ?_
        refine GoH.regionEnd ?_
        refine GoH.seq ?_
        refine GoH.seq ?_
        refine GoH.region ?_
        refine GoH.v (Vop.mv rfl rfl rfl rfl) ?_
        refine GoH.v (Vop.bin rfl rfl rfl rfl (bNeV (v := false) rfl) rfl) ?_
        refine GoH.v (Vop.mv rfl rfl rfl rfl) ?_
        refine GoH.v (Vop.mv rfl rfl rfl rfl) ?_
        refine GoH.v (Vop.bin rfl rfl rfl rfl (bNeV (v := false) rfl) rfl) ?_
        refine GoH.v (Vop.pickF rfl rfl rfl rfl rfl) ?_
        refine GoH.v (Vop.mv rfl rfl rfl rfl) ?_
        refine GoH.v (Vop.mv rfl rfl rfl rfl) ?_
        refine GoH.v (Vop.mv rfl rfl rfl rfl) ?_
        refine GoH.callP rfl rfl rfl rfl rfl (fun _ _ => Tryd.call28 _ _) (fun w _ hS => (by
        have := refines_c (q10.map (fun b => ⟨b, 0, none⟩)) cap10 (psq n m.val m.rel (k + 1)) (q.map (fun b => ⟨b, 0, none⟩)) cap (psq n m.val m.rel k) w (sliAt hS 0 rfl (fun e => by rw [hpl]; exact (hq10 e).1)) (sliAt hS 1 rfl (fun e => by rw [hpl]; exact (hq e).1)) (hpo _) (hpo _) (by rw [hpl, hpl]) (fun i hi => nxt_refines (by rw [hpl] at hi ⊢; exact hi))
        rw [hpl, hpl] at this
        exact this)) ?_
        refine GoH.v (Vop.un rfl rfl rfl uNot rfl) ?_
        refine GoH.v (Vop.pickF rfl rfl rfl rfl rfl) ?_
        refine GoH.v (Vop.mv rfl rfl rfl rfl) ?_
        refine GoH.v (Vop.mv rfl rfl rfl rfl) ?_
        refine GoH.v (Vop.mv rfl rfl rfl rfl) ?_
        refine GoH.callP rfl rfl rfl rfl rfl (fun _ _ => Tryd.call18 _ _) (fun w _ hS => (by
        have := equalI_c (q10.map (fun b => ⟨b, 0, none⟩)) cap10 (psq n m.val m.rel (k + 1)) (q.map (fun b => ⟨b, 0, none⟩)) cap (psq n m.val m.rel k) w (sliAt hS 0 rfl (fun e => by rw [hpl]; exact (hq10 e).1)) (sliAt hS 1 rfl (fun e => by rw [hpl]; exact (hq e).1)) (by rw [hpl]; exact le_mx (by omega))
        rw [hpl, hpl] at this
        exact this)) ?_
        refine GoH.v (Vop.mv rfl rfl rfl rfl) ?_
        refine GoH.v (Vop.mv rfl rfl rfl rfl) ?_
        refine GoH.v (Vop.bin rfl rfl rfl rfl (bAdd (by omega)) rfl) ?_
        refine GoH.v (Vop.bin rfl rfl rfl rfl bEq rfl) ?_
        refine GoH.v (Vop.bin rfl rfl rfl rfl (bNeBV (v := false) Tryd.underlying4 (by
        by_cases e : k = d
        · subst e; rw [hd2, beq_self_eq_true]; simp
        · have hne := hd3 k (by omega)
          rw [beq_false_of_ne (Ne.symm hne)]
          have : ((k + 1 : Nat) : Int) ≠ (d : Int) + 1 := by omega
          simpa using this)) rfl) ?_
        refine GoH.v (Vop.pickF rfl rfl rfl rfl rfl) ?_
        refine GoH.regionEnd ?_
        refine GoH.condF rfl ?_
        refine GoH.skip ?_
        refine GoH.region ?_
        refine GoH.v (Vop.mv rfl rfl rfl rfl) ?_
        refine GoH.v (Vop.asg rfl rfl rfl rfl) ?_
        refine GoH.regionEnd ?_
        refine GoH.inBlock ?_
        refine GoH.region ?_
        refine GoH.v (Vop.mv rfl rfl rfl rfl) ?_
        refine GoH.v (Vop.bin rfl rfl rfl rfl (bAdd (by omega)) rfl) ?_
        refine GoH.v (Vop.asg rfl rfl rfl rfl) ?_
        refine GoH.regionEnd ?_
        exact IH (k + 1, q10, cap10, sp10) _ _ ⟨by dsimp only; omega, hq10⟩ (by dsimp only; omega) ⟨rfl, rfl, rfl, rfl, rfl, rfl, trivial⟩ (.cons_cons _ (.cons _ (List.Sublist.refl _)))
      · -- no
        have hkd : k = d + 1 := by have : ¬ ((k + 1 : Nat) : Int) ≤ (d : Int) + 1 := by simpa using hc
                                   omega
        refine GoH.exit rfl ?_
        refine GoH.seq ?_
        refine GoH.region ?_
        refine GoH.v (Vop.mv rfl rfl rfl rfl) ?_
        refine GoH.v (Vop.mv rfl rfl rfl rfl) ?_
        refine GoH.callP rfl rfl rfl rfl rfl (fun _ _ => Tryd.call18 _ _) (fun w _ hS => (by
        have := equalT_c (q.map (fun b => ⟨b, 0, none⟩)) cap (psq n m.val m.rel k) (q5.map (fun b => ⟨b, 0, none⟩)) cap5 (psq n m.val m.rel d) w (sliAt hS 0 rfl (fun e => by rw [hpl]; exact (hq e).1)) (sliAt hS 1 rfl (fun e => by rw [hpl]; exact (hq5 e).1)) (by rw [hkd, ← hd2]) (by rw [hpl]; exact le_mx (by omega))
        rw [hpl, hpl] at this
        exact this)) ?_
        refine GoH.v (Vop.mv rfl rfl rfl rfl) ?_
        refine GoH.callP rfl rfl rfl rfl rfl (fun _ _ => Tryd.call11 _ _) (fun w _ hS => awake19_c w (hT.ex hS.ext)) ?_
        refine GoH.v (Vop.pickT rfl rfl rfl rfl rfl) ?_
        refine GoH.v (Vop.asg rfl rfl rfl rfl) ?_
        refine GoH.regionEnd ?_
        refine GoH.ret Tryd.f8 Tryd.func8 rfl (fun w' hS => ?_)
        exact ⟨hS.ext, rfl⟩
end Go.Proofs.YtpifbcbdbkbbjaaDoor
