/- Contracts of functions of the program: what each call returns and that nothing else of memory is turned, under the conditions that each theorem states. -/
import Derived.Test.YtoiafcoaeomnlaaDoorL5
import Derived.Test.YtoiafcoaeomnlaaDoorWlaw2
namespace Go.Proofs.YtoiafcoaeomnlaaDoor
open Go.RowKit Go.Proofs.Wit
/-! the laws, 5 -/
theorem compR_eq {r s : List W64} (hr : Val r) (hs : Val s) (hl : r.length = s.length) : compR r s = (compW r s, 0) := by
  rw [compR, if_neg (by rw [ne_eq, Classical.not_not]; exact two_zero.2 ⟨hr, hs, hl⟩)]; rfl
theorem convR_eq {r : List W64} (hr : Val r) : convR r = (revR r, 0) := by rw [convR, if_neg (by simp [check_zero.2 hr])]
theorem orders_c (a : Option Addr) (ca : Nat) (r : List W64) (b : Option Addr) (cb : Nat) (s : List W64) (c : Option Addr) (cc : Nat) (t : List W64) (w : World) (hT : Tab w) (ha : SlU w a r) (hb : SlU w b s) (hd : SlU w c t) (hl : r.length ≤ maxLen) (hl2 : s.length ≤ maxLen) (hl3 : t.length ≤ maxLen) :
    Cn Tryd.prog 8 [.slice a r.length ca, .slice b s.length cb, .slice c t.length cc] w (fun v _ => v = .bool true) := by
  refine Cn.of Tryd.func8 rfl rfl ?_
  refine GoH.seq ?_
  refine GoH.region ?_
  refine GoH.v (Vop.asg rfl rfl rfl rfl) ?_
  refine GoH.regionEnd ?_
  refine GoH.seq ?_
  refine GoH.region ?_
  refine GoH.v (Vop.mv rfl rfl rfl rfl) ?_
  refine GoH.v (Vop.blt rfl rfl rfl (blt_len_slice Tryd.underlying22) rfl) ?_
  refine GoH.v (Vop.asg rfl rfl rfl rfl) ?_
  refine GoH.regionEnd ?_
  refine GoH.seq ?_
  refine GoH.seq ?_
  refine GoH.region ?_
  refine GoH.v (Vop.mv rfl rfl rfl rfl) ?_
  refine GoH.v (Vop.bin rfl rfl rfl rfl bGt rfl) ?_
  refine GoH.v (Vop.mv rfl rfl rfl rfl) ?_
  -- guard on slot 29 (law.go:196)
  refine GoH.cases (d := 29) rfl (fun hc => ?_) (fun hc => ?_)
  · -- yes
    refine GoH.no rfl rfl rfl rfl ?_
    refine GoH.no rfl rfl rfl rfl ?_
    refine GoH.no rfl rfl rfl rfl ?_
    refine GoH.no rfl rfl rfl rfl ?_
    refine GoH.v (Vop.pickT rfl rfl rfl rfl rfl) ?_
    refine GoH.v (Vop.mv rfl rfl rfl rfl) ?_
    refine GoH.no rfl rfl rfl rfl ?_
    refine GoH.no rfl rfl rfl rfl ?_
    refine GoH.no rfl rfl rfl rfl ?_
    refine GoH.no rfl rfl rfl rfl ?_
    refine GoH.v (Vop.pickT rfl rfl rfl rfl rfl) ?_
    refine GoH.v (Vop.mv rfl rfl rfl rfl) ?_
    refine GoH.no rfl rfl rfl rfl ?_
    refine GoH.no rfl rfl rfl rfl ?_
    refine GoH.no rfl rfl rfl rfl ?_
    refine GoH.no rfl rfl rfl rfl ?_
    refine GoH.v (Vop.pickT rfl rfl rfl rfl rfl) ?_
    refine GoH.v (Vop.mv rfl rfl rfl rfl) ?_
    refine GoH.no rfl rfl rfl rfl ?_
    refine GoH.no rfl rfl rfl rfl ?_
    refine GoH.no rfl rfl rfl rfl ?_
    refine GoH.no rfl rfl rfl rfl ?_
    refine GoH.v (Vop.pickT rfl rfl rfl rfl rfl) ?_
    refine GoH.v (Vop.mv rfl rfl rfl rfl) ?_
    refine GoH.no rfl rfl rfl rfl ?_
    refine GoH.no rfl rfl rfl rfl ?_
    refine GoH.no rfl rfl rfl rfl ?_
    refine GoH.no rfl rfl rfl rfl ?_
    refine GoH.v (Vop.pickT rfl rfl rfl rfl rfl) ?_
    refine GoH.regionEnd ?_
    refine GoH.condT rfl ?_
    refine GoH.seq ?_
    refine GoH.region ?_
    refine GoH.callP rfl rfl rfl rfl rfl (fun _ _ => Tryd.call12 _ _) (fun w _ hS => awake_c w (hT.ex hS.ext)) ?_
    refine GoH.v (Vop.asg rfl rfl rfl rfl) ?_
    refine GoH.regionEnd ?_
    refine GoH.ret Tryd.f8 Tryd.func8 rfl (fun w' hS => ?_)
    exact ⟨hS.ext, rfl⟩
  · -- no
    refine GoH.v (Vop.mv rfl rfl rfl rfl) ?_
    refine GoH.v (Vop.blt rfl rfl rfl (blt_len_slice Tryd.underlying22) rfl) ?_
    refine GoH.v (Vop.mv rfl rfl rfl rfl) ?_
    refine GoH.v (Vop.bin rfl rfl rfl rfl bNe rfl) ?_
    refine GoH.v (Vop.pickF rfl rfl rfl rfl rfl) ?_
    refine GoH.v (Vop.mv rfl rfl rfl rfl) ?_
    -- guard on slot 35 (law.go:196)
    refine GoH.cases (d := 35) rfl (fun hc => ?_) (fun hc => ?_)
    · -- yes
      refine GoH.no rfl rfl rfl rfl ?_
      refine GoH.no rfl rfl rfl rfl ?_
      refine GoH.no rfl rfl rfl rfl ?_
      refine GoH.no rfl rfl rfl rfl ?_
      refine GoH.v (Vop.pickT rfl rfl rfl rfl rfl) ?_
      refine GoH.v (Vop.mv rfl rfl rfl rfl) ?_
      refine GoH.no rfl rfl rfl rfl ?_
      refine GoH.no rfl rfl rfl rfl ?_
      refine GoH.no rfl rfl rfl rfl ?_
      refine GoH.no rfl rfl rfl rfl ?_
      refine GoH.v (Vop.pickT rfl rfl rfl rfl rfl) ?_
      refine GoH.v (Vop.mv rfl rfl rfl rfl) ?_
      refine GoH.no rfl rfl rfl rfl ?_
      refine GoH.no rfl rfl rfl rfl ?_
      refine GoH.no rfl rfl rfl rfl ?_
      refine GoH.no rfl rfl rfl rfl ?_
      refine GoH.v (Vop.pickT rfl rfl rfl rfl rfl) ?_
      refine GoH.v (Vop.mv rfl rfl rfl rfl) ?_
      refine GoH.no rfl rfl rfl rfl ?_
      refine GoH.no rfl rfl rfl rfl ?_
      refine GoH.no rfl rfl rfl rfl ?_
      refine GoH.no rfl rfl rfl rfl ?_
      refine GoH.v (Vop.pickT rfl rfl rfl rfl rfl) ?_
      refine GoH.regionEnd ?_
      refine GoH.condT rfl ?_
      refine GoH.seq ?_
      refine GoH.region ?_
      refine GoH.callP rfl rfl rfl rfl rfl (fun _ _ => Tryd.call12 _ _) (fun w _ hS => awake_c w (hT.ex hS.ext)) ?_
      refine GoH.v (Vop.asg rfl rfl rfl rfl) ?_
      refine GoH.regionEnd ?_
      refine GoH.ret Tryd.f8 Tryd.func8 rfl (fun w' hS => ?_)
      exact ⟨hS.ext, rfl⟩
    · -- no
      have hsl0 : (s.length : Int) = r.length := by simpa using hc
      have hsl : s.length = r.length := by omega
      refine GoH.v (Vop.mv rfl rfl rfl rfl) ?_
      refine GoH.v (Vop.blt rfl rfl rfl (blt_len_slice Tryd.underlying22) rfl) ?_
      refine GoH.v (Vop.mv rfl rfl rfl rfl) ?_
      refine GoH.v (Vop.bin rfl rfl rfl rfl bNe rfl) ?_
      refine GoH.v (Vop.pickF rfl rfl rfl rfl rfl) ?_
      refine GoH.v (Vop.mv rfl rfl rfl rfl) ?_
      -- guard on slot 41 (law.go:196)
      refine GoH.cases (d := 41) rfl (fun hc => ?_) (fun hc => ?_)
      · -- yes
        refine GoH.no rfl rfl rfl rfl ?_
        refine GoH.no rfl rfl rfl rfl ?_
        refine GoH.no rfl rfl rfl rfl ?_
        refine GoH.no rfl rfl rfl rfl ?_
        refine GoH.v (Vop.pickT rfl rfl rfl rfl rfl) ?_
        refine GoH.v (Vop.mv rfl rfl rfl rfl) ?_
        refine GoH.no rfl rfl rfl rfl ?_
        refine GoH.no rfl rfl rfl rfl ?_
        refine GoH.no rfl rfl rfl rfl ?_
        refine GoH.no rfl rfl rfl rfl ?_
        refine GoH.v (Vop.pickT rfl rfl rfl rfl rfl) ?_
        refine GoH.v (Vop.mv rfl rfl rfl rfl) ?_
        refine GoH.no rfl rfl rfl rfl ?_
        refine GoH.no rfl rfl rfl rfl ?_
        refine GoH.no rfl rfl rfl rfl ?_
        refine GoH.no rfl rfl rfl rfl ?_
        refine GoH.v (Vop.pickT rfl rfl rfl rfl rfl) ?_
        refine GoH.regionEnd ?_
        refine GoH.condT rfl ?_
        refine GoH.seq ?_
        refine GoH.region ?_
        refine GoH.callP rfl rfl rfl rfl rfl (fun _ _ => Tryd.call12 _ _) (fun w _ hS => awake_c w (hT.ex hS.ext)) ?_
        refine GoH.v (Vop.asg rfl rfl rfl rfl) ?_
        refine GoH.regionEnd ?_
        refine GoH.ret Tryd.f8 Tryd.func8 rfl (fun w' hS => ?_)
        exact ⟨hS.ext, rfl⟩
      · -- no
        have htl0 : (t.length : Int) = r.length := by simpa using hc
        have htl : t.length = r.length := by omega
        refine GoH.v (Vop.mv rfl rfl rfl rfl) ?_
        refine GoH.v (Vop.mv rfl rfl rfl rfl) ?_
        refine GoH.callP rfl rfl rfl rfl rfl (fun _ _ => Tryd.call13 _ _) (fun w _ hS => check_c _ a ca r w (ha.ex0 hS.ext) hl) ?_
        refine GoH.v (Vop.bin rfl rfl rfl rfl bNe rfl) ?_
        refine GoH.v (Vop.pickF rfl rfl rfl rfl rfl) ?_
        refine GoH.v (Vop.mv rfl rfl rfl rfl) ?_
        -- guard on slot 47 (law.go:196)
        refine GoH.cases (d := 47) rfl (fun hc => ?_) (fun hc => ?_)
        · -- yes
          refine GoH.no rfl rfl rfl rfl ?_
          refine GoH.no rfl rfl rfl rfl ?_
          refine GoH.no rfl rfl rfl rfl ?_
          refine GoH.no rfl rfl rfl rfl ?_
          refine GoH.v (Vop.pickT rfl rfl rfl rfl rfl) ?_
          refine GoH.v (Vop.mv rfl rfl rfl rfl) ?_
          refine GoH.no rfl rfl rfl rfl ?_
          refine GoH.no rfl rfl rfl rfl ?_
          refine GoH.no rfl rfl rfl rfl ?_
          refine GoH.no rfl rfl rfl rfl ?_
          refine GoH.v (Vop.pickT rfl rfl rfl rfl rfl) ?_
          refine GoH.regionEnd ?_
          refine GoH.condT rfl ?_
          refine GoH.seq ?_
          refine GoH.region ?_
          refine GoH.callP rfl rfl rfl rfl rfl (fun _ _ => Tryd.call12 _ _) (fun w _ hS => awake_c w (hT.ex hS.ext)) ?_
          refine GoH.v (Vop.asg rfl rfl rfl rfl) ?_
          refine GoH.regionEnd ?_
          refine GoH.ret Tryd.f8 Tryd.func8 rfl (fun w' hS => ?_)
          exact ⟨hS.ext, rfl⟩
        · -- no
          have hr := check_zero.1 (show checkR r.length r = 0 by simpa using hc)
          refine GoH.v (Vop.mv rfl rfl rfl rfl) ?_
          refine GoH.v (Vop.mv rfl rfl rfl rfl) ?_
          refine GoH.callP rfl rfl rfl rfl rfl (fun _ _ => Tryd.call13 _ _) (fun w _ hS => check_c _ b cb s w (hb.ex0 hS.ext) hl2) ?_
          refine GoH.v (Vop.bin rfl rfl rfl rfl bNe rfl) ?_
          refine GoH.v (Vop.pickF rfl rfl rfl rfl rfl) ?_
          refine GoH.v (Vop.mv rfl rfl rfl rfl) ?_
          -- guard on slot 53 (law.go:196)
          refine GoH.cases (d := 53) rfl (fun hc => ?_) (fun hc => ?_)
          · -- yes
            refine GoH.no rfl rfl rfl rfl ?_
            refine GoH.no rfl rfl rfl rfl ?_
            refine GoH.no rfl rfl rfl rfl ?_
            refine GoH.no rfl rfl rfl rfl ?_
            refine GoH.v (Vop.pickT rfl rfl rfl rfl rfl) ?_
            refine GoH.regionEnd ?_
            refine GoH.condT rfl ?_
            refine GoH.seq ?_
            refine GoH.region ?_
            refine GoH.callP rfl rfl rfl rfl rfl (fun _ _ => Tryd.call12 _ _) (fun w _ hS => awake_c w (hT.ex hS.ext)) ?_
            refine GoH.v (Vop.asg rfl rfl rfl rfl) ?_
            refine GoH.regionEnd ?_
            refine GoH.ret Tryd.f8 Tryd.func8 rfl (fun w' hS => ?_)
            exact ⟨hS.ext, rfl⟩
          · -- no
            have hs := check_zero.1 (show checkR s.length s = 0 by rw [hsl]; simpa using hc)
            refine GoH.v (Vop.mv rfl rfl rfl rfl) ?_
            refine GoH.v (Vop.mv rfl rfl rfl rfl) ?_
            refine GoH.callP rfl rfl rfl rfl rfl (fun _ _ => Tryd.call13 _ _) (fun w _ hS => check_c _ c cc t w (hd.ex0 hS.ext) hl3) ?_
            refine GoH.v (Vop.bin rfl rfl rfl rfl bNe rfl) ?_
            refine GoH.v (Vop.pickF rfl rfl rfl rfl rfl) ?_
            refine GoH.regionEnd ?_
            refine GoH.cond rfl (fun hc => ?_) (fun hc => ?_)
            · -- yes
              refine GoH.seq ?_
              refine GoH.region ?_
              refine GoH.callP rfl rfl rfl rfl rfl (fun _ _ => Tryd.call12 _ _) (fun w _ hS => awake_c w (hT.ex hS.ext)) ?_
              refine GoH.v (Vop.asg rfl rfl rfl rfl) ?_
              refine GoH.regionEnd ?_
              refine GoH.ret Tryd.f8 Tryd.func8 rfl (fun w' hS => ?_)
              exact ⟨hS.ext, rfl⟩
            · -- no
              have ht := check_zero.1 (show checkR t.length t = 0 by rw [htl]; simpa using hc)
              have hA := compW_val hr hs hsl
              have hC := compW_val hs ht (htl.trans hsl.symm)
              have eA : (compW r s).length = r.length := compW_length
              have eC : (compW s t).length = r.length := compW_length.trans hsl
              refine GoH.skip ?_
              refine GoH.seq ?_
              refine GoH.region ?_
              refine GoH.v (Vop.mv rfl rfl rfl rfl) ?_
              refine GoH.v (Vop.mv rfl rfl rfl rfl) ?_
              refine GoH.callM _ rfl rfl rfl rfl rfl (fun _ _ => Tryd.call27 _ _) (fun w _ hS => compose_c a ca r b cb s w (hT.ex hS.ext) (ha.ex0 hS.ext) (hb.ex0 hS.ext) hl hl2) ?_
              rintro v w1 w2 Y' hS he ⟨sv, rfl, ho⟩
              rw [compR_eq hr hs hsl.symm] at ho
              obtain ⟨q1, cap1, sp1, rfl, hq1, hcap1, hS'⟩ := gainO hS he ho
              rw [compR_eq hr hs hsl.symm]
              refine ⟨_, hS', ?_⟩
              -- heap: q1
              refine GoH.v (Vop.mv rfl rfl rfl rfl) ?_
              refine GoH.v (Vop.ext rfl rfl rfl rfl rfl) ?_
              refine GoH.v (Vop.ext rfl rfl rfl rfl rfl) ?_
              refine GoH.v (Vop.asg rfl rfl rfl rfl) ?_
              refine GoH.v (Vop.asg rfl rfl rfl rfl) ?_
              refine GoH.regionEnd ?_
              refine GoH.seq ?_
              refine GoH.region ?_
              refine GoH.v (Vop.mv rfl rfl rfl rfl) ?_
              refine GoH.v (Vop.mv rfl rfl rfl rfl) ?_
              refine GoH.callM _ rfl rfl rfl rfl rfl (fun _ _ => Tryd.call27 _ _) (fun w _ hS => compose_c (q1.map (fun b => ⟨b, 0, none⟩)) cap1 (compW r s) c cc t w (hT.ex hS.ext) (sluAt hS 0 rfl hq1) (hd.ex0 hS.ext) (by rw [eA]; exact hl) hl3) ?_
              rintro v w1 w2 Y' hS he ⟨sv, rfl, ho⟩
              rw [compR_eq hA ht (eA.trans htl.symm)] at ho
              obtain ⟨q2, cap2, sp2, rfl, hq2, hcap2, hS'⟩ := gainO hS he ho
              rw [compR_eq hA ht (eA.trans htl.symm)]
              refine ⟨_, hS', ?_⟩
              -- heap: q2 q1
              refine GoH.v (Vop.mv rfl rfl rfl rfl) ?_
              refine GoH.v (Vop.ext rfl rfl rfl rfl rfl) ?_
              refine GoH.v (Vop.ext rfl rfl rfl rfl rfl) ?_
              refine GoH.v (Vop.asg rfl rfl rfl rfl) ?_
              refine GoH.v (Vop.asg rfl rfl rfl rfl) ?_
              refine GoH.regionEnd ?_
              refine GoH.seq ?_
              refine GoH.region ?_
              refine GoH.v (Vop.mv rfl rfl rfl rfl) ?_
              refine GoH.v (Vop.mv rfl rfl rfl rfl) ?_
              refine GoH.callM _ rfl rfl rfl rfl rfl (fun _ _ => Tryd.call27 _ _) (fun w _ hS => compose_c b cb s c cc t w (hT.ex hS.ext) (hb.ex0 hS.ext) (hd.ex0 hS.ext) hl2 hl3) ?_
              rintro v w1 w2 Y' hS he ⟨sv, rfl, ho⟩
              rw [compR_eq hs ht (hsl.trans htl.symm)] at ho
              obtain ⟨q3, cap3, sp3, rfl, hq3, hcap3, hS'⟩ := gainO hS he ho
              rw [compR_eq hs ht (hsl.trans htl.symm)]
              refine ⟨_, hS', ?_⟩
              -- heap: q3 q2 q1
              refine GoH.v (Vop.mv rfl rfl rfl rfl) ?_
              refine GoH.v (Vop.ext rfl rfl rfl rfl rfl) ?_
              refine GoH.v (Vop.ext rfl rfl rfl rfl rfl) ?_
              refine GoH.v (Vop.asg rfl rfl rfl rfl) ?_
              refine GoH.v (Vop.asg rfl rfl rfl rfl) ?_
              refine GoH.regionEnd ?_
              refine GoH.seq ?_
              refine GoH.region ?_
              refine GoH.v (Vop.mv rfl rfl rfl rfl) ?_
              refine GoH.v (Vop.mv rfl rfl rfl rfl) ?_
              refine GoH.callM _ rfl rfl rfl rfl rfl (fun _ _ => Tryd.call27 _ _) (fun w _ hS => compose_c a ca r (q3.map (fun b => ⟨b, 0, none⟩)) cap3 (compW s t) w (hT.ex hS.ext) (ha.ex0 hS.ext) (sluAt hS 0 rfl hq3) hl (by rw [eC]; exact hl)) ?_
              rintro v w1 w2 Y' hS he ⟨sv, rfl, ho⟩
              rw [compR_eq hr hC eC.symm] at ho
              obtain ⟨q4, cap4, sp4, rfl, hq4, hcap4, hS'⟩ := gainO hS he ho
              rw [compR_eq hr hC eC.symm]
              refine ⟨_, hS', ?_⟩
              -- heap: q4 q3 q2 q1
              refine GoH.v (Vop.mv rfl rfl rfl rfl) ?_
              refine GoH.v (Vop.ext rfl rfl rfl rfl rfl) ?_
              refine GoH.v (Vop.ext rfl rfl rfl rfl rfl) ?_
              refine GoH.v (Vop.asg rfl rfl rfl rfl) ?_
              refine GoH.v (Vop.asg rfl rfl rfl rfl) ?_
              refine GoH.regionEnd ?_
              refine GoH.seq ?_
              refine GoH.region ?_
              refine GoH.v (Vop.mv rfl rfl rfl rfl) ?_
              refine GoH.callM _ rfl rfl rfl rfl rfl (fun _ _ => Tryd.call26 _ _) (fun w _ hS => converse_c (q1.map (fun b => ⟨b, 0, none⟩)) cap1 (compW r s) w (hT.ex hS.ext) (sluAt hS 3 rfl hq1) (by rw [eA]; exact hl)) ?_
              rintro v w1 w2 Y' hS he ⟨sv, rfl, ho⟩
              rw [convR_eq hA] at ho
              obtain ⟨q5, cap5, sp5, rfl, hq5, hcap5, hS'⟩ := gainO hS he ho
              rw [convR_eq hA]
              refine ⟨_, hS', ?_⟩
              -- heap: q5 q4 q3 q2 q1
              refine GoH.v (Vop.mv rfl rfl rfl rfl) ?_
              refine GoH.v (Vop.ext rfl rfl rfl rfl rfl) ?_
              refine GoH.v (Vop.ext rfl rfl rfl rfl rfl) ?_
              refine GoH.v (Vop.asg rfl rfl rfl rfl) ?_
              refine GoH.v (Vop.asg rfl rfl rfl rfl) ?_
              refine GoH.regionEnd ?_
              refine GoH.seq ?_
              refine GoH.region ?_
              refine GoH.v (Vop.mv rfl rfl rfl rfl) ?_
              refine GoH.callM _ rfl rfl rfl rfl rfl (fun _ _ => Tryd.call26 _ _) (fun w _ hS => converse_c a ca r w (hT.ex hS.ext) (ha.ex0 hS.ext) hl) ?_
              rintro v w1 w2 Y' hS he ⟨sv, rfl, ho⟩
              rw [convR_eq hr] at ho
              obtain ⟨q6, cap6, sp6, rfl, hq6, hcap6, hS'⟩ := gainO hS he ho
              rw [convR_eq hr]
              refine ⟨_, hS', ?_⟩
              -- heap: q6 q5 q4 q3 q2 q1
              refine GoH.v (Vop.mv rfl rfl rfl rfl) ?_
              refine GoH.v (Vop.ext rfl rfl rfl rfl rfl) ?_
              refine GoH.v (Vop.ext rfl rfl rfl rfl rfl) ?_
              refine GoH.v (Vop.asg rfl rfl rfl rfl) ?_
              refine GoH.v (Vop.asg rfl rfl rfl rfl) ?_
              refine GoH.regionEnd ?_
              refine GoH.seq ?_
              refine GoH.region ?_
              refine GoH.v (Vop.mv rfl rfl rfl rfl) ?_
              refine GoH.callM _ rfl rfl rfl rfl rfl (fun _ _ => Tryd.call26 _ _) (fun w _ hS => converse_c b cb s w (hT.ex hS.ext) (hb.ex0 hS.ext) hl2) ?_
              rintro v w1 w2 Y' hS he ⟨sv, rfl, ho⟩
              rw [convR_eq hs] at ho
              obtain ⟨q7, cap7, sp7, rfl, hq7, hcap7, hS'⟩ := gainO hS he ho
              rw [convR_eq hs]
              refine ⟨_, hS', ?_⟩
              -- heap: q7 q6 q5 q4 q3 q2 q1
              refine GoH.v (Vop.mv rfl rfl rfl rfl) ?_
              refine GoH.v (Vop.ext rfl rfl rfl rfl rfl) ?_
              refine GoH.v (Vop.ext rfl rfl rfl rfl rfl) ?_
              refine GoH.v (Vop.asg rfl rfl rfl rfl) ?_
              refine GoH.v (Vop.asg rfl rfl rfl rfl) ?_
              refine GoH.regionEnd ?_
              refine GoH.seq ?_
              refine GoH.region ?_
              refine GoH.v (Vop.mv rfl rfl rfl rfl) ?_
              refine GoH.v (Vop.mv rfl rfl rfl rfl) ?_
              refine GoH.callM _ rfl rfl rfl rfl rfl (fun _ _ => Tryd.call27 _ _) (fun w _ hS => compose_c (q7.map (fun b => ⟨b, 0, none⟩)) cap7 (revR s) (q6.map (fun b => ⟨b, 0, none⟩)) cap6 (revR r) w (hT.ex hS.ext) (sluAt hS 0 rfl hq7) (sluAt hS 1 rfl hq6) (by rw [revR_length]; exact hl2) (by rw [revR_length]; exact hl)) ?_
              rintro v w1 w2 Y' hS he ⟨sv, rfl, ho⟩
              rw [compR_eq (rev_val hs) (rev_val hr) (by rw [revR_length, revR_length]; exact hsl)] at ho
              obtain ⟨q8, cap8, sp8, rfl, hq8, hcap8, hS'⟩ := gainO hS he ho
              rw [compR_eq (rev_val hs) (rev_val hr) (by rw [revR_length, revR_length]; exact hsl)]
              refine ⟨_, hS', ?_⟩
              -- heap: q8 q7 q6 q5 q4 q3 q2 q1
              refine GoH.v (Vop.mv rfl rfl rfl rfl) ?_
              refine GoH.v (Vop.ext rfl rfl rfl rfl rfl) ?_
              refine GoH.v (Vop.ext rfl rfl rfl rfl rfl) ?_
              refine GoH.v (Vop.asg rfl rfl rfl rfl) ?_
              refine GoH.v (Vop.asg rfl rfl rfl rfl) ?_
              refine GoH.regionEnd ?_
              refine GoH.seq ?_
              refine GoH.seq ?_
              refine GoH.region ?_
              refine GoH.v (Vop.mv rfl rfl rfl rfl) ?_
              refine GoH.v (Vop.blt rfl rfl rfl (blt_len_slice Tryd.underlying22) rfl) ?_
              refine GoH.v (Vop.mv rfl rfl rfl rfl) ?_
              refine GoH.v (Vop.bin rfl rfl rfl rfl (bNeV (v := false) (by show (((compW r s).length : Int) != (r.length : Int)) = false; rw [eA]; exact bne_self_eq_false _)) rfl) ?_
              refine GoH.v (Vop.mv rfl rfl rfl rfl) ?_
              refine GoH.v (Vop.mv rfl rfl rfl rfl) ?_
              refine GoH.v (Vop.blt rfl rfl rfl (blt_len_slice Tryd.underlying22) rfl) ?_
              refine GoH.v (Vop.mv rfl rfl rfl rfl) ?_
              refine GoH.v (Vop.bin rfl rfl rfl rfl (bNeV (v := false) (by show (((compW (compW r s) t).length : Int) != (r.length : Int)) = false; rw [compW_length, eA]; exact bne_self_eq_false _)) rfl) ?_
              refine GoH.v (Vop.pickF rfl rfl rfl rfl rfl) ?_
              refine GoH.v (Vop.mv rfl rfl rfl rfl) ?_
              refine GoH.v (Vop.mv rfl rfl rfl rfl) ?_
              refine GoH.v (Vop.mv rfl rfl rfl rfl) ?_
              refine GoH.callP rfl rfl rfl rfl rfl (fun _ _ => Tryd.call28 _ _) (fun w _ hS => (show Cn Tryd.prog 28 [osv q2 (compW (compW r s) t).length cap2, osv q4 (compW r (compW s t)).length cap4] w (fun v _ => v = .bool true) from (rSame_c (q2.map (fun b => ⟨b, 0, none⟩)) cap2 (compW (compW r s) t) (q4.map (fun b => ⟨b, 0, none⟩)) cap4 (compW r (compW s t)) w (sluAt hS 6 rfl hq2) (sluAt hS 4 rfl hq4) (by rw [compW_length]; exact (by rw [eA]; exact hl))).mono (fun v w' _ h => by rw [h, compW_assoc, beq_self_eq_true]))) ?_
              refine GoH.v (Vop.un rfl rfl rfl uNot rfl) ?_
              refine GoH.v (Vop.pickF rfl rfl rfl rfl rfl) ?_
              refine GoH.v (Vop.mv rfl rfl rfl rfl) ?_
              refine GoH.v (Vop.mv rfl rfl rfl rfl) ?_
              refine GoH.v (Vop.mv rfl rfl rfl rfl) ?_
              refine GoH.callP rfl rfl rfl rfl rfl (fun _ _ => Tryd.call28 _ _) (fun w _ hS => (show Cn Tryd.prog 28 [osv q5 (revR (compW r s)).length cap5, osv q8 (compW (revR s) (revR r)).length cap8] w (fun v _ => v = .bool true) from (rSame_c (q5.map (fun b => ⟨b, 0, none⟩)) cap5 (revR (compW r s)) (q8.map (fun b => ⟨b, 0, none⟩)) cap8 (compW (revR s) (revR r)) w (sluAt hS 3 rfl hq5) (sluAt hS 0 rfl hq8) (by rw [revR_length, eA]; exact hl)).mono (fun v w' _ h => by rw [h, compW_rev hr hs hsl, beq_self_eq_true]))) ?_
              refine GoH.v (Vop.un rfl rfl rfl uNot rfl) ?_
              refine GoH.v (Vop.pickF rfl rfl rfl rfl rfl) ?_
              refine GoH.regionEnd ?_
              refine GoH.condF rfl ?_
              refine GoH.skip ?_
              refine GoH.seq ?_
              refine GoH.region ?_
              refine GoH.v (Vop.asg (v := U 0#64) rfl rfl rfl rfl) ?_
              refine GoH.regionEnd ?_
              refine GoH.seq ?_
              refine GoH.seq ?_
              refine GoH.region ?_
              refine GoH.v (Vop.mv rfl rfl rfl rfl) ?_
              refine GoH.v (Vop.bin rfl rfl rfl rfl bGt rfl) ?_
              refine GoH.regionEnd ?_
              refine GoH.cond rfl (fun hc => ?_) (fun hc => ?_)
              · -- yes
                have hpos0 : (r.length : Int) > 0 := by simpa using hc
                have hpos : 0 < t.length := by omega
                refine GoH.region ?_
                refine GoH.v (Vop.mv rfl rfl rfl rfl) ?_
                refine GoH.v (Vop.idx rfl rfl rfl rfl rfl Tryd.underlying22 Tryd.sizeOf27 ⟨_, hd⟩ (by simp) (0) ⟨rfl, by simpa using hpos⟩) ?_
                refine GoH.v (Vop.ld rfl rfl rfl rfl Tryd.isAgg27 (fun w _ hS => (SlU.ex0 hd hS.ext).at (0) hpos)) ?_
                refine GoH.v (Vop.asg rfl rfl rfl rfl) ?_
                refine GoH.regionEnd ?_
                refine GoH.seq ?_
                refine GoH.region ?_
                refine GoH.v (Vop.mv rfl rfl rfl rfl) ?_
                refine GoH.v (Vop.mv rfl rfl rfl rfl) ?_
                refine GoH.callP rfl rfl rfl rfl rfl (fun _ _ => Tryd.call19 _ _) (fun w _ hS => diamond_c (q1.map (fun b => ⟨b, 0, none⟩)) cap1 (compW r s) (t.getD 0 0#64) w (sluAt hS 7 rfl hq1) (by rw [eA]; exact hl)) ?_
                refine GoH.v (Vop.mv rfl rfl rfl rfl) ?_
                refine GoH.v (Vop.mv rfl rfl rfl rfl) ?_
                refine GoH.v (Vop.mv rfl rfl rfl rfl) ?_
                refine GoH.callP rfl rfl rfl rfl rfl (fun _ _ => Tryd.call19 _ _) (fun w _ hS => diamond_c b cb s (t.getD 0 0#64) w (hb.ex0 hS.ext) hl2) ?_
                refine GoH.callP rfl rfl rfl rfl rfl (fun _ _ => Tryd.call19 _ _) (fun w _ hS => diamond_c a ca r _ w (ha.ex0 hS.ext) hl) ?_
                refine GoH.v (Vop.bin rfl rfl rfl rfl (bEqUV (v := true) (by rw [diaR_eq (check_zero.2 hA), diaR_eq (check_zero.2 hs), diaR_eq (check_zero.2 hr), compW_dia hr hs hsl, beq_self_eq_true])) rfl) ?_
                refine GoH.v (Vop.mv rfl rfl rfl rfl) ?_
                refine GoH.v (Vop.mv rfl rfl rfl rfl) ?_
                refine GoH.v (Vop.mv rfl rfl rfl rfl) ?_
                refine GoH.callP rfl rfl rfl rfl rfl (fun _ _ => Tryd.call17 _ _) (fun w _ hS => box_c (q1.map (fun b => ⟨b, 0, none⟩)) cap1 (compW r s) (t.getD 0 0#64) w (sluAt hS 7 rfl hq1) (by rw [eA]; exact hl)) ?_
                refine GoH.v (Vop.mv rfl rfl rfl rfl) ?_
                refine GoH.v (Vop.mv rfl rfl rfl rfl) ?_
                refine GoH.v (Vop.mv rfl rfl rfl rfl) ?_
                refine GoH.callP rfl rfl rfl rfl rfl (fun _ _ => Tryd.call17 _ _) (fun w _ hS => box_c b cb s (t.getD 0 0#64) w (hb.ex0 hS.ext) hl2) ?_
                refine GoH.callP rfl rfl rfl rfl rfl (fun _ _ => Tryd.call17 _ _) (fun w _ hS => box_c a ca r _ w (ha.ex0 hS.ext) hl) ?_
                refine GoH.v (Vop.bin rfl rfl rfl rfl (bEqUV (v := true) (by rw [boxR_eq (check_zero.2 hA), boxR_eq (check_zero.2 hs), boxR_eq (check_zero.2 hr), compW_box hr hs hsl, beq_self_eq_true])) rfl) ?_
                refine GoH.v (Vop.pickT rfl rfl rfl rfl rfl) ?_
                refine GoH.v (Vop.mv rfl rfl rfl rfl) ?_
                refine GoH.callP rfl rfl rfl rfl rfl (fun _ _ => Tryd.call12 _ _) (fun w _ hS => awake_c w (hT.ex hS.ext)) ?_
                refine GoH.v (Vop.pickT rfl rfl rfl rfl rfl) ?_
                refine GoH.v (Vop.asg rfl rfl rfl rfl) ?_
                refine GoH.regionEnd ?_
                refine GoH.ret Tryd.f8 Tryd.func8 rfl (fun w' hS => ?_)
                exact ⟨hS.ext, rfl⟩
              · -- no
                refine GoH.skip ?_
                refine GoH.seq ?_
                refine GoH.region ?_
                refine GoH.v (Vop.mv rfl rfl rfl rfl) ?_
                refine GoH.v (Vop.mv rfl rfl rfl rfl) ?_
                refine GoH.callP rfl rfl rfl rfl rfl (fun _ _ => Tryd.call19 _ _) (fun w _ hS => diamond_c (q1.map (fun b => ⟨b, 0, none⟩)) cap1 (compW r s) 0#64 w (sluAt hS 7 rfl hq1) (by rw [eA]; exact hl)) ?_
                refine GoH.v (Vop.mv rfl rfl rfl rfl) ?_
                refine GoH.v (Vop.mv rfl rfl rfl rfl) ?_
                refine GoH.v (Vop.mv rfl rfl rfl rfl) ?_
                refine GoH.callP rfl rfl rfl rfl rfl (fun _ _ => Tryd.call19 _ _) (fun w _ hS => diamond_c b cb s 0#64 w (hb.ex0 hS.ext) hl2) ?_
                refine GoH.callP rfl rfl rfl rfl rfl (fun _ _ => Tryd.call19 _ _) (fun w _ hS => diamond_c a ca r _ w (ha.ex0 hS.ext) hl) ?_
                refine GoH.v (Vop.bin rfl rfl rfl rfl (bEqUV (v := true) (by rw [diaR_eq (check_zero.2 hA), diaR_eq (check_zero.2 hs), diaR_eq (check_zero.2 hr), compW_dia hr hs hsl, beq_self_eq_true])) rfl) ?_
                refine GoH.v (Vop.mv rfl rfl rfl rfl) ?_
                refine GoH.v (Vop.mv rfl rfl rfl rfl) ?_
                refine GoH.v (Vop.mv rfl rfl rfl rfl) ?_
                refine GoH.callP rfl rfl rfl rfl rfl (fun _ _ => Tryd.call17 _ _) (fun w _ hS => box_c (q1.map (fun b => ⟨b, 0, none⟩)) cap1 (compW r s) 0#64 w (sluAt hS 7 rfl hq1) (by rw [eA]; exact hl)) ?_
                refine GoH.v (Vop.mv rfl rfl rfl rfl) ?_
                refine GoH.v (Vop.mv rfl rfl rfl rfl) ?_
                refine GoH.v (Vop.mv rfl rfl rfl rfl) ?_
                refine GoH.callP rfl rfl rfl rfl rfl (fun _ _ => Tryd.call17 _ _) (fun w _ hS => box_c b cb s 0#64 w (hb.ex0 hS.ext) hl2) ?_
                refine GoH.callP rfl rfl rfl rfl rfl (fun _ _ => Tryd.call17 _ _) (fun w _ hS => box_c a ca r _ w (ha.ex0 hS.ext) hl) ?_
                refine GoH.v (Vop.bin rfl rfl rfl rfl (bEqUV (v := true) (by rw [boxR_eq (check_zero.2 hA), boxR_eq (check_zero.2 hs), boxR_eq (check_zero.2 hr), compW_box hr hs hsl, beq_self_eq_true])) rfl) ?_
                refine GoH.v (Vop.pickT rfl rfl rfl rfl rfl) ?_
                refine GoH.v (Vop.mv rfl rfl rfl rfl) ?_
                refine GoH.callP rfl rfl rfl rfl rfl (fun _ _ => Tryd.call12 _ _) (fun w _ hS => awake_c w (hT.ex hS.ext)) ?_
                refine GoH.v (Vop.pickT rfl rfl rfl rfl rfl) ?_
                refine GoH.v (Vop.asg rfl rfl rfl rfl) ?_
                refine GoH.regionEnd ?_
                refine GoH.ret Tryd.f8 Tryd.func8 rfl (fun w' hS => ?_)
                exact ⟨hS.ext, rfl⟩
end Go.Proofs.YtoiafcoaeomnlaaDoor
