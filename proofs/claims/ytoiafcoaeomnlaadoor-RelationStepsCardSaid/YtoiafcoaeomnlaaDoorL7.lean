/- Contracts of functions of the program: what each call returns and that nothing else of memory is turned, under the conditions that each theorem states. -/
import Derived.Test.YtoiafcoaeomnlaaDoorL6
namespace Go.Proofs.YtoiafcoaeomnlaaDoor
open Go.RowKit Go.Proofs.Wit
/-! the laws, 6 -/
theorem inside_v (a : Option Addr) (ca : Nat) (xs : List W64) (b : Option Addr) (cb : Nat) (ys : List W64) (w : World) (ha : SlU w a xs) (hb : SlU w b ys) (hl : xs.length ≤ maxLen) (h : Le xs ys) :
    Cn Tryd.prog 34 [.slice a xs.length ca, .slice b ys.length cb] w (fun v _ => v = .bool true) :=
  (inside_c a ca xs b cb ys w ha hb hl).mono (fun v w' _ e => by rw [e, leB_true.2 h])
theorem has_v (a : Option Addr) (ca : Nat) (r : List W64) (p : Int) (w : World) (hT : Tab w) (ha : SlU w a r) (hl : r.length ≤ maxLen) (h : Val r) (hp : PropR p r) :
    Cn Tryd.prog 15 [.slice a r.length ca, .int .i64 p] w (fun v _ => v = .bool true) :=
  (has_c a ca r p w hT ha hl).mono (fun v w' _ e => by rw [e, hasB_true.2 ⟨check_zero.2 h, hp⟩])
theorem least_c (a : Option Addr) (ca : Nat) (r : List W64) (b : Option Addr) (cb : Nat) (s : List W64) (w : World) (hT : Tab w) (ha : SlU w a r) (hb : SlU w b s) (hl : r.length ≤ maxLen) (hl2 : s.length ≤ maxLen) (hca : r.length ≤ ca) (hcb : s.length ≤ cb) :
    Cn Tryd.prog 10 [.slice a r.length ca, .slice b s.length cb] w (fun v _ => v = .bool true) := by
  refine Cn.of Tryd.func10 rfl rfl ?_
  refine GoH.seq ?_
  refine GoH.region ?_
  refine GoH.v (Vop.asg rfl rfl rfl rfl) ?_
  refine GoH.regionEnd ?_
  refine GoH.seq ?_
  refine GoH.seq ?_
  refine GoH.region ?_
  refine GoH.v (Vop.mv rfl rfl rfl rfl) ?_
  refine GoH.v (Vop.blt rfl rfl rfl (blt_len_slice Tryd.underlying22) rfl) ?_
  refine GoH.v (Vop.bin rfl rfl rfl rfl bGt rfl) ?_
  refine GoH.v (Vop.mv rfl rfl rfl rfl) ?_
  -- guard on slot 15 (law.go:160)
  refine GoH.cases (d := 15) rfl (fun hc => ?_) (fun hc => ?_)
  · -- yes
    refine GoH.no rfl rfl rfl rfl ?_
    refine GoH.no rfl rfl rfl rfl ?_
    refine GoH.no rfl rfl rfl rfl ?_
    refine GoH.v (Vop.pickT rfl rfl rfl rfl rfl) ?_
    refine GoH.v (Vop.mv rfl rfl rfl rfl) ?_
    refine GoH.no rfl rfl rfl rfl ?_
    refine GoH.no rfl rfl rfl rfl ?_
    refine GoH.no rfl rfl rfl rfl ?_
    refine GoH.no rfl rfl rfl rfl ?_
    refine GoH.no rfl rfl rfl rfl ?_
    refine GoH.v (Vop.pickT rfl rfl rfl rfl rfl) ?_
    refine GoH.v (Vop.mv rfl rfl rfl rfl) ?_
    refine GoH.no rfl rfl rfl rfl ?_
    refine GoH.no rfl rfl rfl rfl ?_
    refine GoH.no rfl rfl rfl rfl ?_
    refine GoH.no rfl rfl rfl rfl ?_
    refine GoH.no rfl rfl rfl rfl ?_
    refine GoH.v (Vop.pickT rfl rfl rfl rfl rfl) ?_
    refine GoH.regionEnd ?_
    refine GoH.condT rfl ?_
    refine GoH.seq ?_
    refine GoH.region ?_
    refine GoH.callP rfl rfl rfl rfl rfl (fun _ _ => Tryd.call12 _ _) (fun w _ hS => awake_c w (hT.ex hS.ext)) ?_
    refine GoH.v (Vop.asg rfl rfl rfl rfl) ?_
    refine GoH.regionEnd ?_
    refine GoH.ret Tryd.f10 Tryd.func10 rfl (fun w' hS => ?_)
    exact ⟨hS.ext, rfl⟩
  · -- no
    refine GoH.v (Vop.mv rfl rfl rfl rfl) ?_
    refine GoH.v (Vop.blt rfl rfl rfl (blt_len_slice Tryd.underlying22) rfl) ?_
    refine GoH.v (Vop.bin rfl rfl rfl rfl bGt rfl) ?_
    refine GoH.v (Vop.pickF rfl rfl rfl rfl rfl) ?_
    refine GoH.v (Vop.mv rfl rfl rfl rfl) ?_
    -- guard on slot 20 (law.go:160)
    refine GoH.cases (d := 20) rfl (fun hc => ?_) (fun hc => ?_)
    · -- yes
      refine GoH.no rfl rfl rfl rfl ?_
      refine GoH.no rfl rfl rfl rfl ?_
      refine GoH.no rfl rfl rfl rfl ?_
      refine GoH.no rfl rfl rfl rfl ?_
      refine GoH.no rfl rfl rfl rfl ?_
      refine GoH.v (Vop.pickT rfl rfl rfl rfl rfl) ?_
      refine GoH.v (Vop.mv rfl rfl rfl rfl) ?_
      refine GoH.no rfl rfl rfl rfl ?_
      refine GoH.no rfl rfl rfl rfl ?_
      refine GoH.no rfl rfl rfl rfl ?_
      refine GoH.no rfl rfl rfl rfl ?_
      refine GoH.no rfl rfl rfl rfl ?_
      refine GoH.v (Vop.pickT rfl rfl rfl rfl rfl) ?_
      refine GoH.regionEnd ?_
      refine GoH.condT rfl ?_
      refine GoH.seq ?_
      refine GoH.region ?_
      refine GoH.callP rfl rfl rfl rfl rfl (fun _ _ => Tryd.call12 _ _) (fun w _ hS => awake_c w (hT.ex hS.ext)) ?_
      refine GoH.v (Vop.asg rfl rfl rfl rfl) ?_
      refine GoH.regionEnd ?_
      refine GoH.ret Tryd.f10 Tryd.func10 rfl (fun w' hS => ?_)
      exact ⟨hS.ext, rfl⟩
    · -- no
      refine GoH.v (Vop.mv rfl rfl rfl rfl) ?_
      refine GoH.v (Vop.blt rfl rfl rfl (blt_len_slice Tryd.underlying22) rfl) ?_
      refine GoH.v (Vop.mv rfl rfl rfl rfl) ?_
      refine GoH.callP rfl rfl rfl rfl rfl (fun _ _ => Tryd.call13 _ _) (fun w _ hS => check_c _ a ca r w (ha.ex0 hS.ext) hl) ?_
      refine GoH.v (Vop.bin rfl rfl rfl rfl bNe rfl) ?_
      refine GoH.v (Vop.pickF rfl rfl rfl rfl rfl) ?_
      refine GoH.v (Vop.mv rfl rfl rfl rfl) ?_
      -- guard on slot 27 (law.go:160)
      refine GoH.cases (d := 27) rfl (fun hc => ?_) (fun hc => ?_)
      · -- yes
        refine GoH.no rfl rfl rfl rfl ?_
        refine GoH.no rfl rfl rfl rfl ?_
        refine GoH.no rfl rfl rfl rfl ?_
        refine GoH.no rfl rfl rfl rfl ?_
        refine GoH.no rfl rfl rfl rfl ?_
        refine GoH.v (Vop.pickT rfl rfl rfl rfl rfl) ?_
        refine GoH.regionEnd ?_
        refine GoH.condT rfl ?_
        refine GoH.seq ?_
        refine GoH.region ?_
        refine GoH.callP rfl rfl rfl rfl rfl (fun _ _ => Tryd.call12 _ _) (fun w _ hS => awake_c w (hT.ex hS.ext)) ?_
        refine GoH.v (Vop.asg rfl rfl rfl rfl) ?_
        refine GoH.regionEnd ?_
        refine GoH.ret Tryd.f10 Tryd.func10 rfl (fun w' hS => ?_)
        exact ⟨hS.ext, rfl⟩
      · -- no
        have h1 : checkR r.length r = 0 := by simpa using hc
        have hr := check_zero.1 h1
        refine GoH.v (Vop.mv rfl rfl rfl rfl) ?_
        refine GoH.v (Vop.blt rfl rfl rfl (blt_len_slice Tryd.underlying22) rfl) ?_
        refine GoH.v (Vop.mv rfl rfl rfl rfl) ?_
        refine GoH.callP rfl rfl rfl rfl rfl (fun _ _ => Tryd.call13 _ _) (fun w _ hS => check_c _ b cb s w (hb.ex0 hS.ext) hl2) ?_
        refine GoH.v (Vop.bin rfl rfl rfl rfl bNe rfl) ?_
        refine GoH.v (Vop.pickF rfl rfl rfl rfl rfl) ?_
        refine GoH.regionEnd ?_
        refine GoH.cond rfl (fun hc => ?_) (fun hc => ?_)
        · -- yes
          refine GoH.seq ?_
          refine GoH.region ?_
          refine GoH.callP rfl rfl rfl rfl rfl (fun _ _ => Tryd.call12 _ _) (fun w _ hS => awake_c w (hT.ex hS.ext)) ?_
          refine GoH.v (Vop.asg rfl rfl rfl rfl) ?_
          refine GoH.regionEnd ?_
          refine GoH.ret Tryd.f10 Tryd.func10 rfl (fun w' hS => ?_)
          exact ⟨hS.ext, rfl⟩
        · -- no
          have h2 : checkR s.length s = 0 := by simpa using hc
          have hs := check_zero.1 h2
          refine GoH.skip ?_
          refine GoH.seq ?_
          refine GoH.seq ?_
          refine GoH.region ?_
          refine GoH.v (Vop.asg rfl rfl rfl rfl) ?_
          refine GoH.regionEnd ?_
          refine GoH.block ?_
          refine GoH.loop (σ := Nat) (fun k => [(0, .slice a r.length ca), (1, .slice b s.length cb), (5, .int .i64 k)]) (fun _ => []) (fun k => k ≤ 4) (fun k => 4 - k) 0 (Nat.zero_le _) ⟨rfl, rfl, rfl, trivial⟩ .slnil (fun k hk IH => ?_)
          refine GoH.seq ?_
          refine GoH.seq ?_
          refine GoH.region ?_
          refine GoH.v (Vop.mv rfl rfl rfl rfl) ?_
          refine GoH.v (Vop.bin rfl rfl rfl rfl bLt rfl) ?_
          refine GoH.regionEnd ?_
          refine GoH.cond rfl (fun hc => ?_) (fun hc => ?_)
          · -- yes
            have hk40 : (k : Int) < 4 := by simpa using hc
            have hk4 : k < 4 := by omega
            refine GoH.skip ?_
            refine GoH.seq ?_
            refine GoH.block ?_
            refine GoH.seq ?_
            refine GoH.region ?_
            refine GoH.v (Vop.mv rfl rfl rfl rfl) ?_
            refine GoH.v (Vop.mv rfl rfl rfl rfl) ?_
            refine GoH.callM _ rfl rfl rfl rfl rfl (fun _ _ => Tryd.call29 _ _) (fun w _ hS => closure_c a ca r k hk4 w (hT.ex hS.ext) (ha.ex0 hS.ext) hl hca) ?_
            rintro v w1 w2 Y' hS he ⟨⟨A, e⟩, ⟨sv, rfl, ho⟩, hg⟩
            rw [Grown, if_neg (by simp [h1])] at hg
            obtain ⟨rfl, hA⟩ := hg
            obtain ⟨q1, cap1, sp1, rfl, hq1, hcap1, hS'⟩ := gainO hS he ho
            have eA : r.length = A.length := hA.le.len
            have hlA : A.length ≤ maxLen := by rw [← eA]; exact hl
            refine ⟨_, hS', ?_⟩
            -- heap: q1
            refine GoH.v (Vop.mv rfl rfl rfl rfl) ?_
            refine GoH.v (Vop.ext rfl rfl rfl rfl rfl) ?_
            refine GoH.v (Vop.ext rfl rfl rfl rfl rfl) ?_
            refine GoH.v (Vop.ext rfl rfl rfl rfl rfl) ?_
            refine GoH.v (Vop.asg rfl rfl rfl rfl) ?_
            refine GoH.v (Vop.asg rfl rfl rfl rfl) ?_
            refine GoH.v (Vop.asg rfl rfl rfl rfl) ?_
            refine GoH.regionEnd ?_
            refine GoH.seq ?_
            refine GoH.seq ?_
            refine GoH.region ?_
            refine GoH.v (Vop.mv rfl rfl rfl rfl) ?_
            refine GoH.v (Vop.bin rfl rfl rfl rfl (bNeV (v := false) rfl) rfl) ?_
            refine GoH.v (Vop.mv rfl rfl rfl rfl) ?_
            refine GoH.v (Vop.mv rfl rfl rfl rfl) ?_
            refine GoH.v (Vop.mv rfl rfl rfl rfl) ?_
            refine GoH.callP rfl rfl rfl rfl rfl (fun _ _ => Tryd.call34 _ _) (fun w _ hS => inside_v a ca r (q1.map (fun b => ⟨b, 0, none⟩)) cap1 A w (ha.ex0 hS.ext) (sluAt hS 0 rfl hq1) hl hA.le) ?_
            refine GoH.v (Vop.un rfl rfl rfl uNot rfl) ?_
            refine GoH.v (Vop.pickF rfl rfl rfl rfl rfl) ?_
            refine GoH.v (Vop.mv rfl rfl rfl rfl) ?_
            refine GoH.v (Vop.mv rfl rfl rfl rfl) ?_
            refine GoH.v (Vop.mv rfl rfl rfl rfl) ?_
            refine GoH.callP rfl rfl rfl rfl rfl (fun _ _ => Tryd.call15 _ _) (fun w _ hS => has_v (q1.map (fun b => ⟨b, 0, none⟩)) cap1 A _ w (hT.ex hS.ext) (sluAt hS 0 rfl hq1) hlA hA.val hA.has) ?_
            refine GoH.v (Vop.un rfl rfl rfl uNot rfl) ?_
            refine GoH.v (Vop.pickF rfl rfl rfl rfl rfl) ?_
            refine GoH.regionEnd ?_
            refine GoH.condF rfl ?_
            refine GoH.skip ?_
            refine GoH.seq ?_
            refine GoH.region ?_
            refine GoH.v (Vop.mv rfl rfl rfl rfl) ?_
            refine GoH.v (Vop.mv rfl rfl rfl rfl) ?_
            refine GoH.callM _ rfl rfl rfl rfl rfl (fun _ _ => Tryd.call29 _ _) (fun w _ hS => closure_c b cb s k hk4 w (hT.ex hS.ext) (hb.ex0 hS.ext) hl2 hcb) ?_
            rintro v w1 w2 Y' hS he ⟨⟨B, e⟩, ⟨sv, rfl, ho⟩, hg⟩
            rw [Grown, if_neg (by simp [h2])] at hg
            obtain ⟨rfl, hB⟩ := hg
            obtain ⟨q2, cap2, sp2, rfl, hq2, hcap2, hS'⟩ := gainO hS he ho
            refine ⟨_, hS', ?_⟩
            -- heap: q2 q1
            refine GoH.v (Vop.mv rfl rfl rfl rfl) ?_
            refine GoH.v (Vop.ext rfl rfl rfl rfl rfl) ?_
            refine GoH.v (Vop.ext rfl rfl rfl rfl rfl) ?_
            refine GoH.v (Vop.ext rfl rfl rfl rfl rfl) ?_
            refine GoH.v (Vop.asg rfl rfl rfl rfl) ?_
            refine GoH.v (Vop.asg rfl rfl rfl rfl) ?_
            refine GoH.v (Vop.asg rfl rfl rfl rfl) ?_
            refine GoH.regionEnd ?_
            refine GoH.seq ?_
            refine GoH.seq ?_
            refine GoH.region ?_
            refine GoH.v (Vop.mv rfl rfl rfl rfl) ?_
            refine GoH.v (Vop.bin rfl rfl rfl rfl (bNeV (v := false) rfl) rfl) ?_
            refine GoH.v (Vop.mv rfl rfl rfl rfl) ?_
            refine GoH.v (Vop.mv rfl rfl rfl rfl) ?_
            refine GoH.v (Vop.mv rfl rfl rfl rfl) ?_
            refine GoH.callP rfl rfl rfl rfl rfl (fun _ _ => Tryd.call34 _ _) (fun w _ hS => inside_c a ca r (q2.map (fun b => ⟨b, 0, none⟩)) cap2 B w (ha.ex0 hS.ext) (sluAt hS 0 rfl hq2) hl) ?_
            refine GoH.v (Vop.mv rfl rfl rfl rfl) ?_
            -- guard on slot 73 (law.go:169)
            refine GoH.cases (d := 73) rfl (fun hc => ?_) (fun hc => ?_)
            · -- yes
              have hrB := leB_true.1 hc
              refine GoH.v (Vop.mv rfl rfl rfl rfl) ?_
              refine GoH.v (Vop.mv rfl rfl rfl rfl) ?_
              refine GoH.callP rfl rfl rfl rfl rfl (fun _ _ => Tryd.call34 _ _) (fun w _ hS => inside_v (q1.map (fun b => ⟨b, 0, none⟩)) cap1 A (q2.map (fun b => ⟨b, 0, none⟩)) cap2 B w (sluAt hS 1 rfl hq1) (sluAt hS 0 rfl hq2) hlA (hA.least B hB.val hrB hB.has)) ?_
              refine GoH.v (Vop.un rfl rfl rfl uNot rfl) ?_
              refine GoH.v (Vop.pickT rfl rfl rfl rfl rfl) ?_
              refine GoH.v (Vop.pickF rfl rfl rfl rfl rfl) ?_
              refine GoH.regionEnd ?_
              refine GoH.condF rfl ?_
              refine GoH.skip ?_
              refine GoH.seq ?_
              refine GoH.region ?_
              refine GoH.v (Vop.mv rfl rfl rfl rfl) ?_
              refine GoH.v (Vop.mv rfl rfl rfl rfl) ?_
              refine GoH.callP rfl rfl rfl rfl rfl (fun _ _ => Tryd.call34 _ _) (fun w _ hS => inside_c a ca r b cb s w (ha.ex0 hS.ext) (hb.ex0 hS.ext) hl) ?_
              refine GoH.v (Vop.mv rfl rfl rfl rfl) ?_
              -- guard on slot 83 (law.go:172)
              refine GoH.cases (d := 83) rfl (fun hc => ?_) (fun hc => ?_)
              · -- yes
                have hrs := leB_true.1 hc
                refine GoH.v (Vop.mv rfl rfl rfl rfl) ?_
                refine GoH.v (Vop.mv rfl rfl rfl rfl) ?_
                refine GoH.callP rfl rfl rfl rfl rfl (fun _ _ => Tryd.call15 _ _) (fun w _ hS => has_c b cb s _ w (hT.ex hS.ext) (hb.ex0 hS.ext) hl2) ?_
                refine GoH.v (Vop.pickT rfl rfl rfl rfl rfl) ?_
                refine GoH.v (Vop.mv rfl rfl rfl rfl) ?_
                -- guard on slot 88 (law.go:172)
                refine GoH.cases (d := 88) rfl (fun hc => ?_) (fun hc => ?_)
                · -- yes
                  have hps := (hasB_true.1 hc).2
                  refine GoH.v (Vop.mv rfl rfl rfl rfl) ?_
                  refine GoH.v (Vop.mv rfl rfl rfl rfl) ?_
                  refine GoH.callP rfl rfl rfl rfl rfl (fun _ _ => Tryd.call34 _ _) (fun w _ hS => inside_v (q1.map (fun b => ⟨b, 0, none⟩)) cap1 A b cb s w (sluAt hS 1 rfl hq1) (hb.ex0 hS.ext) hlA (hA.least s hs hrs hps)) ?_
                  refine GoH.v (Vop.un rfl rfl rfl uNot rfl) ?_
                  refine GoH.v (Vop.pickT rfl rfl rfl rfl rfl) ?_
                  refine GoH.regionEnd ?_
                  refine GoH.condF rfl ?_
                  refine GoH.skip ?_
                  refine GoH.inBlock ?_
                  refine GoH.region ?_
                  refine GoH.v (Vop.mv rfl rfl rfl rfl) ?_
                  refine GoH.v (Vop.bin rfl rfl rfl rfl (bAdd (by omega)) rfl) ?_
                  refine GoH.v (Vop.asg rfl rfl rfl rfl) ?_
                  refine GoH.regionEnd ?_
                  exact IH (k + 1) _ _ hk4 (by omega) ⟨rfl, rfl, rfl, trivial⟩ (List.nil_sublist _)
                · -- no
                  refine GoH.no rfl rfl rfl rfl ?_
                  refine GoH.no rfl rfl rfl rfl ?_
                  refine GoH.no rfl rfl rfl rfl ?_
                  refine GoH.no rfl rfl rfl rfl ?_
                  refine GoH.v (Vop.pickF rfl rfl rfl rfl rfl) ?_
                  refine GoH.regionEnd ?_
                  refine GoH.condF rfl ?_
                  refine GoH.skip ?_
                  refine GoH.inBlock ?_
                  refine GoH.region ?_
                  refine GoH.v (Vop.mv rfl rfl rfl rfl) ?_
                  refine GoH.v (Vop.bin rfl rfl rfl rfl (bAdd (by omega)) rfl) ?_
                  refine GoH.v (Vop.asg rfl rfl rfl rfl) ?_
                  refine GoH.regionEnd ?_
                  exact IH (k + 1) _ _ hk4 (by omega) ⟨rfl, rfl, rfl, trivial⟩ (List.nil_sublist _)
              · -- no
                refine GoH.no rfl rfl rfl rfl ?_
                refine GoH.no rfl rfl rfl rfl ?_
                refine GoH.no rfl rfl rfl rfl ?_
                refine GoH.v (Vop.pickF rfl rfl rfl rfl rfl) ?_
                refine GoH.v (Vop.mv rfl rfl rfl rfl) ?_
                refine GoH.no rfl rfl rfl rfl ?_
                refine GoH.no rfl rfl rfl rfl ?_
                refine GoH.no rfl rfl rfl rfl ?_
                refine GoH.no rfl rfl rfl rfl ?_
                refine GoH.v (Vop.pickF rfl rfl rfl rfl rfl) ?_
                refine GoH.regionEnd ?_
                refine GoH.condF rfl ?_
                refine GoH.skip ?_
                refine GoH.inBlock ?_
                refine GoH.region ?_
                refine GoH.v (Vop.mv rfl rfl rfl rfl) ?_
                refine GoH.v (Vop.bin rfl rfl rfl rfl (bAdd (by omega)) rfl) ?_
                refine GoH.v (Vop.asg rfl rfl rfl rfl) ?_
                refine GoH.regionEnd ?_
                exact IH (k + 1) _ _ hk4 (by omega) ⟨rfl, rfl, rfl, trivial⟩ (List.nil_sublist _)
            · -- no
              refine GoH.no rfl rfl rfl rfl ?_
              refine GoH.no rfl rfl rfl rfl ?_
              refine GoH.no rfl rfl rfl rfl ?_
              refine GoH.no rfl rfl rfl rfl ?_
              refine GoH.v (Vop.pickF rfl rfl rfl rfl rfl) ?_
              refine GoH.v (Vop.pickF rfl rfl rfl rfl rfl) ?_
              refine GoH.regionEnd ?_
              refine GoH.condF rfl ?_
              refine GoH.skip ?_
              refine GoH.seq ?_
              refine GoH.region ?_
              refine GoH.v (Vop.mv rfl rfl rfl rfl) ?_
              refine GoH.v (Vop.mv rfl rfl rfl rfl) ?_
              refine GoH.callP rfl rfl rfl rfl rfl (fun _ _ => Tryd.call34 _ _) (fun w _ hS => inside_c a ca r b cb s w (ha.ex0 hS.ext) (hb.ex0 hS.ext) hl) ?_
              refine GoH.v (Vop.mv rfl rfl rfl rfl) ?_
              -- guard on slot 83 (law.go:172)
              refine GoH.cases (d := 83) rfl (fun hc => ?_) (fun hc => ?_)
              · -- yes
                have hrs := leB_true.1 hc
                refine GoH.v (Vop.mv rfl rfl rfl rfl) ?_
                refine GoH.v (Vop.mv rfl rfl rfl rfl) ?_
                refine GoH.callP rfl rfl rfl rfl rfl (fun _ _ => Tryd.call15 _ _) (fun w _ hS => has_c b cb s _ w (hT.ex hS.ext) (hb.ex0 hS.ext) hl2) ?_
                refine GoH.v (Vop.pickT rfl rfl rfl rfl rfl) ?_
                refine GoH.v (Vop.mv rfl rfl rfl rfl) ?_
                -- guard on slot 88 (law.go:172)
                refine GoH.cases (d := 88) rfl (fun hc => ?_) (fun hc => ?_)
                · -- yes
                  have hps := (hasB_true.1 hc).2
                  refine GoH.v (Vop.mv rfl rfl rfl rfl) ?_
                  refine GoH.v (Vop.mv rfl rfl rfl rfl) ?_
                  refine GoH.callP rfl rfl rfl rfl rfl (fun _ _ => Tryd.call34 _ _) (fun w _ hS => inside_v (q1.map (fun b => ⟨b, 0, none⟩)) cap1 A b cb s w (sluAt hS 1 rfl hq1) (hb.ex0 hS.ext) hlA (hA.least s hs hrs hps)) ?_
                  refine GoH.v (Vop.un rfl rfl rfl uNot rfl) ?_
                  refine GoH.v (Vop.pickT rfl rfl rfl rfl rfl) ?_
                  refine GoH.regionEnd ?_
                  refine GoH.condF rfl ?_
                  refine GoH.skip ?_
                  refine GoH.inBlock ?_
                  refine GoH.region ?_
                  refine GoH.v (Vop.mv rfl rfl rfl rfl) ?_
                  refine GoH.v (Vop.bin rfl rfl rfl rfl (bAdd (by omega)) rfl) ?_
                  refine GoH.v (Vop.asg rfl rfl rfl rfl) ?_
                  refine GoH.regionEnd ?_
                  exact IH (k + 1) _ _ hk4 (by omega) ⟨rfl, rfl, rfl, trivial⟩ (List.nil_sublist _)
                · -- no
                  refine GoH.no rfl rfl rfl rfl ?_
                  refine GoH.no rfl rfl rfl rfl ?_
                  refine GoH.no rfl rfl rfl rfl ?_
                  refine GoH.no rfl rfl rfl rfl ?_
                  refine GoH.v (Vop.pickF rfl rfl rfl rfl rfl) ?_
                  refine GoH.regionEnd ?_
                  refine GoH.condF rfl ?_
                  refine GoH.skip ?_
                  refine GoH.inBlock ?_
                  refine GoH.region ?_
                  refine GoH.v (Vop.mv rfl rfl rfl rfl) ?_
                  refine GoH.v (Vop.bin rfl rfl rfl rfl (bAdd (by omega)) rfl) ?_
                  refine GoH.v (Vop.asg rfl rfl rfl rfl) ?_
                  refine GoH.regionEnd ?_
                  exact IH (k + 1) _ _ hk4 (by omega) ⟨rfl, rfl, rfl, trivial⟩ (List.nil_sublist _)
              · -- no
                refine GoH.no rfl rfl rfl rfl ?_
                refine GoH.no rfl rfl rfl rfl ?_
                refine GoH.no rfl rfl rfl rfl ?_
                refine GoH.v (Vop.pickF rfl rfl rfl rfl rfl) ?_
                refine GoH.v (Vop.mv rfl rfl rfl rfl) ?_
                refine GoH.no rfl rfl rfl rfl ?_
                refine GoH.no rfl rfl rfl rfl ?_
                refine GoH.no rfl rfl rfl rfl ?_
                refine GoH.no rfl rfl rfl rfl ?_
                refine GoH.v (Vop.pickF rfl rfl rfl rfl rfl) ?_
                refine GoH.regionEnd ?_
                refine GoH.condF rfl ?_
                refine GoH.skip ?_
                refine GoH.inBlock ?_
                refine GoH.region ?_
                refine GoH.v (Vop.mv rfl rfl rfl rfl) ?_
                refine GoH.v (Vop.bin rfl rfl rfl rfl (bAdd (by omega)) rfl) ?_
                refine GoH.v (Vop.asg rfl rfl rfl rfl) ?_
                refine GoH.regionEnd ?_
                exact IH (k + 1) _ _ hk4 (by omega) ⟨rfl, rfl, rfl, trivial⟩ (List.nil_sublist _)
          · -- no
            refine GoH.exit rfl ?_
            refine GoH.seq ?_
            refine GoH.region ?_
            refine GoH.callP rfl rfl rfl rfl rfl (fun _ _ => Tryd.call12 _ _) (fun w _ hS => awake_c w (hT.ex hS.ext)) ?_
            refine GoH.v (Vop.asg rfl rfl rfl rfl) ?_
            refine GoH.regionEnd ?_
            refine GoH.ret Tryd.f10 Tryd.func10 rfl (fun w' hS => ?_)
            exact ⟨hS.ext, rfl⟩
end Go.Proofs.YtoiafcoaeomnlaaDoor
