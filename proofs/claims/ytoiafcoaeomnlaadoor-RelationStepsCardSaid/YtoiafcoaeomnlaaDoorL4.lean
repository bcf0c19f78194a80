/- Contracts of functions of the program: what each call returns and that nothing else of memory is turned, under the conditions that each theorem states. -/
import Derived.Test.YtoiafcoaeomnlaaDoorL3
namespace Go.Proofs.YtoiafcoaeomnlaaDoor
open Go.RowKit Go.Proofs.Wit
/-! the laws, 3 -/
theorem Grown.uniq {F : List W64 → Prop} {r : List W64} {p q : List W64 × Int} (h : Grown F r p) (g : Grown F r q) : p = q := by
  unfold Grown at h g
  split at h
  · rename_i hc; rw [if_pos hc] at g; rw [h, g]
  · rename_i hc; rw [if_neg hc] at g
    obtain ⟨p1, p2⟩ := p
    obtain ⟨q1, q2⟩ := q
    obtain ⟨h1, h2⟩ := h
    obtain ⟨g1, g2⟩ := g
    simp only at h1 h2 g1 g2
    rw [h2.uniq g2, h1, g1]
theorem Grown.len {F : List W64 → Prop} {r : List W64} {p : List W64 × Int} (h : Grown F r p) (hl : r.length ≤ maxLen) : p.1.length ≤ maxLen := by
  unfold Grown at h
  split at h
  · rw [h]; exact Nat.zero_le _
  · have e : r.length = p.1.length := h.2.le.len
    rw [← e]; exact hl
theorem prop0 : PropR (((0 : Nat) : Int) + 2) = reflR := funext (fun l => by simp [PropR])
theorem prop1 : PropR (((1 : Nat) : Int) + 2) = symmR := funext (fun l => by simp [PropR])
theorem prop2 : PropR (((2 : Nat) : Int) + 2) = tranR := funext (fun l => by simp [PropR])
theorem prop3 : PropR (((3 : Nat) : Int) + 2) = euclR := funext (fun l => by simp [PropR])
theorem closes_c (a : Option Addr) (ca : Nat) (r : List W64) (w : World) (hT : Tab w) (ha : SlU w a r) (hl : r.length ≤ maxLen) (hca : r.length ≤ ca) :
    Cn Tryd.prog 9 [.slice a r.length ca] w (fun v _ => v = .bool true) := by
  refine Cn.of Tryd.func9 rfl rfl ?_
  refine GoH.seq ?_
  refine GoH.region ?_
  refine GoH.v (Vop.asg rfl rfl rfl rfl) ?_
  refine GoH.regionEnd ?_
  refine GoH.seq ?_
  refine GoH.seq ?_
  refine GoH.region ?_
  refine GoH.v (Vop.mv rfl rfl rfl rfl) ?_
  refine GoH.v (Vop.blt rfl rfl rfl (blt_len_slice Tryd.underlying22) rfl) ?_
  refine GoH.v (Vop.bin rfl rfl rfl rfl bGt rfl) ?_
  refine GoH.regionEnd ?_
  refine GoH.cond rfl (fun hc => ?_) (fun hc => ?_)
  · -- yes
    refine GoH.seq ?_
    refine GoH.region ?_
    refine GoH.callP rfl rfl rfl rfl rfl (fun _ _ => Tryd.call12 _ _) (fun w _ hS => awake_c w (hT.ex hS.ext)) ?_
    refine GoH.v (Vop.asg rfl rfl rfl rfl) ?_
    refine GoH.regionEnd ?_
    refine GoH.ret Tryd.f9 Tryd.func9 rfl (fun w' hS => ?_)
    exact ⟨hS.ext, rfl⟩
  · -- no
    refine GoH.skip ?_
    refine GoH.seq ?_
    refine GoH.region ?_
    refine GoH.v (Vop.mv rfl rfl rfl rfl) ?_
    refine GoH.callM _ rfl rfl rfl rfl rfl (fun _ _ => Tryd.call29 _ _) (fun w _ hS => closure_c a ca r 0 (by decide) w (hT.ex hS.ext) (ha.ex0 hS.ext) hl hca) ?_
    rintro v w1 w2 Y' hS he ⟨p0, ⟨sv, rfl, ho⟩, hg0⟩
    obtain ⟨q1, cap1, sp1, rfl, hq1, hcap1, hS'⟩ := gainO hS he ho
    refine ⟨_, hS', ?_⟩
    -- heap: q1
    refine GoH.v (Vop.mv rfl rfl rfl rfl) ?_
    refine GoH.v (Vop.ext rfl rfl rfl rfl rfl) ?_
    refine GoH.v (Vop.ext rfl rfl rfl rfl rfl) ?_
    refine GoH.v (Vop.ext rfl rfl rfl rfl rfl) ?_
    refine GoH.v (Vop.asg rfl rfl rfl rfl) ?_
    refine GoH.v (Vop.asg rfl rfl rfl rfl) ?_
    refine GoH.v (Vop.asg rfl rfl rfl rfl) ?_
    refine GoH.regionEnd ?_
    refine GoH.seq ?_
    refine GoH.region ?_
    refine GoH.v (Vop.mv rfl rfl rfl rfl) ?_
    refine GoH.callM _ rfl rfl rfl rfl rfl (fun _ _ => Tryd.call30 _ _) (fun w _ hS => rReflexive_c a ca r w (ha.ex0 hS.ext) hl) ?_
    rintro v w1 w2 Y' hS he ⟨p0', ⟨sv, rfl, ho⟩, hg0'⟩
    obtain rfl : p0 = p0' := Grown.uniq (F := reflR) (by rw [← prop0]; exact hg0) hg0'
    obtain ⟨q2, cap2, sp2, rfl, hq2, hcap2, hS'⟩ := gainO hS he ho
    refine ⟨_, hS', ?_⟩
    -- heap: q2 q1
    refine GoH.v (Vop.mv rfl rfl rfl rfl) ?_
    refine GoH.v (Vop.ext rfl rfl rfl rfl rfl) ?_
    refine GoH.v (Vop.ext rfl rfl rfl rfl rfl) ?_
    refine GoH.v (Vop.asg rfl rfl rfl rfl) ?_
    refine GoH.v (Vop.asg rfl rfl rfl rfl) ?_
    refine GoH.regionEnd ?_
    refine GoH.seq ?_
    refine GoH.seq ?_
    refine GoH.region ?_
    refine GoH.v (Vop.mv rfl rfl rfl rfl) ?_
    refine GoH.v (Vop.mv rfl rfl rfl rfl) ?_
    refine GoH.v (Vop.bin rfl rfl rfl rfl (bNeV (v := false) (bne_self_eq_false _)) rfl) ?_
    refine GoH.v (Vop.mv rfl rfl rfl rfl) ?_
    refine GoH.v (Vop.mv rfl rfl rfl rfl) ?_
    refine GoH.v (Vop.mv rfl rfl rfl rfl) ?_
    refine GoH.callP rfl rfl rfl rfl rfl (fun _ _ => Tryd.call28 _ _) (fun w _ hS => rSame_t (q1.map (fun b => ⟨b, 0, none⟩)) cap1 p0.1 (q2.map (fun b => ⟨b, 0, none⟩)) cap2 w (sluAt hS 1 rfl hq1) (sluAt hS 0 rfl hq2) (hg0.len hl)) ?_
    refine GoH.v (Vop.un rfl rfl rfl uNot rfl) ?_
    refine GoH.v (Vop.pickF rfl rfl rfl rfl rfl) ?_
    refine GoH.regionEnd ?_
    refine GoH.condF rfl ?_
    refine GoH.skip ?_
    refine GoH.seq ?_
    refine GoH.region ?_
    refine GoH.v (Vop.mv rfl rfl rfl rfl) ?_
    refine GoH.callM _ rfl rfl rfl rfl rfl (fun _ _ => Tryd.call29 _ _) (fun w _ hS => closure_c a ca r 1 (by decide) w (hT.ex hS.ext) (ha.ex0 hS.ext) hl hca) ?_
    rintro v w1 w2 Y' hS he ⟨p1, ⟨sv, rfl, ho⟩, hg1⟩
    obtain ⟨q3, cap3, sp3, rfl, hq3, hcap3, hS'⟩ := gainO hS he ho
    refine ⟨_, hS', ?_⟩
    -- heap: q3 q2 q1
    refine GoH.v (Vop.mv rfl rfl rfl rfl) ?_
    refine GoH.v (Vop.ext rfl rfl rfl rfl rfl) ?_
    refine GoH.v (Vop.ext rfl rfl rfl rfl rfl) ?_
    refine GoH.v (Vop.ext rfl rfl rfl rfl rfl) ?_
    refine GoH.v (Vop.asg rfl rfl rfl rfl) ?_
    refine GoH.v (Vop.asg rfl rfl rfl rfl) ?_
    refine GoH.regionEnd ?_
    refine GoH.seq ?_
    refine GoH.region ?_
    refine GoH.v (Vop.mv rfl rfl rfl rfl) ?_
    refine GoH.callM _ rfl rfl rfl rfl rfl (fun _ _ => Tryd.call31 _ _) (fun w _ hS => rSymmetric_c a ca r w (ha.ex0 hS.ext) hl) ?_
    rintro v w1 w2 Y' hS he ⟨p1', ⟨sv, rfl, ho⟩, hg1'⟩
    obtain rfl : p1 = p1' := Grown.uniq (F := symmR) (by rw [← prop1]; exact hg1) hg1'
    obtain ⟨q4, cap4, sp4, rfl, hq4, hcap4, hS'⟩ := gainO hS he ho
    refine ⟨_, hS', ?_⟩
    -- heap: q4 q3 q2 q1
    refine GoH.v (Vop.mv rfl rfl rfl rfl) ?_
    refine GoH.v (Vop.ext rfl rfl rfl rfl rfl) ?_
    refine GoH.v (Vop.ext rfl rfl rfl rfl rfl) ?_
    refine GoH.v (Vop.asg rfl rfl rfl rfl) ?_
    refine GoH.v (Vop.asg rfl rfl rfl rfl) ?_
    refine GoH.regionEnd ?_
    refine GoH.seq ?_
    refine GoH.seq ?_
    refine GoH.region ?_
    refine GoH.v (Vop.mv rfl rfl rfl rfl) ?_
    refine GoH.v (Vop.mv rfl rfl rfl rfl) ?_
    refine GoH.v (Vop.bin rfl rfl rfl rfl (bNeV (v := false) (bne_self_eq_false _)) rfl) ?_
    refine GoH.v (Vop.mv rfl rfl rfl rfl) ?_
    refine GoH.v (Vop.mv rfl rfl rfl rfl) ?_
    refine GoH.v (Vop.mv rfl rfl rfl rfl) ?_
    refine GoH.callP rfl rfl rfl rfl rfl (fun _ _ => Tryd.call28 _ _) (fun w _ hS => rSame_t (q3.map (fun b => ⟨b, 0, none⟩)) cap3 p1.1 (q4.map (fun b => ⟨b, 0, none⟩)) cap4 w (sluAt hS 1 rfl hq3) (sluAt hS 0 rfl hq4) (hg1.len hl)) ?_
    refine GoH.v (Vop.un rfl rfl rfl uNot rfl) ?_
    refine GoH.v (Vop.pickF rfl rfl rfl rfl rfl) ?_
    refine GoH.regionEnd ?_
    refine GoH.condF rfl ?_
    refine GoH.skip ?_
    refine GoH.seq ?_
    refine GoH.region ?_
    refine GoH.v (Vop.mv rfl rfl rfl rfl) ?_
    refine GoH.callM _ rfl rfl rfl rfl rfl (fun _ _ => Tryd.call29 _ _) (fun w _ hS => closure_c a ca r 2 (by decide) w (hT.ex hS.ext) (ha.ex0 hS.ext) hl hca) ?_
    rintro v w1 w2 Y' hS he ⟨p2, ⟨sv, rfl, ho⟩, hg2⟩
    obtain ⟨q5, cap5, sp5, rfl, hq5, hcap5, hS'⟩ := gainO hS he ho
    refine ⟨_, hS', ?_⟩
    -- heap: q5 q4 q3 q2 q1
    refine GoH.v (Vop.mv rfl rfl rfl rfl) ?_
    refine GoH.v (Vop.ext rfl rfl rfl rfl rfl) ?_
    refine GoH.v (Vop.ext rfl rfl rfl rfl rfl) ?_
    refine GoH.v (Vop.ext rfl rfl rfl rfl rfl) ?_
    refine GoH.v (Vop.asg rfl rfl rfl rfl) ?_
    refine GoH.v (Vop.asg rfl rfl rfl rfl) ?_
    refine GoH.regionEnd ?_
    refine GoH.seq ?_
    refine GoH.region ?_
    refine GoH.v (Vop.mv rfl rfl rfl rfl) ?_
    refine GoH.callM _ rfl rfl rfl rfl rfl (fun _ _ => Tryd.call32 _ _) (fun w _ hS => rTransitive_c a ca r w (ha.ex0 hS.ext) hl) ?_
    rintro v w1 w2 Y' hS he ⟨p2', ⟨sv, rfl, ho⟩, hg2'⟩
    obtain rfl : p2 = p2' := Grown.uniq (F := tranR) (by rw [← prop2]; exact hg2) hg2'
    obtain ⟨q6, cap6, sp6, rfl, hq6, hcap6, hS'⟩ := gainO hS he ho
    refine ⟨_, hS', ?_⟩
    -- heap: q6 q5 q4 q3 q2 q1
    refine GoH.v (Vop.mv rfl rfl rfl rfl) ?_
    refine GoH.v (Vop.ext rfl rfl rfl rfl rfl) ?_
    refine GoH.v (Vop.ext rfl rfl rfl rfl rfl) ?_
    refine GoH.v (Vop.asg rfl rfl rfl rfl) ?_
    refine GoH.v (Vop.asg rfl rfl rfl rfl) ?_
    refine GoH.regionEnd ?_
    refine GoH.seq ?_
    refine GoH.seq ?_
    refine GoH.region ?_
    refine GoH.v (Vop.mv rfl rfl rfl rfl) ?_
    refine GoH.v (Vop.mv rfl rfl rfl rfl) ?_
    refine GoH.v (Vop.bin rfl rfl rfl rfl (bNeV (v := false) (bne_self_eq_false _)) rfl) ?_
    refine GoH.v (Vop.mv rfl rfl rfl rfl) ?_
    refine GoH.v (Vop.mv rfl rfl rfl rfl) ?_
    refine GoH.v (Vop.mv rfl rfl rfl rfl) ?_
    refine GoH.callP rfl rfl rfl rfl rfl (fun _ _ => Tryd.call28 _ _) (fun w _ hS => rSame_t (q5.map (fun b => ⟨b, 0, none⟩)) cap5 p2.1 (q6.map (fun b => ⟨b, 0, none⟩)) cap6 w (sluAt hS 1 rfl hq5) (sluAt hS 0 rfl hq6) (hg2.len hl)) ?_
    refine GoH.v (Vop.un rfl rfl rfl uNot rfl) ?_
    refine GoH.v (Vop.pickF rfl rfl rfl rfl rfl) ?_
    refine GoH.regionEnd ?_
    refine GoH.condF rfl ?_
    refine GoH.skip ?_
    refine GoH.seq ?_
    refine GoH.region ?_
    refine GoH.v (Vop.mv rfl rfl rfl rfl) ?_
    refine GoH.callM _ rfl rfl rfl rfl rfl (fun _ _ => Tryd.call29 _ _) (fun w _ hS => closure_c a ca r 3 (by decide) w (hT.ex hS.ext) (ha.ex0 hS.ext) hl hca) ?_
    rintro v w1 w2 Y' hS he ⟨p3, ⟨sv, rfl, ho⟩, hg3⟩
    obtain ⟨q7, cap7, sp7, rfl, hq7, hcap7, hS'⟩ := gainO hS he ho
    refine ⟨_, hS', ?_⟩
    -- heap: q7 q6 q5 q4 q3 q2 q1
    refine GoH.v (Vop.mv rfl rfl rfl rfl) ?_
    refine GoH.v (Vop.ext rfl rfl rfl rfl rfl) ?_
    refine GoH.v (Vop.ext rfl rfl rfl rfl rfl) ?_
    refine GoH.v (Vop.ext rfl rfl rfl rfl rfl) ?_
    refine GoH.v (Vop.asg rfl rfl rfl rfl) ?_
    refine GoH.v (Vop.asg rfl rfl rfl rfl) ?_
    refine GoH.regionEnd ?_
    refine GoH.seq ?_
    refine GoH.region ?_
    refine GoH.v (Vop.mv rfl rfl rfl rfl) ?_
    refine GoH.callM _ rfl rfl rfl rfl rfl (fun _ _ => Tryd.call33 _ _) (fun w _ hS => rEuclidean_c a ca r w (ha.ex0 hS.ext) hl) ?_
    rintro v w1 w2 Y' hS he ⟨p3', ⟨sv, rfl, ho⟩, hg3'⟩
    obtain rfl : p3 = p3' := Grown.uniq (F := euclR) (by rw [← prop3]; exact hg3) hg3'
    obtain ⟨q8, cap8, sp8, rfl, hq8, hcap8, hS'⟩ := gainO hS he ho
    refine ⟨_, hS', ?_⟩
    -- heap: q8 q7 q6 q5 q4 q3 q2 q1
    refine GoH.v (Vop.mv rfl rfl rfl rfl) ?_
    refine GoH.v (Vop.ext rfl rfl rfl rfl rfl) ?_
    refine GoH.v (Vop.ext rfl rfl rfl rfl rfl) ?_
    refine GoH.v (Vop.asg rfl rfl rfl rfl) ?_
    refine GoH.v (Vop.asg rfl rfl rfl rfl) ?_
    refine GoH.regionEnd ?_
    refine GoH.seq ?_
    refine GoH.region ?_
    refine GoH.v (Vop.mv rfl rfl rfl rfl) ?_
    refine GoH.v (Vop.mv rfl rfl rfl rfl) ?_
    refine GoH.v (Vop.bin rfl rfl rfl rfl (bEqV (v := true) (beq_self_eq_true _)) rfl) ?_
    refine GoH.v (Vop.mv rfl rfl rfl rfl) ?_
    refine GoH.v (Vop.mv rfl rfl rfl rfl) ?_
    refine GoH.v (Vop.mv rfl rfl rfl rfl) ?_
    refine GoH.callP rfl rfl rfl rfl rfl (fun _ _ => Tryd.call28 _ _) (fun w _ hS => rSame_t (q7.map (fun b => ⟨b, 0, none⟩)) cap7 p3.1 (q8.map (fun b => ⟨b, 0, none⟩)) cap8 w (sluAt hS 1 rfl hq7) (sluAt hS 0 rfl hq8) (hg3.len hl)) ?_
    refine GoH.v (Vop.pickT rfl rfl rfl rfl rfl) ?_
    refine GoH.v (Vop.mv rfl rfl rfl rfl) ?_
    refine GoH.callP rfl rfl rfl rfl rfl (fun _ _ => Tryd.call12 _ _) (fun w _ hS => awake_c w (hT.ex hS.ext)) ?_
    refine GoH.v (Vop.pickT rfl rfl rfl rfl rfl) ?_
    refine GoH.v (Vop.asg rfl rfl rfl rfl) ?_
    refine GoH.regionEnd ?_
    refine GoH.ret Tryd.f9 Tryd.func9 rfl (fun w' hS => ?_)
    exact ⟨hS.ext, rfl⟩
theorem _root_.Go.Proofs.Wit.PathIs.short {r : List W64} {f t : W64} {p : List Nat} (h : PathIs r f t p) : p.length ≤ 66 := by
  unfold PathIs at h
  split at h
  · rw [h]; exact Nat.zero_le _
  · rename_i hc
    have hv : Val r := check_zero.1 (by simpa using hc)
    rcases h with ⟨k, hk, rfl⟩ | ⟨_, rfl⟩
    · rw [pathK_length]
      have := hk.le hv
      have := hv.len
      omega
    · exact Nat.zero_le _
theorem paths_c (a : Option Addr) (ca : Nat) (r : List W64) (f t : W64) (w : World) (hT : Tab w) (ha : SlU w a r) (hl : r.length ≤ maxLen) :
    Cn Tryd.prog 5 [.slice a r.length ca, U f, U t] w (fun v _ => v = .bool true) := by
  refine Cn.of Tryd.func5 rfl rfl ?_
  refine GoH.seq ?_
  refine GoH.region ?_
  refine GoH.v (Vop.asg rfl rfl rfl rfl) ?_
  refine GoH.regionEnd ?_
  refine GoH.seq ?_
  refine GoH.seq ?_
  refine GoH.region ?_
  refine GoH.v (Vop.mv rfl rfl rfl rfl) ?_
  refine GoH.v (Vop.blt rfl rfl rfl (blt_len_slice Tryd.underlying22) rfl) ?_
  refine GoH.v (Vop.bin rfl rfl rfl rfl bGt rfl) ?_
  refine GoH.regionEnd ?_
  refine GoH.cond rfl (fun hc => ?_) (fun hc => ?_)
  · -- yes
    refine GoH.seq ?_
    refine GoH.region ?_
    refine GoH.callP rfl rfl rfl rfl rfl (fun _ _ => Tryd.call12 _ _) (fun w _ hS => awake_c w (hT.ex hS.ext)) ?_
    refine GoH.v (Vop.asg rfl rfl rfl rfl) ?_
    refine GoH.regionEnd ?_
    refine GoH.ret Tryd.f5 Tryd.func5 rfl (fun w' hS => ?_)
    exact ⟨hS.ext, rfl⟩
  · -- no
    refine GoH.skip ?_
    refine GoH.seq ?_
    refine GoH.region ?_
    refine GoH.v (Vop.mv rfl rfl rfl rfl) ?_
    refine GoH.v (Vop.mv rfl rfl rfl rfl) ?_
    refine GoH.v (Vop.mv rfl rfl rfl rfl) ?_
    refine GoH.callM _ rfl rfl rfl rfl rfl (fun _ _ => Tryd.call23 _ _) (fun w _ hS => path_c a ca r f t w (hT.ex hS.ext) (ha.ex0 hS.ext) hl) ?_
    rintro v w1 w2 Y' hS he ⟨p, ho, hp⟩
    obtain ⟨q1, cap1, sp1, rfl, hq1, hcap1, hS'⟩ := gainI hS he ho
    refine ⟨_, hS', ?_⟩
    -- heap: q1
    refine GoH.v (Vop.mv rfl rfl rfl rfl) ?_
    refine GoH.v (Vop.mv rfl rfl rfl rfl) ?_
    refine GoH.v (Vop.mv rfl rfl rfl rfl) ?_
    refine GoH.callM _ rfl rfl rfl rfl rfl (fun _ _ => Tryd.call24 _ _) (fun w _ hS => rPath_c a ca r f t w (ha.ex0 hS.ext) hl) ?_
    rintro v w1 w2 Y' hS he ⟨p', ho, hp'⟩
    obtain rfl := hp.uniq hp'
    obtain ⟨q2, cap2, sp2, rfl, hq2, hcap2, hS'⟩ := gainI hS he ho
    refine ⟨_, hS', ?_⟩
    -- heap: q2 q1
    refine GoH.v (Vop.asg rfl rfl rfl rfl) ?_
    refine GoH.v (Vop.asg rfl rfl rfl rfl) ?_
    refine GoH.regionEnd ?_
    refine GoH.seq ?_
    refine GoH.seq ?_
    refine GoH.region ?_
    refine GoH.v (Vop.mv rfl rfl rfl rfl) ?_
    refine GoH.v (Vop.blt rfl rfl rfl (blt_len_slice Tryd.underlying30) rfl) ?_
    refine GoH.v (Vop.mv rfl rfl rfl rfl) ?_
    refine GoH.v (Vop.blt rfl rfl rfl (blt_len_slice Tryd.underlying30) rfl) ?_
    refine GoH.v (Vop.bin rfl rfl rfl rfl (bNeV (v := false) (bne_self_eq_false _)) rfl) ?_
    refine GoH.regionEnd ?_
    refine GoH.cond rfl (fun hc => ?_) (fun hc => ?_)
    · -- yes
      cases hc
    · -- no
      have hpl := hp.short
      refine GoH.skip ?_
      refine GoH.seq ?_
      refine GoH.seq ?_
      refine GoH.region ?_
      refine GoH.v (Vop.asg rfl rfl rfl rfl) ?_
      refine GoH.regionEnd ?_
      refine GoH.block ?_
      refine GoH.loop (σ := Nat) (fun k => [(7, osv q1 p.length cap1), (8, osv q2 p.length cap2), (9, .int .i64 k)]) (fun _ => [(q2, ob N64 3 p sp2), (q1, ob N64 3 p sp1)])
        (fun k => k ≤ p.length) (fun k => p.length - k) 0 (Nat.zero_le _) ⟨rfl, rfl, rfl, trivial⟩ (List.Sublist.refl _) (fun k hk IH => ?_)
      -- heap: q2 q1
      refine GoH.seq ?_
      refine GoH.seq ?_
      refine GoH.region ?_
      refine GoH.v (Vop.mv rfl rfl rfl rfl) ?_
      refine GoH.v (Vop.mv rfl rfl rfl rfl) ?_
      refine GoH.v (Vop.blt rfl rfl rfl (blt_len_slice Tryd.underlying30) rfl) ?_
      refine GoH.v (Vop.bin rfl rfl rfl rfl bLt rfl) ?_
      refine GoH.regionEnd ?_
      refine GoH.cond rfl (fun hc => ?_) (fun hc => ?_)
      · -- yes
        have hlt : k < p.length := by simpa using hc
        obtain ⟨b1, rfl⟩ : ∃ b1, q1 = some b1 := by
          cases q1 with
          | none => have := (hq1 rfl).1; omega
          | some b1 => exact ⟨b1, rfl⟩
        obtain ⟨b2, rfl⟩ : ∃ b2, q2 = some b2 := by
          cases q2 with
          | none => have := (hq2 rfl).1; omega
          | some b2 => exact ⟨b2, rfl⟩
        refine GoH.skip ?_
        refine GoH.seq ?_
        refine GoH.block ?_
        refine GoH.seq ?_
        refine GoH.draw 9 mixed rfl ?_
        refine RdGo.v (Vop.mv rfl rfl rfl rfl) ?_
        refine RdGo.v (Vop.mv rfl rfl rfl rfl) ?_
        refine RdGo.v (Vop.idxS rfl rfl rfl rfl rfl Tryd.underlying30 Tryd.sizeOf3 (k) ⟨rfl, hlt⟩) ?_
        refine RdGo.v (Vop.ldE N64 0 rfl rfl rfl rfl Tryd.isAgg3 1 rfl hlt) ?_
        refine RdGo.v (Vop.mv rfl rfl rfl rfl) ?_
        refine RdGo.v (Vop.mv rfl rfl rfl rfl) ?_
        refine RdGo.v (Vop.idxS rfl rfl rfl rfl rfl Tryd.underlying30 Tryd.sizeOf3 (k) ⟨rfl, hlt⟩) ?_
        refine RdGo.v (Vop.ldE N64 0 rfl rfl rfl rfl Tryd.isAgg3 0 rfl hlt) ?_
        refine RdGo.v (Vop.bin rfl rfl rfl rfl (bNeV (v := false) (bne_self_eq_false _)) rfl) ?_
        refine RdGo.nil ?_
        refine GoH.regionEnd ?_
        refine GoH.cond rfl (fun hc => ?_) (fun hc => ?_)
        · -- yes
          cases hc
        · -- no
          refine GoH.skip ?_
          refine GoH.inBlock ?_
          refine GoH.region ?_
          refine GoH.v (Vop.mv rfl rfl rfl rfl) ?_
          refine GoH.v (Vop.bin rfl rfl rfl rfl (bAdd (by omega)) rfl) ?_
          refine GoH.v (Vop.asg rfl rfl rfl rfl) ?_
          refine GoH.regionEnd ?_
          exact IH (k + 1) _ _ hlt (by omega) ⟨rfl, rfl, rfl, trivial⟩ (List.Sublist.refl _)
      · -- no
        refine GoH.exit rfl ?_
        refine GoH.seq ?_
        refine GoH.region ?_
        refine GoH.callP rfl rfl rfl rfl rfl (fun _ _ => Tryd.call12 _ _) (fun w _ hS => awake_c w (hT.ex hS.ext)) ?_
        refine GoH.v (Vop.asg rfl rfl rfl rfl) ?_
        refine GoH.regionEnd ?_
        refine GoH.ret Tryd.f5 Tryd.func5 rfl (fun w' hS => ?_)
        exact ⟨hS.ext, rfl⟩
end Go.Proofs.YtoiafcoaeomnlaaDoor
