/- Contracts of functions of the program: what each call returns and that nothing else of memory is turned, under the conditions that each theorem states. -/
import Derived.Test.YtpifbcbdbkbbjaaDoorB7
namespace Go.Proofs.YtpifbcbdbkbbjaaDoor
open Go.RowKit Go.Proofs.Wit
/-! two worlds -/
set_option maxRecDepth 8000 in
theorem bisimilar_c (a b : MV) (v x : Int) (w : World) (hT : Tab w) (ha : a.At w) (hb : b.At w) :
    Cn Tryd.prog 23 [a.v, .int .i64 v, b.v, .int .i64 x] w (fun r _ => ∃ y : Bool, r = .tuple #[.bool y, .int .i64 (bisE a.n a.val a.rel b.n b.val b.rel v x)] ∧ BisY a.n a.val a.rel b.n b.val b.rel v x y) := by
  refine Cn.of Tryd.func23 rfl rfl ?_
  refine GoH.seq ?_
  refine GoH.region ?_
  refine GoH.bx rfl rfl rfl rfl (fun b4 => ?_)
  refine GoH.bx rfl rfl rfl rfl (fun b6 => ?_)
  refine GoH.v (Vop.asg rfl rfl rfl rfl) ?_
  refine GoH.v (Vop.asg rfl rfl rfl rfl) ?_
  refine GoH.regionEnd ?_
  refine GoH.seq ?_
  refine GoH.region ?_
  refine GoH.v (Vop.ldB rfl rfl rfl rfl Tryd.isAgg25 1 rfl Tryd.sizeOf25 rfl) ?_
  refine GoH.v (Vop.ldB rfl rfl rfl rfl Tryd.isAgg25 0 rfl Tryd.sizeOf25 rfl) ?_
  refine GoH.callM _ rfl rfl rfl rfl rfl (fun _ _ => Tryd.call21 _ _) (fun w _ hS => between_c a b w (hT.ex hS.ext) (ha.ex0 hS.ext) (hb.ex0 hS.ext)) ?_
  rintro r w1 w2 Y' hS he ⟨sv, z, rfl, ho, hz⟩
  obtain ⟨q, cap, sp, rfl, hq, hcap, hS'⟩ := gainS hS he ho
  refine ⟨_, hS', ?_⟩
  -- heap: q b6 b4
  refine GoH.v (Vop.mv rfl rfl rfl rfl) ?_
  refine GoH.v (Vop.ext rfl rfl rfl rfl rfl) ?_
  refine GoH.v (Vop.ext rfl rfl rfl rfl rfl) ?_
  refine GoH.v (Vop.asg rfl rfl rfl rfl) ?_
  refine GoH.v (Vop.asg rfl rfl rfl rfl) ?_
  refine GoH.regionEnd ?_
  refine GoH.seq ?_
  refine GoH.seq ?_
  refine GoH.region ?_
  refine GoH.v (Vop.mv rfl rfl rfl rfl) ?_
  refine GoH.v (Vop.bin rfl rfl rfl rfl bNe rfl) ?_
  refine GoH.regionEnd ?_
  refine GoH.cond rfl (fun hc => ?_) (fun hc => ?_)
  · -- yes
    have h1 : bothE a.n a.val a.rel b.n b.val b.rel ≠ 0 := by simpa using hc
    have h2 : bisE a.n a.val a.rel b.n b.val b.rel v x = bothE a.n a.val a.rel b.n b.val b.rel := if_pos h1
    refine GoH.seq ?_
    refine GoH.region ?_
    refine GoH.v (Vop.mv rfl rfl rfl rfl) ?_
    refine GoH.v (Vop.asg rfl rfl rfl rfl) ?_
    refine GoH.v (Vop.asg rfl rfl rfl rfl) ?_
    refine GoH.regionEnd ?_
    refine GoH.ret Tryd.f23 Tryd.func23 rfl (fun w' hS => ?_)
    exact ⟨hS.ext, false, by rw [h2]; rfl, fun _ => rfl, fun e => absurd (h2.symm.trans e) h1⟩
  · -- no
    have h1 : bothE a.n a.val a.rel b.n b.val b.rel = 0 := by simpa using hc
    refine GoH.skip ?_
    refine GoH.seq ?_
    refine GoH.seq ?_
    refine GoH.region ?_
    refine GoH.v (Vop.mv rfl rfl rfl rfl) ?_
    refine GoH.v (Vop.bin rfl rfl rfl rfl bLt rfl) ?_
    refine GoH.v (Vop.mv rfl rfl rfl rfl) ?_
    -- guard on slot 23 (bisim.go:217)
    refine GoH.cases (d := 23) rfl (fun hc => ?_) (fun hc => ?_)
    · -- yes
      have h2 : bisE a.n a.val a.rel b.n b.val b.rel v x = 2 := by rw [bisE, if_neg (by simp [h1]), if_pos (.inl (by simpa using hc))]
      refine GoH.no rfl rfl rfl rfl ?_
      refine GoH.no rfl rfl rfl rfl ?_
      refine GoH.no rfl rfl rfl rfl ?_
      refine GoH.no rfl rfl rfl rfl ?_
      refine GoH.v (Vop.pickT rfl rfl rfl rfl rfl) ?_
      refine GoH.v (Vop.mv rfl rfl rfl rfl) ?_
      refine GoH.no rfl rfl rfl rfl ?_
      refine GoH.no rfl rfl rfl rfl ?_
      refine GoH.v (Vop.pickT rfl rfl rfl rfl rfl) ?_
      refine GoH.v (Vop.mv rfl rfl rfl rfl) ?_
      refine GoH.no rfl rfl rfl rfl ?_
      refine GoH.no rfl rfl rfl rfl ?_
      refine GoH.no rfl rfl rfl rfl ?_
      refine GoH.no rfl rfl rfl rfl ?_
      refine GoH.v (Vop.pickT rfl rfl rfl rfl rfl) ?_
      refine GoH.regionEnd ?_
      refine GoH.condT rfl ?_
      refine GoH.seq ?_
      refine GoH.region ?_
      refine GoH.v (Vop.asg rfl rfl rfl rfl) ?_
      refine GoH.v (Vop.asg rfl rfl rfl rfl) ?_
      refine GoH.regionEnd ?_
      refine GoH.ret Tryd.f23 Tryd.func23 rfl (fun w' hS => ?_)
      exact ⟨hS.ext, false, by rw [h2]; rfl, fun _ => rfl, fun e => absurd (h2.symm.trans e) (by decide)⟩
    · -- no
      have hv0 : ¬ v < 0 := by simpa using hc
      refine GoH.v (Vop.mv rfl rfl rfl rfl) ?_
      refine GoH.v (Vop.fldP rfl rfl rfl rfl Tryd.underlying25 rfl (by exact Tryd.sizeOf3) 0 rfl) ?_
      refine GoH.v (Vop.ldo (v := .int .i64 a.n) rfl rfl rfl rfl Tryd.isAgg3 2 rfl rfl) ?_
      refine GoH.v (Vop.bin rfl rfl rfl rfl bGe rfl) ?_
      refine GoH.v (Vop.pickF rfl rfl rfl rfl rfl) ?_
      refine GoH.v (Vop.mv rfl rfl rfl rfl) ?_
      -- guard on slot 29 (bisim.go:217)
      refine GoH.cases (d := 29) rfl (fun hc => ?_) (fun hc => ?_)
      · -- yes
        have h2 : bisE a.n a.val a.rel b.n b.val b.rel v x = 2 := by rw [bisE, if_neg (by simp [h1]), if_pos (.inr (.inl (by simpa using hc)))]
        refine GoH.no rfl rfl rfl rfl ?_
        refine GoH.no rfl rfl rfl rfl ?_
        refine GoH.v (Vop.pickT rfl rfl rfl rfl rfl) ?_
        refine GoH.v (Vop.mv rfl rfl rfl rfl) ?_
        refine GoH.no rfl rfl rfl rfl ?_
        refine GoH.no rfl rfl rfl rfl ?_
        refine GoH.no rfl rfl rfl rfl ?_
        refine GoH.no rfl rfl rfl rfl ?_
        refine GoH.v (Vop.pickT rfl rfl rfl rfl rfl) ?_
        refine GoH.regionEnd ?_
        refine GoH.condT rfl ?_
        refine GoH.seq ?_
        refine GoH.region ?_
        refine GoH.v (Vop.asg rfl rfl rfl rfl) ?_
        refine GoH.v (Vop.asg rfl rfl rfl rfl) ?_
        refine GoH.regionEnd ?_
        refine GoH.ret Tryd.f23 Tryd.func23 rfl (fun w' hS => ?_)
        exact ⟨hS.ext, false, by rw [h2]; rfl, fun _ => rfl, fun e => absurd (h2.symm.trans e) (by decide)⟩
      · -- no
        have hv1 : ¬ a.n ≤ v := by simpa using hc
        refine GoH.v (Vop.mv rfl rfl rfl rfl) ?_
        refine GoH.v (Vop.bin rfl rfl rfl rfl bLt rfl) ?_
        refine GoH.v (Vop.pickF rfl rfl rfl rfl rfl) ?_
        refine GoH.v (Vop.mv rfl rfl rfl rfl) ?_
        -- guard on slot 33 (bisim.go:217)
        refine GoH.cases (d := 33) rfl (fun hc => ?_) (fun hc => ?_)
        · -- yes
          have h2 : bisE a.n a.val a.rel b.n b.val b.rel v x = 2 := by rw [bisE, if_neg (by simp [h1]), if_pos (.inr (.inr (.inl (by simpa using hc))))]
          refine GoH.no rfl rfl rfl rfl ?_
          refine GoH.no rfl rfl rfl rfl ?_
          refine GoH.no rfl rfl rfl rfl ?_
          refine GoH.no rfl rfl rfl rfl ?_
          refine GoH.v (Vop.pickT rfl rfl rfl rfl rfl) ?_
          refine GoH.regionEnd ?_
          refine GoH.condT rfl ?_
          refine GoH.seq ?_
          refine GoH.region ?_
          refine GoH.v (Vop.asg rfl rfl rfl rfl) ?_
          refine GoH.v (Vop.asg rfl rfl rfl rfl) ?_
          refine GoH.regionEnd ?_
          refine GoH.ret Tryd.f23 Tryd.func23 rfl (fun w' hS => ?_)
          exact ⟨hS.ext, false, by rw [h2]; rfl, fun _ => rfl, fun e => absurd (h2.symm.trans e) (by decide)⟩
        · -- no
          have hx0 : ¬ x < 0 := by simpa using hc
          refine GoH.v (Vop.mv rfl rfl rfl rfl) ?_
          refine GoH.v (Vop.fldP rfl rfl rfl rfl Tryd.underlying25 rfl (by exact Tryd.sizeOf3) 0 rfl) ?_
          refine GoH.v (Vop.ldo (v := .int .i64 b.n) rfl rfl rfl rfl Tryd.isAgg3 1 rfl rfl) ?_
          refine GoH.v (Vop.bin rfl rfl rfl rfl bGe rfl) ?_
          refine GoH.v (Vop.pickF rfl rfl rfl rfl rfl) ?_
          refine GoH.regionEnd ?_
          refine GoH.cond rfl (fun hc => ?_) (fun hc => ?_)
          · -- yes
            have h2 : bisE a.n a.val a.rel b.n b.val b.rel v x = 2 := by rw [bisE, if_neg (by simp [h1]), if_pos (.inr (.inr (.inr (by simpa using hc))))]
            refine GoH.seq ?_
            refine GoH.region ?_
            refine GoH.v (Vop.asg rfl rfl rfl rfl) ?_
            refine GoH.v (Vop.asg rfl rfl rfl rfl) ?_
            refine GoH.regionEnd ?_
            refine GoH.ret Tryd.f23 Tryd.func23 rfl (fun w' hS => ?_)
            exact ⟨hS.ext, false, by rw [h2]; rfl, fun _ => rfl, fun e => absurd (h2.symm.trans e) (by decide)⟩
          · -- no
            have hx1 : ¬ b.n ≤ x := by simpa using hc
            have h2 : bisE a.n a.val a.rel b.n b.val b.rel v x = 0 := by rw [bisE, if_neg (by simp [h1]), if_neg (by omega)]
            obtain ⟨v, rfl⟩ : ∃ V : Nat, v = V := ⟨v.toNat, by omega⟩
            obtain ⟨x, rfl⟩ : ∃ V : Nat, x = V := ⟨x.toNat, by omega⟩
            have hg := hz.2 h1
            have hzl := hg.len
            obtain ⟨b0, rfl⟩ : ∃ b0, q = some b0 := by
              cases q with
              | none => have := (hq rfl).1; omega
              | some b0 => exact ⟨b0, rfl⟩
            have hlt : v < z.length := by omega
            refine GoH.skip ?_
            refine GoH.seq ?_
            refine GoH.region ?_
            refine GoH.v (Vop.mv rfl rfl rfl rfl) ?_
            refine GoH.v (Vop.mv rfl rfl rfl rfl) ?_
            refine GoH.v (Vop.idxS rfl rfl rfl rfl rfl Tryd.underlying22 Tryd.sizeOf44 (v) ⟨rfl, hlt⟩) ?_
            refine GoH.v (Vop.ldE U 0#64 rfl rfl rfl rfl Tryd.isAgg44 0 rfl hlt) ?_
            refine GoH.v (Vop.mv rfl rfl rfl rfl) ?_
            refine GoH.v (Vop.bin rfl rfl rfl rfl (bShr x rfl) rfl) ?_
            refine GoH.v (Vop.bin (b := U 1#64) rfl rfl rfl rfl bAnd rfl) ?_
            refine GoH.v (Vop.bin (b := U 1#64) rfl rfl rfl rfl bEqU rfl) ?_
            refine GoH.v (Vop.asg rfl rfl rfl rfl) ?_
            refine GoH.v (Vop.asg rfl rfl rfl rfl) ?_
            refine GoH.regionEnd ?_
            refine GoH.ret Tryd.f23 Tryd.func23 rfl (fun w' hS => ?_)
            refine ⟨hS.ext, (z.getD v 0#64).getLsbD x, ?_, fun e => absurd h2 e, fun _ z' hz' => by rw [hz.uniq hz']; rfl⟩
            rw [h2, ← in_bit]
            rfl
end Go.Proofs.YtpifbcbdbkbbjaaDoor
