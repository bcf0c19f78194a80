/- Contracts of functions of the program: what each call returns and that nothing else of memory is turned, under the conditions that each theorem states. -/
import Derived.Test.YtbjopkllkoomkaaDoorE8
import Derived.Test.YtbjopkllkoomkaaDoorWJ
namespace Go.Proofs.YtbjopkllkoomkaaDoor
open Go.RowKit Go.Proofs.Wit
/-! the program's makers of formulas -/
theorem know_c (i : Int) (a : Option Addr) (ca : Nat) (f : List NV) (w : World) (ha : FA w a f) (hl : f.length ≤ maxLen) : Cn Tryd.prog 23 [.int .i64 i, .slice a f.length ca] w (fun v w' => OwnN 58 w w' v (bldF ⟨9, i, 0, 0, 0, 0⟩ [f])) := by
  refine Cn.of Tryd.func23 rfl rfl ?_
  refine GoH.seq ?_
  refine GoH.region ?_
  refine GoH.v (Vop.asg rfl rfl rfl rfl) ?_
  refine GoH.regionEnd ?_
  refine GoH.seq ?_
  refine GoH.region ?_
  refine GoH.v (Vop.mv rfl rfl rfl rfl) ?_
  refine GoH.v (Vop.bld rfl rfl rfl rfl (bld (c := [_, _, _, _, _, _]) Tryd.underlying58 (Szs.cons Tryd.sizeOf3 (Szs.cons Tryd.sizeOf3 (Szs.cons Tryd.sizeOf3 (Szs.cons Tryd.sizeOf3 (Szs.cons Tryd.sizeOf3 (Szs.cons Tryd.sizeOf3 Szs.nil)))))) Tryd.zeroValue58 rfl)) ?_
  refine GoH.v (Vop.mv rfl rfl rfl rfl) ?_
  refine GoH.bsN (c := [_]) rfl rfl rfl rfl Tryd.underlying100 Tryd.sizeOf24 Tryd.zeroValue24 rfl rfl (fun b8 => ?_)
  refine GoH.callM _ rfl rfl rfl rfl rfl (fun _ _ => Tryd.call47 _ _) (fun w _ hS => (by exact build_c ⟨9, i, 0, 0, 0, 0⟩ (some ⟨b8, 0, none⟩) 1 [⟨a, ca, f⟩] [f] w rfl (Sl.blk (sp := []) (hS.get (j := 0) rfl)) (fun g hg => by rw [List.mem_singleton.1 hg]; exact ha.ex0 hS.ext) (fun g hg => by rw [List.mem_singleton.1 hg]; exact hl) (by simp))) ?_
  rintro v w1 w2 Y' hS he ho
  obtain ⟨q, cap, sp, rfl, hq, hcap, hS'⟩ := gainN hS he ho
  refine ⟨_, hS', ?_⟩
  -- heap: q b8
  refine GoH.v (Vop.asg rfl rfl rfl rfl) ?_
  refine GoH.regionEnd ?_
  refine GoH.ret Tryd.f23 Tryd.func23 rfl (fun w' hS => ?_)
  exact ⟨hS.ext, OwnN.mk hS 0 rfl rfl hq hcap⟩
theorem poss_c (i : Int) (a : Option Addr) (ca : Nat) (f : List NV) (w : World) (ha : FA w a f) (hl : f.length ≤ maxLen) : Cn Tryd.prog 24 [.int .i64 i, .slice a f.length ca] w (fun v w' => OwnN 58 w w' v (bldF ⟨10, i, 0, 0, 0, 0⟩ [f])) := by
  refine Cn.of Tryd.func24 rfl rfl ?_
  refine GoH.seq ?_
  refine GoH.region ?_
  refine GoH.v (Vop.asg rfl rfl rfl rfl) ?_
  refine GoH.regionEnd ?_
  refine GoH.seq ?_
  refine GoH.region ?_
  refine GoH.v (Vop.mv rfl rfl rfl rfl) ?_
  refine GoH.v (Vop.bld rfl rfl rfl rfl (bld (c := [_, _, _, _, _, _]) Tryd.underlying58 (Szs.cons Tryd.sizeOf3 (Szs.cons Tryd.sizeOf3 (Szs.cons Tryd.sizeOf3 (Szs.cons Tryd.sizeOf3 (Szs.cons Tryd.sizeOf3 (Szs.cons Tryd.sizeOf3 Szs.nil)))))) Tryd.zeroValue58 rfl)) ?_
  refine GoH.v (Vop.mv rfl rfl rfl rfl) ?_
  refine GoH.bsN (c := [_]) rfl rfl rfl rfl Tryd.underlying100 Tryd.sizeOf24 Tryd.zeroValue24 rfl rfl (fun b8 => ?_)
  refine GoH.callM _ rfl rfl rfl rfl rfl (fun _ _ => Tryd.call47 _ _) (fun w _ hS => (by exact build_c ⟨10, i, 0, 0, 0, 0⟩ (some ⟨b8, 0, none⟩) 1 [⟨a, ca, f⟩] [f] w rfl (Sl.blk (sp := []) (hS.get (j := 0) rfl)) (fun g hg => by rw [List.mem_singleton.1 hg]; exact ha.ex0 hS.ext) (fun g hg => by rw [List.mem_singleton.1 hg]; exact hl) (by simp))) ?_
  rintro v w1 w2 Y' hS he ho
  obtain ⟨q, cap, sp, rfl, hq, hcap, hS'⟩ := gainN hS he ho
  refine ⟨_, hS', ?_⟩
  -- heap: q b8
  refine GoH.v (Vop.asg rfl rfl rfl rfl) ?_
  refine GoH.regionEnd ?_
  refine GoH.ret Tryd.f24 Tryd.func24 rfl (fun w' hS => ?_)
  exact ⟨hS.ext, OwnN.mk hS 0 rfl rfl hq hcap⟩
theorem imp_c (a : Option Addr) (ca : Nat) (f : List NV) (b : Option Addr) (cb : Nat) (g : List NV) (w : World) (ha : FA w a f) (hl : f.length ≤ maxLen) (hb : FA w b g) (hl2 : g.length ≤ maxLen) : Cn Tryd.prog 25 [.slice a f.length ca, .slice b g.length cb] w (fun v w' => OwnN 58 w w' v (bldF ⟨7, 0, 0, 0, 0, 0⟩ [f, g])) := by
  refine Cn.of Tryd.func25 rfl rfl ?_
  refine GoH.seq ?_
  refine GoH.region ?_
  refine GoH.v (Vop.asg rfl rfl rfl rfl) ?_
  refine GoH.regionEnd ?_
  refine GoH.seq ?_
  refine GoH.region ?_
  refine GoH.v (Vop.bld rfl rfl rfl rfl (bld (c := [_, _, _, _, _, _]) Tryd.underlying58 (Szs.cons Tryd.sizeOf3 (Szs.cons Tryd.sizeOf3 (Szs.cons Tryd.sizeOf3 (Szs.cons Tryd.sizeOf3 (Szs.cons Tryd.sizeOf3 (Szs.cons Tryd.sizeOf3 Szs.nil)))))) Tryd.zeroValue58 rfl)) ?_
  refine GoH.v (Vop.mv rfl rfl rfl rfl) ?_
  refine GoH.v (Vop.mv rfl rfl rfl rfl) ?_
  refine GoH.bsN (c := [_, _]) rfl rfl rfl rfl Tryd.underlying100 Tryd.sizeOf24 Tryd.zeroValue24 rfl rfl (fun b8 => ?_)
  refine GoH.callM _ rfl rfl rfl rfl rfl (fun _ _ => Tryd.call47 _ _) (fun w _ hS => (by exact build_c ⟨7, 0, 0, 0, 0, 0⟩ (some ⟨b8, 0, none⟩) 2 [⟨a, ca, f⟩, ⟨b, cb, g⟩] [f, g] w rfl (Sl.blk (sp := []) (hS.get (j := 0) rfl)) (all2 (p := fun g : FV => FA _ g.a g.f) (ha.ex0 hS.ext) (hb.ex0 hS.ext)) (all2 (p := fun g : FV => g.f.length ≤ maxLen) hl hl2) (by simp))) ?_
  rintro v w1 w2 Y' hS he ho
  obtain ⟨q, cap, sp, rfl, hq, hcap, hS'⟩ := gainN hS he ho
  refine ⟨_, hS', ?_⟩
  -- heap: q b8
  refine GoH.v (Vop.asg rfl rfl rfl rfl) ?_
  refine GoH.regionEnd ?_
  refine GoH.ret Tryd.f25 Tryd.func25 rfl (fun w' hS => ?_)
  exact ⟨hS.ext, OwnN.mk hS 0 rfl rfl hq hcap⟩
theorem fact_c (i : Int) (w : World) : Cn Tryd.prog 16 [.int .i64 i] w (fun v w' => OwnN 58 w w' v (bldF ⟨3, i, 0, 0, 0, 0⟩ [])) := by
  refine Cn.of Tryd.func16 rfl rfl ?_
  refine GoH.seq ?_
  refine GoH.region ?_
  refine GoH.v (Vop.asg rfl rfl rfl rfl) ?_
  refine GoH.regionEnd ?_
  refine GoH.seq ?_
  refine GoH.region ?_
  refine GoH.v (Vop.mv rfl rfl rfl rfl) ?_
  refine GoH.v (Vop.bld rfl rfl rfl rfl (bld (c := [_, _, _, _, _, _]) Tryd.underlying58 (Szs.cons Tryd.sizeOf3 (Szs.cons Tryd.sizeOf3 (Szs.cons Tryd.sizeOf3 (Szs.cons Tryd.sizeOf3 (Szs.cons Tryd.sizeOf3 (Szs.cons Tryd.sizeOf3 Szs.nil)))))) Tryd.zeroValue58 rfl)) ?_
  refine GoH.callM _ rfl rfl rfl rfl rfl (fun _ _ => Tryd.call47 _ _) (fun w _ hS => (by exact build_c ⟨3, i, 0, 0, 0, 0⟩ none 0 [] [] w rfl (Sl.nil _ _) (fun g hg => by cases hg) (fun g hg => by cases hg) (by simp))) ?_
  rintro v w1 w2 Y' hS he ho
  obtain ⟨q, cap, sp, rfl, hq, hcap, hS'⟩ := gainN hS he ho
  refine ⟨_, hS', ?_⟩
  -- heap: q
  refine GoH.v (Vop.asg rfl rfl rfl rfl) ?_
  refine GoH.regionEnd ?_
  refine GoH.ret Tryd.f16 Tryd.func16 rfl (fun w' hS => ?_)
  exact ⟨hS.ext, OwnN.mk hS 0 rfl rfl hq hcap⟩
end Go.Proofs.YtbjopkllkoomkaaDoor
namespace Go.Proofs.YtbjopkllkoomkaaDoor
open Go.RowKit Go.Proofs.Wit
/-! the axioms of the properties -/
set_option maxRecDepth 8000 in
theorem faxiom_c (p i : Int) (a : Option Addr) (ca : Nat) (f : List NV) (w : World) (ha : FA w a f) (hl : f.length ≤ 60) :
    Cn Tryd.prog 6 [.int .i64 p, .int .i64 i, .slice a f.length ca] w (fun v w' => ∃ sv, v = .tuple #[sv, .int .i64 (axE p i f)] ∧ OwnN 58 w w' sv (axF p i f)) := by
  refine Cn.of Tryd.func6 rfl rfl ?_
  refine GoH.seq ?_
  refine GoH.region ?_
  refine GoH.v (Vop.asg rfl rfl rfl rfl) ?_
  refine GoH.v (Vop.asg rfl rfl rfl rfl) ?_
  refine GoH.regionEnd ?_
  refine GoH.seq ?_
  refine GoH.seq ?_
  refine GoH.region ?_
  refine GoH.v (Vop.mv rfl rfl rfl rfl) ?_
  refine GoH.callP rfl rfl rfl rfl rfl (fun _ _ => Tryd.call22 _ _) (fun w _ hS => (by exact fcheck_c a ca f w (ha.ex0 hS.ext) (by unfold maxLen; omega))) ?_
  refine GoH.v (Vop.asg rfl rfl rfl rfl) ?_
  refine GoH.regionEnd ?_
  refine GoH.seq ?_
  refine GoH.region ?_
  refine GoH.v (Vop.mv rfl rfl rfl rfl) ?_
  refine GoH.v (Vop.bin rfl rfl rfl rfl bNe rfl) ?_
  refine GoH.regionEnd ?_
  refine GoH.cond rfl (fun hc => ?_) (fun hc => ?_)
  · -- yes
    have h1 : chkF f ≠ 0 := by simpa using hc
    refine GoH.seq ?_
    refine GoH.region ?_
    refine GoH.v (Vop.mv rfl rfl rfl rfl) ?_
    refine GoH.v (Vop.asg rfl rfl rfl rfl) ?_
    refine GoH.v (Vop.asg rfl rfl rfl rfl) ?_
    refine GoH.regionEnd ?_
    refine GoH.ret Tryd.f6 Tryd.func6 rfl (fun w' hS => ?_)
    have he := axE_chk (p := p) (a := i) h1
    exact ⟨hS.ext, _, by rw [he]; rfl, by rw [axF_bad (by rw [he]; exact h1)]; exact OwnN.nil0⟩
  · -- no
    have h1 : chkF f = 0 := by simpa using hc
    refine GoH.skip ?_
    refine GoH.seq ?_
    refine GoH.seq ?_
    refine GoH.region ?_
    refine GoH.v (Vop.mv rfl rfl rfl rfl) ?_
    refine GoH.v (Vop.bin rfl rfl rfl rfl bLt rfl) ?_
    refine GoH.v (Vop.mv rfl rfl rfl rfl) ?_
    -- guard on slot 19 (frames.go:168)
    refine GoH.cases (d := 19) rfl (fun hc => ?_) (fun hc => ?_)
    · -- yes
      have h2 : p < 1 := by simpa using hc
      refine GoH.no rfl rfl rfl rfl ?_
      refine GoH.no rfl rfl rfl rfl ?_
      refine GoH.v (Vop.pickT rfl rfl rfl rfl rfl) ?_
      refine GoH.regionEnd ?_
      refine GoH.condT rfl ?_
      refine GoH.seq ?_
      refine GoH.region ?_
      refine GoH.v (Vop.asg rfl rfl rfl rfl) ?_
      refine GoH.v (Vop.asg rfl rfl rfl rfl) ?_
      refine GoH.regionEnd ?_
      refine GoH.ret Tryd.f6 Tryd.func6 rfl (fun w' hS => ?_)
      have he := axE_p (p := p) (a := i) h1 (.inl h2)
      exact ⟨hS.ext, _, by rw [he]; rfl, by rw [axF_bad (by rw [he]; decide)]; exact OwnN.nil0⟩
    · -- no
      have h2 : ¬ p < 1 := by simpa using hc
      refine GoH.v (Vop.mv rfl rfl rfl rfl) ?_
      refine GoH.v (Vop.bin rfl rfl rfl rfl bGt rfl) ?_
      refine GoH.v (Vop.pickF rfl rfl rfl rfl rfl) ?_
      refine GoH.regionEnd ?_
      refine GoH.cond rfl (fun hc => ?_) (fun hc => ?_)
      · -- yes
        have h3 : 5 < p := by simpa using hc
        refine GoH.seq ?_
        refine GoH.region ?_
        refine GoH.v (Vop.asg rfl rfl rfl rfl) ?_
        refine GoH.v (Vop.asg rfl rfl rfl rfl) ?_
        refine GoH.regionEnd ?_
        refine GoH.ret Tryd.f6 Tryd.func6 rfl (fun w' hS => ?_)
        have he := axE_p (p := p) (a := i) h1 (.inr h3)
        exact ⟨hS.ext, _, by rw [he]; rfl, by rw [axF_bad (by rw [he]; decide)]; exact OwnN.nil0⟩
      · -- no
        have h3 : ¬ 5 < p := by simpa using hc
        refine GoH.skip ?_
        refine GoH.seq ?_
        refine GoH.seq ?_
        refine GoH.region ?_
        refine GoH.v (Vop.mv rfl rfl rfl rfl) ?_
        refine GoH.v (Vop.bin rfl rfl rfl rfl bLt rfl) ?_
        refine GoH.v (Vop.mv rfl rfl rfl rfl) ?_
        -- guard on slot 25 (frames.go:171)
        refine GoH.cases (d := 25) rfl (fun hc => ?_) (fun hc => ?_)
        · -- yes
          have h4 : i < 0 := by simpa using hc
          refine GoH.no rfl rfl rfl rfl ?_
          refine GoH.no rfl rfl rfl rfl ?_
          refine GoH.v (Vop.pickT rfl rfl rfl rfl rfl) ?_
          refine GoH.regionEnd ?_
          refine GoH.condT rfl ?_
          refine GoH.seq ?_
          refine GoH.region ?_
          refine GoH.v (Vop.asg rfl rfl rfl rfl) ?_
          refine GoH.v (Vop.asg rfl rfl rfl rfl) ?_
          refine GoH.regionEnd ?_
          refine GoH.ret Tryd.f6 Tryd.func6 rfl (fun w' hS => ?_)
          have he := axE_a (p := p) (a := i) h1 (by omega) (.inl h4)
          exact ⟨hS.ext, _, by rw [he]; rfl, by rw [axF_bad (by rw [he]; decide)]; exact OwnN.nil0⟩
        · -- no
          have h4 : ¬ i < 0 := by simpa using hc
          refine GoH.v (Vop.mv rfl rfl rfl rfl) ?_
          refine GoH.v (Vop.bin rfl rfl rfl rfl bGe rfl) ?_
          refine GoH.v (Vop.pickF rfl rfl rfl rfl rfl) ?_
          refine GoH.regionEnd ?_
          refine GoH.cond rfl (fun hc => ?_) (fun hc => ?_)
          · -- yes
            have h5 : 4 ≤ i := by simpa using hc
            refine GoH.seq ?_
            refine GoH.region ?_
            refine GoH.v (Vop.asg rfl rfl rfl rfl) ?_
            refine GoH.v (Vop.asg rfl rfl rfl rfl) ?_
            refine GoH.regionEnd ?_
            refine GoH.ret Tryd.f6 Tryd.func6 rfl (fun w' hS => ?_)
            have he := axE_a (p := p) (a := i) h1 (by omega) (.inr h5)
            exact ⟨hS.ext, _, by rw [he]; rfl, by rw [axF_bad (by rw [he]; decide)]; exact OwnN.nil0⟩
          · -- no
            have h5 : ¬ 4 ≤ i := by simpa using hc
            have hF : FmT f (topT f) := ⟨h1, rfl⟩
            have hT := hF.ok
            have hTl := hF.len
            have h4' : 0 ≤ i := by omega
            have h5' : i < 4 := by omega
            have okK := un_ok (op := 9) (.inl rfl) h4' h5' hT
            have okQ := un_ok (op := 10) (.inr rfl) h4' h5' hT
            have okKK := un_ok (op := 9) (.inl rfl) h4' h5' okK
            have okKQ := un_ok (op := 9) (.inl rfl) h4' h5' okQ
            have lK : (canT (.un 9 i 0 0 (topT f))).length = (canT (topT f)).length + 1 := canT_un
            have lQ : (canT (.un 10 i 0 0 (topT f))).length = (canT (topT f)).length + 1 := canT_un
            have lKK : (canT (.un 9 i 0 0 (.un 9 i 0 0 (topT f)))).length = (canT (.un 9 i 0 0 (topT f))).length + 1 := canT_un
            have lKQ : (canT (.un 9 i 0 0 (.un 10 i 0 0 (topT f)))).length = (canT (.un 10 i 0 0 (topT f))).length + 1 := canT_un
            have fK : FmT _ _ := FmT.can okK (by omega)
            have fQ : FmT _ _ := FmT.can okQ (by omega)
            have fKK : FmT _ _ := FmT.can okKK (by omega)
            have fKQ : FmT _ _ := FmT.can okKQ (by omega)
            have hE0 := axE_0 (p := p) (a := i) h1 (by omega) (by omega)
            have hax := axF_0 hE0
            refine GoH.skip ?_
            refine GoH.seq ?_
            refine GoH.region ?_
            refine GoH.v (Vop.mv rfl rfl rfl rfl) ?_
            refine GoH.v (Vop.mv rfl rfl rfl rfl) ?_
            refine GoH.callM _ rfl rfl rfl rfl rfl (fun _ _ => Tryd.call23 _ _) (fun w _ hS => (by exact know_c i a ca (f)  w (ha.ex0 hS.ext) (by unfold maxLen; omega))) ?_
            rintro v w1 w2 Y' hS he ho
            rw [un_bld hF (.inl rfl) h4' h5' (by omega)] at ho
            obtain ⟨qK, capK, spK, rfl, hqK, hcapK, hS'⟩ := gainN hS he ho
            refine ⟨_, hS', ?_⟩
            -- heap: qK
            refine GoH.v (Vop.mv rfl rfl rfl rfl) ?_
            refine GoH.v (Vop.mv rfl rfl rfl rfl) ?_
            refine GoH.callM _ rfl rfl rfl rfl rfl (fun _ _ => Tryd.call24 _ _) (fun w _ hS => (by exact poss_c i a ca (f)  w (ha.ex0 hS.ext) (by unfold maxLen; omega))) ?_
            rintro v w1 w2 Y' hS he ho
            rw [un_bld hF (.inr rfl) h4' h5' (by omega)] at ho
            obtain ⟨qQ, capQ, spQ, rfl, hqQ, hcapQ, hS'⟩ := gainN hS he ho
            refine ⟨_, hS', ?_⟩
            -- heap: qQ qK
            refine GoH.v (Vop.asg rfl rfl rfl rfl) ?_
            refine GoH.v (Vop.asg rfl rfl rfl rfl) ?_
            refine GoH.regionEnd ?_
            refine GoH.seq ?_
            refine GoH.region ?_
            refine GoH.v (Vop.asg rfl rfl rfl rfl) ?_
            refine GoH.regionEnd ?_
            refine GoH.seq ?_
            refine GoH.seqJ (α := {z : Option Nat × Nat × List Value // (z.1 = none → (canT (axT p i (topT f))).length = 0 ∧ z.2.1 = 0) ∧ ((canT (axT p i (topT f))).flatMap NV.cells ++ z.2.2).length = z.2.1 * 6})
              (fun z => [(11, osv z.1.1 (canT (axT p i (topT f))).length z.1.2.1)]) (fun z => [(z.1.1, obN 58 (canT (axT p i (topT f))) z.1.2.2)]) (fun z => ?_) (fun K => ?_)
            -- at: frames.go:176
            -- heap: q
            · -- what comes behind
              obtain ⟨⟨q, cap, sp⟩, hq, hcap⟩ := z
              dsimp only at hq hcap ⊢
              refine GoH.seq ?_
              refine GoH.seq ?_
              refine GoH.region ?_
              refine GoH.v (Vop.mv rfl rfl rfl rfl) ?_
              refine GoH.v (Vop.blt rfl rfl rfl (blt_len_slice Tryd.underlying24) rfl) ?_
              refine GoH.v (Vop.bin rfl rfl rfl rfl bEq rfl) ?_
              refine GoH.regionEnd ?_
              
              refine GoH.cond rfl (fun hc => by exfalso; (exact absurd (eq_of_beq hc) (by have := canT_pos (axT p i (topT f)); omega))) (fun _ => ?_)
              refine GoH.skip ?_
              refine GoH.seq ?_
              refine GoH.region ?_
              refine GoH.v (Vop.mv rfl rfl rfl rfl) ?_
              refine GoH.v (Vop.asg rfl rfl rfl rfl) ?_
              refine GoH.v (Vop.asg rfl rfl rfl rfl) ?_
              refine GoH.regionEnd ?_
              refine GoH.ret Tryd.f6 Tryd.func6 rfl (fun w' hS => ?_)
              exact ⟨hS.ext, _, by rw [hE0]; rfl, by rw [hax]; exact OwnN.mk hS 0 rfl rfl hq hcap⟩
            · -- the first part
              refine GoH.seq ?_
              refine GoH.region ?_
              refine GoH.v (Vop.mv rfl rfl rfl rfl) ?_
              refine GoH.regionEnd ?_
              refine GoH.block ?_
              refine GoH.seq ?_
              refine GoH.region ?_
              refine GoH.v (Vop.bin rfl rfl rfl rfl bEq rfl) ?_
              refine GoH.v (Vop.asg rfl rfl rfl rfl) ?_
              refine GoH.regionEnd ?_
              refine GoH.cond rfl (fun hc => ?_) (fun hc => ?_)
              · -- yes
                have hp1 : p = 1 := by simpa using hc
                have hp : axT p i (topT f) = .bin 7 0 0 0 (.un 9 i 0 0 (topT f)) (.un 10 i 0 0 (topT f)) := by unfold axT; rw [if_pos hp1]
                refine GoH.region ?_
                refine GoH.v (Vop.mv rfl rfl rfl rfl) ?_
                refine GoH.v (Vop.mv rfl rfl rfl rfl) ?_
                refine GoH.callM _ rfl rfl rfl rfl rfl (fun _ _ => Tryd.call25 _ _) (fun w _ hS => (by exact imp_c (qK.map (fun b => ⟨b, 0, none⟩)) capK (canT (.un 9 i 0 0 (topT f)))  (qQ.map (fun b => ⟨b, 0, none⟩)) capQ (canT (.un 10 i 0 0 (topT f)))  w (faAt hS 1 rfl (fun e => (hqK e).1)) (by unfold maxLen; omega) (faAt hS 0 rfl (fun e => (hqQ e).1)) (by unfold maxLen; omega))) ?_
                rintro v w1 w2 Y' hS he ho
                rw [imp_bld fK fQ (by omega), ← hp] at ho
                obtain ⟨qI, capI, spI, rfl, hqI, hcapI, hS'⟩ := gainN hS he ho
                refine ⟨_, hS', ?_⟩
                -- heap: qI qQ qK
                refine GoH.v (Vop.asg rfl rfl rfl rfl) ?_
                refine GoH.regionEnd ?_
                refine GoH.inBlock ?_
                exact K ⟨(qI, capI, spI), hqI, hcapI⟩ _ _ (by repeat (first | exact SubF.nil | refine SubF.cons rfl ?_)) (fun _ _ hS => hS.subH (.cons_cons _ (List.nil_sublist _)))
              · -- no
                have hp1 : p ≠ 1 := by simpa using hc
                refine GoH.seq ?_
                refine GoH.region ?_
                refine GoH.v (Vop.bin rfl rfl rfl rfl bEq rfl) ?_
                refine GoH.v (Vop.asg rfl rfl rfl rfl) ?_
                refine GoH.regionEnd ?_
                refine GoH.cond rfl (fun hc => ?_) (fun hc => ?_)
                · -- yes
                  have hp2 : p = 2 := by simpa using hc
                  have hp : axT p i (topT f) = .bin 7 0 0 0 (.un 9 i 0 0 (topT f)) (topT f) := by unfold axT; rw [if_neg hp1, if_pos hp2]
                  refine GoH.region ?_
                  refine GoH.v (Vop.mv rfl rfl rfl rfl) ?_
                  refine GoH.v (Vop.mv rfl rfl rfl rfl) ?_
                  refine GoH.callM _ rfl rfl rfl rfl rfl (fun _ _ => Tryd.call25 _ _) (fun w _ hS => (by exact imp_c (qK.map (fun b => ⟨b, 0, none⟩)) capK (canT (.un 9 i 0 0 (topT f)))  a ca (f)  w (faAt hS 1 rfl (fun e => (hqK e).1)) (by unfold maxLen; omega) (ha.ex0 hS.ext) (by unfold maxLen; omega))) ?_
                  rintro v w1 w2 Y' hS he ho
                  rw [imp_bld fK hF (by omega), ← hp] at ho
                  obtain ⟨qI, capI, spI, rfl, hqI, hcapI, hS'⟩ := gainN hS he ho
                  refine ⟨_, hS', ?_⟩
                  -- heap: qI qQ qK
                  refine GoH.v (Vop.asg rfl rfl rfl rfl) ?_
                  refine GoH.regionEnd ?_
                  refine GoH.inBlock ?_
                  exact K ⟨(qI, capI, spI), hqI, hcapI⟩ _ _ (by repeat (first | exact SubF.nil | refine SubF.cons rfl ?_)) (fun _ _ hS => hS.subH (.cons_cons _ (List.nil_sublist _)))
                · -- no
                  have hp2 : p ≠ 2 := by simpa using hc
                  refine GoH.seq ?_
                  refine GoH.region ?_
                  refine GoH.v (Vop.bin rfl rfl rfl rfl bEq rfl) ?_
                  refine GoH.v (Vop.asg rfl rfl rfl rfl) ?_
                  refine GoH.regionEnd ?_
                  refine GoH.cond rfl (fun hc => ?_) (fun hc => ?_)
                  · -- yes
                    have hp3 : p = 3 := by simpa using hc
                    have hp : axT p i (topT f) = .bin 7 0 0 0 (topT f) (.un 9 i 0 0 (.un 10 i 0 0 (topT f))) := by unfold axT; rw [if_neg hp1, if_neg hp2, if_pos hp3]
                    refine GoH.region ?_
                    refine GoH.v (Vop.mv rfl rfl rfl rfl) ?_
                    refine GoH.v (Vop.mv rfl rfl rfl rfl) ?_
                    refine GoH.v (Vop.mv rfl rfl rfl rfl) ?_
                    refine GoH.callM _ rfl rfl rfl rfl rfl (fun _ _ => Tryd.call23 _ _) (fun w _ hS => (by exact know_c i (qQ.map (fun b => ⟨b, 0, none⟩)) capQ (canT (.un 10 i 0 0 (topT f)))  w (faAt hS 0 rfl (fun e => (hqQ e).1)) (by unfold maxLen; omega))) ?_
                    rintro v w1 w2 Y' hS he ho
                    rw [un_bld fQ (.inl rfl) h4' h5' (by omega)] at ho
                    obtain ⟨q3, cap3, sp3, rfl, hq3, hcap3, hS'⟩ := gainN hS he ho
                    refine ⟨_, hS', ?_⟩
                    -- heap: q3 qQ qK
                    refine GoH.callM _ rfl rfl rfl rfl rfl (fun _ _ => Tryd.call25 _ _) (fun w _ hS => (by exact imp_c a ca (f)  (q3.map (fun b => ⟨b, 0, none⟩)) cap3 (canT (.un 9 i 0 0 (.un 10 i 0 0 (topT f))))  w (ha.ex0 hS.ext) (by unfold maxLen; omega) (faAt hS 0 rfl (fun e => (hq3 e).1)) (by unfold maxLen; omega))) ?_
                    rintro v w1 w2 Y' hS he ho
                    rw [imp_bld hF fKQ (by omega), ← hp] at ho
                    obtain ⟨qI, capI, spI, rfl, hqI, hcapI, hS'⟩ := gainN hS he ho
                    refine ⟨_, hS', ?_⟩
                    -- heap: qI q3 qQ qK
                    refine GoH.v (Vop.asg rfl rfl rfl rfl) ?_
                    refine GoH.regionEnd ?_
                    refine GoH.inBlock ?_
                    exact K ⟨(qI, capI, spI), hqI, hcapI⟩ _ _ (by repeat (first | exact SubF.nil | refine SubF.cons rfl ?_)) (fun _ _ hS => hS.subH (.cons_cons _ (List.nil_sublist _)))
                  · -- no
                    have hp3 : p ≠ 3 := by simpa using hc
                    refine GoH.seq ?_
                    refine GoH.region ?_
                    refine GoH.v (Vop.bin rfl rfl rfl rfl bEq rfl) ?_
                    refine GoH.v (Vop.asg rfl rfl rfl rfl) ?_
                    refine GoH.regionEnd ?_
                    refine GoH.cond rfl (fun hc => ?_) (fun hc => ?_)
                    · -- yes
                      have hp4 : p = 4 := by simpa using hc
                      have hp : axT p i (topT f) = .bin 7 0 0 0 (.un 9 i 0 0 (topT f)) (.un 9 i 0 0 (.un 9 i 0 0 (topT f))) := by unfold axT; rw [if_neg hp1, if_neg hp2, if_neg hp3, if_pos hp4]
                      refine GoH.region ?_
                      refine GoH.v (Vop.mv rfl rfl rfl rfl) ?_
                      refine GoH.v (Vop.mv rfl rfl rfl rfl) ?_
                      refine GoH.v (Vop.mv rfl rfl rfl rfl) ?_
                      refine GoH.callM _ rfl rfl rfl rfl rfl (fun _ _ => Tryd.call23 _ _) (fun w _ hS => (by exact know_c i (qK.map (fun b => ⟨b, 0, none⟩)) capK (canT (.un 9 i 0 0 (topT f)))  w (faAt hS 1 rfl (fun e => (hqK e).1)) (by unfold maxLen; omega))) ?_
                      rintro v w1 w2 Y' hS he ho
                      rw [un_bld fK (.inl rfl) h4' h5' (by omega)] at ho
                      obtain ⟨q3, cap3, sp3, rfl, hq3, hcap3, hS'⟩ := gainN hS he ho
                      refine ⟨_, hS', ?_⟩
                      -- heap: q3 qQ qK
                      refine GoH.callM _ rfl rfl rfl rfl rfl (fun _ _ => Tryd.call25 _ _) (fun w _ hS => (by exact imp_c (qK.map (fun b => ⟨b, 0, none⟩)) capK (canT (.un 9 i 0 0 (topT f)))  (q3.map (fun b => ⟨b, 0, none⟩)) cap3 (canT (.un 9 i 0 0 (.un 9 i 0 0 (topT f))))  w (faAt hS 2 rfl (fun e => (hqK e).1)) (by unfold maxLen; omega) (faAt hS 0 rfl (fun e => (hq3 e).1)) (by unfold maxLen; omega))) ?_
                      rintro v w1 w2 Y' hS he ho
                      rw [imp_bld fK fKK (by omega), ← hp] at ho
                      obtain ⟨qI, capI, spI, rfl, hqI, hcapI, hS'⟩ := gainN hS he ho
                      refine ⟨_, hS', ?_⟩
                      -- heap: qI q3 qQ qK
                      refine GoH.v (Vop.asg rfl rfl rfl rfl) ?_
                      refine GoH.regionEnd ?_
                      refine GoH.inBlock ?_
                      exact K ⟨(qI, capI, spI), hqI, hcapI⟩ _ _ (by repeat (first | exact SubF.nil | refine SubF.cons rfl ?_)) (fun _ _ hS => hS.subH (.cons_cons _ (List.nil_sublist _)))
                    · -- no
                      have hp4 : p ≠ 4 := by simpa using hc
                      have hp : axT p i (topT f) = .bin 7 0 0 0 (.un 10 i 0 0 (topT f)) (.un 9 i 0 0 (.un 10 i 0 0 (topT f))) := by unfold axT; rw [if_neg hp1, if_neg hp2, if_neg hp3, if_neg hp4]
                      refine GoH.region ?_
                      refine GoH.v (Vop.mv rfl rfl rfl rfl) ?_
                      refine GoH.v (Vop.mv rfl rfl rfl rfl) ?_
                      refine GoH.v (Vop.mv rfl rfl rfl rfl) ?_
                      refine GoH.callM _ rfl rfl rfl rfl rfl (fun _ _ => Tryd.call23 _ _) (fun w _ hS => (by exact know_c i (qQ.map (fun b => ⟨b, 0, none⟩)) capQ (canT (.un 10 i 0 0 (topT f)))  w (faAt hS 0 rfl (fun e => (hqQ e).1)) (by unfold maxLen; omega))) ?_
                      rintro v w1 w2 Y' hS he ho
                      rw [un_bld fQ (.inl rfl) h4' h5' (by omega)] at ho
                      obtain ⟨q3, cap3, sp3, rfl, hq3, hcap3, hS'⟩ := gainN hS he ho
                      refine ⟨_, hS', ?_⟩
                      -- heap: q3 qQ qK
                      refine GoH.callM _ rfl rfl rfl rfl rfl (fun _ _ => Tryd.call25 _ _) (fun w _ hS => (by exact imp_c (qQ.map (fun b => ⟨b, 0, none⟩)) capQ (canT (.un 10 i 0 0 (topT f)))  (q3.map (fun b => ⟨b, 0, none⟩)) cap3 (canT (.un 9 i 0 0 (.un 10 i 0 0 (topT f))))  w (faAt hS 1 rfl (fun e => (hqQ e).1)) (by unfold maxLen; omega) (faAt hS 0 rfl (fun e => (hq3 e).1)) (by unfold maxLen; omega))) ?_
                      rintro v w1 w2 Y' hS he ho
                      rw [imp_bld fQ fKQ (by omega), ← hp] at ho
                      obtain ⟨qI, capI, spI, rfl, hqI, hcapI, hS'⟩ := gainN hS he ho
                      refine ⟨_, hS', ?_⟩
                      -- heap: qI q3 qQ qK
                      refine GoH.v (Vop.asg rfl rfl rfl rfl) ?_
                      refine GoH.regionEnd ?_
                      refine GoH.inBlock ?_
                      exact K ⟨(qI, capI, spI), hqI, hcapI⟩ _ _ (by repeat (first | exact SubF.nil | refine SubF.cons rfl ?_)) (fun _ _ hS => hS.subH (.cons_cons _ (List.nil_sublist _)))
end Go.Proofs.YtbjopkllkoomkaaDoor
