/- Contracts of functions of the program: what each call returns and that nothing else of memory is turned, under the conditions that each theorem states. -/
import Derived.Test.YtpifbcbdbkbbjaaDoorF2
namespace Go.Proofs.YtpifbcbdbkbbjaaDoor
open Go.RowKit Go.Proofs.Wit
/-! logics -/
def PropsIs (w w' : World) (v : Value) (l : Int) : Prop := ∃ sv, v = .tuple #[sv, .int .i64 (propsE l)] ∧ OwnS I64 3 w w' sv (propsL l)
theorem gainP {w0 w w' : World} {S : List Nat} {h : Hl} {Y : List (Nat × Obj)} (s : St w0 S w h Y) (e : Ex [] w w') {v : Value} {l : Int} (ho : PropsIs w w' v l) :
    ∃ q cap sp, v = .tuple #[osv q (propsL l).length cap, .int .i64 (propsE l)] ∧ (q = none → (propsL l).length = 0 ∧ cap = 0) ∧ ((propsL l).map I64 ++ sp).length = cap ∧ St w0 S w' ((q, ob I64 3 (propsL l) sp) :: h) Y := by
  obtain ⟨sv, rfl, ho⟩ := ho
  obtain ⟨q, cap, sp, rfl, h⟩ := gainS s e ho
  exact ⟨q, cap, sp, rfl, h⟩
def ErrsIs (w w' : World) (v : Value) (m : MV) (l : Int) : Prop := ∃ sv, v = .tuple #[sv, .int .i64 (errE m.n m.val m.rel l)] ∧ OwnS I64 3 w w' sv (errP m.n m.val m.rel l)
theorem few_c (m : MV) (x : Int) (w : World) (hm : m.At w) : Cn Tryd.prog 10 [m.v, .int .i64 x] w (fun v _ => ∃ b, v = .bool b) := by
  have hlr := hm.lr
  unfold maxLen at hlr
  refine Cn.of Tryd.func10 rfl rfl ?_
  refine GoH.seq ?_
  refine GoH.region ?_
  refine GoH.bx rfl rfl rfl rfl (fun b2 => ?_)
  refine GoH.v (Vop.asg rfl rfl rfl rfl) ?_
  refine GoH.regionEnd ?_
  refine GoH.seq ?_
  refine GoH.seq ?_
  refine GoH.regionK (α := Bool) [] (fun b => [(2, .pointer (some ⟨b2, 0, none⟩)), (26, .bool b)]) (fun _ => [(some b2, .cells m.v.cells 25 (0, 0))]) (fun b => ?_) (fun K => ?_)
  -- at: ref.go:278
  -- rest:
  -- heap: b2
  -- ptr: 2=b2
  · -- what comes behind the region
    refine GoH.regionEnd ?_
    refine GoH.cond rfl (fun hc => ?_) (fun hc => ?_)
    · -- yes
      refine GoH.seq ?_
      refine GoH.region ?_
      refine GoH.v (Vop.asg rfl rfl rfl rfl) ?_
      refine GoH.regionEnd ?_
      refine GoH.ret Tryd.f10 Tryd.func10 rfl (fun w' hS => ?_)
      exact ⟨hS.ext, _, rfl⟩
    · -- no
      refine GoH.skip ?_
      refine GoH.seq ?_
      refine GoH.seq ?_
      refine GoH.region ?_
      refine GoH.v (Vop.asg rfl rfl rfl rfl) ?_
      refine GoH.regionEnd ?_
      refine GoH.block ?_
      refine GoH.loop (σ := Nat) (fun k => [(2, .pointer (some ⟨b2, 0, none⟩)), (5, .int .i64 k)]) (fun _ => [(some b2, .cells m.v.cells 25 (0, 0))])
        (fun k => k ≤ m.rows.length) (fun k => m.rows.length - k) 0 (Nat.zero_le _) ⟨rfl, rfl, trivial⟩ (List.Sublist.refl _) (fun k hI IH => ?_)
      -- heap: b2
      -- ptr: 2=b2
      refine GoH.seq ?_
      refine GoH.seq ?_
      refine GoH.region ?_
      refine GoH.v (Vop.mv rfl rfl rfl rfl) ?_
      refine GoH.v (Vop.fldP rfl rfl rfl rfl Tryd.underlying25 rfl (by exact Tryd.sizeOf23) 2 rfl) ?_
      refine GoH.v (Vop.ldo rfl rfl rfl rfl Tryd.isAgg23 0 rfl rfl) ?_
      refine GoH.v (Vop.blt rfl rfl rfl (blt_len_slice Tryd.underlying23) rfl) ?_
      refine GoH.v (Vop.bin rfl rfl rfl rfl bLt rfl) ?_
      refine GoH.regionEnd ?_
      refine GoH.cond rfl (fun hc => ?_) (fun hc => ?_)
      · -- yes
        have hlt : k < m.rows.length := by simpa using hc
        refine GoH.skip ?_
        refine GoH.seq ?_
        refine GoH.block ?_
        refine GoH.seq ?_
        refine GoH.region ?_
        refine GoH.v (Vop.fldP rfl rfl rfl rfl Tryd.underlying25 rfl (by exact Tryd.sizeOf23) 2 rfl) ?_
        refine GoH.v (Vop.ldo rfl rfl rfl rfl Tryd.isAgg23 0 rfl rfl) ?_
        refine GoH.v (Vop.mv rfl rfl rfl rfl) ?_
        refine GoH.v (Vop.idx rfl rfl rfl rfl rfl Tryd.underlying23 Tryd.sizeOf22 ⟨_, hm.rel⟩ (by simp) (k) ⟨rfl, by simpa using hlt⟩) ?_
        refine GoH.v (Vop.ld rfl rfl rfl rfl Tryd.isAgg22 (fun w _ hS => (SlR.ex0 hm.rel hS.ext).at (k) hlt)) ?_
        refine GoH.v (Vop.blt rfl rfl rfl (blt_len_slice Tryd.underlying22) rfl) ?_
        refine GoH.v (Vop.bin rfl rfl rfl rfl bGt rfl) ?_
        refine GoH.regionEnd ?_
        refine GoH.cond rfl (fun hc => ?_) (fun hc => ?_)
        · -- yes
          refine GoH.seq ?_
          refine GoH.region ?_
          refine GoH.v (Vop.asg rfl rfl rfl rfl) ?_
          refine GoH.regionEnd ?_
          refine GoH.ret Tryd.f10 Tryd.func10 rfl (fun w' hS => ?_)
          exact ⟨hS.ext, _, rfl⟩
        · -- no
          refine GoH.skip ?_
          refine GoH.inBlock ?_
          refine GoH.region ?_
          refine GoH.v (Vop.mv rfl rfl rfl rfl) ?_
          refine GoH.v (Vop.bin rfl rfl rfl rfl (bAdd (by omega)) rfl) ?_
          refine GoH.v (Vop.asg rfl rfl rfl rfl) ?_
          refine GoH.regionEnd ?_
          exact IH (k + 1) _ _ hlt (by omega) ⟨rfl, rfl, trivial⟩ (List.Sublist.refl _)
      · -- no
        refine GoH.exit rfl ?_
        refine GoH.seq ?_
        refine GoH.region ?_
        refine GoH.v (Vop.asg rfl rfl rfl rfl) ?_
        refine GoH.regionEnd ?_
        refine GoH.ret Tryd.f10 Tryd.func10 rfl (fun w' hS => ?_)
        exact ⟨hS.ext, _, rfl⟩
  · -- the region
    refine GoH.region ?_
    refine GoH.v (Vop.fldP rfl rfl rfl rfl Tryd.underlying25 rfl (by exact Tryd.sizeOf3) 0 rfl) ?_
    refine GoH.v (Vop.ldo rfl rfl rfl rfl Tryd.isAgg3 0 rfl rfl) ?_
    refine GoH.v (Vop.mv rfl rfl rfl rfl) ?_
    refine GoH.v (Vop.bin rfl rfl rfl rfl bGt rfl) ?_
    refine GoH.v (Vop.mv rfl rfl rfl rfl) ?_
    -- guard on slot 10 (ref.go:278)
    refine GoH.cases (d := 10) rfl (fun hc => ?_) (fun hc => ?_)
    · -- yes
      refine GoH.v (Vop.fldP rfl rfl rfl rfl Tryd.underlying25 rfl (by exact Tryd.sizeOf3) 0 rfl) ?_
      refine GoH.v (Vop.ldo rfl rfl rfl rfl Tryd.isAgg3 0 rfl rfl) ?_
      refine GoH.v (Vop.bin rfl rfl rfl rfl bLe rfl) ?_
      refine GoH.v (Vop.pickT rfl rfl rfl rfl rfl) ?_
      refine GoH.v (Vop.mv rfl rfl rfl rfl) ?_
      -- guard on slot 15 (ref.go:278)
      refine GoH.cases (d := 15) rfl (fun hc => ?_) (fun hc => ?_)
      · -- yes
        refine GoH.no rfl rfl rfl rfl ?_
        refine GoH.no rfl rfl rfl rfl ?_
        refine GoH.no rfl rfl rfl rfl ?_
        refine GoH.no rfl rfl rfl rfl ?_
        refine GoH.v (Vop.pickT rfl rfl rfl rfl rfl) ?_
        refine GoH.v (Vop.mv rfl rfl rfl rfl) ?_
        refine GoH.no rfl rfl rfl rfl ?_
        refine GoH.no rfl rfl rfl rfl ?_
        refine GoH.no rfl rfl rfl rfl ?_
        refine GoH.no rfl rfl rfl rfl ?_
        refine GoH.v (Vop.pickT rfl rfl rfl rfl rfl) ?_
        exact K _ _ _ (by repeat (first | exact SubF.nil | refine SubF.cons rfl ?_)) (fun _ _ hS => hS)
      · -- no
        refine GoH.v (Vop.fldP rfl rfl rfl rfl Tryd.underlying25 rfl (by exact Tryd.sizeOf22) 1 rfl) ?_
        refine GoH.v (Vop.ldo rfl rfl rfl rfl Tryd.isAgg22 0 rfl rfl) ?_
        refine GoH.v (Vop.blt rfl rfl rfl (blt_len_slice Tryd.underlying22) rfl) ?_
        refine GoH.v (Vop.bin rfl rfl rfl rfl bGt rfl) ?_
        refine GoH.v (Vop.pickF rfl rfl rfl rfl rfl) ?_
        refine GoH.v (Vop.mv rfl rfl rfl rfl) ?_
        -- guard on slot 21 (ref.go:278)
        refine GoH.cases (d := 21) rfl (fun hc => ?_) (fun hc => ?_)
        · -- yes
          refine GoH.no rfl rfl rfl rfl ?_
          refine GoH.no rfl rfl rfl rfl ?_
          refine GoH.no rfl rfl rfl rfl ?_
          refine GoH.no rfl rfl rfl rfl ?_
          refine GoH.v (Vop.pickT rfl rfl rfl rfl rfl) ?_
          exact K _ _ _ (by repeat (first | exact SubF.nil | refine SubF.cons rfl ?_)) (fun _ _ hS => hS)
        · -- no
          refine GoH.v (Vop.fldP rfl rfl rfl rfl Tryd.underlying25 rfl (by exact Tryd.sizeOf23) 2 rfl) ?_
          refine GoH.v (Vop.ldo rfl rfl rfl rfl Tryd.isAgg23 0 rfl rfl) ?_
          refine GoH.v (Vop.blt rfl rfl rfl (blt_len_slice Tryd.underlying23) rfl) ?_
          refine GoH.v (Vop.bin rfl rfl rfl rfl bGt rfl) ?_
          refine GoH.v (Vop.pickF rfl rfl rfl rfl rfl) ?_
          exact K _ _ _ (by repeat (first | exact SubF.nil | refine SubF.cons rfl ?_)) (fun _ _ hS => hS)
    · -- no
      refine GoH.no rfl rfl rfl rfl ?_
      refine GoH.no rfl rfl rfl rfl ?_
      refine GoH.no rfl rfl rfl rfl ?_
      refine GoH.v (Vop.pickF rfl rfl rfl rfl rfl) ?_
      refine GoH.v (Vop.mv rfl rfl rfl rfl) ?_
      refine GoH.v (Vop.fldP rfl rfl rfl rfl Tryd.underlying25 rfl (by exact Tryd.sizeOf22) 1 rfl) ?_
      refine GoH.v (Vop.ldo rfl rfl rfl rfl Tryd.isAgg22 0 rfl rfl) ?_
      refine GoH.v (Vop.blt rfl rfl rfl (blt_len_slice Tryd.underlying22) rfl) ?_
      refine GoH.v (Vop.bin rfl rfl rfl rfl bGt rfl) ?_
      refine GoH.v (Vop.pickF rfl rfl rfl rfl rfl) ?_
      refine GoH.v (Vop.mv rfl rfl rfl rfl) ?_
      -- guard on slot 21 (ref.go:278)
      refine GoH.cases (d := 21) rfl (fun hc => ?_) (fun hc => ?_)
      · -- yes
        refine GoH.no rfl rfl rfl rfl ?_
        refine GoH.no rfl rfl rfl rfl ?_
        refine GoH.no rfl rfl rfl rfl ?_
        refine GoH.no rfl rfl rfl rfl ?_
        refine GoH.v (Vop.pickT rfl rfl rfl rfl rfl) ?_
        exact K _ _ _ (by repeat (first | exact SubF.nil | refine SubF.cons rfl ?_)) (fun _ _ hS => hS)
      · -- no
        refine GoH.v (Vop.fldP rfl rfl rfl rfl Tryd.underlying25 rfl (by exact Tryd.sizeOf23) 2 rfl) ?_
        refine GoH.v (Vop.ldo rfl rfl rfl rfl Tryd.isAgg23 0 rfl rfl) ?_
        refine GoH.v (Vop.blt rfl rfl rfl (blt_len_slice Tryd.underlying23) rfl) ?_
        refine GoH.v (Vop.bin rfl rfl rfl rfl bGt rfl) ?_
        refine GoH.v (Vop.pickF rfl rfl rfl rfl rfl) ?_
        exact K _ _ _ (by repeat (first | exact SubF.nil | refine SubF.cons rfl ?_)) (fun _ _ hS => hS)
end Go.Proofs.YtpifbcbdbkbbjaaDoor
