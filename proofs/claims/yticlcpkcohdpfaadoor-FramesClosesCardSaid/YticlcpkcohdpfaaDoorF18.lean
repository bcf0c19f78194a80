/- Contracts of functions of the program: what each call returns and that nothing else of memory is turned, under the conditions that each theorem states. -/
import Derived.Test.YticlcpkcohdpfaaDoorF17
import Derived.Test.YticlcpkcohdpfaaDoorWF
namespace Go.Proofs.YticlcpkcohdpfaaDoor
open Go.RowKit Go.Proofs.Wit
/-! the laws of chapter 15, 7 -/
theorem rSame_v (a : Option Addr) (ca : Nat) (xs : List W64) (b : Option Addr) (cb : Nat) (ys : List W64) (w : World) (ha : SlU w a xs) (hb : SlU w b ys) (hl : xs.length ≤ maxLen) (h : xs = ys) :
    Cn Tryd.prog 24 [.slice a xs.length ca, .slice b ys.length cb] w (fun v _ => v = .bool true) := (rSame_c a ca xs b cb ys w ha hb hl).mono (fun v w' _ e => by rw [e, h]; simp)
theorem sameM_t (m m' : MV) (w : World) (hm : m.At w) (hm' : m'.At w) (h : m.n = m'.n ∧ m.val = m'.val ∧ m.rel = m'.rel) : Cn Tryd.prog 14 [m.v, m'.v] w (fun v _ => v = .bool true) := (sameM_c m m' w hm hm').mono (fun v w' _ e => by rw [e, sameM_refl h])
theorem inM_t (m : MV) (l : Int) (w : World) (hT : Tab w) (hm : m.At w) (h : inM m.n m.val m.rel l = true) : Cn Tryd.prog 22 [m.v, .int .i64 l] w (fun v _ => v = .bool true) := (in_c m l w hT hm).mono (fun v w' _ e => by rw [e, h])
set_option maxRecDepth 8000 in
theorem least15_c (m : MV) (a : Option Addr) (ca : Nat) (r : List W64) (l : Int) (w : World) (hT : Tab w) (hm : m.At w) (ha : SlU w a r) (hl : r.length ≤ maxLen) :
    Cn Tryd.prog 6 [m.v, .slice a r.length ca, .int .i64 l] w (fun v _ => v = .bool true) := by
  refine Cn.of Tryd.func6 rfl rfl ?_
  refine GoH.seq ?_
  refine GoH.region ?_
  refine GoH.bx rfl rfl rfl rfl (fun b3 => ?_)
  refine GoH.v (Vop.asg rfl rfl rfl rfl) ?_
  refine GoH.regionEnd ?_
  refine GoH.seq ?_
  refine GoH.seq ?_
  refine GoH.region ?_
  refine GoH.v (Vop.ldB rfl rfl rfl rfl Tryd.isAgg25 0 rfl Tryd.sizeOf25 rfl) ?_
  refine GoH.callM _ rfl rfl rfl rfl rfl (fun _ _ => Tryd.call10 _ _) (fun w _ hS => few_c m 10 w (hm.ex0 hS.ext)) ?_
  rintro v w1 w2 Y' hS he ⟨b, rfl⟩
  refine ⟨_, hS.later he, ?_⟩
  refine GoH.v (Vop.un rfl rfl rfl uNot rfl) ?_
  refine GoH.regionEnd ?_
  refine GoH.cond rfl (fun hc => ?_) (fun hc => ?_)
  · -- yes
    refine GoH.seq ?_
    refine GoH.region ?_
    refine GoH.callP rfl rfl rfl rfl rfl (fun _ _ => Tryd.call11 _ _) (fun w _ hS => awake15_c w (hT.ex hS.ext)) ?_
    refine GoH.v (Vop.asg rfl rfl rfl rfl) ?_
    refine GoH.regionEnd ?_
    refine GoH.ret Tryd.f6 Tryd.func6 rfl (fun w' hS => ?_)
    exact ⟨hS.ext, rfl⟩
  · -- no
    refine GoH.skip ?_
    refine GoH.seq ?_
    refine GoH.region ?_
    refine GoH.v (Vop.ldB rfl rfl rfl rfl Tryd.isAgg25 0 rfl Tryd.sizeOf25 rfl) ?_
    refine GoH.v (Vop.mv rfl rfl rfl rfl) ?_
    refine GoH.callM _ rfl rfl rfl rfl rfl (fun _ _ => Tryd.call12 _ _) (fun w _ hS => (by exact close_c m l w (hT.ex hS.ext) (hm.ex0 hS.ext))) ?_
    rintro v w1 w2 Y' hS he ⟨A, H1, rfl, hN1, hI1, hcA⟩
    have hA2 := hI1.at (hS.gainR he hN1 |>.subH (List.sublist_append_right _ _))
    refine ⟨_, hS.gainR he hN1, ?_⟩
    -- heap: b3
    -- mdl: b7=A
    refine GoH.v (Vop.mv rfl rfl rfl rfl) ?_
    refine GoH.v (Vop.ext rfl rfl rfl rfl rfl) ?_
    refine GoH.v (Vop.ext rfl rfl rfl rfl rfl) ?_
    refine GoH.alc rfl rfl rfl (fun _ => Tryd.zeroValue25 _) (fun b7 => ?_)
    refine GoH.stB rfl rfl rfl rfl Tryd.sizeOf25 0 rfl rfl rfl rfl ?_
    refine GoH.v (Vop.asg rfl rfl rfl rfl) ?_
    refine GoH.regionEnd ?_
    refine GoH.seq ?_
    refine GoH.seq ?_
    refine GoH.region ?_
    refine GoH.v (Vop.mv rfl rfl rfl rfl) ?_
    refine GoH.v (Vop.bin rfl rfl rfl rfl bNe rfl) ?_
    refine GoH.regionEnd ?_
    refine GoH.cond rfl (fun hc => ?_) (fun hc => ?_)
    · -- yes
      refine GoH.seq ?_
      refine GoH.region ?_
      refine GoH.callP rfl rfl rfl rfl rfl (fun _ _ => Tryd.call11 _ _) (fun w _ hS => awake15_c w (hT.ex hS.ext)) ?_
      refine GoH.v (Vop.asg rfl rfl rfl rfl) ?_
      refine GoH.regionEnd ?_
      refine GoH.ret Tryd.f6 Tryd.func6 rfl (fun w' hS => ?_)
      exact ⟨hS.ext, rfl⟩
    · -- no
      have h0 : errE m.n m.val m.rel l = 0 := by simpa using hc
      obtain ⟨hV, hE, _⟩ := errE_zero h0
      have hF := hcA.full h0
      have hVA := hF.valid hV
      have hInA := hF.inM hV hE
      have h0A : errE A.n A.val A.rel l = 0 := by rw [errE, if_neg (by rw [checkM_zero.2 hVA]; simp), hE]
      have hlen : A.rows.length = m.rows.length := by simpa [MV.rel] using hF.len
      have hag := hV.agents
      have hagl : m.rel.length = m.rows.length := by simp [MV.rel]
      have hn1 := hV.n1
      have hn64 := hV.n64
      refine GoH.skip ?_
      refine GoH.seq ?_
      refine GoH.region ?_
      refine GoH.v (Vop.ldB rfl rfl rfl rfl Tryd.isAgg25 0 rfl Tryd.sizeOf25 rfl) ?_
      refine GoH.v (Vop.mv rfl rfl rfl rfl) ?_
      refine GoH.callM _ rfl rfl rfl rfl rfl (fun _ _ => Tryd.call12 _ _) (fun w _ hS => (by exact close_c A l w (hT.ex hS.ext) ((hI1.mono (fun x hx => by simp [hx])).at hS))) ?_
      rintro v w1 w2' Y' hS he ⟨B, H2, rfl, hN2, hI2, hcB⟩
      have hFB := hcB.full h0A
      have hsB := hFB.same (fun r hr => hF.has hE r hr)
      refine ⟨_, hS.gainR he hN2, ?_⟩
      -- heap: b7 b3
      -- mdl: b9=B
      refine GoH.v (Vop.mv rfl rfl rfl rfl) ?_
      refine GoH.v (Vop.ext rfl rfl rfl rfl rfl) ?_
      refine GoH.v (Vop.ext rfl rfl rfl rfl rfl) ?_
      refine GoH.alc rfl rfl rfl (fun _ => Tryd.zeroValue25 _) (fun b9 => ?_)
      refine GoH.stB rfl rfl rfl rfl Tryd.sizeOf25 0 rfl rfl rfl rfl ?_
      refine GoH.v (Vop.asg rfl rfl rfl rfl) ?_
      refine GoH.regionEnd ?_
      refine GoH.seq ?_
      refine GoH.seq ?_
      refine GoH.region ?_
      refine GoH.v (Vop.mv rfl rfl rfl rfl) ?_
      refine GoH.v (Vop.bin rfl rfl rfl rfl (bNeV (v := false) (by rw [h0A]; rfl)) rfl) ?_
      refine GoH.v (Vop.mv rfl rfl rfl rfl) ?_
      refine GoH.v (Vop.ldB rfl rfl rfl rfl Tryd.isAgg25 1 rfl Tryd.sizeOf25 rfl) ?_
      refine GoH.v (Vop.mv rfl rfl rfl rfl) ?_
      refine GoH.callP rfl rfl rfl rfl rfl (fun _ _ => Tryd.call22 _ _) (fun w _ hS => (by exact inM_t A l w (hT.ex hS.ext) ((hI1.mono (fun x hx => by simp [hx])).at hS) hInA)) ?_
      refine GoH.v (Vop.un rfl rfl rfl uNot rfl) ?_
      refine GoH.v (Vop.pickF rfl rfl rfl rfl rfl) ?_
      refine GoH.v (Vop.mv rfl rfl rfl rfl) ?_
      refine GoH.v (Vop.ldB rfl rfl rfl rfl Tryd.isAgg25 1 rfl Tryd.sizeOf25 rfl) ?_
      refine GoH.v (Vop.ldB rfl rfl rfl rfl Tryd.isAgg25 0 rfl Tryd.sizeOf25 rfl) ?_
      refine GoH.callP rfl rfl rfl rfl rfl (fun _ _ => Tryd.call14 _ _) (fun w _ hS => (by exact sameM_t A B w ((hI1.mono (fun x hx => by simp [hx])).at hS) ((hI2.mono (fun x hx => by simp [hx])).at hS) ⟨hsB.1.symm, hsB.2.1.symm, hsB.2.2.symm⟩)) ?_
      refine GoH.v (Vop.un rfl rfl rfl uNot rfl) ?_
      refine GoH.v (Vop.pickF rfl rfl rfl rfl rfl) ?_
      refine GoH.v (Vop.mv rfl rfl rfl rfl) ?_
      refine GoH.v (Vop.fldP rfl rfl rfl rfl Tryd.underlying25 rfl Tryd.sizeOf3 0 rfl) ?_
      refine GoH.v (Vop.ldo (v := .int .i64 A.n) rfl rfl rfl rfl Tryd.isAgg3 1 rfl rfl) ?_
      refine GoH.v (Vop.fldP rfl rfl rfl rfl Tryd.underlying25 rfl Tryd.sizeOf3 0 rfl) ?_
      refine GoH.v (Vop.ldo (v := .int .i64 m.n) rfl rfl rfl rfl Tryd.isAgg3 2 rfl rfl) ?_
      refine GoH.v (Vop.bin rfl rfl rfl rfl (bNeV (v := false) (by rw [hF.n_]; exact bne_self_eq_false _)) rfl) ?_
      refine GoH.v (Vop.pickF rfl rfl rfl rfl rfl) ?_
      refine GoH.v (Vop.mv rfl rfl rfl rfl) ?_
      refine GoH.v (Vop.fldP rfl rfl rfl rfl Tryd.underlying25 rfl Tryd.sizeOf23 2 rfl) ?_
      refine GoH.v (Vop.ldo (v := .slice A.ra A.rows.length A.rc) rfl rfl rfl rfl Tryd.isAgg23 1 rfl rfl) ?_
      refine GoH.v (Vop.blt rfl rfl rfl (blt_len_slice Tryd.underlying23) rfl) ?_
      refine GoH.v (Vop.fldP rfl rfl rfl rfl Tryd.underlying25 rfl Tryd.sizeOf23 2 rfl) ?_
      refine GoH.v (Vop.ldo (v := .slice m.ra m.rows.length m.rc) rfl rfl rfl rfl Tryd.isAgg23 2 rfl rfl) ?_
      refine GoH.v (Vop.blt rfl rfl rfl (blt_len_slice Tryd.underlying23) rfl) ?_
      refine GoH.v (Vop.bin rfl rfl rfl rfl (bNeV (v := false) (by rw [hlen]; exact bne_self_eq_false _)) rfl) ?_
      refine GoH.v (Vop.pickF rfl rfl rfl rfl rfl) ?_
      refine GoH.v (Vop.mv rfl rfl rfl rfl) ?_
      refine GoH.v (Vop.fldP rfl rfl rfl rfl Tryd.underlying25 rfl Tryd.sizeOf22 1 rfl) ?_
      refine GoH.v (Vop.ldo (v := .slice A.va A.val.length A.vc) rfl rfl rfl rfl Tryd.isAgg22 1 rfl rfl) ?_
      refine GoH.v (Vop.fldP rfl rfl rfl rfl Tryd.underlying25 rfl Tryd.sizeOf22 1 rfl) ?_
      refine GoH.v (Vop.ldo (v := .slice m.va m.val.length m.vc) rfl rfl rfl rfl Tryd.isAgg22 2 rfl rfl) ?_
      refine GoH.callP rfl rfl rfl rfl rfl (fun _ _ => Tryd.call24 _ _) (fun w _ hS => (by exact rSame_v A.va A.vc A.val m.va m.vc m.val w ((hI1.mono (fun x hx => by simp [hx])).at hS).val (hm.ex0 hS.ext).val hI1.lv hF.val_)) ?_
      refine GoH.v (Vop.un rfl rfl rfl uNot rfl) ?_
      refine GoH.v (Vop.pickF rfl rfl rfl rfl rfl) ?_
      refine GoH.regionEnd ?_
      refine GoH.condF rfl ?_
      refine GoH.skip ?_
      refine GoH.seq ?_
      refine GoH.seq ?_
      refine GoH.regionK (α := Unit) [] (fun _ => [(1, .slice a r.length ca), (2, .int .i64 l), (3, .pointer (some ⟨b3, 0, none⟩)), (7, .pointer (some ⟨b7, 0, none⟩)), (81, .bool false)]) (fun _ => [(some b7, .cells A.v.cells 25 (0, 0)), (some b3, .cells m.v.cells 25 (0, 0))] ++ (H1 ++ H2)) (fun _ => ?_) (fun K => ?_)
      -- at: law.go:151
      -- rest:
      -- known: 81=false
      -- heap: b7 b3
      -- ptr: 7=b7 3=b3
      · -- what comes behind the region
        refine GoH.regionEnd ?_
        refine GoH.condF rfl ?_
        refine GoH.skip ?_
        refine GoH.seq ?_
        refine GoH.regionK (α := {b : Bool // b = true → l ≠ 1 ∧ l ≠ 5 ∧ (r.length : Int) = m.n ∧ hasL r l = true}) [] (fun b => [(1, .slice a r.length ca), (3, .pointer (some ⟨b3, 0, none⟩)), (7, .pointer (some ⟨b7, 0, none⟩)), (11, .bool b.1)]) (fun _ => [(some b7, .cells A.v.cells 25 (0, 0)), (some b3, .cells m.v.cells 25 (0, 0))] ++ (H1 ++ H2)) (fun b0 => ?_) (fun K => ?_)
        -- at: law.go:154
        -- rest:
        -- heap: b7 b3
        -- ptr: 7=b7 3=b3
        · -- what comes behind the region
          refine GoH.regionEnd ?_
          refine GoH.seq ?_
          refine GoH.seq ?_
          refine GoH.region ?_
          refine GoH.v (Vop.asg rfl rfl rfl rfl) ?_
          refine GoH.regionEnd ?_
          refine GoH.block ?_
          obtain ⟨b0, hb0⟩ := b0
          dsimp only
          have hAat : ∀ {w1 : World} {Y' : List (Nat × Obj)}, St w [] w1 ([(some b7, .cells A.v.cells 25 (0, 0)), (some b3, .cells m.v.cells 25 (0, 0))] ++ (H1 ++ H2)) Y' → A.At w1 := fun s => (hI1.mono (fun x hx => by simp [hx])).at s
          refine GoH.loop (σ := Nat) (fun k => [(1, .slice a r.length ca), (3, .pointer (some ⟨b3, 0, none⟩)), (7, .pointer (some ⟨b7, 0, none⟩)), (11, .bool b0), (12, .int .i64 k)]) (fun _ => [(some b7, .cells A.v.cells 25 (0, 0)), (some b3, .cells m.v.cells 25 (0, 0))] ++ (H1 ++ H2))
            (fun k => k ≤ m.rows.length) (fun k => m.rows.length - k) 0 (Nat.zero_le _) ⟨rfl, rfl, rfl, rfl, rfl, trivial⟩ (List.Sublist.refl _) (fun k hk IH => ?_)
          -- heap: b7 b3
          -- ptr: 7=b7 3=b3
          refine GoH.seq ?_
          refine GoH.seq ?_
          refine GoH.region ?_
          refine GoH.v (Vop.mv rfl rfl rfl rfl) ?_
          refine GoH.v (Vop.fldP rfl rfl rfl rfl Tryd.underlying25 rfl Tryd.sizeOf23 2 rfl) ?_
          refine GoH.v (Vop.ldo (v := .slice m.ra m.rows.length m.rc) rfl rfl rfl rfl Tryd.isAgg23 1 rfl rfl) ?_
          refine GoH.v (Vop.blt rfl rfl rfl (blt_len_slice Tryd.underlying23) rfl) ?_
          refine GoH.v (Vop.bin rfl rfl rfl rfl bLt rfl) ?_
          refine GoH.regionEnd ?_
          refine GoH.cond rfl (fun hc => ?_) (fun hc => ?_)
          · -- yes
            have hlt : k < m.rows.length := by simpa using hc
            have hkA : k < A.rows.length := by omega
            have hrow := hm.row m.rows[k] (List.getElem_mem hlt)
            have hrl : (m.rows[k].xs.length : Int) = m.n := hV.len _ (List.mem_map.2 ⟨_, List.getElem_mem hlt, rfl⟩)
            have hle : Le m.rows[k].xs A.rows[k].xs := by
              have := hF.le (i := k) (by simpa [MV.rel] using hlt) (by simpa [MV.rel] using hkA)
              simpa [MV.rel] using this
            have hlst : l ≠ 1 → l ≠ 5 → hasL r l = true → Le m.rows[k].xs r → Le A.rows[k].xs r := fun h1 h2 h3 h4 => by
              have := hF.least (i := k) (by simpa [MV.rel] using hlt) (by simpa [MV.rel] using hkA) h1 h2 h3 (by simpa [MV.rel] using h4)
              simpa [MV.rel] using this
            have hAl := hle.len
            refine GoH.skip ?_
            refine GoH.seq ?_
            refine GoH.block ?_
            refine GoH.seq ?_
            refine GoH.region ?_
            refine GoH.v (Vop.asg rfl rfl rfl rfl) ?_
            refine GoH.regionEnd ?_
            refine GoH.seq ?_
            refine GoH.seq ?_
            refine GoH.region ?_
            refine GoH.v (Vop.asg rfl rfl rfl rfl) ?_
            refine GoH.regionEnd ?_
            refine GoH.block ?_
            refine GoH.loop (σ := Nat × Bool) (fun z => [(1, .slice a r.length ca), (3, .pointer (some ⟨b3, 0, none⟩)), (7, .pointer (some ⟨b7, 0, none⟩)), (11, .bool b0), (12, .int .i64 k), (13, .bool z.2), (14, .int .i64 z.1)]) (fun _ => [(some b7, .cells A.v.cells 25 (0, 0)), (some b3, .cells m.v.cells 25 (0, 0))] ++ (H1 ++ H2))
              (fun z => z.1 ≤ m.rows[k].xs.length ∧ (z.2 = true → (b0 = true ∨ z.1 = 0) ∧ ∀ v, v < z.1 → m.rows[k].xs.getD v 0#64 &&& ~~~(r.getD v 0#64) = 0#64)) (fun z => m.rows[k].xs.length - z.1) (0, true) ⟨Nat.zero_le _, fun _ => ⟨.inr rfl, fun v hv => by omega⟩⟩ ⟨rfl, rfl, rfl, rfl, rfl, rfl, rfl, trivial⟩ (List.Sublist.refl _) (fun z hI IH2 => ?_)
            obtain ⟨x, ins⟩ := z
            obtain ⟨hx, hins⟩ := hI
            dsimp only at hx hins IH2 ⊢
            -- heap: b7 b3
            -- ptr: 7=b7 3=b3
            refine GoH.seq ?_
            refine GoH.seq ?_
            refine GoH.region ?_
            refine GoH.v (Vop.mv rfl rfl rfl rfl) ?_
            refine GoH.v (Vop.fldP rfl rfl rfl rfl Tryd.underlying25 rfl Tryd.sizeOf3 0 rfl) ?_
            refine GoH.v (Vop.ldo (v := .int .i64 m.n) rfl rfl rfl rfl Tryd.isAgg3 1 rfl rfl) ?_
            refine GoH.v (Vop.bin rfl rfl rfl rfl bLt rfl) ?_
            refine GoH.regionEnd ?_
            refine GoH.cond rfl (fun hc => ?_) (fun hc => ?_)
            · -- yes
              have hxl : x < m.rows[k].xs.length := by have : (x : Int) < m.n := by simpa using hc
                                                       omega
              have hxA : x < A.rows[k].xs.length := by omega
              refine GoH.skip ?_
              refine GoH.seq ?_
              refine GoH.block ?_
              refine GoH.seq ?_
              refine GoH.seq ?_
              refine GoH.draw 29 mixed rfl ?_
              refine RdGo.v (Vop.fldP rfl rfl rfl rfl Tryd.underlying25 rfl Tryd.sizeOf23 2 rfl) ?_
              refine RdGo.v (Vop.ldo (v := .slice A.ra A.rows.length A.rc) rfl rfl rfl rfl Tryd.isAgg23 0 rfl rfl) ?_
              refine RdGo.v (Vop.mv rfl rfl rfl rfl) ?_
              refine RdGo.v (Vop.idx rfl rfl rfl rfl rfl Tryd.underlying23 Tryd.sizeOf22 ⟨_, hA2.rel⟩ (by simp) k ⟨rfl, by simpa using hkA⟩) ?_
              refine RdGo.v (Vop.ld rfl rfl rfl rfl Tryd.isAgg22 (fun w _ hS => (hAat hS).rel.at k hkA)) ?_
              refine RdGo.v (Vop.blt rfl rfl rfl (blt_len_slice Tryd.underlying22) rfl) ?_
              refine RdGo.v (Vop.fldP rfl rfl rfl rfl Tryd.underlying25 rfl Tryd.sizeOf3 0 rfl) ?_
              refine RdGo.v (Vop.ldo (v := .int .i64 m.n) rfl rfl rfl rfl Tryd.isAgg3 1 rfl rfl) ?_
              refine RdGo.v (Vop.bin rfl rfl rfl rfl (bNeV (v := false) (by rw [← hAl, hrl]; exact bne_self_eq_false _)) rfl) ?_
              refine RdGo.v (Vop.mv rfl rfl rfl rfl) ?_
              refine RdGo.v (Vop.fldP rfl rfl rfl rfl Tryd.underlying25 rfl Tryd.sizeOf23 2 rfl) ?_
              refine RdGo.v (Vop.ldo (v := .slice m.ra m.rows.length m.rc) rfl rfl rfl rfl Tryd.isAgg23 1 rfl rfl) ?_
              refine RdGo.v (Vop.mv rfl rfl rfl rfl) ?_
              refine RdGo.v (Vop.idx rfl rfl rfl rfl rfl Tryd.underlying23 Tryd.sizeOf22 ⟨_, hm.rel⟩ (by simp) (k) ⟨rfl, by simpa using hlt⟩) ?_
              refine RdGo.v (Vop.ld rfl rfl rfl rfl Tryd.isAgg22 (fun w _ hS => (SlR.ex0 hm.rel hS.ext).at (k) hlt)) ?_
              refine RdGo.v (Vop.mv rfl rfl rfl rfl) ?_
              refine RdGo.v (Vop.idx rfl rfl rfl rfl rfl Tryd.underlying22 Tryd.sizeOf41 ⟨_, hrow.at_⟩ (by simp) (x) ⟨rfl, by simpa using hxl⟩) ?_
              refine RdGo.v (Vop.ld rfl rfl rfl rfl Tryd.isAgg41 (fun w _ hS => (SlU.ex0 hrow.at_ hS.ext).at (x) hxl)) ?_
              refine RdGo.v (Vop.fldP rfl rfl rfl rfl Tryd.underlying25 rfl Tryd.sizeOf23 2 rfl) ?_
              refine RdGo.v (Vop.ldo (v := .slice A.ra A.rows.length A.rc) rfl rfl rfl rfl Tryd.isAgg23 0 rfl rfl) ?_
              refine RdGo.v (Vop.mv rfl rfl rfl rfl) ?_
              refine RdGo.v (Vop.idx rfl rfl rfl rfl rfl Tryd.underlying23 Tryd.sizeOf22 ⟨_, hA2.rel⟩ (by simp) k ⟨rfl, by simpa using hkA⟩) ?_
              refine RdGo.v (Vop.ld rfl rfl rfl rfl Tryd.isAgg22 (fun w _ hS => (hAat hS).rel.at k hkA)) ?_
              refine RdGo.v (Vop.mv rfl rfl rfl rfl) ?_
              refine RdGo.v (Vop.idx rfl rfl rfl rfl rfl Tryd.underlying22 Tryd.sizeOf41 ⟨_, (hA2.row _ (List.getElem_mem hkA)).at_⟩ (by simp) x ⟨rfl, by simpa using hxA⟩) ?_
              refine RdGo.v (Vop.ld rfl rfl rfl rfl Tryd.isAgg41 (fun w _ hS => ((hAat hS).row _ (List.getElem_mem hkA)).at_.at x hxA)) ?_
              refine RdGo.v (Vop.bin rfl rfl rfl rfl bAndNot rfl) ?_
              refine RdGo.v (Vop.bin (b := U 0#64) rfl rfl rfl rfl (bNeUV (v := false) (by rw [hle.bits x]; rfl)) rfl) ?_
              refine RdGo.v (Vop.pickF rfl rfl rfl rfl rfl) ?_
              refine RdGo.nil ?_
              refine GoH.regionEnd ?_
              refine GoH.condF rfl ?_
              refine GoH.skip ?_
              refine GoH.drawT 20 22 mixed rfl ?_
              refine RdT.v (Vop.mv rfl rfl rfl rfl) ?_
              refine RdT.v (Vop.mv rfl rfl rfl rfl) ?_
              -- guard on slot 143 (law.go:161)
              refine RdT.cases (d := 143) rfl (fun hc => ?_) (fun hc => ?_)
              · -- yes
                have hi := hins hc
                refine RdT.v (Vop.mv rfl rfl rfl rfl) ?_
                refine RdT.v (Vop.pickT rfl rfl rfl rfl rfl) ?_
                refine RdT.v (Vop.mv rfl rfl rfl rfl) ?_
                -- guard on slot 146 (law.go:161)
                refine RdT.cases (d := 146) rfl (fun hc => ?_) (fun hc => ?_)
                · -- yes
                  have hb1 : b0 = true := hc
                  obtain ⟨_, _, hrn, _⟩ := hb0 hb1
                  have hxr : x < r.length := by omega
                  refine RdT.v (Vop.fldP rfl rfl rfl rfl Tryd.underlying25 rfl Tryd.sizeOf23 2 rfl) ?_
                  refine RdT.v (Vop.ldo (v := .slice m.ra m.rows.length m.rc) rfl rfl rfl rfl Tryd.isAgg23 1 rfl rfl) ?_
                  refine RdT.v (Vop.mv rfl rfl rfl rfl) ?_
                  refine RdT.v (Vop.idx rfl rfl rfl rfl rfl Tryd.underlying23 Tryd.sizeOf22 ⟨_, hm.rel⟩ (by simp) (k) ⟨rfl, by simpa using hlt⟩) ?_
                  refine RdT.v (Vop.ld rfl rfl rfl rfl Tryd.isAgg22 (fun w _ hS => (SlR.ex0 hm.rel hS.ext).at (k) hlt)) ?_
                  refine RdT.v (Vop.mv rfl rfl rfl rfl) ?_
                  refine RdT.v (Vop.idx rfl rfl rfl rfl rfl Tryd.underlying22 Tryd.sizeOf41 ⟨_, hrow.at_⟩ (by simp) (x) ⟨rfl, by simpa using hxl⟩) ?_
                  refine RdT.v (Vop.ld rfl rfl rfl rfl Tryd.isAgg41 (fun w _ hS => (SlU.ex0 hrow.at_ hS.ext).at (x) hxl)) ?_
                  refine RdT.v (Vop.mv rfl rfl rfl rfl) ?_
                  refine RdT.v (Vop.mv rfl rfl rfl rfl) ?_
                  refine RdT.v (Vop.idx rfl rfl rfl rfl rfl Tryd.underlying22 Tryd.sizeOf41 ⟨_, ha⟩ (by simp) (x) ⟨rfl, by simpa using hxr⟩) ?_
                  refine RdT.v (Vop.ld rfl rfl rfl rfl Tryd.isAgg41 (fun w _ hS => (SlU.ex0 ha hS.ext).at (x) hxr)) ?_
                  refine RdT.v (Vop.bin rfl rfl rfl rfl bAndNot rfl) ?_
                  refine RdT.v (Vop.bin (b := U 0#64) rfl rfl rfl rfl bEqU rfl) ?_
                  refine RdT.v (Vop.pickT rfl rfl rfl rfl rfl) ?_
                  refine RdT.nil ?_
                  refine Tl.sw [20] rfl rfl ?_
                  refine GoH.v (Vop.asg rfl rfl rfl rfl) ?_
                  refine GoH.regionEnd ?_
                  refine GoH.inBlock ?_
                  refine GoH.region ?_
                  refine GoH.v (Vop.mv rfl rfl rfl rfl) ?_
                  refine GoH.v (Vop.bin rfl rfl rfl rfl (bAdd (by omega)) rfl) ?_
                  refine GoH.v (Vop.asg rfl rfl rfl rfl) ?_
                  refine GoH.regionEnd ?_
                  exact IH2 (x + 1, (m.rows[k].xs.getD x 0#64 &&& ~~~(r.getD x 0#64)) == 0#64) _ _ ⟨hxl, fun h => ⟨.inl hb1, fun v hv => by
                    by_cases e : v = x
                    · subst e; simpa using h
                    · exact hi.2 v (by omega)⟩⟩ (by dsimp only; omega) ⟨rfl, rfl, rfl, rfl, rfl, rfl, rfl, trivial⟩ (List.Sublist.refl _)
                · -- no
                  refine RdT.no rfl rfl rfl rfl rfl ?_
                  refine RdT.no rfl rfl rfl rfl rfl ?_
                  refine RdT.no rfl rfl rfl rfl rfl ?_
                  refine RdT.no rfl rfl rfl rfl rfl ?_
                  refine RdT.no rfl rfl rfl rfl rfl ?_
                  refine RdT.no rfl rfl rfl rfl rfl ?_
                  refine RdT.no rfl rfl rfl rfl rfl ?_
                  refine RdT.no rfl rfl rfl rfl rfl ?_
                  refine RdT.no rfl rfl rfl rfl rfl ?_
                  refine RdT.no rfl rfl rfl rfl rfl ?_
                  refine RdT.no rfl rfl rfl rfl rfl ?_
                  refine RdT.no rfl rfl rfl rfl rfl ?_
                  refine RdT.no rfl rfl rfl rfl rfl ?_
                  refine RdT.no rfl rfl rfl rfl rfl ?_
                  refine RdT.v (Vop.pickF rfl rfl rfl rfl rfl) ?_
                  refine RdT.nil ?_
                  refine Tl.sw [20] rfl rfl ?_
                  refine GoH.v (Vop.asg rfl rfl rfl rfl) ?_
                  refine GoH.regionEnd ?_
                  refine GoH.inBlock ?_
                  refine GoH.region ?_
                  refine GoH.v (Vop.mv rfl rfl rfl rfl) ?_
                  refine GoH.v (Vop.bin rfl rfl rfl rfl (bAdd (by omega)) rfl) ?_
                  refine GoH.v (Vop.asg rfl rfl rfl rfl) ?_
                  refine GoH.regionEnd ?_
                  exact IH2 (x + 1, false) _ _ ⟨hxl, fun h => by cases h⟩ (by dsimp only; omega) ⟨rfl, rfl, rfl, rfl, rfl, rfl, rfl, trivial⟩ (List.Sublist.refl _)
              · -- no
                refine RdT.no rfl rfl rfl rfl rfl ?_
                refine RdT.v (Vop.pickF rfl rfl rfl rfl rfl) ?_
                refine RdT.v (Vop.mv rfl rfl rfl rfl) ?_
                refine RdT.no rfl rfl rfl rfl rfl ?_
                refine RdT.no rfl rfl rfl rfl rfl ?_
                refine RdT.no rfl rfl rfl rfl rfl ?_
                refine RdT.no rfl rfl rfl rfl rfl ?_
                refine RdT.no rfl rfl rfl rfl rfl ?_
                refine RdT.no rfl rfl rfl rfl rfl ?_
                refine RdT.no rfl rfl rfl rfl rfl ?_
                refine RdT.no rfl rfl rfl rfl rfl ?_
                refine RdT.no rfl rfl rfl rfl rfl ?_
                refine RdT.no rfl rfl rfl rfl rfl ?_
                refine RdT.no rfl rfl rfl rfl rfl ?_
                refine RdT.no rfl rfl rfl rfl rfl ?_
                refine RdT.no rfl rfl rfl rfl rfl ?_
                refine RdT.no rfl rfl rfl rfl rfl ?_
                refine RdT.v (Vop.pickF rfl rfl rfl rfl rfl) ?_
                refine RdT.nil ?_
                refine Tl.sw [20] rfl rfl ?_
                refine GoH.v (Vop.asg rfl rfl rfl rfl) ?_
                refine GoH.regionEnd ?_
                refine GoH.inBlock ?_
                refine GoH.region ?_
                refine GoH.v (Vop.mv rfl rfl rfl rfl) ?_
                refine GoH.v (Vop.bin rfl rfl rfl rfl (bAdd (by omega)) rfl) ?_
                refine GoH.v (Vop.asg rfl rfl rfl rfl) ?_
                refine GoH.regionEnd ?_
                exact IH2 (x + 1, false) _ _ ⟨hxl, fun h => by cases h⟩ (by dsimp only; omega) ⟨rfl, rfl, rfl, rfl, rfl, rfl, rfl, trivial⟩ (List.Sublist.refl _)
            · -- no
              have hxl : ¬ x < m.rows[k].xs.length := by have : ¬ (x : Int) < m.n := by simpa using hc
                                                         omega
              obtain rfl : x = m.rows[k].xs.length := by omega
              refine GoH.exit rfl ?_
              refine GoH.seq ?_
              refine GoH.region ?_
              refine GoH.v (Vop.asg rfl rfl rfl rfl) ?_
              refine GoH.regionEnd ?_
              refine GoH.block ?_
              refine GoH.loop (σ := Nat) (fun y => [(1, .slice a r.length ca), (3, .pointer (some ⟨b3, 0, none⟩)), (7, .pointer (some ⟨b7, 0, none⟩)), (11, .bool b0), (12, .int .i64 k), (13, .bool ins), (15, .int .i64 y)]) (fun _ => [(some b7, .cells A.v.cells 25 (0, 0)), (some b3, .cells m.v.cells 25 (0, 0))] ++ (H1 ++ H2))
                (fun y => y ≤ m.rows[k].xs.length) (fun y => m.rows[k].xs.length - y) 0 (Nat.zero_le _) ⟨rfl, rfl, rfl, rfl, rfl, rfl, rfl, trivial⟩ (List.Sublist.refl _) (fun y hy IH3 => ?_)
              -- heap: b7 b3
              -- ptr: 7=b7 3=b3
              refine GoH.seq ?_
              refine GoH.seq ?_
              refine GoH.region ?_
              refine GoH.v (Vop.mv rfl rfl rfl rfl) ?_
              refine GoH.v (Vop.fldP rfl rfl rfl rfl Tryd.underlying25 rfl Tryd.sizeOf3 0 rfl) ?_
              refine GoH.v (Vop.ldo (v := .int .i64 m.n) rfl rfl rfl rfl Tryd.isAgg3 1 rfl rfl) ?_
              refine GoH.v (Vop.bin rfl rfl rfl rfl bLt rfl) ?_
              refine GoH.v (Vop.mv rfl rfl rfl rfl) ?_
              -- guard on slot 166 (law.go:163)
              refine GoH.cases (d := 166) rfl (fun hc => ?_) (fun hc => ?_)
              · -- yes
                have hyl : y < m.rows[k].xs.length := by have : (y : Int) < m.n := by simpa using hc
                                                         omega
                have hyA : y < A.rows[k].xs.length := by omega
                refine GoH.v (Vop.mv rfl rfl rfl rfl) ?_
                refine GoH.v (Vop.pickT rfl rfl rfl rfl rfl) ?_
                refine GoH.regionEnd ?_
                refine GoH.cond rfl (fun hc => ?_) (fun hc => ?_)
                · -- yes
                  obtain ⟨hi1, hi2⟩ := hins hc
                  obtain ⟨g1, g2, g3, g4⟩ := hb0 (hi1.resolve_right (by omega))
                  have hyr : y < r.length := by omega
                  have hAr := hlst g1 g2 g4 (le_of_bits (by omega) hi2)
                  refine GoH.skip ?_
                  refine GoH.seq ?_
                  refine GoH.block ?_
                  refine GoH.seq ?_
                  refine GoH.draw 14 mixed rfl ?_
                  refine RdGo.v (Vop.fldP rfl rfl rfl rfl Tryd.underlying25 rfl Tryd.sizeOf23 2 rfl) ?_
                  refine RdGo.v (Vop.ldo (v := .slice A.ra A.rows.length A.rc) rfl rfl rfl rfl Tryd.isAgg23 0 rfl rfl) ?_
                  refine RdGo.v (Vop.mv rfl rfl rfl rfl) ?_
                  refine RdGo.v (Vop.idx rfl rfl rfl rfl rfl Tryd.underlying23 Tryd.sizeOf22 ⟨_, hA2.rel⟩ (by simp) k ⟨rfl, by simpa using hkA⟩) ?_
                  refine RdGo.v (Vop.ld rfl rfl rfl rfl Tryd.isAgg22 (fun w _ hS => (hAat hS).rel.at k hkA)) ?_
                  refine RdGo.v (Vop.mv rfl rfl rfl rfl) ?_
                  refine RdGo.v (Vop.idx rfl rfl rfl rfl rfl Tryd.underlying22 Tryd.sizeOf41 ⟨_, (hA2.row _ (List.getElem_mem hkA)).at_⟩ (by simp) y ⟨rfl, by simpa using hyA⟩) ?_
                  refine RdGo.v (Vop.ld rfl rfl rfl rfl Tryd.isAgg41 (fun w _ hS => ((hAat hS).row _ (List.getElem_mem hkA)).at_.at y hyA)) ?_
                  refine RdGo.v (Vop.mv rfl rfl rfl rfl) ?_
                  refine RdGo.v (Vop.mv rfl rfl rfl rfl) ?_
                  refine RdGo.v (Vop.idx rfl rfl rfl rfl rfl Tryd.underlying22 Tryd.sizeOf41 ⟨_, ha⟩ (by simp) (y) ⟨rfl, by simpa using hyr⟩) ?_
                  refine RdGo.v (Vop.ld rfl rfl rfl rfl Tryd.isAgg41 (fun w _ hS => (SlU.ex0 ha hS.ext).at (y) hyr)) ?_
                  refine RdGo.v (Vop.bin rfl rfl rfl rfl bAndNot rfl) ?_
                  refine RdGo.v (Vop.bin (b := U 0#64) rfl rfl rfl rfl (bNeUV (v := false) (by rw [hAr.bits y]; rfl)) rfl) ?_
                  refine RdGo.nil ?_
                  refine GoH.regionEnd ?_
                  refine GoH.condF rfl ?_
                  refine GoH.skip ?_
                  refine GoH.inBlock ?_
                  refine GoH.region ?_
                  refine GoH.v (Vop.mv rfl rfl rfl rfl) ?_
                  refine GoH.v (Vop.bin rfl rfl rfl rfl (bAdd (by omega)) rfl) ?_
                  refine GoH.v (Vop.asg rfl rfl rfl rfl) ?_
                  refine GoH.regionEnd ?_
                  exact IH3 (y + 1) _ _ hyl (by omega) ⟨rfl, rfl, rfl, rfl, rfl, rfl, rfl, trivial⟩ (List.Sublist.refl _)
                · -- no
                  refine GoH.exit rfl ?_
                  refine GoH.inBlock ?_
                  refine GoH.region ?_
                  refine GoH.v (Vop.mv rfl rfl rfl rfl) ?_
                  refine GoH.v (Vop.bin rfl rfl rfl rfl (bAdd (by omega)) rfl) ?_
                  refine GoH.v (Vop.asg rfl rfl rfl rfl) ?_
                  refine GoH.regionEnd ?_
                  exact IH (k + 1) _ _ hlt (by omega) ⟨rfl, rfl, rfl, rfl, rfl, trivial⟩ (List.Sublist.refl _)
              · -- no
                refine GoH.no rfl rfl rfl rfl ?_
                refine GoH.v (Vop.pickF rfl rfl rfl rfl rfl) ?_
                refine GoH.regionEnd ?_
                refine GoH.condF rfl ?_
                refine GoH.exit rfl ?_
                refine GoH.inBlock ?_
                refine GoH.region ?_
                refine GoH.v (Vop.mv rfl rfl rfl rfl) ?_
                refine GoH.v (Vop.bin rfl rfl rfl rfl (bAdd (by omega)) rfl) ?_
                refine GoH.v (Vop.asg rfl rfl rfl rfl) ?_
                refine GoH.regionEnd ?_
                exact IH (k + 1) _ _ hlt (by omega) ⟨rfl, rfl, rfl, rfl, rfl, trivial⟩ (List.Sublist.refl _)
          · -- no
            refine GoH.exit rfl ?_
            refine GoH.seq ?_
            refine GoH.region ?_
            refine GoH.callP rfl rfl rfl rfl rfl (fun _ _ => Tryd.call11 _ _) (fun w _ hS => awake15_c w (hT.ex hS.ext)) ?_
            refine GoH.v (Vop.asg rfl rfl rfl rfl) ?_
            refine GoH.regionEnd ?_
            refine GoH.ret Tryd.f6 Tryd.func6 rfl (fun w' hS => ?_)
            exact ⟨hS.ext, rfl⟩
        · -- the region
          refine GoH.region ?_
          refine GoH.v (Vop.mv rfl rfl rfl rfl) ?_
          refine GoH.v (Vop.bin rfl rfl rfl rfl bNe rfl) ?_
          refine GoH.v (Vop.mv rfl rfl rfl rfl) ?_
          -- guard on slot 84 (law.go:154)
          refine GoH.cases (d := 84) rfl (fun hc => ?_) (fun hc => ?_)
          · -- yes
            have g1 : l ≠ 1 := by simpa using hc
            refine GoH.v (Vop.mv rfl rfl rfl rfl) ?_
            refine GoH.v (Vop.bin rfl rfl rfl rfl bNe rfl) ?_
            refine GoH.v (Vop.pickT rfl rfl rfl rfl rfl) ?_
            refine GoH.v (Vop.mv rfl rfl rfl rfl) ?_
            -- guard on slot 88 (law.go:154)
            refine GoH.cases (d := 88) rfl (fun hc => ?_) (fun hc => ?_)
            · -- yes
              have g2 : l ≠ 5 := by simpa using hc
              refine GoH.v (Vop.mv rfl rfl rfl rfl) ?_
              refine GoH.v (Vop.blt rfl rfl rfl (blt_len_slice Tryd.underlying22) rfl) ?_
              refine GoH.v (Vop.fldP rfl rfl rfl rfl Tryd.underlying25 rfl Tryd.sizeOf3 0 rfl) ?_
              refine GoH.v (Vop.ldo (v := .int .i64 m.n) rfl rfl rfl rfl Tryd.isAgg3 1 rfl rfl) ?_
              refine GoH.v (Vop.bin rfl rfl rfl rfl bEq rfl) ?_
              refine GoH.v (Vop.pickT rfl rfl rfl rfl rfl) ?_
              refine GoH.v (Vop.mv rfl rfl rfl rfl) ?_
              -- guard on slot 95 (law.go:154)
              refine GoH.cases (d := 95) rfl (fun hc => ?_) (fun hc => ?_)
              · -- yes
                have g3 : (r.length : Int) = m.n := by simpa using hc
                refine GoH.v (Vop.mv rfl rfl rfl rfl) ?_
                refine GoH.v (Vop.mv rfl rfl rfl rfl) ?_
                refine GoH.callP rfl rfl rfl rfl rfl (fun _ _ => Tryd.call20 _ _) (fun w _ hS => hasL_c a ca r l w (hT.ex hS.ext) (ha.ex0 hS.ext) hl) ?_
                refine GoH.v (Vop.pickT rfl rfl rfl rfl rfl) ?_
                refine GoH.v (Vop.asg rfl rfl rfl rfl) ?_
                exact K ⟨hasL r l, fun h => ⟨g1, g2, g3, h⟩⟩ _ _ (by repeat (first | exact SubF.nil | refine SubF.cons rfl ?_)) (fun _ _ hS => hS)
              · -- no
                refine GoH.no rfl rfl rfl rfl ?_
                refine GoH.no rfl rfl rfl rfl ?_
                refine GoH.no rfl rfl rfl rfl ?_
                refine GoH.v (Vop.pickF rfl rfl rfl rfl rfl) ?_
                refine GoH.v (Vop.asg rfl rfl rfl rfl) ?_
                exact K ⟨false, fun h => by cases h⟩ _ _ (by repeat (first | exact SubF.nil | refine SubF.cons rfl ?_)) (fun _ _ hS => hS)
            · -- no
              refine GoH.no rfl rfl rfl rfl ?_
              refine GoH.no rfl rfl rfl rfl ?_
              refine GoH.no rfl rfl rfl rfl ?_
              refine GoH.no rfl rfl rfl rfl ?_
              refine GoH.no rfl rfl rfl rfl ?_
              refine GoH.v (Vop.pickF rfl rfl rfl rfl rfl) ?_
              refine GoH.v (Vop.mv rfl rfl rfl rfl) ?_
              refine GoH.no rfl rfl rfl rfl ?_
              refine GoH.no rfl rfl rfl rfl ?_
              refine GoH.no rfl rfl rfl rfl ?_
              refine GoH.v (Vop.pickF rfl rfl rfl rfl rfl) ?_
              refine GoH.v (Vop.asg rfl rfl rfl rfl) ?_
              exact K ⟨false, fun h => by cases h⟩ _ _ (by repeat (first | exact SubF.nil | refine SubF.cons rfl ?_)) (fun _ _ hS => hS)
          · -- no
            refine GoH.no rfl rfl rfl rfl ?_
            refine GoH.no rfl rfl rfl rfl ?_
            refine GoH.v (Vop.pickF rfl rfl rfl rfl rfl) ?_
            refine GoH.v (Vop.mv rfl rfl rfl rfl) ?_
            refine GoH.no rfl rfl rfl rfl ?_
            refine GoH.no rfl rfl rfl rfl ?_
            refine GoH.no rfl rfl rfl rfl ?_
            refine GoH.no rfl rfl rfl rfl ?_
            refine GoH.no rfl rfl rfl rfl ?_
            refine GoH.v (Vop.pickF rfl rfl rfl rfl rfl) ?_
            refine GoH.v (Vop.mv rfl rfl rfl rfl) ?_
            refine GoH.no rfl rfl rfl rfl ?_
            refine GoH.no rfl rfl rfl rfl ?_
            refine GoH.no rfl rfl rfl rfl ?_
            refine GoH.v (Vop.pickF rfl rfl rfl rfl rfl) ?_
            refine GoH.v (Vop.asg rfl rfl rfl rfl) ?_
            exact K ⟨false, fun h => by cases h⟩ _ _ (by repeat (first | exact SubF.nil | refine SubF.cons rfl ?_)) (fun _ _ hS => hS)
      · -- the region
        refine GoH.region ?_
        refine GoH.v (Vop.ldB rfl rfl rfl rfl Tryd.isAgg25 2 rfl Tryd.sizeOf25 rfl) ?_
        refine GoH.v (Vop.mv rfl rfl rfl rfl) ?_
        refine GoH.callP rfl rfl rfl rfl rfl (fun _ _ => Tryd.call22 _ _) (fun w _ hS => (by exact in_c m l w (hT.ex hS.ext) (hm.ex0 hS.ext))) ?_
        refine GoH.v (Vop.mv rfl rfl rfl rfl) ?_
        -- guard on slot 76 (law.go:151)
        refine GoH.cases (d := 76) rfl (fun hc => ?_) (fun hc => ?_)
        · -- yes
          have hsame := hF.same (inM_true.1 hc).2.2
          refine GoH.v (Vop.ldB rfl rfl rfl rfl Tryd.isAgg25 1 rfl Tryd.sizeOf25 rfl) ?_
          refine GoH.v (Vop.ldB rfl rfl rfl rfl Tryd.isAgg25 2 rfl Tryd.sizeOf25 rfl) ?_
          refine GoH.callP rfl rfl rfl rfl rfl (fun _ _ => Tryd.call14 _ _) (fun w _ hS => (by exact sameM_t A m w ((hI1.mono (fun x hx => by simp [hx])).at hS) (hm.ex0 hS.ext) hsame)) ?_
          refine GoH.v (Vop.un rfl rfl rfl uNot rfl) ?_
          refine GoH.v (Vop.pickT rfl rfl rfl rfl rfl) ?_
          exact K () _ _ (by repeat (first | exact SubF.nil | refine SubF.cons rfl ?_)) (fun _ _ hS => hS.subH (List.Sublist.cons _ (List.Sublist.refl _)))
        · -- no
          refine GoH.no rfl rfl rfl rfl ?_
          refine GoH.no rfl rfl rfl rfl ?_
          refine GoH.no rfl rfl rfl rfl ?_
          refine GoH.no rfl rfl rfl rfl ?_
          refine GoH.v (Vop.pickF rfl rfl rfl rfl rfl) ?_
          exact K () _ _ (by repeat (first | exact SubF.nil | refine SubF.cons rfl ?_)) (fun _ _ hS => hS.subH (List.Sublist.cons _ (List.Sublist.refl _)))
end Go.Proofs.YticlcpkcohdpfaaDoor
