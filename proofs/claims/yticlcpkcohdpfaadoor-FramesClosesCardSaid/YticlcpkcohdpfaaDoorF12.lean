/- Contracts of functions of the program: what each call returns and that nothing else of memory is turned, under the conditions that each theorem states. -/
import Derived.Test.YticlcpkcohdpfaaDoorF11
import Derived.Test.YticlcpkcohdpfaaDoorWC
namespace Go.Proofs.YticlcpkcohdpfaaDoor
open Go.RowKit Go.Proofs.Wit
/-! the laws of chapter 15, 1 -/
theorem fo1_c (m : MV) (l : Int) (b : Nat) (w : World) (hT : Tab w) (hm : m.At w) (hb : w.heap[b]? = some (.cells m.v.cells 25 (0, 0))) :
    Cn Tryd.prog 25 [.int .i64 l, .pointer (some ⟨b, 0, none⟩)] w (fun v _ => v = .bool (inM m.n m.val m.rel l)) := by
  refine Cn.of Tryd.func25 rfl rfl ?_
  refine GoH.seq ?_
  refine GoH.region ?_
  refine GoH.v (Vop.asg rfl rfl rfl rfl) ?_
  refine GoH.regionEnd ?_
  refine GoH.seq ?_
  refine GoH.region ?_
  refine GoH.v (Vop.ldN (cs := m.cs.toList) rfl rfl rfl rfl Tryd.isAgg25 Tryd.sizeOf25 (fun w _ hS => Ex.cells hS.ext hb (hS.ext.keep hb))) ?_
  refine GoH.v (Vop.mv rfl rfl rfl rfl) ?_
  refine GoH.callP rfl rfl rfl rfl rfl (fun _ _ => Tryd.call22 _ _) (fun w _ hS => (by exact in_c m l w (hT.ex hS.ext) (hm.ex0 hS.ext))) ?_
  refine GoH.v (Vop.asg rfl rfl rfl rfl) ?_
  refine GoH.regionEnd ?_
  refine GoH.ret Tryd.f25 Tryd.func25 rfl (fun w' hS => ?_)
  exact ⟨hS.ext, rfl⟩
theorem fo1_t (m : MV) (l : Int) (b : Nat) (w : World) (hT : Tab w) (hm : m.At w) (hb : w.heap[b]? = some (.cells m.v.cells 25 (0, 0))) (h : inM m.n m.val m.rel l = true) :
    Cn Tryd.prog 25 [.int .i64 l, .pointer (some ⟨b, 0, none⟩)] w (fun v _ => v = .bool true) := (fo1_c m l b w hT hm hb).mono (fun v w' _ e => by rw [e, h])
set_option maxRecDepth 8000 in
theorem order_c (m : MV) (w : World) (hT : Tab w) (hm : m.At w) : Cn Tryd.prog 7 [m.v] w (fun v _ => v = .bool true) := by
  refine Cn.of Tryd.func7 rfl rfl ?_
  refine GoH.seq ?_
  refine GoH.region ?_
  refine GoH.bx rfl rfl rfl rfl (fun b1 => ?_)
  refine GoH.v (Vop.asg rfl rfl rfl rfl) ?_
  refine GoH.regionEnd ?_
  refine GoH.seq ?_
  refine GoH.seq ?_
  refine GoH.region ?_
  refine GoH.v (Vop.ldB rfl rfl rfl rfl Tryd.isAgg25 0 rfl Tryd.sizeOf25 rfl) ?_
  refine GoH.callM _ rfl rfl rfl rfl rfl (fun _ _ => Tryd.call10 _ _) (fun w _ hS => few_c m 12 w (hm.ex0 hS.ext)) ?_
  rintro v w1 w2 Y' hS he ⟨b, rfl⟩
  refine ⟨_, hS.later he, ?_⟩
  refine GoH.v (Vop.un rfl rfl rfl uNot rfl) ?_
  refine GoH.regionEnd ?_
  refine GoH.cond rfl (fun hc => ?_) (fun hc => ?_)
  · -- yes
    refine GoH.seq ?_
    refine GoH.region ?_
    refine GoH.callP rfl rfl rfl rfl rfl (fun _ _ => Tryd.call11 _ _) (fun w _ hS => awake15_c w (hT.ex hS.ext)) ?_
    refine GoH.v (Vop.asg rfl rfl rfl rfl) ?_
    refine GoH.regionEnd ?_
    refine GoH.ret Tryd.f7 Tryd.func7 rfl (fun w' hS => ?_)
    exact ⟨hS.ext, rfl⟩
  · -- no
    refine GoH.skip ?_
    refine GoH.seq ?_
    refine GoH.region ?_
    refine GoH.v (Vop.mkFunc rfl rfl rfl rfl rfl) ?_
    refine GoH.v (Vop.asg rfl rfl rfl rfl) ?_
    refine GoH.regionEnd ?_
    refine GoH.seq ?_
    refine GoH.draw 64 mixed rfl ?_
    refine RdGo.cut 19 45 [(1, .pointer (some ⟨b1, 0, none⟩)), (3, .func (.func 25) ([] : List Value).toArray ([.pointer (some ⟨b1, 0, none⟩)] : List Value).toArray), (28, .bool true)] (fun K1 => ?_) ?_
    -- at: 19 K1
    -- known: 28=true
    · -- up to operation 19
      refine RdGo.v (Vop.mv rfl rfl rfl rfl) ?_
      refine RdGo.callCP (fs := []) rfl rfl rfl rfl rfl (fun _ _ => Tryd.call25 _ _) (fun w _ hS => by exact fo1_c m 0 b1 w (hT.ex hS.ext) (hm.ex0 hS.ext) (hS.get (j := 0) rfl)) ?_
      refine RdGo.v (Vop.ldB rfl rfl rfl rfl Tryd.isAgg25 0 rfl Tryd.sizeOf25 rfl) ?_
      refine RdGo.callP rfl rfl rfl rfl rfl (fun _ _ => Tryd.call26 _ _) (fun w _ hS => rmCheck_c m w (hm.ex0 hS.ext)) ?_
      refine RdGo.v (Vop.bin rfl rfl rfl rfl bEq rfl) ?_
      refine RdGo.v (Vop.bin rfl rfl rfl rfl (bEqBV (v := true) Tryd.underlying4 (by rw [in_0]; exact beq_self_eq_true _)) rfl) ?_
      refine RdGo.v (Vop.mv rfl rfl rfl rfl) ?_
      refine RdGo.v (Vop.mv rfl rfl rfl rfl) ?_
      refine RdGo.callCP (fs := []) rfl rfl rfl rfl rfl (fun _ _ => Tryd.call25 _ _) (fun w _ hS => by exact fo1_c m 6 b1 w (hT.ex hS.ext) (hm.ex0 hS.ext) (hS.get (j := 0) rfl)) ?_
      refine RdGo.v (Vop.un rfl rfl rfl uNot rfl) ?_
      refine RdGo.v (Vop.mv rfl rfl rfl rfl) ?_
      -- guard on slot 20 (law.go:178)
      refine RdGo.cases (d := 20) rfl (fun hc => ?_) (fun hc => ?_)
      · -- yes
        refine RdGo.no rfl rfl rfl rfl rfl ?_
        refine RdGo.no rfl rfl rfl rfl rfl ?_
        refine RdGo.no rfl rfl rfl rfl rfl ?_
        refine RdGo.no rfl rfl rfl rfl rfl ?_
        refine RdGo.no rfl rfl rfl rfl rfl ?_
        refine RdGo.no rfl rfl rfl rfl rfl ?_
        refine RdGo.v (Vop.pickT rfl rfl rfl rfl rfl) ?_
        refine RdGo.v (Vop.pickT rfl rfl rfl rfl rfl) ?_
        exact K1.sub (by repeat (first | exact SubF.nil | refine SubF.cons rfl ?_))
      · -- no
        have h6 : inM m.n m.val m.rel 6 = true := by simpa using hc
        refine RdGo.v (Vop.mv rfl rfl rfl rfl) ?_
        refine RdGo.callCP (fs := []) rfl rfl rfl rfl rfl (fun _ _ => Tryd.call25 _ _) (fun w _ hS => by exact fo1_t m 4 b1 w (hT.ex hS.ext) (hm.ex0 hS.ext) (hS.get (j := 0) rfl) (in_64 h6)) ?_
        -- known: true
        refine RdGo.v (Vop.mv rfl rfl rfl rfl) ?_
        refine RdGo.v (Vop.mv rfl rfl rfl rfl) ?_
        refine RdGo.callCP (fs := []) rfl rfl rfl rfl rfl (fun _ _ => Tryd.call25 _ _) (fun w _ hS => by exact fo1_t m 5 b1 w (hT.ex hS.ext) (hm.ex0 hS.ext) (hS.get (j := 0) rfl) (in_65 h6)) ?_
        -- known: true
        refine RdGo.v (Vop.pickT rfl rfl rfl rfl rfl) ?_
        refine RdGo.v (Vop.pickF rfl rfl rfl rfl rfl) ?_
        refine RdGo.v (Vop.pickT rfl rfl rfl rfl rfl) ?_
        exact K1.sub (by repeat (first | exact SubF.nil | refine SubF.cons rfl ?_))
    · -- from operation 19 on
      refine RdGo.cut 32 32 [(1, .pointer (some ⟨b1, 0, none⟩)), (3, .func (.func 25) ([] : List Value).toArray ([.pointer (some ⟨b1, 0, none⟩)] : List Value).toArray), (41, .bool true)] (fun K2 => ?_) ?_
      -- at: 32 K2
      -- known: 41=true
      · -- up to operation 32
        refine RdGo.v (Vop.mv rfl rfl rfl rfl) ?_
        refine RdGo.v (Vop.mv rfl rfl rfl rfl) ?_
        refine RdGo.callCP (fs := []) rfl rfl rfl rfl rfl (fun _ _ => Tryd.call25 _ _) (fun w _ hS => by exact fo1_c m 4 b1 w (hT.ex hS.ext) (hm.ex0 hS.ext) (hS.get (j := 0) rfl)) ?_
        refine RdGo.v (Vop.un rfl rfl rfl uNot rfl) ?_
        refine RdGo.v (Vop.mv rfl rfl rfl rfl) ?_
        -- guard on slot 33 (law.go:178)
        refine RdGo.cases (d := 33) rfl (fun hc => ?_) (fun hc => ?_)
        · -- yes
          refine RdGo.no rfl rfl rfl rfl rfl ?_
          refine RdGo.no rfl rfl rfl rfl rfl ?_
          refine RdGo.no rfl rfl rfl rfl rfl ?_
          refine RdGo.no rfl rfl rfl rfl rfl ?_
          refine RdGo.no rfl rfl rfl rfl rfl ?_
          refine RdGo.no rfl rfl rfl rfl rfl ?_
          refine RdGo.v (Vop.pickT rfl rfl rfl rfl rfl) ?_
          refine RdGo.v (Vop.pickT rfl rfl rfl rfl rfl) ?_
          exact K2.sub (by repeat (first | exact SubF.nil | refine SubF.cons rfl ?_))
        · -- no
          have h4 : inM m.n m.val m.rel 4 = true := by simpa using hc
          refine RdGo.v (Vop.mv rfl rfl rfl rfl) ?_
          refine RdGo.callCP (fs := []) rfl rfl rfl rfl rfl (fun _ _ => Tryd.call25 _ _) (fun w _ hS => by exact fo1_t m 2 b1 w (hT.ex hS.ext) (hm.ex0 hS.ext) (hS.get (j := 0) rfl) (in_42 h4)) ?_
          -- known: true
          refine RdGo.v (Vop.mv rfl rfl rfl rfl) ?_
          refine RdGo.v (Vop.mv rfl rfl rfl rfl) ?_
          refine RdGo.callCP (fs := []) rfl rfl rfl rfl rfl (fun _ _ => Tryd.call25 _ _) (fun w _ hS => by exact fo1_t m 3 b1 w (hT.ex hS.ext) (hm.ex0 hS.ext) (hS.get (j := 0) rfl) (in_43 h4)) ?_
          -- known: true
          refine RdGo.v (Vop.pickT rfl rfl rfl rfl rfl) ?_
          refine RdGo.v (Vop.pickF rfl rfl rfl rfl rfl) ?_
          refine RdGo.v (Vop.pickT rfl rfl rfl rfl rfl) ?_
          exact K2.sub (by repeat (first | exact SubF.nil | refine SubF.cons rfl ?_))
      · -- from operation 32 on
        refine RdGo.cut 45 19 [(1, .pointer (some ⟨b1, 0, none⟩)), (3, .func (.func 25) ([] : List Value).toArray ([.pointer (some ⟨b1, 0, none⟩)] : List Value).toArray), (54, .bool true)] (fun K3 => ?_) ?_
        -- at: 45 K3
        -- known: 54=true
        · -- up to operation 45
          refine RdGo.v (Vop.mv rfl rfl rfl rfl) ?_
          refine RdGo.v (Vop.mv rfl rfl rfl rfl) ?_
          refine RdGo.callCP (fs := []) rfl rfl rfl rfl rfl (fun _ _ => Tryd.call25 _ _) (fun w _ hS => by exact fo1_c m 5 b1 w (hT.ex hS.ext) (hm.ex0 hS.ext) (hS.get (j := 0) rfl)) ?_
          refine RdGo.v (Vop.un rfl rfl rfl uNot rfl) ?_
          refine RdGo.v (Vop.mv rfl rfl rfl rfl) ?_
          -- guard on slot 46 (law.go:178)
          refine RdGo.cases (d := 46) rfl (fun hc => ?_) (fun hc => ?_)
          · -- yes
            refine RdGo.no rfl rfl rfl rfl rfl ?_
            refine RdGo.no rfl rfl rfl rfl rfl ?_
            refine RdGo.no rfl rfl rfl rfl rfl ?_
            refine RdGo.no rfl rfl rfl rfl rfl ?_
            refine RdGo.no rfl rfl rfl rfl rfl ?_
            refine RdGo.no rfl rfl rfl rfl rfl ?_
            refine RdGo.v (Vop.pickT rfl rfl rfl rfl rfl) ?_
            refine RdGo.v (Vop.pickT rfl rfl rfl rfl rfl) ?_
            exact K3.sub (by repeat (first | exact SubF.nil | refine SubF.cons rfl ?_))
          · -- no
            have h5 : inM m.n m.val m.rel 5 = true := by simpa using hc
            refine RdGo.v (Vop.mv rfl rfl rfl rfl) ?_
            refine RdGo.callCP (fs := []) rfl rfl rfl rfl rfl (fun _ _ => Tryd.call25 _ _) (fun w _ hS => by exact fo1_t m 1 b1 w (hT.ex hS.ext) (hm.ex0 hS.ext) (hS.get (j := 0) rfl) (in_51 h5)) ?_
            -- known: true
            refine RdGo.v (Vop.mv rfl rfl rfl rfl) ?_
            refine RdGo.v (Vop.mv rfl rfl rfl rfl) ?_
            refine RdGo.callCP (fs := []) rfl rfl rfl rfl rfl (fun _ _ => Tryd.call25 _ _) (fun w _ hS => by exact fo1_t m 3 b1 w (hT.ex hS.ext) (hm.ex0 hS.ext) (hS.get (j := 0) rfl) (in_53 h5)) ?_
            -- known: true
            refine RdGo.v (Vop.pickT rfl rfl rfl rfl rfl) ?_
            refine RdGo.v (Vop.pickF rfl rfl rfl rfl rfl) ?_
            refine RdGo.v (Vop.pickT rfl rfl rfl rfl rfl) ?_
            exact K3.sub (by repeat (first | exact SubF.nil | refine SubF.cons rfl ?_))
        · -- from operation 45 on
          refine RdGo.cut 54 10 [(1, .pointer (some ⟨b1, 0, none⟩)), (3, .func (.func 25) ([] : List Value).toArray ([.pointer (some ⟨b1, 0, none⟩)] : List Value).toArray), (63, .bool true)] (fun K4 => ?_) ?_
          -- at: 54 K4
          -- known: 63=true
          · -- up to operation 54
            refine RdGo.v (Vop.mv rfl rfl rfl rfl) ?_
            refine RdGo.v (Vop.mv rfl rfl rfl rfl) ?_
            refine RdGo.callCP (fs := []) rfl rfl rfl rfl rfl (fun _ _ => Tryd.call25 _ _) (fun w _ hS => by exact fo1_c m 2 b1 w (hT.ex hS.ext) (hm.ex0 hS.ext) (hS.get (j := 0) rfl)) ?_
            refine RdGo.v (Vop.un rfl rfl rfl uNot rfl) ?_
            refine RdGo.v (Vop.mv rfl rfl rfl rfl) ?_
            -- guard on slot 59 (law.go:178)
            refine RdGo.cases (d := 59) rfl (fun hc => ?_) (fun hc => ?_)
            · -- yes
              refine RdGo.no rfl rfl rfl rfl rfl ?_
              refine RdGo.no rfl rfl rfl rfl rfl ?_
              refine RdGo.v (Vop.pickT rfl rfl rfl rfl rfl) ?_
              refine RdGo.v (Vop.pickT rfl rfl rfl rfl rfl) ?_
              exact K4.sub (by repeat (first | exact SubF.nil | refine SubF.cons rfl ?_))
            · -- no
              have h2 : inM m.n m.val m.rel 2 = true := by simpa using hc
              refine RdGo.v (Vop.mv rfl rfl rfl rfl) ?_
              refine RdGo.callCP (fs := []) rfl rfl rfl rfl rfl (fun _ _ => Tryd.call25 _ _) (fun w _ hS => by exact fo1_t m 1 b1 w (hT.ex hS.ext) (hm.ex0 hS.ext) (hS.get (j := 0) rfl) (in_21 h2)) ?_
              -- known: true
              refine RdGo.v (Vop.pickF rfl rfl rfl rfl rfl) ?_
              refine RdGo.v (Vop.pickT rfl rfl rfl rfl rfl) ?_
              exact K4.sub (by repeat (first | exact SubF.nil | refine SubF.cons rfl ?_))
          · -- from operation 54 on
            refine RdGo.cut 63 1 [(1, .pointer (some ⟨b1, 0, none⟩)), (3, .func (.func 25) ([] : List Value).toArray ([.pointer (some ⟨b1, 0, none⟩)] : List Value).toArray), (72, .bool true)] (fun K5 => ?_) ?_
            -- at: 63 K5
            -- known: 72=true
            · -- up to operation 63
              refine RdGo.v (Vop.mv rfl rfl rfl rfl) ?_
              refine RdGo.v (Vop.mv rfl rfl rfl rfl) ?_
              refine RdGo.callCP (fs := []) rfl rfl rfl rfl rfl (fun _ _ => Tryd.call25 _ _) (fun w _ hS => by exact fo1_c m 1 b1 w (hT.ex hS.ext) (hm.ex0 hS.ext) (hS.get (j := 0) rfl)) ?_
              refine RdGo.v (Vop.un rfl rfl rfl uNot rfl) ?_
              refine RdGo.v (Vop.mv rfl rfl rfl rfl) ?_
              -- guard on slot 68 (law.go:178)
              refine RdGo.cases (d := 68) rfl (fun hc => ?_) (fun hc => ?_)
              · -- yes
                refine RdGo.no rfl rfl rfl rfl rfl ?_
                refine RdGo.no rfl rfl rfl rfl rfl ?_
                refine RdGo.v (Vop.pickT rfl rfl rfl rfl rfl) ?_
                refine RdGo.v (Vop.pickT rfl rfl rfl rfl rfl) ?_
                exact K5.sub (by repeat (first | exact SubF.nil | refine SubF.cons rfl ?_))
              · -- no
                have h1 : inM m.n m.val m.rel 1 = true := by simpa using hc
                refine RdGo.v (Vop.mv rfl rfl rfl rfl) ?_
                refine RdGo.callCP (fs := []) rfl rfl rfl rfl rfl (fun _ _ => Tryd.call25 _ _) (fun w _ hS => by exact fo1_t m 0 b1 w (hT.ex hS.ext) (hm.ex0 hS.ext) (hS.get (j := 0) rfl) (in_10 h1)) ?_
                -- known: true
                refine RdGo.v (Vop.pickF rfl rfl rfl rfl rfl) ?_
                refine RdGo.v (Vop.pickT rfl rfl rfl rfl rfl) ?_
                exact K5.sub (by repeat (first | exact SubF.nil | refine SubF.cons rfl ?_))
            · -- from operation 63 on
              refine RdGo.v (Vop.asg rfl rfl rfl rfl) ?_
              refine RdGo.nil ?_
              refine GoH.regionEnd ?_
              refine GoH.seq ?_
              refine GoH.region ?_
              refine GoH.v (Vop.mv rfl rfl rfl rfl) ?_
              refine GoH.v (Vop.mv rfl rfl rfl rfl) ?_
              refine GoH.v (Vop.mv rfl rfl rfl rfl) ?_
              refine GoH.callCP (fs := []) rfl rfl rfl rfl rfl (fun _ _ => Tryd.call25 _ _) (fun w _ hS => by exact fo1_c m 2 b1 w (hT.ex hS.ext) (hm.ex0 hS.ext) (hS.get (j := 0) rfl)) ?_
              refine GoH.v (Vop.un rfl rfl rfl uNot rfl) ?_
              refine GoH.v (Vop.mv rfl rfl rfl rfl) ?_
              -- guard on slot 78 (law.go:179)
              refine GoH.cases (d := 78) rfl (fun hc => ?_) (fun hc => ?_)
              · -- yes
                refine GoH.no rfl rfl rfl rfl ?_
                refine GoH.no rfl rfl rfl rfl ?_
                refine GoH.no rfl rfl rfl rfl ?_
                refine GoH.v (Vop.pickT rfl rfl rfl rfl rfl) ?_
                refine GoH.v (Vop.mv rfl rfl rfl rfl) ?_
                refine GoH.no rfl rfl rfl rfl ?_
                refine GoH.no rfl rfl rfl rfl ?_
                refine GoH.v (Vop.pickT rfl rfl rfl rfl rfl) ?_
                refine GoH.v (Vop.pickT rfl rfl rfl rfl rfl) ?_
                refine GoH.v (Vop.mv rfl rfl rfl rfl) ?_
                refine GoH.callP rfl rfl rfl rfl rfl (fun _ _ => Tryd.call11 _ _) (fun w _ hS => awake15_c w (hT.ex hS.ext)) ?_
                refine GoH.v (Vop.pickT rfl rfl rfl rfl rfl) ?_
                refine GoH.v (Vop.asg rfl rfl rfl rfl) ?_
                refine GoH.regionEnd ?_
                refine GoH.ret Tryd.f7 Tryd.func7 rfl (fun w' hS => ?_)
                exact ⟨hS.ext, rfl⟩
              · -- no
                have h2 : inM m.n m.val m.rel 2 = true := by simpa using hc
                refine GoH.v (Vop.mv rfl rfl rfl rfl) ?_
                refine GoH.callCP (fs := []) rfl rfl rfl rfl rfl (fun _ _ => Tryd.call25 _ _) (fun w _ hS => by exact fo1_c m 5 b1 w (hT.ex hS.ext) (hm.ex0 hS.ext) (hS.get (j := 0) rfl)) ?_
                refine GoH.v (Vop.un rfl rfl rfl uNot rfl) ?_
                refine GoH.v (Vop.pickF rfl rfl rfl rfl rfl) ?_
                refine GoH.v (Vop.mv rfl rfl rfl rfl) ?_
                -- guard on slot 83 (law.go:179)
                refine GoH.cases (d := 83) rfl (fun hc => ?_) (fun hc => ?_)
                · -- yes
                  refine GoH.no rfl rfl rfl rfl ?_
                  refine GoH.no rfl rfl rfl rfl ?_
                  refine GoH.v (Vop.pickT rfl rfl rfl rfl rfl) ?_
                  refine GoH.v (Vop.pickT rfl rfl rfl rfl rfl) ?_
                  refine GoH.v (Vop.mv rfl rfl rfl rfl) ?_
                  refine GoH.callP rfl rfl rfl rfl rfl (fun _ _ => Tryd.call11 _ _) (fun w _ hS => awake15_c w (hT.ex hS.ext)) ?_
                  refine GoH.v (Vop.pickT rfl rfl rfl rfl rfl) ?_
                  refine GoH.v (Vop.asg rfl rfl rfl rfl) ?_
                  refine GoH.regionEnd ?_
                  refine GoH.ret Tryd.f7 Tryd.func7 rfl (fun w' hS => ?_)
                  exact ⟨hS.ext, rfl⟩
                · -- no
                  have h5 : inM m.n m.val m.rel 5 = true := by simpa using hc
                  refine GoH.v (Vop.mv rfl rfl rfl rfl) ?_
                  refine GoH.callCP (fs := []) rfl rfl rfl rfl rfl (fun _ _ => Tryd.call25 _ _) (fun w _ hS => by exact fo1_t m 6 b1 w (hT.ex hS.ext) (hm.ex0 hS.ext) (hS.get (j := 0) rfl) (in_256 h2 h5)) ?_
                  -- known: true
                  refine GoH.v (Vop.pickF rfl rfl rfl rfl rfl) ?_
                  refine GoH.v (Vop.pickT rfl rfl rfl rfl rfl) ?_
                  refine GoH.v (Vop.mv rfl rfl rfl rfl) ?_
                  refine GoH.callP rfl rfl rfl rfl rfl (fun _ _ => Tryd.call11 _ _) (fun w _ hS => awake15_c w (hT.ex hS.ext)) ?_
                  refine GoH.v (Vop.pickT rfl rfl rfl rfl rfl) ?_
                  refine GoH.v (Vop.asg rfl rfl rfl rfl) ?_
                  refine GoH.regionEnd ?_
                  refine GoH.ret Tryd.f7 Tryd.func7 rfl (fun w' hS => ?_)
                  exact ⟨hS.ext, rfl⟩
end Go.Proofs.YticlcpkcohdpfaaDoor
