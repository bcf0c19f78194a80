/- Contracts of functions of the program: what each call returns and that nothing else of memory is turned, under the conditions that each theorem states. -/
import Derived.Test.YtbjopkllkoomkaaDoorE14
import Derived.Test.YtbjopkllkoomkaaDoorF11
import Derived.Test.YtbjopkllkoomkaaDoorWN
namespace Go.Proofs.YtbjopkllkoomkaaDoor
open Go.RowKit Go.Proofs.Wit
/-! the law FramesShows -/
theorem inT_t (m : MV) (l : Int) (b : Bool) (w : World) (hT : Tab w) (hm : m.At w) (h : inM m.n m.val m.rel l = b) : Cn Tryd.prog 13 [m.v, .int .i64 l] w (fun v _ => v = .bool b) := (in_c m l w hT hm).mono (fun v w' _ e => by rw [e, h])
set_option maxRecDepth 8000 in
theorem shows15_c (m : MV) (l : Int) (w : World) (hT : Tab w) (hm : m.At w) :
    Cn Tryd.prog 4 [m.v, .int .i64 l] w (fun v _ => v = .bool true) := by
  have hlr := hm.lr
  unfold maxLen at hlr
  refine Cn.of Tryd.func4 rfl rfl ?_
  refine GoH.seq ?_
  refine GoH.region ?_
  refine GoH.bx rfl rfl rfl rfl (fun b2 => ?_)
  refine GoH.v (Vop.asg rfl rfl rfl rfl) ?_
  refine GoH.regionEnd ?_
  refine GoH.seq ?_
  refine GoH.seq ?_
  refine GoH.region ?_
  refine GoH.v (Vop.ldB rfl rfl rfl rfl Tryd.isAgg35 0 rfl Tryd.sizeOf35 rfl) ?_
  refine GoH.callM _ rfl rfl rfl rfl rfl (fun _ _ => Tryd.call11 _ _) (fun w _ hS => few_c m 12 w (hm.ex0 hS.ext)) ?_
  rintro v w1 w2 Y' hS he ⟨b, rfl⟩
  refine ⟨_, hS.later he, ?_⟩
  refine GoH.v (Vop.un rfl rfl rfl uNot rfl) ?_
  refine GoH.regionEnd ?_
  refine GoH.cond rfl (fun hc => ?_) (fun hc => ?_)
  · -- yes
    refine GoH.seq ?_
    refine GoH.region ?_
    refine GoH.callP rfl rfl rfl rfl rfl (fun _ _ => Tryd.call5 _ _) (fun w _ hS => awake15_c w (hT.ex hS.ext)) ?_
    refine GoH.v (Vop.asg rfl rfl rfl rfl) ?_
    refine GoH.regionEnd ?_
    refine GoH.ret Tryd.f4 Tryd.func4 rfl (fun w' hS => ?_)
    exact ⟨hS.ext, rfl⟩
  · -- no
    refine GoH.skip ?_
    refine GoH.seq ?_
    refine GoH.region ?_
    refine GoH.v (Vop.ldB rfl rfl rfl rfl Tryd.isAgg35 0 rfl Tryd.sizeOf35 rfl) ?_
    refine GoH.v (Vop.mv rfl rfl rfl rfl) ?_
    refine GoH.callM _ rfl rfl rfl rfl rfl (fun _ _ => Tryd.call12 _ _) (fun w _ hS => (by exact defects_c m l w (hm.ex0 hS.ext))) ?_
    rintro v w1 w2 Y' hS he ⟨q, cap, ds, H1, rfl, hN1, hD1, hpl⟩
    have hDat := hD1.at (hS.gainR he hN1 |>.subH (List.sublist_append_right _ _))
    have hdl := hDat.len
    unfold maxLen at hdl
    refine ⟨_, hS.gainR he hN1, ?_⟩
    -- heap: b2
    refine GoH.v (Vop.mv rfl rfl rfl rfl) ?_
    refine GoH.v (Vop.ext rfl rfl rfl rfl rfl) ?_
    refine GoH.v (Vop.ext rfl rfl rfl rfl rfl) ?_
    refine GoH.v (Vop.asg rfl rfl rfl rfl) ?_
    refine GoH.v (Vop.asg rfl rfl rfl rfl) ?_
    refine GoH.regionEnd ?_
    refine GoH.seq ?_
    refine GoH.seq ?_
    refine GoH.region ?_
    refine GoH.v (Vop.mv rfl rfl rfl rfl) ?_
    refine GoH.v (Vop.bin rfl rfl rfl rfl bNe rfl) ?_
    refine GoH.regionEnd ?_
    refine GoH.cond rfl (fun hc => ?_) (fun hc => ?_)
    · -- yes
      have h1 : errE m.n m.val m.rel l ≠ 0 := by simpa using hc
      refine GoH.seq ?_
      refine GoH.region ?_
      refine GoH.v (Vop.ldB rfl rfl rfl rfl Tryd.isAgg35 0 rfl Tryd.sizeOf35 rfl) ?_
      refine GoH.v (Vop.mv rfl rfl rfl rfl) ?_
      refine GoH.callP rfl rfl rfl rfl rfl (fun _ _ => Tryd.call13 _ _) (fun w _ hS => (by exact inT_t m l false w (hT.ex hS.ext) (hm.ex0 hS.ext) (err_notIn h1))) ?_
      refine GoH.v (Vop.un rfl rfl rfl uNot rfl) ?_
      refine GoH.v (Vop.mv rfl rfl rfl rfl) ?_
      refine GoH.callP rfl rfl rfl rfl rfl (fun _ _ => Tryd.call5 _ _) (fun w _ hS => awake15_c w (hT.ex hS.ext)) ?_
      refine GoH.v (Vop.pickT rfl rfl rfl rfl rfl) ?_
      refine GoH.v (Vop.asg rfl rfl rfl rfl) ?_
      refine GoH.regionEnd ?_
      refine GoH.ret Tryd.f4 Tryd.func4 rfl (fun w' hS => ?_)
      exact ⟨hS.ext, rfl⟩
    · -- no
      have h0 : errE m.n m.val m.rel l = 0 := by simpa using hc
      obtain ⟨hV, hE, _⟩ := errE_zero h0
      have hn64 := hV.n64
      have hag4 := hV.agents
      have hagl : m.rel.length = m.rows.length := by simp [MV.rel]
      rw [if_neg (by simp [h0])] at hpl
      have hdi := def_in h0 hV.rels
      have hd0 : ds.length = 0 ↔ inM m.n m.val m.rel l = true := by
        rw [← hdi, ← hpl]; simp
      refine GoH.skip ?_
      refine GoH.seq ?_
      refine GoH.region ?_
      refine GoH.v (Vop.ldB rfl rfl rfl rfl Tryd.isAgg35 0 rfl Tryd.sizeOf35 rfl) ?_
      refine GoH.v (Vop.mv rfl rfl rfl rfl) ?_
      refine GoH.callM _ rfl rfl rfl rfl rfl (fun _ _ => Tryd.call14 _ _) (fun w _ hS => (by exact close_c m l w (hT.ex hS.ext) (hm.ex0 hS.ext))) ?_
      rintro v w1 w2 Y' hS he ⟨A, H2, rfl, hN2, hI2, hcA⟩
      refine ⟨_, hS.gainR he hN2, ?_⟩
      have hF := hcA.full h0
      have hVA := hF.valid hV
      have hInA := hF.inM hV hE
      have h0A : errE A.n A.val A.rel l = 0 := by rw [errE, if_neg (by rw [checkM_zero.2 hVA]; simp), hE]
      have hdA := (def_in h0A hVA.rels).2 hInA
      -- heap: b2
      -- mdl: b7=A
      refine GoH.v (Vop.mv rfl rfl rfl rfl) ?_
      refine GoH.v (Vop.ext rfl rfl rfl rfl rfl) ?_
      refine GoH.v (Vop.ext rfl rfl rfl rfl rfl) ?_
      refine GoH.alc rfl rfl rfl (fun _ => Tryd.zeroValue35 _) (fun b7 => ?_)
      refine GoH.stB rfl rfl rfl rfl Tryd.sizeOf35 0 rfl rfl rfl rfl ?_
      refine GoH.v (Vop.asg rfl rfl rfl rfl) ?_
      refine GoH.regionEnd ?_
      refine GoH.seq ?_
      refine GoH.region ?_
      refine GoH.v (Vop.ldB rfl rfl rfl rfl Tryd.isAgg35 0 rfl Tryd.sizeOf35 rfl) ?_
      refine GoH.v (Vop.mv rfl rfl rfl rfl) ?_
      refine GoH.callM _ rfl rfl rfl rfl rfl (fun _ _ => Tryd.call12 _ _) (fun w _ hS => (by exact defects_c A l w ((hI2.mono (fun x hx => by simp [hx])).at hS))) ?_
      rintro v w1 w2 Y' hS he ⟨q2, cap2, ds2, H3, rfl, hN3, hD3, hpl2⟩
      rw [if_neg (by simp [h0A]), hdA] at hpl2
      have hd2 : ds2.length = 0 := by have := congrArg List.length hpl2; simpa using this
      refine ⟨_, hS.gainR he hN3, ?_⟩
      -- heap: b7 b2
      refine GoH.v (Vop.mv rfl rfl rfl rfl) ?_
      refine GoH.v (Vop.ext rfl rfl rfl rfl rfl) ?_
      refine GoH.v (Vop.ext rfl rfl rfl rfl rfl) ?_
      refine GoH.v (Vop.asg rfl rfl rfl rfl) ?_
      refine GoH.v (Vop.asg rfl rfl rfl rfl) ?_
      refine GoH.regionEnd ?_
      refine GoH.seq ?_
      refine GoH.seq ?_
      refine GoH.region ?_
      refine GoH.v (Vop.mv rfl rfl rfl rfl) ?_
      refine GoH.v (Vop.mv rfl rfl rfl rfl) ?_
      refine GoH.v (Vop.bin rfl rfl rfl rfl (bAddE (c := 0) (by rw [h0, h0A]; rfl) (by omega)) rfl) ?_
      refine GoH.v (Vop.bin rfl rfl rfl rfl (bNeV (v := false) rfl) rfl) ?_
      refine GoH.v (Vop.mv rfl rfl rfl rfl) ?_
      refine GoH.v (Vop.mv rfl rfl rfl rfl) ?_
      refine GoH.v (Vop.blt rfl rfl rfl (blt_len_slice Tryd.underlying37) rfl) ?_
      refine GoH.v (Vop.bin rfl rfl rfl rfl (bNeV (v := false) (by rw [hd2]; rfl)) rfl) ?_
      refine GoH.v (Vop.pickF rfl rfl rfl rfl rfl) ?_
      refine GoH.v (Vop.mv rfl rfl rfl rfl) ?_
      refine GoH.v (Vop.mv rfl rfl rfl rfl) ?_
      refine GoH.v (Vop.blt rfl rfl rfl (blt_len_slice Tryd.underlying37) rfl) ?_
      refine GoH.v (Vop.bin rfl rfl rfl rfl bEq rfl) ?_
      refine GoH.v (Vop.ldB rfl rfl rfl rfl Tryd.isAgg35 1 rfl Tryd.sizeOf35 rfl) ?_
      refine GoH.v (Vop.mv rfl rfl rfl rfl) ?_
      refine GoH.callP rfl rfl rfl rfl rfl (fun _ _ => Tryd.call13 _ _) (fun w _ hS => (by exact in_c m l w (hT.ex hS.ext) (hm.ex0 hS.ext))) ?_
      refine GoH.v (Vop.bin rfl rfl rfl rfl (bNeBV (v := false) Tryd.underlying4 (by
      cases e : inM m.n m.val m.rel l with
      | true => rw [hd0.2 e]; rfl
      | false =>
        have : ds.length ≠ 0 := fun h => by rw [hd0.1 h] at e; cases e
        simp; intro h; rw [h] at this; exact this rfl)) rfl) ?_
      refine GoH.v (Vop.pickF rfl rfl rfl rfl rfl) ?_
      refine GoH.regionEnd ?_
      refine GoH.condF rfl ?_
      refine GoH.skip ?_
      refine GoH.seq ?_
      refine GoH.seq ?_
      refine GoH.region ?_
      refine GoH.v (Vop.asg rfl rfl rfl rfl) ?_
      refine GoH.regionEnd ?_
      refine GoH.block ?_
      refine GoH.loop (σ := Nat) (fun k => [(1, .int .i64 l), (2, .pointer (some ⟨b2, 0, none⟩)), (5, osv q ds.length cap), (11, .int .i64 k)]) (fun _ => (some b2, .cells m.v.cells 35 (0, 0)) :: H1) (fun k => k ≤ ds.length) (fun k => ds.length - k) 0 (Nat.zero_le _) ⟨rfl, rfl, rfl, rfl, trivial⟩ (.cons _ (.cons_cons _ ((List.sublist_append_left H1 H2).trans (List.sublist_append_left (H1 ++ H2) H3)))) (fun k hk IH => ?_)
      -- heap: b2
      -- ptr: 2=b2
      refine GoH.seq ?_
      refine GoH.seq ?_
      refine GoH.region ?_
      refine GoH.v (Vop.mv rfl rfl rfl rfl) ?_
      refine GoH.v (Vop.mv rfl rfl rfl rfl) ?_
      refine GoH.v (Vop.blt rfl rfl rfl (blt_len_slice Tryd.underlying37) rfl) ?_
      refine GoH.v (Vop.bin rfl rfl rfl rfl bLt rfl) ?_
      refine GoH.regionEnd ?_
      refine GoH.cond rfl (fun hc => ?_) (fun hc => ?_)
      · -- yes
        have hlt : k < ds.length := by simp at hc; omega
        have hmem : ds[k].plain ∈ defL l m.rel := by rw [← hpl]; exact List.mem_map_of_mem (List.getElem_mem hlt)
        obtain ⟨a, ha, p, hp, hw, hpe⟩ := defTo_mem.1 hmem
        have hag : ds[k].agent = (a : Int) := congrArg (·.1) hpe
        have hpr : ds[k].prop = p := congrArg (·.2.1) hpe
        have hws : ds[k].ws = witL (m.rel.getD a []) p := congrArg (·.2.2) hpe
        have hp5 : 1 ≤ ds[k].prop ∧ ds[k].prop ≤ 5 := by rw [hpr]; exact propsL_in hp
        have ha2 : a < m.rows.length := by omega
        have hrow : m.rel.getD a [] = m.rows[a].xs := by simp [MV.rel, List.getD_eq_getElem?_getD, ha2]
        have hval : Val m.rows[a].xs := by rw [← hrow]; exact hV.rels _ (by rw [List.getD_eq_getElem?_getD, List.getElem?_eq_getElem ha]; exact List.getElem_mem ha)
        have hnot : hasB m.rows[a].xs ds[k].prop = false := by
          cases e : hasB m.rows[a].xs ds[k].prop with
          | false => rfl
          | true => exact absurd (by rw [hrow, ← hpr]; exact (wit_has hval hp5).2 e) hw
        have hrat := hm.row m.rows[a] (List.getElem_mem ha2)
        have hwl : ds[k].ws.length ≠ 0 := fun h => hw (by rw [← hws]; exact List.eq_nil_of_length_eq_zero h)
        refine GoH.skip ?_
        refine GoH.seq ?_
        refine GoH.block ?_
        refine GoH.seq ?_
        refine GoH.region ?_
        refine GoH.v (Vop.mv rfl rfl rfl rfl) ?_
        refine GoH.v (Vop.mv rfl rfl rfl rfl) ?_
        refine GoH.v (Vop.idxN rfl rfl rfl rfl rfl Tryd.underlying37 Tryd.sizeOf44 ⟨_, hDat.at_⟩ (flat_len (enc := DV.cells) (sz := 3) (fun _ => rfl)) (by decide) k ⟨rfl, hlt⟩) ?_
        refine GoH.v (Vop.ldN (cs := DV.cells ds[k]) rfl rfl rfl rfl Tryd.isAgg44 Tryd.sizeOf44 (fun w _ hS => Sl.many (enc := DV.cells) (sz := 3) ((hD1.mono (fun x hx => by simp [hx])).at hS).at_ (fun _ => rfl) hlt)) ?_
        refine GoH.alc rfl rfl rfl (fun _ => Tryd.zeroValue44 _) (fun b12 => ?_)
        refine GoH.stB rfl rfl rfl rfl Tryd.sizeOf44 0 rfl rfl rfl rfl ?_
        refine GoH.regionEnd ?_
        refine GoH.seq ?_
        refine GoH.seq ?_
        refine GoH.draw 28 mixed rfl ?_
        refine RdGo.v (Vop.fldP rfl rfl rfl rfl Tryd.underlying44 rfl (by exact Tryd.sizeOf3) 0 rfl) ?_
        refine RdGo.v (Vop.ldo rfl rfl rfl rfl Tryd.isAgg3 0 rfl rfl) ?_
        refine RdGo.v (Vop.bin rfl rfl rfl rfl (bLtV (v := false) (decide_eq_false (by omega))) rfl) ?_
        refine RdGo.v (Vop.mv rfl rfl rfl rfl) ?_
        refine RdGo.v (Vop.fldP rfl rfl rfl rfl Tryd.underlying44 rfl (by exact Tryd.sizeOf3) 0 rfl) ?_
        refine RdGo.v (Vop.ldo rfl rfl rfl rfl Tryd.isAgg3 0 rfl rfl) ?_
        refine RdGo.v (Vop.fldP rfl rfl rfl rfl Tryd.underlying35 rfl (by exact Tryd.sizeOf33) 2 rfl) ?_
        refine RdGo.v (Vop.ldo (v := .slice m.ra m.rows.length m.rc) rfl rfl rfl rfl Tryd.isAgg33 1 rfl rfl) ?_
        refine RdGo.v (Vop.blt rfl rfl rfl (blt_len_slice Tryd.underlying33) rfl) ?_
        refine RdGo.v (Vop.bin rfl rfl rfl rfl (bGeV (v := false) (decide_eq_false (by omega))) rfl) ?_
        refine RdGo.v (Vop.pickF rfl rfl rfl rfl rfl) ?_
        refine RdGo.v (Vop.mv rfl rfl rfl rfl) ?_
        refine RdGo.v (Vop.fldP rfl rfl rfl rfl Tryd.underlying44 rfl (by exact Tryd.sizeOf42) 2 rfl) ?_
        refine RdGo.v (Vop.ldo rfl rfl rfl rfl Tryd.isAgg42 0 rfl rfl) ?_
        refine RdGo.v (Vop.blt rfl rfl rfl (blt_len_slice Tryd.underlying42) rfl) ?_
        refine RdGo.v (Vop.bin rfl rfl rfl rfl (bEqV (v := false) (by simpa using hwl)) rfl) ?_
        refine RdGo.v (Vop.pickF rfl rfl rfl rfl rfl) ?_
        refine RdGo.v (Vop.mv rfl rfl rfl rfl) ?_
        refine RdGo.v (Vop.fldP rfl rfl rfl rfl Tryd.underlying35 rfl (by exact Tryd.sizeOf33) 2 rfl) ?_
        refine RdGo.v (Vop.ldo (v := .slice m.ra m.rows.length m.rc) rfl rfl rfl rfl Tryd.isAgg33 1 rfl rfl) ?_
        refine RdGo.v (Vop.fldP rfl rfl rfl rfl Tryd.underlying44 rfl (by exact Tryd.sizeOf3) 0 rfl) ?_
        refine RdGo.v (Vop.ldo rfl rfl rfl rfl Tryd.isAgg3 0 rfl rfl) ?_
        refine RdGo.v (Vop.idx rfl rfl rfl rfl rfl Tryd.underlying33 Tryd.sizeOf22 ⟨_, hm.rel⟩ (by simp) a ⟨hag, by simpa using ha2⟩) ?_
        refine RdGo.v (Vop.ld rfl rfl rfl rfl Tryd.isAgg22 (fun w _ hS => (SlR.ex0 hm.rel hS.ext).at a ha2)) ?_
        refine RdGo.v (Vop.fldP rfl rfl rfl rfl Tryd.underlying44 rfl (by exact Tryd.sizeOf3) 1 rfl) ?_
        refine RdGo.v (Vop.ldo rfl rfl rfl rfl Tryd.isAgg3 0 rfl rfl) ?_
        refine RdGo.callP rfl rfl rfl rfl rfl (fun _ _ => Tryd.call15 _ _) (fun w _ hS => (by have := has_c m.rows[a].a m.rows[a].cap m.rows[a].xs ds[k].prop w (hT.ex hS.ext) (hrat.ex0 hS.ext).at_ hrat.len; rw [hnot] at this; exact this)) ?_
        refine RdGo.v (Vop.pickF rfl rfl rfl rfl rfl) ?_
        refine RdGo.nil ?_
        refine GoH.regionEnd ?_
        refine GoH.condF rfl ?_
        refine GoH.skip ?_
        refine GoH.seq ?_
        refine GoH.drawO mixed (os := [[0, 1, 2, 3, 4, 5, 6, 7, 8], [0, 1, 2, 3, 4, 5, 7, 6, 8], [0, 1, 2, 3, 4, 6, 5, 7, 8], [0, 2, 1, 3, 4, 5, 6, 7, 8], [0, 2, 1, 3, 4, 5, 7, 6, 8], [0, 2, 1, 3, 4, 6, 5, 7, 8], [2, 0, 1, 3, 4, 5, 6, 7, 8], [2, 0, 1, 3, 4, 5, 7, 6, 8], [2, 0, 1, 3, 4, 6, 5, 7, 8]]) rfl ?_
        refine List.forall_mem_cons.2 ⟨?_, ?_⟩
        · -- order [0, 1, 2, 3, 4, 5, 6, 7, 8]
          refine GoH.v (Vop.fldP rfl rfl rfl rfl Tryd.underlying44 rfl (by exact Tryd.sizeOf3) 1 rfl) ?_
          refine GoH.v (Vop.ldo rfl rfl rfl rfl Tryd.isAgg3 0 rfl rfl) ?_
          refine GoH.callM _ rfl rfl rfl rfl rfl (fun _ _ => Tryd.call16 _ _) (fun w _ hS => (by exact fact_c 0 w)) ?_
          rintro v w1 w2 Y' hS he ho
          rw [fact0] at ho
          obtain ⟨q0, cap0, sp0, rfl, hq0, hcap0, hS'⟩ := gainN hS he ho
          refine ⟨_, hS', ?_⟩
          -- heap: q0 b12 b2
          refine GoH.callM _ rfl rfl rfl rfl rfl (fun _ _ => Tryd.call6 _ _) (fun w _ hS => (by exact faxiom_c ds[k].prop 1 (q0.map (fun b => ⟨b, 0, none⟩)) cap0 (canT (.leaf 3 0 0 0)) w (faAt hS 0 rfl (fun e => (hq0 e).1)) (by rw [canT_leaf]; omega))) ?_
          rintro v w1 w2 Y' hS he ⟨sv, rfl, ho⟩
          obtain ⟨q3, cap3, sp3, rfl, hq3, hcap3, hS'⟩ := gainN hS he ho
          refine ⟨_, hS', ?_⟩
          -- heap: q3 q0 b12 b2
          refine GoH.v (Vop.mv rfl rfl rfl rfl) ?_
          refine GoH.v (Vop.ext rfl rfl rfl rfl rfl) ?_
          refine GoH.v (Vop.ext rfl rfl rfl rfl rfl) ?_
          refine GoH.v (Vop.asg rfl rfl rfl rfl) ?_
          refine GoH.v (Vop.asg rfl rfl rfl rfl) ?_
          refine GoH.regionEnd ?_
          refine GoH.seq ?_
          refine GoH.region ?_
          refine GoH.v (Vop.mv rfl rfl rfl rfl) ?_
          refine GoH.v (Vop.bin rfl rfl rfl rfl (bNeV (v := false) (by rw [ax0 hp5]; rfl)) rfl) ?_
          refine GoH.v (Vop.mv rfl rfl rfl rfl) ?_
          refine GoH.v (Vop.mv rfl rfl rfl rfl) ?_
          refine GoH.callP rfl rfl rfl rfl rfl (fun _ _ => Tryd.call17 _ _) (fun w _ hS => (by have := frags_c (q3.map (fun b => ⟨b, 0, none⟩)) cap3 (axF ds[k].prop 1 (canT (.leaf 3 0 0 0))) w (faAt hS 0 rfl (fun e => (hq3 e).1)) (by have := axF_len (p := ds[k].prop) (a := 1) (f := canT (.leaf 3 0 0 0)) (by rw [canT_leaf]; omega); unfold maxLen; omega); rw [frg0 hp5] at this; exact this)) ?_
          refine GoH.v (Vop.bin rfl rfl rfl rfl (bNeV (v := false) rfl) rfl) ?_
          refine GoH.v (Vop.pickF rfl rfl rfl rfl rfl) ?_
          refine GoH.regionEnd ?_
          refine GoH.condF rfl ?_
          refine GoH.skip ?_
          refine GoH.inBlock ?_
          refine GoH.region ?_
          refine GoH.v (Vop.mv rfl rfl rfl rfl) ?_
          refine GoH.v (Vop.bin rfl rfl rfl rfl (bAdd (by omega)) rfl) ?_
          refine GoH.v (Vop.asg rfl rfl rfl rfl) ?_
          refine GoH.regionEnd ?_
          exact IH (k + 1) _ _ hlt (by omega) ⟨rfl, rfl, rfl, rfl, trivial⟩ (.cons _ (.cons _ (.cons _ (List.Sublist.refl _))))
        refine List.forall_mem_cons.2 ⟨?_, ?_⟩
        · -- order [0, 1, 2, 3, 4, 5, 7, 6, 8]
          refine GoH.v (Vop.fldP rfl rfl rfl rfl Tryd.underlying44 rfl (by exact Tryd.sizeOf3) 1 rfl) ?_
          refine GoH.v (Vop.ldo rfl rfl rfl rfl Tryd.isAgg3 0 rfl rfl) ?_
          refine GoH.callM _ rfl rfl rfl rfl rfl (fun _ _ => Tryd.call16 _ _) (fun w _ hS => (by exact fact_c 0 w)) ?_
          rintro v w1 w2 Y' hS he ho
          rw [fact0] at ho
          obtain ⟨q0, cap0, sp0, rfl, hq0, hcap0, hS'⟩ := gainN hS he ho
          refine ⟨_, hS', ?_⟩
          -- heap: q0 b12 b2
          refine GoH.callM _ rfl rfl rfl rfl rfl (fun _ _ => Tryd.call6 _ _) (fun w _ hS => (by exact faxiom_c ds[k].prop 1 (q0.map (fun b => ⟨b, 0, none⟩)) cap0 (canT (.leaf 3 0 0 0)) w (faAt hS 0 rfl (fun e => (hq0 e).1)) (by rw [canT_leaf]; omega))) ?_
          rintro v w1 w2 Y' hS he ⟨sv, rfl, ho⟩
          obtain ⟨q3, cap3, sp3, rfl, hq3, hcap3, hS'⟩ := gainN hS he ho
          refine ⟨_, hS', ?_⟩
          -- heap: q3 q0 b12 b2
          refine GoH.v (Vop.mv rfl rfl rfl rfl) ?_
          refine GoH.v (Vop.ext rfl rfl rfl rfl rfl) ?_
          refine GoH.v (Vop.asg rfl rfl rfl rfl) ?_
          refine GoH.v (Vop.ext rfl rfl rfl rfl rfl) ?_
          refine GoH.v (Vop.asg rfl rfl rfl rfl) ?_
          refine GoH.regionEnd ?_
          refine GoH.seq ?_
          refine GoH.region ?_
          refine GoH.v (Vop.mv rfl rfl rfl rfl) ?_
          refine GoH.v (Vop.bin rfl rfl rfl rfl (bNeV (v := false) (by rw [ax0 hp5]; rfl)) rfl) ?_
          refine GoH.v (Vop.mv rfl rfl rfl rfl) ?_
          refine GoH.v (Vop.mv rfl rfl rfl rfl) ?_
          refine GoH.callP rfl rfl rfl rfl rfl (fun _ _ => Tryd.call17 _ _) (fun w _ hS => (by have := frags_c (q3.map (fun b => ⟨b, 0, none⟩)) cap3 (axF ds[k].prop 1 (canT (.leaf 3 0 0 0))) w (faAt hS 0 rfl (fun e => (hq3 e).1)) (by have := axF_len (p := ds[k].prop) (a := 1) (f := canT (.leaf 3 0 0 0)) (by rw [canT_leaf]; omega); unfold maxLen; omega); rw [frg0 hp5] at this; exact this)) ?_
          refine GoH.v (Vop.bin rfl rfl rfl rfl (bNeV (v := false) rfl) rfl) ?_
          refine GoH.v (Vop.pickF rfl rfl rfl rfl rfl) ?_
          refine GoH.regionEnd ?_
          refine GoH.condF rfl ?_
          refine GoH.skip ?_
          refine GoH.inBlock ?_
          refine GoH.region ?_
          refine GoH.v (Vop.mv rfl rfl rfl rfl) ?_
          refine GoH.v (Vop.bin rfl rfl rfl rfl (bAdd (by omega)) rfl) ?_
          refine GoH.v (Vop.asg rfl rfl rfl rfl) ?_
          refine GoH.regionEnd ?_
          exact IH (k + 1) _ _ hlt (by omega) ⟨rfl, rfl, rfl, rfl, trivial⟩ (.cons _ (.cons _ (.cons _ (List.Sublist.refl _))))
        refine List.forall_mem_cons.2 ⟨?_, ?_⟩
        · -- order [0, 1, 2, 3, 4, 6, 5, 7, 8]
          refine GoH.v (Vop.fldP rfl rfl rfl rfl Tryd.underlying44 rfl (by exact Tryd.sizeOf3) 1 rfl) ?_
          refine GoH.v (Vop.ldo rfl rfl rfl rfl Tryd.isAgg3 0 rfl rfl) ?_
          refine GoH.callM _ rfl rfl rfl rfl rfl (fun _ _ => Tryd.call16 _ _) (fun w _ hS => (by exact fact_c 0 w)) ?_
          rintro v w1 w2 Y' hS he ho
          rw [fact0] at ho
          obtain ⟨q0, cap0, sp0, rfl, hq0, hcap0, hS'⟩ := gainN hS he ho
          refine ⟨_, hS', ?_⟩
          -- heap: q0 b12 b2
          refine GoH.callM _ rfl rfl rfl rfl rfl (fun _ _ => Tryd.call6 _ _) (fun w _ hS => (by exact faxiom_c ds[k].prop 1 (q0.map (fun b => ⟨b, 0, none⟩)) cap0 (canT (.leaf 3 0 0 0)) w (faAt hS 0 rfl (fun e => (hq0 e).1)) (by rw [canT_leaf]; omega))) ?_
          rintro v w1 w2 Y' hS he ⟨sv, rfl, ho⟩
          obtain ⟨q3, cap3, sp3, rfl, hq3, hcap3, hS'⟩ := gainN hS he ho
          refine ⟨_, hS', ?_⟩
          -- heap: q3 q0 b12 b2
          refine GoH.v (Vop.mv rfl rfl rfl rfl) ?_
          refine GoH.v (Vop.ext rfl rfl rfl rfl rfl) ?_
          refine GoH.v (Vop.ext rfl rfl rfl rfl rfl) ?_
          refine GoH.v (Vop.asg rfl rfl rfl rfl) ?_
          refine GoH.v (Vop.asg rfl rfl rfl rfl) ?_
          refine GoH.regionEnd ?_
          refine GoH.seq ?_
          refine GoH.region ?_
          refine GoH.v (Vop.mv rfl rfl rfl rfl) ?_
          refine GoH.v (Vop.bin rfl rfl rfl rfl (bNeV (v := false) (by rw [ax0 hp5]; rfl)) rfl) ?_
          refine GoH.v (Vop.mv rfl rfl rfl rfl) ?_
          refine GoH.v (Vop.mv rfl rfl rfl rfl) ?_
          refine GoH.callP rfl rfl rfl rfl rfl (fun _ _ => Tryd.call17 _ _) (fun w _ hS => (by have := frags_c (q3.map (fun b => ⟨b, 0, none⟩)) cap3 (axF ds[k].prop 1 (canT (.leaf 3 0 0 0))) w (faAt hS 0 rfl (fun e => (hq3 e).1)) (by have := axF_len (p := ds[k].prop) (a := 1) (f := canT (.leaf 3 0 0 0)) (by rw [canT_leaf]; omega); unfold maxLen; omega); rw [frg0 hp5] at this; exact this)) ?_
          refine GoH.v (Vop.bin rfl rfl rfl rfl (bNeV (v := false) rfl) rfl) ?_
          refine GoH.v (Vop.pickF rfl rfl rfl rfl rfl) ?_
          refine GoH.regionEnd ?_
          refine GoH.condF rfl ?_
          refine GoH.skip ?_
          refine GoH.inBlock ?_
          refine GoH.region ?_
          refine GoH.v (Vop.mv rfl rfl rfl rfl) ?_
          refine GoH.v (Vop.bin rfl rfl rfl rfl (bAdd (by omega)) rfl) ?_
          refine GoH.v (Vop.asg rfl rfl rfl rfl) ?_
          refine GoH.regionEnd ?_
          exact IH (k + 1) _ _ hlt (by omega) ⟨rfl, rfl, rfl, rfl, trivial⟩ (.cons _ (.cons _ (.cons _ (List.Sublist.refl _))))
        refine List.forall_mem_cons.2 ⟨?_, ?_⟩
        · -- order [0, 2, 1, 3, 4, 5, 6, 7, 8]
          refine GoH.v (Vop.fldP rfl rfl rfl rfl Tryd.underlying44 rfl (by exact Tryd.sizeOf3) 1 rfl) ?_
          refine GoH.callM _ rfl rfl rfl rfl rfl (fun _ _ => Tryd.call16 _ _) (fun w _ hS => (by exact fact_c 0 w)) ?_
          rintro v w1 w2 Y' hS he ho
          rw [fact0] at ho
          obtain ⟨q0, cap0, sp0, rfl, hq0, hcap0, hS'⟩ := gainN hS he ho
          refine ⟨_, hS', ?_⟩
          -- heap: q0 b12 b2
          refine GoH.v (Vop.ldo rfl rfl rfl rfl Tryd.isAgg3 1 rfl rfl) ?_
          refine GoH.callM _ rfl rfl rfl rfl rfl (fun _ _ => Tryd.call6 _ _) (fun w _ hS => (by exact faxiom_c ds[k].prop 1 (q0.map (fun b => ⟨b, 0, none⟩)) cap0 (canT (.leaf 3 0 0 0)) w (faAt hS 0 rfl (fun e => (hq0 e).1)) (by rw [canT_leaf]; omega))) ?_
          rintro v w1 w2 Y' hS he ⟨sv, rfl, ho⟩
          obtain ⟨q3, cap3, sp3, rfl, hq3, hcap3, hS'⟩ := gainN hS he ho
          refine ⟨_, hS', ?_⟩
          -- heap: q3 q0 b12 b2
          refine GoH.v (Vop.mv rfl rfl rfl rfl) ?_
          refine GoH.v (Vop.ext rfl rfl rfl rfl rfl) ?_
          refine GoH.v (Vop.ext rfl rfl rfl rfl rfl) ?_
          refine GoH.v (Vop.asg rfl rfl rfl rfl) ?_
          refine GoH.v (Vop.asg rfl rfl rfl rfl) ?_
          refine GoH.regionEnd ?_
          refine GoH.seq ?_
          refine GoH.region ?_
          refine GoH.v (Vop.mv rfl rfl rfl rfl) ?_
          refine GoH.v (Vop.bin rfl rfl rfl rfl (bNeV (v := false) (by rw [ax0 hp5]; rfl)) rfl) ?_
          refine GoH.v (Vop.mv rfl rfl rfl rfl) ?_
          refine GoH.v (Vop.mv rfl rfl rfl rfl) ?_
          refine GoH.callP rfl rfl rfl rfl rfl (fun _ _ => Tryd.call17 _ _) (fun w _ hS => (by have := frags_c (q3.map (fun b => ⟨b, 0, none⟩)) cap3 (axF ds[k].prop 1 (canT (.leaf 3 0 0 0))) w (faAt hS 0 rfl (fun e => (hq3 e).1)) (by have := axF_len (p := ds[k].prop) (a := 1) (f := canT (.leaf 3 0 0 0)) (by rw [canT_leaf]; omega); unfold maxLen; omega); rw [frg0 hp5] at this; exact this)) ?_
          refine GoH.v (Vop.bin rfl rfl rfl rfl (bNeV (v := false) rfl) rfl) ?_
          refine GoH.v (Vop.pickF rfl rfl rfl rfl rfl) ?_
          refine GoH.regionEnd ?_
          refine GoH.condF rfl ?_
          refine GoH.skip ?_
          refine GoH.inBlock ?_
          refine GoH.region ?_
          refine GoH.v (Vop.mv rfl rfl rfl rfl) ?_
          refine GoH.v (Vop.bin rfl rfl rfl rfl (bAdd (by omega)) rfl) ?_
          refine GoH.v (Vop.asg rfl rfl rfl rfl) ?_
          refine GoH.regionEnd ?_
          exact IH (k + 1) _ _ hlt (by omega) ⟨rfl, rfl, rfl, rfl, trivial⟩ (.cons _ (.cons _ (.cons _ (List.Sublist.refl _))))
        refine List.forall_mem_cons.2 ⟨?_, ?_⟩
        · -- order [0, 2, 1, 3, 4, 5, 7, 6, 8]
          refine GoH.v (Vop.fldP rfl rfl rfl rfl Tryd.underlying44 rfl (by exact Tryd.sizeOf3) 1 rfl) ?_
          refine GoH.callM _ rfl rfl rfl rfl rfl (fun _ _ => Tryd.call16 _ _) (fun w _ hS => (by exact fact_c 0 w)) ?_
          rintro v w1 w2 Y' hS he ho
          rw [fact0] at ho
          obtain ⟨q0, cap0, sp0, rfl, hq0, hcap0, hS'⟩ := gainN hS he ho
          refine ⟨_, hS', ?_⟩
          -- heap: q0 b12 b2
          refine GoH.v (Vop.ldo rfl rfl rfl rfl Tryd.isAgg3 1 rfl rfl) ?_
          refine GoH.callM _ rfl rfl rfl rfl rfl (fun _ _ => Tryd.call6 _ _) (fun w _ hS => (by exact faxiom_c ds[k].prop 1 (q0.map (fun b => ⟨b, 0, none⟩)) cap0 (canT (.leaf 3 0 0 0)) w (faAt hS 0 rfl (fun e => (hq0 e).1)) (by rw [canT_leaf]; omega))) ?_
          rintro v w1 w2 Y' hS he ⟨sv, rfl, ho⟩
          obtain ⟨q3, cap3, sp3, rfl, hq3, hcap3, hS'⟩ := gainN hS he ho
          refine ⟨_, hS', ?_⟩
          -- heap: q3 q0 b12 b2
          refine GoH.v (Vop.mv rfl rfl rfl rfl) ?_
          refine GoH.v (Vop.ext rfl rfl rfl rfl rfl) ?_
          refine GoH.v (Vop.asg rfl rfl rfl rfl) ?_
          refine GoH.v (Vop.ext rfl rfl rfl rfl rfl) ?_
          refine GoH.v (Vop.asg rfl rfl rfl rfl) ?_
          refine GoH.regionEnd ?_
          refine GoH.seq ?_
          refine GoH.region ?_
          refine GoH.v (Vop.mv rfl rfl rfl rfl) ?_
          refine GoH.v (Vop.bin rfl rfl rfl rfl (bNeV (v := false) (by rw [ax0 hp5]; rfl)) rfl) ?_
          refine GoH.v (Vop.mv rfl rfl rfl rfl) ?_
          refine GoH.v (Vop.mv rfl rfl rfl rfl) ?_
          refine GoH.callP rfl rfl rfl rfl rfl (fun _ _ => Tryd.call17 _ _) (fun w _ hS => (by have := frags_c (q3.map (fun b => ⟨b, 0, none⟩)) cap3 (axF ds[k].prop 1 (canT (.leaf 3 0 0 0))) w (faAt hS 0 rfl (fun e => (hq3 e).1)) (by have := axF_len (p := ds[k].prop) (a := 1) (f := canT (.leaf 3 0 0 0)) (by rw [canT_leaf]; omega); unfold maxLen; omega); rw [frg0 hp5] at this; exact this)) ?_
          refine GoH.v (Vop.bin rfl rfl rfl rfl (bNeV (v := false) rfl) rfl) ?_
          refine GoH.v (Vop.pickF rfl rfl rfl rfl rfl) ?_
          refine GoH.regionEnd ?_
          refine GoH.condF rfl ?_
          refine GoH.skip ?_
          refine GoH.inBlock ?_
          refine GoH.region ?_
          refine GoH.v (Vop.mv rfl rfl rfl rfl) ?_
          refine GoH.v (Vop.bin rfl rfl rfl rfl (bAdd (by omega)) rfl) ?_
          refine GoH.v (Vop.asg rfl rfl rfl rfl) ?_
          refine GoH.regionEnd ?_
          exact IH (k + 1) _ _ hlt (by omega) ⟨rfl, rfl, rfl, rfl, trivial⟩ (.cons _ (.cons _ (.cons _ (List.Sublist.refl _))))
        refine List.forall_mem_cons.2 ⟨?_, ?_⟩
        · -- order [0, 2, 1, 3, 4, 6, 5, 7, 8]
          refine GoH.v (Vop.fldP rfl rfl rfl rfl Tryd.underlying44 rfl (by exact Tryd.sizeOf3) 1 rfl) ?_
          refine GoH.callM _ rfl rfl rfl rfl rfl (fun _ _ => Tryd.call16 _ _) (fun w _ hS => (by exact fact_c 0 w)) ?_
          rintro v w1 w2 Y' hS he ho
          rw [fact0] at ho
          obtain ⟨q0, cap0, sp0, rfl, hq0, hcap0, hS'⟩ := gainN hS he ho
          refine ⟨_, hS', ?_⟩
          -- heap: q0 b12 b2
          refine GoH.v (Vop.ldo rfl rfl rfl rfl Tryd.isAgg3 1 rfl rfl) ?_
          refine GoH.callM _ rfl rfl rfl rfl rfl (fun _ _ => Tryd.call6 _ _) (fun w _ hS => (by exact faxiom_c ds[k].prop 1 (q0.map (fun b => ⟨b, 0, none⟩)) cap0 (canT (.leaf 3 0 0 0)) w (faAt hS 0 rfl (fun e => (hq0 e).1)) (by rw [canT_leaf]; omega))) ?_
          rintro v w1 w2 Y' hS he ⟨sv, rfl, ho⟩
          obtain ⟨q3, cap3, sp3, rfl, hq3, hcap3, hS'⟩ := gainN hS he ho
          refine ⟨_, hS', ?_⟩
          -- heap: q3 q0 b12 b2
          refine GoH.v (Vop.mv rfl rfl rfl rfl) ?_
          refine GoH.v (Vop.ext rfl rfl rfl rfl rfl) ?_
          refine GoH.v (Vop.ext rfl rfl rfl rfl rfl) ?_
          refine GoH.v (Vop.asg rfl rfl rfl rfl) ?_
          refine GoH.v (Vop.asg rfl rfl rfl rfl) ?_
          refine GoH.regionEnd ?_
          refine GoH.seq ?_
          refine GoH.region ?_
          refine GoH.v (Vop.mv rfl rfl rfl rfl) ?_
          refine GoH.v (Vop.bin rfl rfl rfl rfl (bNeV (v := false) (by rw [ax0 hp5]; rfl)) rfl) ?_
          refine GoH.v (Vop.mv rfl rfl rfl rfl) ?_
          refine GoH.v (Vop.mv rfl rfl rfl rfl) ?_
          refine GoH.callP rfl rfl rfl rfl rfl (fun _ _ => Tryd.call17 _ _) (fun w _ hS => (by have := frags_c (q3.map (fun b => ⟨b, 0, none⟩)) cap3 (axF ds[k].prop 1 (canT (.leaf 3 0 0 0))) w (faAt hS 0 rfl (fun e => (hq3 e).1)) (by have := axF_len (p := ds[k].prop) (a := 1) (f := canT (.leaf 3 0 0 0)) (by rw [canT_leaf]; omega); unfold maxLen; omega); rw [frg0 hp5] at this; exact this)) ?_
          refine GoH.v (Vop.bin rfl rfl rfl rfl (bNeV (v := false) rfl) rfl) ?_
          refine GoH.v (Vop.pickF rfl rfl rfl rfl rfl) ?_
          refine GoH.regionEnd ?_
          refine GoH.condF rfl ?_
          refine GoH.skip ?_
          refine GoH.inBlock ?_
          refine GoH.region ?_
          refine GoH.v (Vop.mv rfl rfl rfl rfl) ?_
          refine GoH.v (Vop.bin rfl rfl rfl rfl (bAdd (by omega)) rfl) ?_
          refine GoH.v (Vop.asg rfl rfl rfl rfl) ?_
          refine GoH.regionEnd ?_
          exact IH (k + 1) _ _ hlt (by omega) ⟨rfl, rfl, rfl, rfl, trivial⟩ (.cons _ (.cons _ (.cons _ (List.Sublist.refl _))))
        refine List.forall_mem_cons.2 ⟨?_, ?_⟩
        · -- order [2, 0, 1, 3, 4, 5, 6, 7, 8]
          refine GoH.callM _ rfl rfl rfl rfl rfl (fun _ _ => Tryd.call16 _ _) (fun w _ hS => (by exact fact_c 0 w)) ?_
          rintro v w1 w2 Y' hS he ho
          rw [fact0] at ho
          obtain ⟨q0, cap0, sp0, rfl, hq0, hcap0, hS'⟩ := gainN hS he ho
          refine ⟨_, hS', ?_⟩
          -- heap: q0 b12 b2
          refine GoH.v (Vop.fldP rfl rfl rfl rfl Tryd.underlying44 rfl (by exact Tryd.sizeOf3) 1 rfl) ?_
          refine GoH.v (Vop.ldo rfl rfl rfl rfl Tryd.isAgg3 1 rfl rfl) ?_
          refine GoH.callM _ rfl rfl rfl rfl rfl (fun _ _ => Tryd.call6 _ _) (fun w _ hS => (by exact faxiom_c ds[k].prop 1 (q0.map (fun b => ⟨b, 0, none⟩)) cap0 (canT (.leaf 3 0 0 0)) w (faAt hS 0 rfl (fun e => (hq0 e).1)) (by rw [canT_leaf]; omega))) ?_
          rintro v w1 w2 Y' hS he ⟨sv, rfl, ho⟩
          obtain ⟨q3, cap3, sp3, rfl, hq3, hcap3, hS'⟩ := gainN hS he ho
          refine ⟨_, hS', ?_⟩
          -- heap: q3 q0 b12 b2
          refine GoH.v (Vop.mv rfl rfl rfl rfl) ?_
          refine GoH.v (Vop.ext rfl rfl rfl rfl rfl) ?_
          refine GoH.v (Vop.ext rfl rfl rfl rfl rfl) ?_
          refine GoH.v (Vop.asg rfl rfl rfl rfl) ?_
          refine GoH.v (Vop.asg rfl rfl rfl rfl) ?_
          refine GoH.regionEnd ?_
          refine GoH.seq ?_
          refine GoH.region ?_
          refine GoH.v (Vop.mv rfl rfl rfl rfl) ?_
          refine GoH.v (Vop.bin rfl rfl rfl rfl (bNeV (v := false) (by rw [ax0 hp5]; rfl)) rfl) ?_
          refine GoH.v (Vop.mv rfl rfl rfl rfl) ?_
          refine GoH.v (Vop.mv rfl rfl rfl rfl) ?_
          refine GoH.callP rfl rfl rfl rfl rfl (fun _ _ => Tryd.call17 _ _) (fun w _ hS => (by have := frags_c (q3.map (fun b => ⟨b, 0, none⟩)) cap3 (axF ds[k].prop 1 (canT (.leaf 3 0 0 0))) w (faAt hS 0 rfl (fun e => (hq3 e).1)) (by have := axF_len (p := ds[k].prop) (a := 1) (f := canT (.leaf 3 0 0 0)) (by rw [canT_leaf]; omega); unfold maxLen; omega); rw [frg0 hp5] at this; exact this)) ?_
          refine GoH.v (Vop.bin rfl rfl rfl rfl (bNeV (v := false) rfl) rfl) ?_
          refine GoH.v (Vop.pickF rfl rfl rfl rfl rfl) ?_
          refine GoH.regionEnd ?_
          refine GoH.condF rfl ?_
          refine GoH.skip ?_
          refine GoH.inBlock ?_
          refine GoH.region ?_
          refine GoH.v (Vop.mv rfl rfl rfl rfl) ?_
          refine GoH.v (Vop.bin rfl rfl rfl rfl (bAdd (by omega)) rfl) ?_
          refine GoH.v (Vop.asg rfl rfl rfl rfl) ?_
          refine GoH.regionEnd ?_
          exact IH (k + 1) _ _ hlt (by omega) ⟨rfl, rfl, rfl, rfl, trivial⟩ (.cons _ (.cons _ (.cons _ (List.Sublist.refl _))))
        refine List.forall_mem_cons.2 ⟨?_, ?_⟩
        · -- order [2, 0, 1, 3, 4, 5, 7, 6, 8]
          refine GoH.callM _ rfl rfl rfl rfl rfl (fun _ _ => Tryd.call16 _ _) (fun w _ hS => (by exact fact_c 0 w)) ?_
          rintro v w1 w2 Y' hS he ho
          rw [fact0] at ho
          obtain ⟨q0, cap0, sp0, rfl, hq0, hcap0, hS'⟩ := gainN hS he ho
          refine ⟨_, hS', ?_⟩
          -- heap: q0 b12 b2
          refine GoH.v (Vop.fldP rfl rfl rfl rfl Tryd.underlying44 rfl (by exact Tryd.sizeOf3) 1 rfl) ?_
          refine GoH.v (Vop.ldo rfl rfl rfl rfl Tryd.isAgg3 1 rfl rfl) ?_
          refine GoH.callM _ rfl rfl rfl rfl rfl (fun _ _ => Tryd.call6 _ _) (fun w _ hS => (by exact faxiom_c ds[k].prop 1 (q0.map (fun b => ⟨b, 0, none⟩)) cap0 (canT (.leaf 3 0 0 0)) w (faAt hS 0 rfl (fun e => (hq0 e).1)) (by rw [canT_leaf]; omega))) ?_
          rintro v w1 w2 Y' hS he ⟨sv, rfl, ho⟩
          obtain ⟨q3, cap3, sp3, rfl, hq3, hcap3, hS'⟩ := gainN hS he ho
          refine ⟨_, hS', ?_⟩
          -- heap: q3 q0 b12 b2
          refine GoH.v (Vop.mv rfl rfl rfl rfl) ?_
          refine GoH.v (Vop.ext rfl rfl rfl rfl rfl) ?_
          refine GoH.v (Vop.asg rfl rfl rfl rfl) ?_
          refine GoH.v (Vop.ext rfl rfl rfl rfl rfl) ?_
          refine GoH.v (Vop.asg rfl rfl rfl rfl) ?_
          refine GoH.regionEnd ?_
          refine GoH.seq ?_
          refine GoH.region ?_
          refine GoH.v (Vop.mv rfl rfl rfl rfl) ?_
          refine GoH.v (Vop.bin rfl rfl rfl rfl (bNeV (v := false) (by rw [ax0 hp5]; rfl)) rfl) ?_
          refine GoH.v (Vop.mv rfl rfl rfl rfl) ?_
          refine GoH.v (Vop.mv rfl rfl rfl rfl) ?_
          refine GoH.callP rfl rfl rfl rfl rfl (fun _ _ => Tryd.call17 _ _) (fun w _ hS => (by have := frags_c (q3.map (fun b => ⟨b, 0, none⟩)) cap3 (axF ds[k].prop 1 (canT (.leaf 3 0 0 0))) w (faAt hS 0 rfl (fun e => (hq3 e).1)) (by have := axF_len (p := ds[k].prop) (a := 1) (f := canT (.leaf 3 0 0 0)) (by rw [canT_leaf]; omega); unfold maxLen; omega); rw [frg0 hp5] at this; exact this)) ?_
          refine GoH.v (Vop.bin rfl rfl rfl rfl (bNeV (v := false) rfl) rfl) ?_
          refine GoH.v (Vop.pickF rfl rfl rfl rfl rfl) ?_
          refine GoH.regionEnd ?_
          refine GoH.condF rfl ?_
          refine GoH.skip ?_
          refine GoH.inBlock ?_
          refine GoH.region ?_
          refine GoH.v (Vop.mv rfl rfl rfl rfl) ?_
          refine GoH.v (Vop.bin rfl rfl rfl rfl (bAdd (by omega)) rfl) ?_
          refine GoH.v (Vop.asg rfl rfl rfl rfl) ?_
          refine GoH.regionEnd ?_
          exact IH (k + 1) _ _ hlt (by omega) ⟨rfl, rfl, rfl, rfl, trivial⟩ (.cons _ (.cons _ (.cons _ (List.Sublist.refl _))))
        refine List.forall_mem_cons.2 ⟨?_, ?_⟩
        · -- order [2, 0, 1, 3, 4, 6, 5, 7, 8]
          refine GoH.callM _ rfl rfl rfl rfl rfl (fun _ _ => Tryd.call16 _ _) (fun w _ hS => (by exact fact_c 0 w)) ?_
          rintro v w1 w2 Y' hS he ho
          rw [fact0] at ho
          obtain ⟨q0, cap0, sp0, rfl, hq0, hcap0, hS'⟩ := gainN hS he ho
          refine ⟨_, hS', ?_⟩
          -- heap: q0 b12 b2
          refine GoH.v (Vop.fldP rfl rfl rfl rfl Tryd.underlying44 rfl (by exact Tryd.sizeOf3) 1 rfl) ?_
          refine GoH.v (Vop.ldo rfl rfl rfl rfl Tryd.isAgg3 1 rfl rfl) ?_
          refine GoH.callM _ rfl rfl rfl rfl rfl (fun _ _ => Tryd.call6 _ _) (fun w _ hS => (by exact faxiom_c ds[k].prop 1 (q0.map (fun b => ⟨b, 0, none⟩)) cap0 (canT (.leaf 3 0 0 0)) w (faAt hS 0 rfl (fun e => (hq0 e).1)) (by rw [canT_leaf]; omega))) ?_
          rintro v w1 w2 Y' hS he ⟨sv, rfl, ho⟩
          obtain ⟨q3, cap3, sp3, rfl, hq3, hcap3, hS'⟩ := gainN hS he ho
          refine ⟨_, hS', ?_⟩
          -- heap: q3 q0 b12 b2
          refine GoH.v (Vop.mv rfl rfl rfl rfl) ?_
          refine GoH.v (Vop.ext rfl rfl rfl rfl rfl) ?_
          refine GoH.v (Vop.ext rfl rfl rfl rfl rfl) ?_
          refine GoH.v (Vop.asg rfl rfl rfl rfl) ?_
          refine GoH.v (Vop.asg rfl rfl rfl rfl) ?_
          refine GoH.regionEnd ?_
          refine GoH.seq ?_
          refine GoH.region ?_
          refine GoH.v (Vop.mv rfl rfl rfl rfl) ?_
          refine GoH.v (Vop.bin rfl rfl rfl rfl (bNeV (v := false) (by rw [ax0 hp5]; rfl)) rfl) ?_
          refine GoH.v (Vop.mv rfl rfl rfl rfl) ?_
          refine GoH.v (Vop.mv rfl rfl rfl rfl) ?_
          refine GoH.callP rfl rfl rfl rfl rfl (fun _ _ => Tryd.call17 _ _) (fun w _ hS => (by have := frags_c (q3.map (fun b => ⟨b, 0, none⟩)) cap3 (axF ds[k].prop 1 (canT (.leaf 3 0 0 0))) w (faAt hS 0 rfl (fun e => (hq3 e).1)) (by have := axF_len (p := ds[k].prop) (a := 1) (f := canT (.leaf 3 0 0 0)) (by rw [canT_leaf]; omega); unfold maxLen; omega); rw [frg0 hp5] at this; exact this)) ?_
          refine GoH.v (Vop.bin rfl rfl rfl rfl (bNeV (v := false) rfl) rfl) ?_
          refine GoH.v (Vop.pickF rfl rfl rfl rfl rfl) ?_
          refine GoH.regionEnd ?_
          refine GoH.condF rfl ?_
          refine GoH.skip ?_
          refine GoH.inBlock ?_
          refine GoH.region ?_
          refine GoH.v (Vop.mv rfl rfl rfl rfl) ?_
          refine GoH.v (Vop.bin rfl rfl rfl rfl (bAdd (by omega)) rfl) ?_
          refine GoH.v (Vop.asg rfl rfl rfl rfl) ?_
          refine GoH.regionEnd ?_
          exact IH (k + 1) _ _ hlt (by omega) ⟨rfl, rfl, rfl, rfl, trivial⟩ (.cons _ (.cons _ (.cons _ (List.Sublist.refl _))))
        intro _ hx; cases hx
      · -- no
        have hge : ¬ k < ds.length := by simp at hc; omega
        refine GoH.exit rfl ?_
        refine GoH.seq ?_
        refine GoH.region ?_
        refine GoH.callP rfl rfl rfl rfl rfl (fun _ _ => Tryd.call5 _ _) (fun w _ hS => awake15_c w (hT.ex hS.ext)) ?_
        refine GoH.v (Vop.asg rfl rfl rfl rfl) ?_
        refine GoH.regionEnd ?_
        refine GoH.ret Tryd.f4 Tryd.func4 rfl (fun w' hS => ?_)
        exact ⟨hS.ext, rfl⟩
end Go.Proofs.YtbjopkllkoomkaaDoor
