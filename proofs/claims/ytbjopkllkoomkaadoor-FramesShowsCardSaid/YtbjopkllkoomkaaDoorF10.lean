/- Contracts of functions of the program: what each call returns and that nothing else of memory is turned, under the conditions that each theorem states. -/
import Derived.Test.YtbjopkllkoomkaaDoorF9
namespace Go.Proofs.YtbjopkllkoomkaaDoor
open Go.RowKit Go.Proofs.Wit
/-! the defects of a model -/
theorem infoD : (Tryd.prog.info? 44).map (fun i => (i.zero, i.size, i.bytes)) = some (some (Value.agg #[.int .i64 0, .int .i64 0, .slice none 0 0]), 3, 40) := by kernel_rfl
theorem witnessR_c (r : Row) (p : Int) (w : World) (ha : r.At w) (hv : Val r.xs) : Cn Tryd.prog 31 [r.v, .int .i64 p] w (fun v w' => OwnS I64 3 w w' v (witL r.xs p)) := witness_c r.a r.cap r.xs p w ha.at_ hv
def DefsIs (w w' : World) (v : Value) (m : MV) (l : Int) : Prop :=
  ∃ (q : Option Nat) (cap : Nat) (ds : List DV) (H : Hl), v = .tuple #[osv q ds.length cap, .int .i64 (errE m.n m.val m.rel l)] ∧ NewH w w' H ∧ DefsIn H (q.map (fun b => ⟨b, 0, none⟩)) ds ∧ ds.map DV.plain = if errE m.n m.val m.rel l ≠ 0 then [] else defL l m.rel
set_option maxRecDepth 4000 in
theorem defects_c (m : MV) (l : Int) (w : World) (hm : m.At w) : Cn Tryd.prog 12 [m.v, .int .i64 l] w (fun v w' => DefsIs w w' v m l) := by
  obtain ⟨i0, hi, hz, hsz, hby⟩ := info_parts infoD
  have hlr := hm.lr
  unfold maxLen at hlr
  refine Cn.of Tryd.func12 rfl rfl ?_
  refine GoH.seq ?_
  refine GoH.region ?_
  refine GoH.bx rfl rfl rfl rfl (fun b2 => ?_)
  refine GoH.v (Vop.asg rfl rfl rfl rfl) ?_
  refine GoH.v (Vop.asg rfl rfl rfl rfl) ?_
  refine GoH.regionEnd ?_
  refine GoH.seq ?_
  refine GoH.region ?_
  refine GoH.v (Vop.ldB rfl rfl rfl rfl Tryd.isAgg35 0 rfl Tryd.sizeOf35 rfl) ?_
  refine GoH.v (Vop.mv rfl rfl rfl rfl) ?_
  refine GoH.callM _ rfl rfl rfl rfl rfl (fun _ _ => Tryd.call34 _ _) (fun w _ hS => errors_c m l w (hm.ex0 hS.ext)) ?_
  rintro v w1 w2 Y' hS he ⟨sv, rfl, ho⟩
  obtain ⟨q6, cap6, sp6, rfl, hq6, hcap6, hS'⟩ := gainS hS he ho
  refine ⟨_, hS', ?_⟩
  -- heap: q6 b2
  refine GoH.v (Vop.mv rfl rfl rfl rfl) ?_
  refine GoH.v (Vop.ext rfl rfl rfl rfl rfl) ?_
  refine GoH.v (Vop.ext rfl rfl rfl rfl rfl) ?_
  refine GoH.v (Vop.asg rfl rfl rfl rfl) ?_
  refine GoH.v (Vop.asg rfl rfl rfl rfl) ?_
  refine GoH.regionEnd ?_
  refine GoH.seq ?_
  refine GoH.seq ?_
  refine GoH.region ?_
  refine GoH.v (Vop.mv rfl rfl rfl rfl) ?_
  refine GoH.v (Vop.bin rfl rfl rfl rfl bNe rfl) ?_
  refine GoH.regionEnd ?_
  refine GoH.cond rfl (fun hc => ?_) (fun hc => ?_)
  · -- yes
    have h1 : errE m.n m.val m.rel l ≠ 0 := by simpa using hc
    refine GoH.seq ?_
    refine GoH.region ?_
    refine GoH.v (Vop.mv rfl rfl rfl rfl) ?_
    refine GoH.v (Vop.asg rfl rfl rfl rfl) ?_
    refine GoH.v (Vop.asg rfl rfl rfl rfl) ?_
    refine GoH.regionEnd ?_
    refine GoH.ret Tryd.f12 Tryd.func12 rfl (fun w' hS => ?_)
    exact ⟨hS.ext, none, 0, [], [], rfl, ⟨by simp, .nil⟩, ⟨.inl rfl, Nat.zero_le _, by simp⟩, by rw [if_pos h1]; rfl⟩
  · -- no
    have h1 : errE m.n m.val m.rel l = 0 := by simpa using hc
    obtain ⟨hV, hE, hP⟩ := errE_zero h1
    have hpl := propsL_len l
    have hag := hV.agents
    have hagl : m.rel.length = m.rows.length := by simp [MV.rel]
    refine GoH.skip ?_
    refine GoH.seq ?_
    refine GoH.region ?_
    refine GoH.v (Vop.asg rfl rfl rfl rfl) ?_
    refine GoH.regionEnd ?_
    refine GoH.seq ?_
    refine GoH.seq ?_
    refine GoH.region ?_
    refine GoH.v (Vop.fldP rfl rfl rfl rfl Tryd.underlying35 rfl (by exact Tryd.sizeOf33) 2 rfl) ?_
    refine GoH.v (Vop.ldo (v := .slice m.ra m.rows.length m.rc) rfl rfl rfl rfl Tryd.isAgg33 1 rfl rfl) ?_
    refine GoH.v (Vop.blt rfl rfl rfl (blt_len_slice Tryd.underlying33) rfl) ?_
    refine GoH.v (Vop.mv rfl rfl rfl rfl) ?_
    refine GoH.regionEnd ?_
    refine GoH.block ?_
    refine GoH.addNone (.cells (([] : List DV).flatMap DV.cells ++ []).toArray 44 (0, 0)) ?_
    refine GoH.loop (σ := Nat × List DV × Option Nat × Nat × List Value × Hl) (fun z => [(6, osv q6 (errP m.n m.val m.rel l).length cap6), (8, osv z.2.2.1 z.2.1.length z.2.2.2.1), (24, .slice m.ra m.rows.length m.rc), (25, .int .i64 m.rows.length), (26, .int .i64 z.1)])
      (fun z => [(z.2.2.1, .cells (z.2.1.flatMap DV.cells ++ z.2.2.2.2.1).toArray 44 (0, 0)), (q6, ob I64 3 (errP m.n m.val m.rel l) sp6)] ++ z.2.2.2.2.2)
      (fun z => z.1 ≤ m.rows.length ∧ z.2.1.length ≤ 3 * z.1 ∧ (z.2.2.1 = none → z.2.1.length = 0 ∧ z.2.2.2.1 = 0) ∧ (z.2.1.flatMap DV.cells ++ z.2.2.2.2.1).length = z.2.2.2.1 * 3 ∧ (∀ d ∈ z.2.1, InS I64 z.2.2.2.2.2 d.a d.ws ∧ d.ws.length ≤ maxLen) ∧ z.2.1.map DV.plain = defTo l m.rel z.1)
      (fun z => m.rows.length - z.1) (0, [], none, 0, [], []) ⟨Nat.zero_le _, Nat.le_refl _, fun _ => ⟨rfl, rfl⟩, rfl, by simp, rfl⟩ ⟨rfl, rfl, rfl, rfl, rfl, trivial⟩ (.cons_cons _ (.cons_cons _ (.cons _ .slnil))) (fun z hI IH => ?_)
    obtain ⟨k, ds, q, cap, sp, HR⟩ := z
    obtain ⟨hk, hdl, hq, hcap, hds, hpln⟩ := hI
    dsimp only at hk hdl hq hcap hds hpln IH ⊢
    -- heap: q q6
    refine GoH.seq ?_
    refine GoH.region ?_
    refine GoH.v (Vop.bin rfl rfl rfl rfl bLt rfl) ?_
    refine GoH.regionEnd ?_
    refine GoH.seq ?_
    refine GoH.cond rfl (fun hc => ?_) (fun hc => ?_)
    · -- yes
      have hlt : k < m.rows.length := by simpa using hc
      have hrow := hm.row m.rows[k] (List.getElem_mem hlt)
      have hrv := hV.rels m.rows[k].xs (List.mem_map.2 ⟨_, List.getElem_mem hlt, rfl⟩)
      have hrk : m.rel.getD k [] = m.rows[k].xs := by simp [MV.rel, List.getD_eq_getElem?_getD, hlt]
      refine GoH.skip ?_
      refine GoH.seq ?_
      refine GoH.block ?_
      refine GoH.seq ?_
      refine GoH.region ?_
      refine GoH.v (Vop.mv rfl rfl rfl rfl) ?_
      refine GoH.v (Vop.idx rfl rfl rfl rfl rfl Tryd.underlying33 Tryd.sizeOf22 ⟨_, hm.rel⟩ (by simp) (k) ⟨rfl, by simpa using hlt⟩) ?_
      refine GoH.v (Vop.ld rfl rfl rfl rfl Tryd.isAgg22 (fun w _ hS => (SlR.ex0 hm.rel hS.ext).at (k) hlt)) ?_
      refine GoH.v (Vop.asg rfl rfl rfl rfl) ?_
      refine GoH.v (Vop.asg rfl rfl rfl rfl) ?_
      refine GoH.regionEnd ?_
      refine GoH.seq ?_
      refine GoH.region ?_
      refine GoH.v (Vop.mv rfl rfl rfl rfl) ?_
      refine GoH.v (Vop.blt rfl rfl rfl (blt_len_slice Tryd.underlying42) rfl) ?_
      refine GoH.v (Vop.mv rfl rfl rfl rfl) ?_
      refine GoH.regionEnd ?_
      refine GoH.block ?_
      refine GoH.loop (σ := Nat × List DV × Option Nat × Nat × List Value × Hl) (fun z => [(6, osv q6 (errP m.n m.val m.rel l).length cap6), (8, osv z.2.2.1 z.2.1.length z.2.2.2.1), (24, .slice m.ra m.rows.length m.rc), (25, .int .i64 m.rows.length), (26, .int .i64 k), (9, .int .i64 k), (10, m.rows[k].v), (31, osv q6 (errP m.n m.val m.rel l).length cap6), (32, .int .i64 (errP m.n m.val m.rel l).length), (33, .int .i64 z.1)])
        (fun z => [(z.2.2.1, .cells (z.2.1.flatMap DV.cells ++ z.2.2.2.2.1).toArray 44 (0, 0)), (q6, ob I64 3 (errP m.n m.val m.rel l) sp6)] ++ z.2.2.2.2.2)
        (fun z => z.1 ≤ (errP m.n m.val m.rel l).length ∧ z.2.1.length ≤ 3 * k + z.1 ∧ (z.2.2.1 = none → z.2.1.length = 0 ∧ z.2.2.2.1 = 0) ∧ (z.2.1.flatMap DV.cells ++ z.2.2.2.2.1).length = z.2.2.2.1 * 3 ∧ (∀ d ∈ z.2.1, InS I64 z.2.2.2.2.2 d.a d.ws ∧ d.ws.length ≤ maxLen) ∧ z.2.1.map DV.plain = defTo l m.rel k ++ defA l k m.rows[k].xs ((errP m.n m.val m.rel l).take z.1))
        (fun z => (errP m.n m.val m.rel l).length - z.1) (0, ds, q, cap, sp, HR) ⟨Nat.zero_le _, hdl, hq, hcap, hds, by rw [List.take_zero, hpln, defA]; simp⟩ ⟨rfl, rfl, rfl, rfl, rfl, rfl, rfl, rfl, rfl, rfl, trivial⟩ (List.Sublist.refl _) (fun z hI IH2 => ?_)
      obtain ⟨j, ds, q, cap, sp, HR⟩ := z
      obtain ⟨hj, hdl, hq, hcap, hds, hpln⟩ := hI
      dsimp only at hj hdl hq hcap hds hpln IH2 ⊢
      -- heap: q q6
      refine GoH.seq ?_
      refine GoH.region ?_
      refine GoH.v (Vop.bin rfl rfl rfl rfl bLt rfl) ?_
      refine GoH.regionEnd ?_
      refine GoH.seq ?_
      refine GoH.cond rfl (fun hc => ?_) (fun hc => ?_)
      · -- yes
        have hjl : j < (errP m.n m.val m.rel l).length := by simpa using hc
        have hjb : (errP m.n m.val m.rel l).length ≤ 3 := by rw [hP]; exact hpl
        obtain ⟨b6, rfl⟩ : ∃ b6, q6 = some b6 := by
          cases q6 with
          | none => have := (hq6 rfl).1; omega
          | some b6 => exact ⟨b6, rfl⟩
        refine GoH.skip ?_
        refine GoH.seq ?_
        refine GoH.block ?_
        refine GoH.seq ?_
        refine GoH.region ?_
        refine GoH.v (Vop.idxS rfl rfl rfl rfl rfl Tryd.underlying42 Tryd.sizeOf3 (j) ⟨rfl, hjl⟩) ?_
        refine GoH.v (Vop.ldE I64 0 rfl rfl rfl rfl Tryd.isAgg3 1 rfl hjl) ?_
        refine GoH.v (Vop.asg rfl rfl rfl rfl) ?_
        refine GoH.regionEnd ?_
        refine GoH.seq ?_
        refine GoH.region ?_
        refine GoH.v (Vop.mv rfl rfl rfl rfl) ?_
        refine GoH.v (Vop.mv rfl rfl rfl rfl) ?_
        refine GoH.callM _ rfl rfl rfl rfl rfl (fun _ _ => Tryd.call31 _ _) (fun w _ hS => (by exact witnessR_c m.rows[k] ((errP m.n m.val m.rel l).getD j 0) w (hrow.ex0 hS.ext) hrv)) ?_
        rintro v w1 w2 Y' hS he ho
        obtain ⟨q39, cap39, sp39, rfl, hq39, hcap39, hS'⟩ := gainS hS he ho
        have hgj : (errP m.n m.val m.rel l).getD j 0 = (errP m.n m.val m.rel l)[j] := by simp [List.getD_eq_getElem?_getD, hjl]
        refine ⟨_, hS', ?_⟩
        -- heap: q39 q q6
        refine GoH.v (Vop.asg rfl rfl rfl rfl) ?_
        refine GoH.regionEnd ?_
        refine GoH.seq ?_
        refine GoH.region ?_
        refine GoH.v (Vop.mv rfl rfl rfl rfl) ?_
        refine GoH.v (Vop.blt rfl rfl rfl (blt_len_slice Tryd.underlying42) rfl) ?_
        refine GoH.v (Vop.bin rfl rfl rfl rfl bGt rfl) ?_
        refine GoH.regionEnd ?_
        refine GoH.cond rfl (fun hc => ?_) (fun hc => ?_)
        · -- yes
          have hne : witL m.rows[k].xs ((errP m.n m.val m.rel l).getD j 0) ≠ [] := fun e => by rw [e] at hc; simp at hc
          refine GoH.region ?_
          refine GoH.v (Vop.mv rfl rfl rfl rfl) ?_
          refine GoH.v (Vop.mv rfl rfl rfl rfl) ?_
          refine GoH.v (Vop.mv rfl rfl rfl rfl) ?_
          refine GoH.v (Vop.mv rfl rfl rfl rfl) ?_
          refine GoH.v (Vop.bld rfl rfl rfl rfl (bld (c := [_, _, _]) Tryd.underlying44 (Szs.cons Tryd.sizeOf3 (Szs.cons Tryd.sizeOf3 (Szs.cons Tryd.sizeOf42 Szs.nil))) Tryd.zeroValue44 rfl)) ?_
          refine GoH.bsN (c := [_, _, _]) rfl rfl rfl rfl Tryd.underlying37 Tryd.sizeOf44 Tryd.zeroValue44 rfl rfl (fun b48 => ?_)
          obtain ⟨d, hd⟩ : ∃ d : DV, d = ⟨k, (errP m.n m.val m.rel l).getD j 0, q39.map (fun b => ⟨b, 0, none⟩), cap39, witL m.rows[k].xs ((errP m.n m.val m.rel l).getD j 0)⟩ := ⟨_, rfl⟩
          refine GoH.app 3 (xs := ds.flatMap DV.cells) (sp := sp) (nx := ds.length) (q := q) (news := DV.cells ⟨k, (errP m.n m.val m.rel l).getD j 0, q39.map (fun b => ⟨b, 0, none⟩), cap39, witL m.rows[k].xs ((errP m.n m.val m.rel l).getD j 0)⟩) (spn := []) rfl rfl rfl rfl rfl Tryd.underlying37 hi hz hsz rfl hq 2 rfl 0 rfl (flat_len (enc := DV.cells) (sz := 3) (fun _ => rfl)) hcap rfl (by decide) (fun u hu => by
            simp only [DV.cells, List.mem_cons, List.not_mem_nil, or_false] at hu
            rcases hu with rfl | rfl | rfl <;> rfl) (by unfold maxLen; omega) (by rw [hby]; omega) (fun b' sp' cap' hlen => ?_)
          have hws : d.ws.length ≤ 3 := by
            rw [hd]
            show (witL _ _).length ≤ 3
            cases h : witO m.rows[k].xs ((errP m.n m.val m.rel l).getD j 0) with
            | none => rw [witL_nil.2 h]; simp
            | some y => obtain ⟨y1, y2, y3⟩ := y; rw [witL_len h]; exact cnt_le _
          rw [← hd] at hlen ⊢
          have e1 : ds.flatMap DV.cells ++ d.cells = (ds ++ [d]).flatMap DV.cells := by simp
          have e2 : ds.length + 1 = (ds ++ [d]).length := by simp
          have e4 : (q39, ob I64 3 (witL m.rows[k].xs ((errP m.n m.val m.rel l).getD j 0)) sp39) = (q39, ob I64 3 d.ws sp39) := by rw [hd]
          have e5 : d.a = q39.map (fun b => ⟨b, 0, none⟩) := by rw [hd]
          have e6 : d.plain = ((k : Int), (errP m.n m.val m.rel l).getD j 0, witL m.rows[k].xs ((errP m.n m.val m.rel l).getD j 0)) := by rw [hd]; rfl
          have hq39' : q39 = none → d.ws.length = 0 := fun e => by rw [hd]; exact (hq39 e).1
          rw [e1] at hlen ⊢
          rw [e2, e4]
          -- heap: b48 q39 b' q6
          refine GoH.v (Vop.asg rfl rfl rfl rfl) ?_
          refine GoH.regionEnd ?_
          refine GoH.inBlock ?_
          refine GoH.region ?_
          refine GoH.v (Vop.bin rfl rfl rfl rfl (bAdd (by omega)) rfl) ?_
          refine GoH.v (Vop.mv rfl rfl rfl rfl) ?_
          refine GoH.regionEnd ?_
          refine GoH.pickT (pre := [_, _, _, _]) (pre' := [_, _, _]) HR [2, 3, 1] (by decide) rfl ?_
          exact IH2 (j + 1, ds ++ [d], some b', cap', sp', (q39, ob I64 3 d.ws sp39) :: HR) _ _ ⟨hjl, by simp; omega, (fun e => by cases e), hlen, fun x hx => by
            rcases List.mem_append.1 hx with hx | hx
            · exact ⟨(hds x hx).1.mono (List.subset_cons_self _ _), (hds x hx).2⟩
            · obtain rfl := List.mem_singleton.1 hx
              refine ⟨?_, by unfold maxLen; omega⟩
              rw [e5]
              exact InS.at hq39' (List.mem_cons_self ..), by
            rw [List.map_append, hpln, defA_step hjl, ← hgj, if_neg hne, List.append_assoc, List.map_singleton, e6]⟩ (by dsimp only; omega) ⟨rfl, rfl, rfl, rfl, rfl, rfl, rfl, rfl, rfl, rfl, trivial⟩ (List.Sublist.refl _)
        · -- no
          have hne : witL m.rows[k].xs ((errP m.n m.val m.rel l).getD j 0) = [] := List.eq_nil_of_length_eq_zero (by simpa using hc)
          refine GoH.skip ?_
          refine GoH.inBlock ?_
          refine GoH.region ?_
          refine GoH.v (Vop.bin rfl rfl rfl rfl (bAdd (by omega)) rfl) ?_
          refine GoH.v (Vop.mv rfl rfl rfl rfl) ?_
          refine GoH.regionEnd ?_
          exact IH2 (j + 1, ds, q, cap, sp, HR) _ _ ⟨hjl, by dsimp only; omega, hq, hcap, hds, by rw [hpln, defA_step hjl, ← hgj, if_pos hne, List.append_nil]⟩ (by dsimp only; omega) ⟨rfl, rfl, rfl, rfl, rfl, rfl, rfl, rfl, rfl, rfl, trivial⟩ (.cons _ (List.Sublist.refl _))
      · -- no
        have hjl : ¬ j < (errP m.n m.val m.rel l).length := by simpa using hc
        have hjb : (errP m.n m.val m.rel l).length ≤ 3 := by rw [hP]; exact hpl
        refine GoH.exit rfl ?_
        refine GoH.inBlock ?_
        refine GoH.region ?_
        refine GoH.v (Vop.bin rfl rfl rfl rfl (bAdd (by omega)) rfl) ?_
        refine GoH.v (Vop.mv rfl rfl rfl rfl) ?_
        refine GoH.regionEnd ?_
        exact IH (k + 1, ds, q, cap, sp, HR) _ _ ⟨hlt, by dsimp only; omega, hq, hcap, hds, by rw [hpln, defTo, hrk, List.take_of_length_le (by omega), hP]⟩ (by dsimp only; omega) ⟨rfl, rfl, rfl, rfl, rfl, trivial⟩ (List.Sublist.refl _)
    · -- no
      have hge : ¬ k < m.rows.length := by simpa using hc
      obtain rfl : k = m.rows.length := by omega
      refine GoH.exit rfl ?_
      refine GoH.seq ?_
      refine GoH.region ?_
      refine GoH.v (Vop.mv rfl rfl rfl rfl) ?_
      refine GoH.v (Vop.asg rfl rfl rfl rfl) ?_
      refine GoH.v (Vop.asg rfl rfl rfl rfl) ?_
      refine GoH.regionEnd ?_
      refine GoH.ret Tryd.f12 Tryd.func12 rfl (fun w' hS => ?_)
      refine ⟨hS.ext, q, cap, ds, _, by rw [h1]; rfl, NewH.of hS, ⟨?_, by unfold maxLen; omega, fun d hd => ⟨(hds d hd).1.mono (fun x hx => List.mem_append_right [_, _] hx), (hds d hd).2⟩⟩, by rw [if_neg (by simp [h1]), defL, hagl]; exact hpln⟩
      cases q with
      | none => exact .inl (List.eq_nil_of_length_eq_zero (hq rfl).1)
      | some b => exact .inr ⟨b, _, sp, rfl, List.mem_of_getElem? (i := 0) rfl⟩
end Go.Proofs.YtbjopkllkoomkaaDoor
