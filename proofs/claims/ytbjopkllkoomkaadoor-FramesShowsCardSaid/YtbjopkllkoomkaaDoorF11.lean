/- Contracts of functions of the program: what each call returns and that nothing else of memory is turned, under the conditions that each theorem states. -/
import Derived.Test.YtbjopkllkoomkaaDoorF10
import Derived.Test.YtbjopkllkoomkaaDoorWC
namespace Go.Proofs.YtbjopkllkoomkaaDoor
open Go.RowKit Go.Proofs.Wit
/-! the examples of the chapter on frames -/
theorem _root_.Go.Proofs.Wit.St.gainR {w0 w w' : World} {S : List Nat} {h : Hl} {Y : List (Nat × Obj)} (s : St w0 S w h Y) (e : Ex [] w w') {H : Hl} (g : NewH w w' H) : St w0 S w' (h ++ H) Y := (s.gainL e g).perm List.perm_append_comm
theorem le_max {n : Nat} (h : n ≤ 1000) : n ≤ maxLen := by unfold maxLen; omega
def ExampleIs (w w' : World) (v : Value) : Prop := ∃ (m : MV) (H : Hl), v = m.v ∧ NewH w w' H ∧ m.In H ∧ m.n = 3 ∧ m.val = [] ∧ m.rel = [r0]
theorem example_c (w : World) : Cn Tryd.prog 18 [] w (fun v w' => ExampleIs w w' v) := by
  refine Cn.of Tryd.func18 rfl rfl ?_
  refine GoH.seq ?_
  refine GoH.region ?_
  refine GoH.alc rfl rfl rfl (fun _ => Tryd.zeroValue35 _) (fun b0 => ?_)
  refine GoH.regionEnd ?_
  refine GoH.seq ?_
  refine GoH.region ?_
  refine GoH.bsN (c := [_, _, _]) rfl rfl rfl rfl Tryd.underlying22 Tryd.sizeOf28 Tryd.zeroValue28 rfl rfl (fun b1 => ?_)
  refine GoH.bsN (c := [_]) rfl rfl rfl rfl Tryd.underlying33 Tryd.sizeOf22 Tryd.zeroValue22 rfl rfl (fun b2 => ?_)
  refine GoH.v (Vop.bld rfl rfl rfl rfl (bld (c := [_, _, _]) Tryd.underlying35 (Szs.cons Tryd.sizeOf3 (Szs.cons Tryd.sizeOf22 (Szs.cons Tryd.sizeOf33 Szs.nil))) Tryd.zeroValue35 rfl)) ?_
  refine GoH.stB rfl rfl rfl rfl Tryd.sizeOf35 2 rfl rfl rfl rfl ?_
  refine GoH.regionEnd ?_
  refine GoH.retH Tryd.f18 Tryd.func18 _ (resH.cell rfl Tryd.isAgg35 Tryd.sizeOf35 (j := 2) rfl rfl resH.nil) (fun w' hS => ?_)
  refine ⟨hS.ext, ⟨3, some ⟨b2, 0, none⟩, 1, [⟨some ⟨b1, 0, none⟩, 3, [2#64, 4#64, 0#64]⟩], none, 0, []⟩, _, rfl, NewH.of hS, ⟨.inr ⟨b2, _, [], rfl, List.mem_of_getElem? (i := 0) rfl⟩, fun r hr => ?_, .inl rfl, le_max (Nat.le_of_ble_eq_true rfl), Nat.zero_le _, Nat.le_refl _, Nat.le_refl _⟩, rfl, rfl, rfl⟩
  obtain rfl := List.mem_singleton.1 hr
  exact ⟨.inr ⟨b1, _, [], rfl, List.mem_of_getElem? (i := 1) rfl⟩, le_max (Nat.le_of_ble_eq_true rfl), Nat.le_refl _⟩
theorem rSameR_c (r : Row) (b : Option Addr) (cb : Nat) (ys : List W64) (w : World) (ha : r.At w) (hb : SlU w b ys) : Cn Tryd.prog 50 [r.v, .slice b ys.length cb] w (fun v _ => v = .bool (r.xs == ys)) := rSame_c r.a r.cap r.xs b cb ys w ha.at_ hb ha.len
set_option maxRecDepth 4000 in
theorem closes_c (l : Int) (x y z : W64) (hE : propsE l = 0) (hcl : ∀ c, Least (closP (propsL l)) r0 c → serU (propsL l) c = [x, y, z]) (w : World) (hT : Tab w) :
    Cn Tryd.prog 20 [.int .i64 l, U x, U y, U z] w (fun v _ => v = .bool true) := by
  refine Cn.of Tryd.func20 rfl rfl ?_
  refine GoH.seq ?_
  refine GoH.region ?_
  refine GoH.v (Vop.asg rfl rfl rfl rfl) ?_
  refine GoH.regionEnd ?_
  refine GoH.seq ?_
  refine GoH.region ?_
  refine GoH.callM _ rfl rfl rfl rfl rfl (fun _ _ => Tryd.call18 _ _) (fun w _ hS => example_c w) ?_
  rintro v w1 w2 Y' hS he ⟨m0, H0, rfl, hN0, hI0, e1, e2, e3⟩
  refine ⟨_, hS.gainR he hN0, ?_⟩
  -- heap:
  refine GoH.v (Vop.mv rfl rfl rfl rfl) ?_
  refine GoH.callM _ rfl rfl rfl rfl rfl (fun _ _ => Tryd.call14 _ _) (fun w _ hS => close_c m0 l w (hT.ex hS.ext) (hI0.at hS)) ?_
  rintro v w1 w2 Y' hS he ⟨m, H1, rfl, hN1, hI1, hcm⟩
  have h0 : errE m0.n m0.val m0.rel l = 0 := by rw [e1, e2, e3, err_r0, hE]
  rw [ClosedM, if_neg (by rw [h0]; simp), e3] at hcm
  obtain ⟨-, -, hlen, hat⟩ := hcm
  obtain ⟨c, hLc, hc0⟩ := hat 0 r0 rfl
  rw [hcl c hLc] at hc0
  have hrl : m.rows.length = 1 := by simpa [MV.rel] using hlen
  have hr0 : 0 < m.rows.length := by omega
  have hrx : m.rows[0].xs = [x, y, z] := by simpa [MV.rel, hr0] using hc0
  have hm2 := hI1.at (hS.gainR he hN1 |>.subH (List.sublist_append_right _ _))
  refine ⟨_, hS.gainR he hN1, ?_⟩
  -- heap:
  refine GoH.v (Vop.mv rfl rfl rfl rfl) ?_
  refine GoH.v (Vop.ext rfl rfl rfl rfl rfl) ?_
  refine GoH.v (Vop.ext rfl rfl rfl rfl rfl) ?_
  refine GoH.alc rfl rfl rfl (fun _ => Tryd.zeroValue35 _) (fun b9 => ?_)
  refine GoH.stB rfl rfl rfl rfl Tryd.sizeOf35 0 rfl rfl rfl rfl ?_
  refine GoH.v (Vop.asg rfl rfl rfl rfl) ?_
  refine GoH.regionEnd ?_
  refine GoH.seq ?_
  refine GoH.region ?_
  refine GoH.v (Vop.mv rfl rfl rfl rfl) ?_
  refine GoH.v (Vop.bin rfl rfl rfl rfl (bEqV (v := true) (by rw [h0]; rfl)) rfl) ?_
  refine GoH.v (Vop.mv rfl rfl rfl rfl) ?_
  refine GoH.v (Vop.fldP rfl rfl rfl rfl Tryd.underlying35 rfl (by exact Tryd.sizeOf33) 2 rfl) ?_
  refine GoH.v (Vop.ldo (v := .slice m.ra m.rows.length m.rc) rfl rfl rfl rfl Tryd.isAgg33 0 rfl rfl) ?_
  refine GoH.v (Vop.blt rfl rfl rfl (blt_len_slice Tryd.underlying33) rfl) ?_
  refine GoH.v (Vop.bin rfl rfl rfl rfl (bEqV (v := true) (by rw [hrl]; rfl)) rfl) ?_
  refine GoH.v (Vop.pickT rfl rfl rfl rfl rfl) ?_
  refine GoH.v (Vop.mv rfl rfl rfl rfl) ?_
  refine GoH.v (Vop.fldP rfl rfl rfl rfl Tryd.underlying35 rfl (by exact Tryd.sizeOf33) 2 rfl) ?_
  refine GoH.v (Vop.ldo (v := .slice m.ra m.rows.length m.rc) rfl rfl rfl rfl Tryd.isAgg33 0 rfl rfl) ?_
  refine GoH.v (Vop.idx rfl rfl rfl rfl rfl Tryd.underlying33 Tryd.sizeOf22 ⟨_, hm2.rel⟩ (by simp) 0 ⟨rfl, by simpa using hr0⟩) ?_
  refine GoH.v (Vop.ld rfl rfl rfl rfl Tryd.isAgg22 (fun w _ hS => ((hI1.mono (fun x hx => by simp [hx])).at hS).rel.at 0 hr0)) ?_
  refine GoH.v (Vop.mv rfl rfl rfl rfl) ?_
  refine GoH.v (Vop.mv rfl rfl rfl rfl) ?_
  refine GoH.v (Vop.mv rfl rfl rfl rfl) ?_
  refine GoH.bsN (c := [_, _, _]) rfl rfl rfl rfl Tryd.underlying22 Tryd.sizeOf28 Tryd.zeroValue28 rfl rfl (fun b33 => ?_)
  refine GoH.callP rfl rfl rfl rfl rfl (fun _ _ => Tryd.call50 _ _) (fun w _ hS => (by exact rSameR_c m.rows[0] (some ⟨b33, 0, none⟩) 3 [x, y, z] w (((hI1.mono (fun x hx => by simp [hx])).at hS).row _ (List.getElem_mem hr0)) (Sl.blk (hS.get (j := 0) rfl)))) ?_
  refine GoH.v (Vop.pickT rfl rfl rfl rfl rfl) ?_
  refine GoH.v (Vop.asg rfl rfl rfl rfl) ?_
  refine GoH.regionEnd ?_
  refine GoH.ret Tryd.f20 Tryd.func20 rfl (fun w' hS => ?_)
  exact ⟨hS.ext, by rw [hrx]; simp [retV]⟩
set_option maxRecDepth 4000 in
theorem counterL_c (p : Int) (x : Nat) (s : W64) (h : counterR r0 p = ((x : Int), s, 0)) (w : World) :
    Cn Tryd.prog 21 [.int .i64 p, .int .i64 x, U s] w (fun v _ => v = .bool true) := by
  refine Cn.of Tryd.func21 rfl rfl ?_
  refine GoH.seq ?_
  refine GoH.region ?_
  refine GoH.v (Vop.asg rfl rfl rfl rfl) ?_
  refine GoH.regionEnd ?_
  refine GoH.seq ?_
  refine GoH.region ?_
  refine GoH.callM _ rfl rfl rfl rfl rfl (fun _ _ => Tryd.call18 _ _) (fun w _ hS => example_c w) ?_
  rintro v w1 w2 Y' hS he ⟨m, H, rfl, hN, hI, e1, e2, e3⟩
  have hS' := hS.gainR he hN
  have hm2 := hI.at hS'
  have hrl : m.rows.length = 1 := by have := congrArg List.length e3; simpa [MV.rel] using this
  have hr0 : 0 < m.rows.length := by omega
  have hrx : m.rows[0].xs = r0 := by have := congrArg (fun l => l[0]?) e3; simpa [MV.rel, hr0] using this
  refine ⟨_, hS', ?_⟩
  -- heap:
  refine GoH.v (Vop.fld (v := .slice m.ra m.rows.length m.rc) rfl rfl rfl rfl Tryd.underlying35 rfl Tryd.isAgg33 rfl) ?_
  refine GoH.v (Vop.idx rfl rfl rfl rfl rfl Tryd.underlying33 Tryd.sizeOf22 ⟨_, hm2.rel⟩ (by simp) 0 ⟨rfl, by simpa using hr0⟩) ?_
  refine GoH.v (Vop.ld rfl rfl rfl rfl Tryd.isAgg22 (fun w _ hS => (hI.at hS).rel.at 0 hr0)) ?_
  refine GoH.v (Vop.mv rfl rfl rfl rfl) ?_
  refine GoH.callM _ rfl rfl rfl rfl rfl (fun _ _ => Tryd.call8 _ _) (fun w _ hS => (by exact counterR_c m.rows[0] p w ((hI.at hS).row _ (List.getElem_mem hr0)))) ?_
  rintro v w1 w2 Y' hS he hv
  rw [CounterIs, hrx, h] at hv
  subst hv
  refine ⟨_, hS.later he, ?_⟩
  refine GoH.v (Vop.mv rfl rfl rfl rfl) ?_
  refine GoH.v (Vop.ext rfl rfl rfl rfl rfl) ?_
  refine GoH.v (Vop.ext rfl rfl rfl rfl rfl) ?_
  refine GoH.v (Vop.ext rfl rfl rfl rfl rfl) ?_
  refine GoH.v (Vop.asg rfl rfl rfl rfl) ?_
  refine GoH.v (Vop.asg rfl rfl rfl rfl) ?_
  refine GoH.v (Vop.asg rfl rfl rfl rfl) ?_
  refine GoH.regionEnd ?_
  refine GoH.seq ?_
  refine GoH.region ?_
  refine GoH.v (Vop.mv rfl rfl rfl rfl) ?_
  refine GoH.v (Vop.bin rfl rfl rfl rfl (bEqV (v := true) rfl) rfl) ?_
  refine GoH.v (Vop.mv rfl rfl rfl rfl) ?_
  refine GoH.v (Vop.mv rfl rfl rfl rfl) ?_
  refine GoH.v (Vop.mv rfl rfl rfl rfl) ?_
  refine GoH.v (Vop.bin rfl rfl rfl rfl (bEqV (v := true) (beq_self_eq_true _)) rfl) ?_
  refine GoH.v (Vop.pickT rfl rfl rfl rfl rfl) ?_
  refine GoH.v (Vop.mv rfl rfl rfl rfl) ?_
  refine GoH.v (Vop.mv rfl rfl rfl rfl) ?_
  refine GoH.v (Vop.mv rfl rfl rfl rfl) ?_
  refine GoH.v (Vop.bin rfl rfl rfl rfl (bEqUV (v := true) (beq_self_eq_true _)) rfl) ?_
  refine GoH.v (Vop.pickT rfl rfl rfl rfl rfl) ?_
  refine GoH.v (Vop.asg rfl rfl rfl rfl) ?_
  refine GoH.regionEnd ?_
  refine GoH.ret Tryd.f21 Tryd.func21 rfl (fun w' hS => ?_)
  exact ⟨hS.ext, rfl⟩
theorem same15_t (a : Option Addr) (ca : Nat) (ds : List DV) (b : Option Addr) (cb : Nat) (es : List DV) (w : World) (ha : DefsAt w a ds) (hb : DefsAt w b es) (h : ds.map DV.plain = es.map DV.plain) :
    Cn Tryd.prog 19 [.slice a ds.length ca, .slice b es.length cb] w (fun v _ => v = .bool true) := (same15_c a ca ds b cb es w ha hb).mono (fun v w' _ e => by rw [e, h]; simp)
theorem want15 {w : World} {a15 a13 a11 a9 : Option Addr} (h15 : Sl w a15 ([⟨0, 1, a9, 1, [2]⟩, ⟨0, 4, a11, 3, [0, 1, 2]⟩, (⟨0, 5, a13, 3, [0, 1, 1]⟩ : DV)].flatMap DV.cells)) (h13 : SlI w a13 [0, 1, 1]) (h11 : SlI w a11 [0, 1, 2]) (h9 : SlI w a9 [2]) :
    DefsAt w a15 [⟨0, 1, a9, 1, [2]⟩, ⟨0, 4, a11, 3, [0, 1, 2]⟩, ⟨0, 5, a13, 3, [0, 1, 1]⟩] :=
  ⟨h15, le_max (Nat.le_of_ble_eq_true rfl), fun d hd => by
    simp only [List.mem_cons, List.not_mem_nil, or_false] at hd
    rcases hd with rfl | rfl | rfl
    · exact ⟨h9, le_max (Nat.le_of_ble_eq_true rfl)⟩
    · exact ⟨h11, le_max (Nat.le_of_ble_eq_true rfl)⟩
    · exact ⟨h13, le_max (Nat.le_of_ble_eq_true rfl)⟩⟩
set_option maxRecDepth 4000 in
theorem awake15_c (w : World) (hT : Tab w) : Cn Tryd.prog 5 [] w (fun v _ => v = .bool true) := by
  refine Cn.of Tryd.func5 rfl rfl ?_
  refine GoH.seq ?_
  refine GoH.region ?_
  refine GoH.v (Vop.asg rfl rfl rfl rfl) ?_
  refine GoH.regionEnd ?_
  refine GoH.seq ?_
  refine GoH.region ?_
  refine GoH.callM _ rfl rfl rfl rfl rfl (fun _ _ => Tryd.call18 _ _) (fun w _ hS => example_c w) ?_
  rintro v w1 w2 Y' hS he ⟨m, H, rfl, hN, hI, e1, e2, e3⟩
  refine ⟨_, hS.gainR he hN, ?_⟩
  -- heap:
  refine GoH.callM _ rfl rfl rfl rfl rfl (fun _ _ => Tryd.call12 _ _) (fun w _ hS => defects_c m 5 w (hI.at hS)) ?_
  rintro v w1 w2 Y' hS he ⟨q, cap, ds, H1, rfl, hN1, hI1, hd⟩
  have h0 : errE m.n m.val m.rel 5 = 0 := by rw [e1, e2, e3, err_r0]; rfl
  rw [if_neg (by rw [h0]; simp), e3, def5] at hd
  refine ⟨_, hS.gainR he hN1, ?_⟩
  -- heap:
  refine GoH.v (Vop.mv rfl rfl rfl rfl) ?_
  refine GoH.v (Vop.ext rfl rfl rfl rfl rfl) ?_
  refine GoH.v (Vop.ext rfl rfl rfl rfl rfl) ?_
  refine GoH.v (Vop.asg rfl rfl rfl rfl) ?_
  refine GoH.v (Vop.asg rfl rfl rfl rfl) ?_
  refine GoH.regionEnd ?_
  refine GoH.seq ?_
  refine GoH.region ?_
  refine GoH.bsN (c := [_]) rfl rfl rfl rfl Tryd.underlying42 Tryd.sizeOf3 Tryd.zeroValue3 rfl rfl (fun b9 => ?_)
  refine GoH.v (Vop.bld rfl rfl rfl rfl (bld (c := [_, _, _]) Tryd.underlying44 (Szs.cons Tryd.sizeOf3 (Szs.cons Tryd.sizeOf3 (Szs.cons Tryd.sizeOf42 Szs.nil))) Tryd.zeroValue44 rfl)) ?_
  refine GoH.bsN (c := [_, _, _]) rfl rfl rfl rfl Tryd.underlying42 Tryd.sizeOf3 Tryd.zeroValue3 rfl rfl (fun b11 => ?_)
  refine GoH.v (Vop.bld rfl rfl rfl rfl (bld (c := [_, _, _]) Tryd.underlying44 (Szs.cons Tryd.sizeOf3 (Szs.cons Tryd.sizeOf3 (Szs.cons Tryd.sizeOf42 Szs.nil))) Tryd.zeroValue44 rfl)) ?_
  refine GoH.bsN (c := [_, _, _]) rfl rfl rfl rfl Tryd.underlying42 Tryd.sizeOf3 Tryd.zeroValue3 rfl rfl (fun b13 => ?_)
  refine GoH.v (Vop.bld rfl rfl rfl rfl (bld (c := [_, _, _]) Tryd.underlying44 (Szs.cons Tryd.sizeOf3 (Szs.cons Tryd.sizeOf3 (Szs.cons Tryd.sizeOf42 Szs.nil))) Tryd.zeroValue44 rfl)) ?_
  refine GoH.bsN (c := [_, _, _, _, _, _, _, _, _]) rfl rfl rfl rfl Tryd.underlying37 Tryd.sizeOf44 Tryd.zeroValue44 rfl rfl (fun b15 => ?_)
  refine GoH.v (Vop.asg rfl rfl rfl rfl) ?_
  refine GoH.regionEnd ?_
  refine GoH.seq ?_
  refine GoH.region ?_
  refine GoH.v (Vop.mv rfl rfl rfl rfl) ?_
  refine GoH.v (Vop.bin rfl rfl rfl rfl (bEqV (v := true) (by rw [h0]; rfl)) rfl) ?_
  refine GoH.v (Vop.mv rfl rfl rfl rfl) ?_
  refine GoH.v (Vop.mv rfl rfl rfl rfl) ?_
  refine GoH.v (Vop.mv rfl rfl rfl rfl) ?_
  refine GoH.callP rfl rfl rfl rfl rfl (fun _ _ => Tryd.call19 _ _) (fun w _ hS => (by exact same15_t (q.map (fun b => ⟨b, 0, none⟩)) cap ds (some ⟨b15, 0, none⟩) 3 [⟨0, 1, some ⟨b9, 0, none⟩, 1, [2]⟩, ⟨0, 4, some ⟨b11, 0, none⟩, 3, [0, 1, 2]⟩, ⟨0, 5, some ⟨b13, 0, none⟩, 3, [0, 1, 1]⟩] w ((hI1.mono (fun x hx => by simp [hx])).at hS) (want15 (Sl.blk (hS.get (j := 0) rfl)) (Sl.blk (hS.get (j := 1) rfl)) (Sl.blk (hS.get (j := 2) rfl)) (Sl.blk (hS.get (j := 3) rfl))) hd)) ?_
  refine GoH.v (Vop.pickT rfl rfl rfl rfl rfl) ?_
  refine GoH.v (Vop.mv rfl rfl rfl rfl) ?_
  refine GoH.callP rfl rfl rfl rfl rfl (fun _ _ => Tryd.call20 _ _) (fun w _ hS => closes_c 4 7#64 6#64 4#64 rfl (fun c h => cl4 h) w (hT.ex hS.ext)) ?_
  refine GoH.v (Vop.pickT rfl rfl rfl rfl rfl) ?_
  refine GoH.v (Vop.mv rfl rfl rfl rfl) ?_
  refine GoH.callP rfl rfl rfl rfl rfl (fun _ _ => Tryd.call20 _ _) (fun w _ hS => closes_c 6 7#64 7#64 7#64 rfl (fun c h => cl6 h) w (hT.ex hS.ext)) ?_
  refine GoH.v (Vop.pickT rfl rfl rfl rfl rfl) ?_
  refine GoH.v (Vop.mv rfl rfl rfl rfl) ?_
  refine GoH.callP rfl rfl rfl rfl rfl (fun _ _ => Tryd.call20 _ _) (fun w _ hS => closes_c 1 2#64 4#64 4#64 rfl (fun c h => cl1 h) w (hT.ex hS.ext)) ?_
  refine GoH.v (Vop.pickT rfl rfl rfl rfl rfl) ?_
  refine GoH.v (Vop.mv rfl rfl rfl rfl) ?_
  refine GoH.callP rfl rfl rfl rfl rfl (fun _ _ => Tryd.call20 _ _) (fun w _ hS => closes_c 5 6#64 6#64 6#64 rfl (fun c h => cl5 h) w (hT.ex hS.ext)) ?_
  refine GoH.v (Vop.pickT rfl rfl rfl rfl rfl) ?_
  refine GoH.v (Vop.mv rfl rfl rfl rfl) ?_
  refine GoH.callP rfl rfl rfl rfl rfl (fun _ _ => Tryd.call21 _ _) (fun w _ hS => counterL_c 2 0 2#64 ctr2 w) ?_
  refine GoH.v (Vop.pickT rfl rfl rfl rfl rfl) ?_
  refine GoH.v (Vop.mv rfl rfl rfl rfl) ?_
  refine GoH.callP rfl rfl rfl rfl rfl (fun _ _ => Tryd.call21 _ _) (fun w _ hS => counterL_c 4 0 2#64 ctr4 w) ?_
  refine GoH.v (Vop.pickT rfl rfl rfl rfl rfl) ?_
  refine GoH.v (Vop.mv rfl rfl rfl rfl) ?_
  refine GoH.callP rfl rfl rfl rfl rfl (fun _ _ => Tryd.call21 _ _) (fun w _ hS => counterL_c 5 0 2#64 ctr5 w) ?_
  refine GoH.v (Vop.pickT rfl rfl rfl rfl rfl) ?_
  refine GoH.v (Vop.mv rfl rfl rfl rfl) ?_
  refine GoH.callP rfl rfl rfl rfl rfl (fun _ _ => Tryd.call21 _ _) (fun w _ hS => counterL_c 1 2 0#64 ctr1 w) ?_
  refine GoH.v (Vop.pickT rfl rfl rfl rfl rfl) ?_
  refine GoH.v (Vop.mv rfl rfl rfl rfl) ?_
  refine GoH.callP rfl rfl rfl rfl rfl (fun _ _ => Tryd.call21 _ _) (fun w _ hS => counterL_c 3 0 1#64 ctr3 w) ?_
  refine GoH.v (Vop.pickT rfl rfl rfl rfl rfl) ?_
  refine GoH.v (Vop.asg rfl rfl rfl rfl) ?_
  refine GoH.regionEnd ?_
  refine GoH.ret Tryd.f5 Tryd.func5 rfl (fun w' hS => ?_)
  exact ⟨hS.ext, rfl⟩
end Go.Proofs.YtbjopkllkoomkaaDoor
