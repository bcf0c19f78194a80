/- Contracts of functions of the program: what each call returns and that nothing else of memory is turned, under the conditions that each theorem states. -/
import Derived.Test.YtbjopkllkoomkaaDoorF5
namespace Go.Proofs.YtbjopkllkoomkaaDoor
open Go.RowKit Go.Proofs.Wit
/-! closing a model -/
theorem infoS : (Tryd.prog.info? 22).map (fun i => (i.zero, i.size, i.bytes)) = some (some (Value.slice none 0 0), 1, 24) := by kernel_rfl
theorem closedR_c (r : Row) (pa : Option Addr) (pc : Nat) (ps : List Int) (w : World) (hT : Tab w) (ha : r.At w) (hv : Val r.xs) (hps : SlI w pa ps) (hpl : ps.length ≤ 1000) :
    Cn Tryd.prog 41 [r.v, .slice pa ps.length pc] w (fun v w' => ∃ c, Least (closP ps) r.xs c ∧ Own w w' v (serU ps c)) := closed_c r.a r.cap r.xs pa pc ps w hT ha.at_ hv ha.cap hps hpl
def ClosedIs (w w' : World) (v : Value) (m : MV) (l : Int) : Prop :=
  ∃ (m' : MV) (H : Hl), v = .tuple #[m'.v, .int .i64 (errE m.n m.val m.rel l)] ∧ NewH w w' H ∧ m'.In H ∧ ClosedM m.n m.val m.rel l m'.n m'.val m'.rel
abbrev mdl0 : MV := ⟨0, none, 0, [], none, 0, []⟩
theorem mdl0_in (H : Hl) : mdl0.In H := ⟨.inl rfl, fun r h => absurd h (by simp), .inl rfl, Nat.zero_le _, Nat.zero_le _, Nat.le_refl _, Nat.le_refl _⟩
set_option maxRecDepth 4000 in
theorem close_c (m : MV) (l : Int) (w : World) (hT : Tab w) (hm : m.At w) : Cn Tryd.prog 14 [m.v, .int .i64 l] w (fun v w' => ClosedIs w w' v m l) := by
  obtain ⟨i0, hi, hz, hsz, hby⟩ := info_parts infoS
  have hlr := hm.lr
  unfold maxLen at hlr
  refine Cn.of Tryd.func14 rfl rfl ?_
  refine GoH.seq ?_
  refine GoH.region ?_
  refine GoH.bx rfl rfl rfl rfl (fun b2 => ?_)
  refine GoH.alc rfl rfl rfl (fun _ => Tryd.zeroValue35 _) (fun b4 => ?_)
  refine GoH.v (Vop.asg rfl rfl rfl rfl) ?_
  refine GoH.regionEnd ?_
  refine GoH.seq ?_
  refine GoH.region ?_
  refine GoH.v (Vop.ldB rfl rfl rfl rfl Tryd.isAgg35 1 rfl Tryd.sizeOf35 rfl) ?_
  refine GoH.v (Vop.mv rfl rfl rfl rfl) ?_
  refine GoH.callM _ rfl rfl rfl rfl rfl (fun _ _ => Tryd.call34 _ _) (fun w _ hS => errors_c m l w (hm.ex0 hS.ext)) ?_
  rintro v w1 w2 Y' hS he ⟨sv, rfl, ho⟩
  obtain ⟨q, cap, sp, rfl, hq, hcap, hS'⟩ := gainS hS he ho
  refine ⟨_, hS', ?_⟩
  -- heap: q b4 b2
  refine GoH.v (Vop.mv rfl rfl rfl rfl) ?_
  refine GoH.v (Vop.ext rfl rfl rfl rfl rfl) ?_
  refine GoH.v (Vop.ext rfl rfl rfl rfl rfl) ?_
  refine GoH.v (Vop.asg rfl rfl rfl rfl) ?_
  refine GoH.v (Vop.asg rfl rfl rfl rfl) ?_
  refine GoH.regionEnd ?_
  refine GoH.seq ?_
  refine GoH.seq ?_
  refine GoH.region ?_
  refine GoH.v (Vop.mv rfl rfl rfl rfl) ?_
  refine GoH.v (Vop.bin rfl rfl rfl rfl bNe rfl) ?_
  refine GoH.regionEnd ?_
  refine GoH.cond rfl (fun hc => ?_) (fun hc => ?_)
  · -- yes
    have h1 : errE m.n m.val m.rel l ≠ 0 := by simpa using hc
    refine GoH.seq ?_
    refine GoH.region ?_
    refine GoH.v (Vop.bld rfl rfl rfl rfl (bld (c := [_, _, _]) Tryd.underlying35 (Szs.cons Tryd.sizeOf3 (Szs.cons Tryd.sizeOf22 (Szs.cons Tryd.sizeOf33 Szs.nil))) Tryd.zeroValue35 rfl)) ?_
    refine GoH.v (Vop.mv rfl rfl rfl rfl) ?_
    refine GoH.stB rfl rfl rfl rfl Tryd.sizeOf35 1 rfl rfl rfl rfl ?_
    refine GoH.v (Vop.asg rfl rfl rfl rfl) ?_
    refine GoH.regionEnd ?_
    refine GoH.retH Tryd.f14 Tryd.func14 _ (resH.cell rfl Tryd.isAgg35 Tryd.sizeOf35 (j := 1) rfl rfl (resH.tmp rfl resH.nil)) (fun w' hS => ?_)
    exact ⟨hS.ext, mdl0, [], rfl, ⟨by simp, .nil⟩, mdl0_in _, by rw [ClosedM, if_pos h1]; exact ⟨rfl, rfl, rfl⟩⟩
  · -- no
    have h1 : errE m.n m.val m.rel l = 0 := by simpa using hc
    obtain ⟨hV, hE, hP⟩ := errE_zero h1
    have hpl := propsL_len l
    have hfa := hV.facts
    refine GoH.skip ?_
    refine GoH.seq ?_
    refine GoH.regionK (α := {x : Nat × Option Nat × Nat × List Value // (x.2.1 = none → m.val.length = 0 ∧ x.2.2.1 = 0) ∧ (m.val.map U ++ x.2.2.2).length = x.2.2.1}) [7]
      (fun x => [(2, .pointer (some ⟨b2, 0, none⟩)), (4, .pointer (some ⟨b4, 0, none⟩)), (6, osv q (errP m.n m.val m.rel l).length cap), (8, .pointer (some ⟨x.1.1, 0, none⟩)), (26, .agg #[.int .i64 m.n, osv x.1.2.1 m.val.length x.1.2.2.1, .slice none 0 0])])
      (fun x => [(some x.1.1, .cells #[.int .i64 0, .slice none 0 0, .slice none 0 0] 35 (0, 0)), (x.1.2.1, ob U 28 m.val x.1.2.2.2), (q, ob I64 3 (errP m.n m.val m.rel l) sp), (some b4, .cells #[.int .i64 0, .slice none 0 0, .slice none 0 0] 35 (0, 0)), (some b2, .cells m.cs 35 (0, 0))])
      (fun x => ?_) (fun K => ?_)
    -- at: frames.go:90
    -- rest: 7
    -- heap: b8 q25 q b4 b2
    -- ptr: 2=b2 4=b4 8=b8
    · -- what comes behind the region
      obtain ⟨⟨b8, q25, cap25, sp25⟩, hq25, hcap25⟩ := x
      dsimp only at hq25 hcap25 ⊢
      refine GoH.stB rfl rfl rfl rfl Tryd.sizeOf35 0 rfl rfl rfl rfl ?_
      refine GoH.regionEnd ?_
      refine GoH.seq ?_
      refine GoH.seq ?_
      refine GoH.region ?_
      refine GoH.v (Vop.fldP rfl rfl rfl rfl Tryd.underlying35 rfl (by exact Tryd.sizeOf33) 2 rfl) ?_
      refine GoH.v (Vop.ldo (v := .slice m.ra m.rows.length m.rc) rfl rfl rfl rfl Tryd.isAgg33 4 rfl rfl) ?_
      refine GoH.v (Vop.blt rfl rfl rfl (blt_len_slice Tryd.underlying33) rfl) ?_
      refine GoH.v (Vop.mv rfl rfl rfl rfl) ?_
      refine GoH.regionEnd ?_
      refine GoH.block ?_
      refine GoH.addNone (ob Row.v 22 [] []) ?_
      refine GoH.loop (σ := Nat × List Row × Option Nat × Nat × List Value × Hl) (fun z => [(4, .pointer (some ⟨b4, 0, none⟩)), (6, osv q (errP m.n m.val m.rel l).length cap), (8, .pointer (some ⟨b8, 0, none⟩)), (28, .slice m.ra m.rows.length m.rc), (29, .int .i64 m.rows.length), (30, .int .i64 z.1)])
        (fun z => [(z.2.2.1, ob Row.v 22 z.2.1 z.2.2.2.2.1), (some b8, .cells #[.int .i64 m.n, osv q25 m.val.length cap25, osv z.2.2.1 z.2.1.length z.2.2.2.1] 35 (0, 0)), (q25, ob U 28 m.val sp25), (q, ob I64 3 (errP m.n m.val m.rel l) sp), (some b4, .cells #[.int .i64 0, .slice none 0 0, .slice none 0 0] 35 (0, 0))] ++ z.2.2.2.2.2)
        (fun z => z.1 ≤ m.rows.length ∧ z.2.1.length = z.1 ∧ (z.2.2.1 = none → z.2.1.length = 0 ∧ z.2.2.2.1 = 0) ∧ (z.2.1.map Row.v ++ z.2.2.2.2.1).length = z.2.2.2.1 ∧ (∀ r ∈ z.2.1, InS U z.2.2.2.2.2 r.a r.xs ∧ r.xs.length ≤ maxLen ∧ r.xs.length ≤ r.cap) ∧
          ∀ (i : Nat) (r : Row), i < z.1 → m.rows[i]? = some r → ∃ c, Least (closP (propsL l)) r.xs c ∧ (z.2.1.map Row.xs)[i]? = some (serU (propsL l) c)) (fun z => m.rows.length - z.1) (0, [], none, 0, [], [])
        ⟨Nat.zero_le _, rfl, fun _ => ⟨rfl, rfl⟩, rfl, by simp, fun i r hi => by omega⟩ ⟨rfl, rfl, rfl, rfl, rfl, rfl, trivial⟩ (.cons_cons _ (.cons_cons _ (.cons_cons _ (.cons_cons _ (.cons_cons _ (.cons _ .slnil)))))) (fun z hI IH => ?_)
      obtain ⟨k, rows, qR, capR, spR, HR⟩ := z
      obtain ⟨hk, hrl, hqR, hcapR, hrows, hcl⟩ := hI
      dsimp only at hk hrl hqR hcapR hrows hcl IH ⊢
      -- heap: qR b8 q25 q b4
      -- ptr: 4=b4 8=b8
      refine GoH.seq ?_
      refine GoH.region ?_
      refine GoH.v (Vop.bin rfl rfl rfl rfl bLt rfl) ?_
      refine GoH.regionEnd ?_
      refine GoH.seq ?_
      refine GoH.cond rfl (fun hc => ?_) (fun hc => ?_)
      · -- yes
        have hlt : k < m.rows.length := by simpa using hc
        have hrow := hm.row m.rows[k] (List.getElem_mem hlt)
        have hrv := hV.rels m.rows[k].xs (List.mem_map.2 ⟨_, List.getElem_mem hlt, rfl⟩)
        have hr64 := hrv.len
        have hag := hV.agents
        have hagl : m.rel.length = m.rows.length := by simp [MV.rel]
        refine GoH.skip ?_
        refine GoH.seq ?_
        refine GoH.block ?_
        refine GoH.seq ?_
        refine GoH.region ?_
        refine GoH.v (Vop.idx rfl rfl rfl rfl rfl Tryd.underlying33 Tryd.sizeOf22 ⟨_, hm.rel⟩ (by simp) (k) ⟨rfl, by simpa using hlt⟩) ?_
        refine GoH.v (Vop.ld rfl rfl rfl rfl Tryd.isAgg22 (fun w _ hS => (SlR.ex0 hm.rel hS.ext).at (k) hlt)) ?_
        refine GoH.v (Vop.asg rfl rfl rfl rfl) ?_
        refine GoH.regionEnd ?_
        refine GoH.drawT 4 10 mixed rfl ?_
        refine RdT.v (Vop.fldP rfl rfl rfl rfl Tryd.underlying35 rfl (by exact Tryd.sizeOf33) 2 rfl) ?_
        refine RdT.v (Vop.ldo rfl rfl rfl rfl Tryd.isAgg33 1 rfl rfl) ?_
        refine RdT.v (Vop.mv rfl rfl rfl rfl) ?_
        refine RdT.v (Vop.mv rfl rfl rfl rfl) ?_
        refine RdT.nil ?_
        refine Tl.one (d := 38) rfl ?_
        refine Mop.call _ rfl rfl rfl rfl rfl (fun _ _ => Tryd.call41 _ _) (fun w _ hS => (by exact closedR_c m.rows[k] (q.map (fun b => ⟨b, 0, none⟩)) cap (errP m.n m.val m.rel l) w (hT.ex hS.ext) (hrow.ex0 hS.ext) hrv (sliAt hS 3 rfl (fun e => (hq e).1)) (by rw [hP]; omega))) ?_
        rintro v w1 w2 Y' hS he ⟨c, hLc, ho⟩
        obtain ⟨q38, cap38, sp38, rfl, hq38, hcap38, hS'⟩ := gainO hS he ho
        refine ⟨_, hS', by repeat (first | exact List.Sublist.refl _ | refine List.Sublist.cons _ ?_), ?_⟩
        -- heap: q38 qR b8 q25 q b4
        refine Tl.one (d := 39) rfl ?_
        refine Mop.bsN (c := [_]) rfl rfl rfl rfl Tryd.underlying33 Tryd.sizeOf22 Tryd.zeroValue22 rfl rfl (fun b39 => ⟨by repeat (first | exact List.Sublist.refl _ | refine List.Sublist.cons _ ?_), ?_⟩)
        refine Tl.sw [6, 7, 8] rfl rfl ?_
        refine GoH.appE Row.v (news := [⟨q38.map (fun b => ⟨b, 0, none⟩), cap38, serU (errP m.n m.val m.rel l) c⟩]) (spn := []) (xs := rows) (sp := spR) (q := qR) rfl rfl rfl rfl rfl Tryd.underlying33 hi hz hsz rfl hqR 2 rfl 0 rfl hcapR rfl (by decide) (fun _ => rfl) (by simp [maxLen]; omega) (by simp [hby]; omega) (fun b' sp' cap' hlen => ?_)
        -- heap: b39 q38 b' b8 q25 q b4
        refine GoH.v (Vop.fldP rfl rfl rfl rfl Tryd.underlying35 rfl (by exact Tryd.sizeOf33) 2 rfl) ?_
        refine GoH.st rfl rfl rfl rfl Tryd.sizeOf33 rfl 3 rfl rfl ?_
        refine GoH.regionEnd ?_
        refine GoH.inBlock ?_
        refine GoH.region ?_
        refine GoH.v (Vop.bin rfl rfl rfl rfl (bAdd (by omega)) rfl) ?_
        refine GoH.v (Vop.mv rfl rfl rfl rfl) ?_
        refine GoH.regionEnd ?_
        refine GoH.pickT (pre := [_, _, _, _, _, _, _]) (pre' := [_, _, _, _, _, _]) HR [2, 3, 4, 5, 6, 1] (by decide) rfl ?_
        exact IH (k + 1, rows ++ [⟨q38.map (fun b => ⟨b, 0, none⟩), cap38, serU (errP m.n m.val m.rel l) c⟩], some b', cap', sp', (q38, ob U 28 (serU (errP m.n m.val m.rel l) c) sp38) :: HR) _ _ ⟨hlt, by simp [hrl], (fun e => by cases e), hlen, fun r hr => by
          rcases List.mem_append.1 hr with hr | hr
          · obtain ⟨a1, a2⟩ := hrows r hr
            exact ⟨a1.mono (List.subset_cons_self _ _), a2⟩
          · obtain rfl := List.mem_singleton.1 hr
            have hlc : (serU (errP m.n m.val m.rel l) c).length ≤ 64 := by rw [serU_length]; exact hLc.val.len
            exact ⟨InS.at (fun e => (hq38 e).1) (List.mem_cons_self ..), by show (serU _ _).length ≤ _; unfold maxLen; omega, by rw [← hcap38]; simp⟩, fun i r hi hr => by
          by_cases e : i = k
          · subst e
            rw [List.getElem?_eq_getElem hlt] at hr; cases hr
            refine ⟨c, hP ▸ hLc, ?_⟩
            rw [← hrl]; simp [hP]
          · obtain ⟨c2, a1, a2⟩ := hcl i r (by omega) hr
            refine ⟨c2, a1, ?_⟩
            rw [List.map_append, List.getElem?_append_left (by simp; omega)]
            exact a2⟩ (by dsimp only; omega) ⟨rfl, rfl, rfl, rfl, rfl, rfl, trivial⟩ (List.Sublist.refl _)
      · -- no
        have hge : ¬ k < m.rows.length := by simpa using hc
        obtain rfl : k = m.rows.length := by omega
        refine GoH.exit rfl ?_
        refine GoH.seq ?_
        refine GoH.region ?_
        refine GoH.v (Vop.ldB rfl rfl rfl rfl Tryd.isAgg35 1 rfl Tryd.sizeOf35 rfl) ?_
        refine GoH.stB rfl rfl rfl rfl Tryd.sizeOf35 4 rfl rfl rfl rfl ?_
        refine GoH.v (Vop.asg rfl rfl rfl rfl) ?_
        refine GoH.regionEnd ?_
        refine GoH.retH Tryd.f14 Tryd.func14 _ (resH.cell rfl Tryd.isAgg35 Tryd.sizeOf35 (j := 4) rfl rfl (resH.tmp rfl resH.nil)) (fun w' hS => ?_)
        refine ⟨hS.ext, ⟨m.n, qR.map (fun b => ⟨b, 0, none⟩), capR, rows, q25.map (fun b => ⟨b, 0, none⟩), cap25, m.val⟩, _, by rw [h1]; rfl, NewH.of hS, ⟨InS.at (fun e => (hqR e).1) (List.mem_of_getElem? (i := 0) rfl), fun r hr => ?_, InS.at (fun e => (hq25 e).1) (List.mem_of_getElem? (i := 2) rfl), by show rows.length ≤ _; unfold maxLen; omega, hm.lv, by rw [← hcapR]; simp, by rw [← hcap25]; simp⟩, ?_⟩
        · obtain ⟨a1, a2⟩ := hrows r hr
          exact ⟨a1.mono (fun x hx => List.mem_append_right [_, _, _, _, _] hx), a2⟩
        · rw [ClosedM, if_neg (by rw [h1]; simp)]
          refine ⟨rfl, rfl, by simp [MV.rel, hrl], fun i r hr => ?_⟩
          rw [MV.rel, List.getElem?_map] at hr
          obtain ⟨y, hy, rfl⟩ := Option.map_eq_some_iff.1 hr
          exact hcl i y (List.getElem?_eq_some_iff.1 hy).1 hy
    · -- the region
      refine GoH.drawT 4 9 mixed rfl ?_
      refine RdT.v (Vop.fldP rfl rfl rfl rfl Tryd.underlying35 rfl (by exact Tryd.sizeOf3) 0 rfl) ?_
      refine RdT.v (Vop.ldo (v := .int .i64 m.n) rfl rfl rfl rfl Tryd.isAgg3 2 rfl rfl) ?_
      refine RdT.v (Vop.fldP rfl rfl rfl rfl Tryd.underlying35 rfl (by exact Tryd.sizeOf22) 1 rfl) ?_
      refine RdT.v (Vop.ldo (v := .slice m.va m.val.length m.vc) rfl rfl rfl rfl Tryd.isAgg22 2 rfl rfl) ?_
      refine RdT.nil ?_
      refine Tl.two (d := 25) (d2 := 8) rfl ?_ ?_
      · -- operation 4 next
        refine Mop.call _ rfl rfl rfl rfl rfl (fun _ _ => Tryd.call40 _ _) (fun w _ hS => clone_c m.va m.vc m.val w (hm.val.ex0 hS.ext) (by omega) hm.cv) ?_
        rintro v w1 w2 Y' hS he ho
        obtain ⟨q25, cap25, sp25, rfl, hq25, hcap25, hS'⟩ := gainO hS he ho
        refine ⟨_, hS', by repeat (first | exact List.Sublist.refl _ | refine List.Sublist.cons _ ?_), ?_⟩
        -- heap: q25 q b4 b2
        refine Tl.two (d := 26) (d2 := 8) rfl ?_ ?_
        · -- operation 5 next
          refine Mop.v (Vop.bld rfl rfl rfl rfl (bld (c := [_, _, _]) Tryd.underlying35 (Szs.cons Tryd.sizeOf3 (Szs.cons Tryd.sizeOf22 (Szs.cons Tryd.sizeOf33 Szs.nil))) Tryd.zeroValue35 rfl)) (fun _ h => by cases h; rfl) ⟨by repeat (first | exact List.Sublist.refl _ | refine List.Sublist.cons _ ?_), ?_⟩
          refine Tl.one (d := 8) rfl ?_
          refine Mop.alc rfl rfl rfl (fun _ => Tryd.zeroValue35 _) (fun b8 => ⟨by repeat (first | exact List.Sublist.refl _ | refine List.Sublist.cons _ ?_), ?_⟩)
          refine Tl.sw [7] rfl rfl ?_
          exact K ⟨(b8, q25, cap25, sp25), hq25, hcap25⟩ _ _ (by repeat (first | exact SubF.nil | refine SubF.cons rfl ?_)) (fun _ _ hS => hS)
        · -- operation 6 next
          refine Mop.alc rfl rfl rfl (fun _ => Tryd.zeroValue35 _) (fun b8 => ⟨by repeat (first | exact List.Sublist.refl _ | refine List.Sublist.cons _ ?_), ?_⟩)
          refine Tl.one (d := 26) rfl ?_
          refine Mop.v (Vop.bld rfl rfl rfl rfl (bld (c := [_, _, _]) Tryd.underlying35 (Szs.cons Tryd.sizeOf3 (Szs.cons Tryd.sizeOf22 (Szs.cons Tryd.sizeOf33 Szs.nil))) Tryd.zeroValue35 rfl)) (fun _ h => by cases h; rfl) ⟨by repeat (first | exact List.Sublist.refl _ | refine List.Sublist.cons _ ?_), ?_⟩
          refine Tl.sw [7] rfl rfl ?_
          exact K ⟨(b8, q25, cap25, sp25), hq25, hcap25⟩ _ _ (by repeat (first | exact SubF.nil | refine SubF.cons rfl ?_)) (fun _ _ hS => hS)
      · -- operation 6 next
        refine Mop.alc rfl rfl rfl (fun _ => Tryd.zeroValue35 _) (fun b8 => ⟨by repeat (first | exact List.Sublist.refl _ | refine List.Sublist.cons _ ?_), ?_⟩)
        refine Tl.one (d := 25) rfl ?_
        refine Mop.call _ rfl rfl rfl rfl rfl (fun _ _ => Tryd.call40 _ _) (fun w _ hS => clone_c m.va m.vc m.val w (hm.val.ex0 hS.ext) (by omega) hm.cv) ?_
        rintro v w1 w2 Y' hS he ho
        obtain ⟨q25, cap25, sp25, rfl, hq25, hcap25, hS'⟩ := gainO hS he ho
        refine ⟨_, hS', by repeat (first | exact List.Sublist.refl _ | refine List.Sublist.cons _ ?_), ?_⟩
        -- heap: q25 b8 q b4 b2
        refine Tl.one (d := 26) rfl ?_
        refine Mop.v (Vop.bld rfl rfl rfl rfl (bld (c := [_, _, _]) Tryd.underlying35 (Szs.cons Tryd.sizeOf3 (Szs.cons Tryd.sizeOf22 (Szs.cons Tryd.sizeOf33 Szs.nil))) Tryd.zeroValue35 rfl)) (fun _ h => by cases h; rfl) ⟨by repeat (first | exact List.Sublist.refl _ | refine List.Sublist.cons _ ?_), ?_⟩
        refine Tl.sw [7] rfl rfl ?_
        exact K ⟨(b8, q25, cap25, sp25), hq25, hcap25⟩ _ _ (by repeat (first | exact SubF.nil | refine SubF.cons rfl ?_)) (fun _ _ hS => hS.swap2)
end Go.Proofs.YtbjopkllkoomkaaDoor
