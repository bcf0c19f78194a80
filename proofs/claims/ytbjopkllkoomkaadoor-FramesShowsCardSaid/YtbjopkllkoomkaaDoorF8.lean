/- Contracts of functions of the program: what each call returns and that nothing else of memory is turned, under the conditions that each theorem states. -/
import Derived.Test.YtbjopkllkoomkaaDoorF7
namespace Go.Proofs.YtbjopkllkoomkaaDoor
open Go.RowKit Go.Proofs.Wit
/-! the least witness -/
theorem witL_own {w w' : World} {b cap : Nat} {p : Int} {r : List W64} {x u v : Nat} (h : witO r p = some (x, u, v)) (hb1 : w.heap.size ≤ b) (hb2 : w'.heap[b]? = some (.cells ([(.int .i64 (x : Int) : Value), .int .i64 (u : Int), .int .i64 (v : Int)] ++ []).toArray 3 (0, 0))) (hcap : cap = 3) :
    OwnS I64 3 w w' (.slice (some ⟨b, 0, none⟩) (cnt p) cap) (witL r p) := by
  have hc := cnt_le p
  have e1 : witL r p = [(x : Int), u, v].take (cnt p) := by rw [witL, h]
  rw [e1]
  refine ⟨some b, cap, ([(x : Int), u, v].drop (cnt p)).map I64, ?_, (fun e => by cases e), ?_, fun b' e => ?_⟩
  · rw [List.length_take]; simp only [osv, Option.map_some, List.length_cons, List.length_nil]; congr 1; omega
  · rw [← List.map_append, List.take_append_drop, hcap]; rfl
  · cases e
    refine ⟨hb1, ?_⟩
    rw [hb2, ob, ← List.map_append, List.take_append_drop]; rfl
set_option maxRecDepth 4000 in
theorem witness_c (a : Option Addr) (ca : Nat) (r : List W64) (p : Int) (w : World) (ha : SlU w a r) (hv : Val r) :
    Cn Tryd.prog 31 [.slice a r.length ca, .int .i64 p] w (fun v w' => OwnS I64 3 w w' v (witL r p)) := by
  have hn64 := hv.len
  refine Cn.of Tryd.func31 rfl rfl ?_
  refine GoH.seq ?_
  refine GoH.region ?_
  refine GoH.bx rfl rfl rfl rfl (fun b3 => ?_)
  refine GoH.v (Vop.asg rfl rfl rfl rfl) ?_
  refine GoH.regionEnd ?_
  refine GoH.scope ?_
  refine GoH.seq ?_
  refine GoH.region ?_
  refine GoH.v (Vop.asg rfl rfl rfl rfl) ?_
  refine GoH.regionEnd ?_
  refine GoH.seq ?_
  refine GoH.region ?_
  refine GoH.callM _ rfl rfl rfl rfl rfl (fun _ _ => Tryd.call56 _ _) (fun w _ hS => tests_c w) ?_
  rintro v w1 w2 Y' hS he ⟨b11, rfl, h1, h2⟩
  refine ⟨_, hS.gain he h2 rfl h1, ?_⟩
  -- heap: b11 b3
  refine GoH.v (Vop.mkFunc rfl rfl rfl rfl rfl) ?_
  refine GoH.callM _ rfl rfl rfl rfl rfl (fun _ _ => Tryd.call55 _ _) (fun w _ hS => (by exact ixT_c b3 p (some ⟨b11, 0, none⟩) 5 testL w (Sl.blk (hS.get (j := 0) rfl)) (by decide) (hS.get (j := 1) rfl))) ?_
  rintro v w1 w2 Y' hS he ⟨j, rfl, hj⟩
  refine ⟨_, hS.later he, ?_⟩
  refine GoH.v (Vop.asg rfl rfl rfl rfl) ?_
  refine GoH.regionEnd ?_
  refine GoH.seq ?_
  refine GoH.seq ?_
  refine GoH.region ?_
  refine GoH.v (Vop.mv rfl rfl rfl rfl) ?_
  refine GoH.v (Vop.bin rfl rfl rfl rfl bLt rfl) ?_
  refine GoH.regionEnd ?_
  refine GoH.cond rfl (fun hc => ?_) (fun hc => ?_)
  · -- yes
    have h0 : cnt p = 0 := by
      have hneg : j < 0 := by simpa using hc
      rcases hj with ⟨_, h⟩ | ⟨k, _, rfl, _⟩
      · exact test_all h
      · omega
    have e1 : witL r p = [] := by rw [witL, witO, if_pos h0]
    refine GoH.seq ?_
    refine GoH.region ?_
    refine GoH.v (Vop.asg rfl rfl rfl rfl) ?_
    refine GoH.regionEnd ?_
    refine GoH.ret Tryd.f31 Tryd.func31 rfl (fun w' hS => ?_)
    exact ⟨hS.ext, none, 0, [], by rw [e1]; rfl, fun _ => ⟨by rw [e1]; rfl, rfl⟩, by rw [e1]; rfl, fun b h => by cases h⟩
  · -- no
    have hpos : ¬ j < 0 := by simpa using hc
    obtain ⟨k, x0, rfl, hx0, hxp⟩ : ∃ (k : Nat) (x : Int × Int × FuncId), j = k ∧ testL[k]? = some x ∧ x.1 = p := by
      rcases hj with ⟨rfl, _⟩ | h
      · exact absurd (by decide) hpos
      · exact h
    subst hxp
    obtain ⟨hkl, hkx⟩ := List.getElem?_eq_some_iff.1 hx0
    obtain ⟨hcn, hp1, hp5, hcf, hsh⟩ := test_mem (List.mem_of_getElem? hx0)
    have hc0 : cnt x0.1 ≠ 0 := cnt_pos.2 ⟨hp1, hp5⟩
    have hc3 := cnt_le x0.1
    refine GoH.skip ?_
    refine GoH.seq ?_
    refine GoH.region ?_
    refine GoH.callM _ rfl rfl rfl rfl rfl (fun _ _ => Tryd.call56 _ _) (fun w _ hS => tests_c w) ?_
    rintro v w1 w2 Y' hS he ⟨b16, rfl, h1, h2⟩
    refine ⟨_, hS.gain he h2 rfl h1, ?_⟩
    -- heap: b16 b11 b3
    refine GoH.v (Vop.mv rfl rfl rfl rfl) ?_
    refine GoH.v (Vop.idxS rfl rfl rfl rfl rfl Tryd.underlying85 Tryd.sizeOf88 k ⟨rfl, hkl⟩) ?_
    refine GoH.v (Vop.ldN (cs := tRow x0) rfl rfl rfl rfl Tryd.isAgg88 Tryd.sizeOf88 (fun w _ hS => by rw [← hkx]; exact Sl.many (enc := tRow) (sz := 3) (Sl.blk (hS.get (j := 0) rfl)) (fun _ => rfl) hkl)) ?_
    refine GoH.alc rfl rfl rfl (fun _ => Tryd.zeroValue88 _) (fun b7 => ?_)
    refine GoH.stB rfl rfl rfl rfl Tryd.sizeOf88 0 rfl rfl rfl rfl ?_
    refine GoH.regionEnd ?_
    refine GoH.seq ?_
    refine GoH.label ?_
    refine GoH.seq ?_
    refine GoH.seq ?_
    refine GoH.region ?_
    refine GoH.v (Vop.mv rfl rfl rfl rfl) ?_
    refine GoH.v (Vop.blt rfl rfl rfl (blt_len_slice Tryd.underlying22) rfl) ?_
    refine GoH.v (Vop.mv rfl rfl rfl rfl) ?_
    refine GoH.regionEnd ?_
    refine GoH.block ?_
    refine GoH.loop (σ := Nat) (fun k => [(0, .slice a r.length ca), (5, .slice none 0 0), (7, .pointer (some ⟨b7, 0, none⟩)), (21, .int .i64 r.length), (22, .int .i64 k)]) (fun _ => [(some b7, .cells #[.int .i64 x0.1, .int .i64 x0.2.1, .func (.func x0.2.2) #[] #[]] 88 (0, 0))])
      (fun k => k ≤ r.length ∧ firstTo (witW x0.1 r) k = none) (fun k => r.length - k) 0 ⟨Nat.zero_le _, rfl⟩ ⟨rfl, rfl, rfl, rfl, rfl, trivial⟩ (.cons_cons _ (.cons _ (.cons _ (.cons _ .slnil)))) (fun x hI IH => ?_)
    obtain ⟨hxk, hxn⟩ := hI
    -- heap: b7
    -- ptr: 7=b7
    refine GoH.seq ?_
    refine GoH.region ?_
    refine GoH.v (Vop.bin rfl rfl rfl rfl bLt rfl) ?_
    refine GoH.regionEnd ?_
    refine GoH.seq ?_
    refine GoH.cond rfl (fun hc => ?_) (fun hc => ?_)
    · -- yes
      have hx : x < r.length := by simpa using hc
      refine GoH.skip ?_
      refine GoH.seq ?_
      refine GoH.block ?_
      refine GoH.seq ?_
      refine GoH.region ?_
      refine GoH.v (Vop.mv rfl rfl rfl rfl) ?_
      refine GoH.v (Vop.asg rfl rfl rfl rfl) ?_
      refine GoH.regionEnd ?_
      refine GoH.seq ?_
      refine GoH.region ?_
      refine GoH.v (Vop.mv rfl rfl rfl rfl) ?_
      refine GoH.v (Vop.blt rfl rfl rfl (blt_len_slice Tryd.underlying22) rfl) ?_
      refine GoH.v (Vop.mv rfl rfl rfl rfl) ?_
      refine GoH.regionEnd ?_
      refine GoH.block ?_
      refine GoH.loop (σ := Nat) (fun k => [(0, .slice a r.length ca), (5, .slice none 0 0), (7, .pointer (some ⟨b7, 0, none⟩)), (21, .int .i64 r.length), (22, .int .i64 x), (8, .int .i64 x), (26, .int .i64 r.length), (27, .int .i64 k)]) (fun _ => [(some b7, .cells #[.int .i64 x0.1, .int .i64 x0.2.1, .func (.func x0.2.2) #[] #[]] 88 (0, 0))])
        (fun k => k ≤ r.length ∧ firstTo (witU x0.1 r x) k = none ∧ (cnt x0.1 < 2 → k = 0)) (fun k => r.length - k) 0 ⟨Nat.zero_le _, rfl, fun _ => rfl⟩ ⟨rfl, rfl, rfl, rfl, rfl, rfl, rfl, rfl, trivial⟩ (List.Sublist.refl _) (fun u hI IH2 => ?_)
      obtain ⟨huk, hun, hu2⟩ := hI
      -- heap: b7
      -- ptr: 7=b7
      refine GoH.seq ?_
      refine GoH.region ?_
      refine GoH.v (Vop.bin rfl rfl rfl rfl bLt rfl) ?_
      refine GoH.regionEnd ?_
      refine GoH.seq ?_
      refine GoH.cond rfl (fun hc => ?_) (fun hc => ?_)
      · -- yes
        have hu : u < r.length := by simpa using hc
        refine GoH.skip ?_
        refine GoH.seq ?_
        refine GoH.block ?_
        refine GoH.seq ?_
        refine GoH.region ?_
        refine GoH.v (Vop.mv rfl rfl rfl rfl) ?_
        refine GoH.v (Vop.asg rfl rfl rfl rfl) ?_
        refine GoH.regionEnd ?_
        refine GoH.seq ?_
        refine GoH.seq ?_
        refine GoH.region ?_
        refine GoH.v (Vop.mv rfl rfl rfl rfl) ?_
        refine GoH.v (Vop.blt rfl rfl rfl (blt_len_slice Tryd.underlying22) rfl) ?_
        refine GoH.v (Vop.mv rfl rfl rfl rfl) ?_
        refine GoH.regionEnd ?_
        refine GoH.block ?_
        refine GoH.loop (σ := Nat) (fun k => [(0, .slice a r.length ca), (5, .slice none 0 0), (7, .pointer (some ⟨b7, 0, none⟩)), (21, .int .i64 r.length), (22, .int .i64 x), (8, .int .i64 x), (26, .int .i64 r.length), (27, .int .i64 u), (9, .int .i64 u), (31, .int .i64 r.length), (32, .int .i64 k)]) (fun _ => [(some b7, .cells #[.int .i64 x0.1, .int .i64 x0.2.1, .func (.func x0.2.2) #[] #[]] 88 (0, 0))])
          (fun k => k ≤ r.length ∧ firstTo (witV x0.1 r x u) k = none ∧ (cnt x0.1 < 3 → k = 0)) (fun k => r.length - k) 0 ⟨Nat.zero_le _, rfl, fun _ => rfl⟩ ⟨rfl, rfl, rfl, rfl, rfl, rfl, rfl, rfl, rfl, rfl, rfl, trivial⟩ (List.Sublist.refl _) (fun v hI IH3 => ?_)
        obtain ⟨hvk, hvn, hv3⟩ := hI
        -- heap: b7
        -- ptr: 7=b7
        have hU : firstTo (witV x0.1 r x u) (if cnt x0.1 < 3 then 1 else r.length) = none → witU x0.1 r x u = none := fun h => h
        have hW : firstTo (witU x0.1 r x) (if cnt x0.1 < 2 then 1 else r.length) = none → witW x0.1 r x = none := fun h => h
        refine GoH.seq ?_
        refine GoH.region ?_
        refine GoH.v (Vop.bin rfl rfl rfl rfl bLt rfl) ?_
        refine GoH.regionEnd ?_
        refine GoH.seq ?_
        refine GoH.cond rfl (fun hc => ?_) (fun hc => ?_)
        · -- yes
          have hvl : v < r.length := by simpa using hc
          refine GoH.skip ?_
          refine GoH.seq ?_
          refine GoH.block ?_
          refine GoH.seq ?_
          refine GoH.region ?_
          refine GoH.v (Vop.mv rfl rfl rfl rfl) ?_
          refine GoH.v (Vop.asg rfl rfl rfl rfl) ?_
          refine GoH.regionEnd ?_
          refine GoH.seq ?_
          refine GoH.seq ?_
          refine GoH.region ?_
          refine GoH.v (Vop.fldP rfl rfl rfl rfl Tryd.underlying88 rfl (by exact Tryd.sizeOf86) 2 rfl) ?_
          refine GoH.v (Vop.ldo rfl rfl rfl rfl Tryd.isAgg86 0 rfl rfl) ?_
          refine GoH.v (Vop.mv rfl rfl rfl rfl) ?_
          refine GoH.v (Vop.mv rfl rfl rfl rfl) ?_
          refine GoH.v (Vop.mv rfl rfl rfl rfl) ?_
          refine GoH.v (Vop.mv rfl rfl rfl rfl) ?_
          refine GoH.callP rfl rfl rfl rfl rfl hcf (fun w _ hS => by exact hsh a ca r x u v w (ha.ex0 hS.ext) hx hu hvl) ?_
          refine GoH.regionEnd ?_
          refine GoH.cond rfl (fun hc => ?_) (fun hc => ?_)
          · -- yes
            have hV1 : witV x0.1 r x u v = some (x, u, v) := by rw [witV, if_pos hc]
            have hU1 : witU x0.1 r x u = some (x, u, v) := firstTo_hit hvn hV1 _ (by
              split
              · rename_i h; rw [hv3 h]; exact Nat.one_pos
              · exact hvl)
            have hW1 : witW x0.1 r x = some (x, u, v) := firstTo_hit hun hU1 _ (by
              split
              · rename_i h; rw [hu2 h]; exact Nat.one_pos
              · exact hu)
            have hO : witO r x0.1 = some (x, u, v) := by rw [witO, if_neg hc0]; exact firstTo_hit hxn hW1 _ hx
            refine GoH.seq ?_
            refine GoH.region ?_
            refine GoH.v (Vop.mv rfl rfl rfl rfl) ?_
            refine GoH.v (Vop.mv rfl rfl rfl rfl) ?_
            refine GoH.v (Vop.mv rfl rfl rfl rfl) ?_
            refine GoH.bsN (c := [_, _, _]) rfl rfl rfl rfl Tryd.underlying42 Tryd.sizeOf3 Tryd.zeroValue3 rfl rfl (fun b45 => ?_)
            refine GoH.v (Vop.fldP rfl rfl rfl rfl Tryd.underlying88 rfl (by exact Tryd.sizeOf3) 1 rfl) ?_
            refine GoH.v (Vop.ldo rfl rfl rfl rfl Tryd.isAgg3 1 rfl rfl) ?_
            refine GoH.v (Vop.slHi (hi := cnt x0.1) rfl rfl rfl rfl rfl Tryd.underlying42 Tryd.sizeOf3 (by rw [← hcn]) hc3) ?_
            refine GoH.v (Vop.asg rfl rfl rfl rfl) ?_
            refine GoH.regionEnd ?_
            refine GoH.exit rfl ?_
            refine GoH.seq ?_
            refine GoH.region ?_
            refine GoH.v (Vop.mv rfl rfl rfl rfl) ?_
            refine GoH.v (Vop.asg rfl rfl rfl rfl) ?_
            refine GoH.regionEnd ?_
            refine GoH.ret Tryd.f31 Tryd.func31 rfl (fun w' hS => ?_)
            exact ⟨hS.ext, witL_own hO (hS.fresh (j := 0) rfl) (hS.get (j := 0) rfl) rfl⟩
          · -- no
            have hV0 : witV x0.1 r x u v = none := by rw [witV, if_neg (by rw [hc]; simp)]
            have hvn1 := firstTo_step hvn hV0
            refine GoH.skip ?_
            refine GoH.seq ?_
            refine GoH.region ?_
            refine GoH.v (Vop.fldP rfl rfl rfl rfl Tryd.underlying88 rfl (by exact Tryd.sizeOf3) 1 rfl) ?_
            refine GoH.v (Vop.ldo rfl rfl rfl rfl Tryd.isAgg3 0 rfl rfl) ?_
            refine GoH.v (Vop.bin rfl rfl rfl rfl bLt rfl) ?_
            refine GoH.regionEnd ?_
            refine GoH.cond rfl (fun hc => ?_) (fun hc => ?_)
            · -- yes
              have h3 : cnt x0.1 < 3 := by have : x0.2.1 < 3 := by simpa using hc
                                           omega
              have hUn := hU (by rw [if_pos h3]; rw [hv3 h3] at hvn1; exact hvn1)
              have hun1 := firstTo_step hun hUn
              refine GoH.exit rfl ?_
              refine GoH.seq ?_
              refine GoH.region ?_
              refine GoH.v (Vop.fldP rfl rfl rfl rfl Tryd.underlying88 rfl (by exact Tryd.sizeOf3) 1 rfl) ?_
              refine GoH.v (Vop.ldo rfl rfl rfl rfl Tryd.isAgg3 0 rfl rfl) ?_
              refine GoH.v (Vop.bin rfl rfl rfl rfl bLt rfl) ?_
              refine GoH.regionEnd ?_
              refine GoH.cond rfl (fun hc => ?_) (fun hc => ?_)
              · -- yes
                have h2 : cnt x0.1 < 2 := by have : x0.2.1 < 2 := by simpa using hc
                                             omega
                have hWn := hW (by rw [if_pos h2]; rw [hu2 h2] at hun1; exact hun1)
                refine GoH.exit rfl ?_
                refine GoH.inBlock ?_
                refine GoH.region ?_
                refine GoH.v (Vop.bin rfl rfl rfl rfl (bAdd (by omega)) rfl) ?_
                refine GoH.v (Vop.mv rfl rfl rfl rfl) ?_
                refine GoH.regionEnd ?_
                exact IH (x + 1) _ _ ⟨hx, firstTo_step hxn hWn⟩ (by omega) ⟨rfl, rfl, rfl, rfl, rfl, trivial⟩ (List.Sublist.refl _)
              · -- no
                have h2 : ¬ cnt x0.1 < 2 := by have : ¬ x0.2.1 < 2 := by simpa using hc
                                               omega
                refine GoH.skip ?_
                refine GoH.inBlock ?_
                refine GoH.region ?_
                refine GoH.v (Vop.bin rfl rfl rfl rfl (bAdd (by omega)) rfl) ?_
                refine GoH.v (Vop.mv rfl rfl rfl rfl) ?_
                refine GoH.regionEnd ?_
                exact IH2 (u + 1) _ _ ⟨hu, hun1, fun h => absurd h h2⟩ (by omega) ⟨rfl, rfl, rfl, rfl, rfl, rfl, rfl, rfl, trivial⟩ (List.Sublist.refl _)
            · -- no
              have h3 : ¬ cnt x0.1 < 3 := by have : ¬ x0.2.1 < 3 := by simpa using hc
                                             omega
              refine GoH.skip ?_
              refine GoH.inBlock ?_
              refine GoH.region ?_
              refine GoH.v (Vop.bin rfl rfl rfl rfl (bAdd (by omega)) rfl) ?_
              refine GoH.v (Vop.mv rfl rfl rfl rfl) ?_
              refine GoH.regionEnd ?_
              exact IH3 (v + 1) _ _ ⟨hvl, hvn1, fun h => absurd h h3⟩ (by omega) ⟨rfl, rfl, rfl, rfl, rfl, rfl, rfl, rfl, rfl, rfl, rfl, trivial⟩ (List.Sublist.refl _)
        · -- no
          have hvl : ¬ v < r.length := by simpa using hc
          obtain rfl : v = r.length := by omega
          have h3 : ¬ cnt x0.1 < 3 := fun h => by have := hv3 h; omega
          have hUn := hU (by rw [if_neg h3]; exact hvn)
          have hun1 := firstTo_step hun hUn
          refine GoH.exit rfl ?_
          refine GoH.seq ?_
          refine GoH.region ?_
          refine GoH.v (Vop.fldP rfl rfl rfl rfl Tryd.underlying88 rfl (by exact Tryd.sizeOf3) 1 rfl) ?_
          refine GoH.v (Vop.ldo rfl rfl rfl rfl Tryd.isAgg3 0 rfl rfl) ?_
          refine GoH.v (Vop.bin rfl rfl rfl rfl bLt rfl) ?_
          refine GoH.regionEnd ?_
          refine GoH.cond rfl (fun hc => ?_) (fun hc => ?_)
          · -- yes
            have h2 : cnt x0.1 < 2 := by have : x0.2.1 < 2 := by simpa using hc
                                         omega
            exfalso; omega
          · -- no
            have h2 : ¬ cnt x0.1 < 2 := by have : ¬ x0.2.1 < 2 := by simpa using hc
                                           omega
            refine GoH.skip ?_
            refine GoH.inBlock ?_
            refine GoH.region ?_
            refine GoH.v (Vop.bin rfl rfl rfl rfl (bAdd (by omega)) rfl) ?_
            refine GoH.v (Vop.mv rfl rfl rfl rfl) ?_
            refine GoH.regionEnd ?_
            exact IH2 (u + 1) _ _ ⟨hu, hun1, fun h => absurd h h2⟩ (by omega) ⟨rfl, rfl, rfl, rfl, rfl, rfl, rfl, rfl, trivial⟩ (List.Sublist.refl _)
      · -- no
        have hul : ¬ u < r.length := by simpa using hc
        obtain rfl : u = r.length := by omega
        have h2 : ¬ cnt x0.1 < 2 := fun h => by have := hu2 h; omega
        have hWn : witW x0.1 r x = none := by rw [witW, if_neg h2]; exact hun
        refine GoH.exit rfl ?_
        refine GoH.inBlock ?_
        refine GoH.region ?_
        refine GoH.v (Vop.bin rfl rfl rfl rfl (bAdd (by omega)) rfl) ?_
        refine GoH.v (Vop.mv rfl rfl rfl rfl) ?_
        refine GoH.regionEnd ?_
        exact IH (x + 1) _ _ ⟨hx, firstTo_step hxn hWn⟩ (by omega) ⟨rfl, rfl, rfl, rfl, rfl, trivial⟩ (List.Sublist.refl _)
    · -- no
      have hxl : ¬ x < r.length := by simpa using hc
      obtain rfl : x = r.length := by omega
      have e1 : witL r x0.1 = [] := by rw [witL, witO, if_neg hc0, hxn]
      refine GoH.exit rfl ?_
      refine GoH.seq ?_
      refine GoH.region ?_
      refine GoH.v (Vop.mv rfl rfl rfl rfl) ?_
      refine GoH.v (Vop.asg rfl rfl rfl rfl) ?_
      refine GoH.regionEnd ?_
      refine GoH.ret Tryd.f31 Tryd.func31 rfl (fun w' hS => ?_)
      exact ⟨hS.ext, none, 0, [], by rw [e1]; rfl, fun _ => ⟨by rw [e1]; rfl, rfl⟩, by rw [e1]; rfl, fun b h => by cases h⟩
end Go.Proofs.YtbjopkllkoomkaaDoor
