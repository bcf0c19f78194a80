/- Contracts of functions of the program: what each call returns and that nothing else of memory is turned, under the conditions that each theorem states. -/
import Derived.Test.YtbjopkllkoomkaaDoorE2
import Derived.Test.YtbjopkllkoomkaaDoorWI
namespace Go.Proofs.YtbjopkllkoomkaaDoor
open Go.RowKit Go.Proofs.Wit
/-! the reference's walk -/
def finH (bw : Nat) (q : Option Nat) (cap : Nat) (ts : List Tr) (sp : List Value) (bd capd : Nat) (ds : List Int) (dsp : List Value) : Hl :=
  [(some bw, .cells #[osv q (nodesOf ts).length cap, osv (some bd) ds.length capd] 107 (0, 0)), (q, obN 58 (nodesOf ts) sp), (some bd, ob I64 3 ds dsp)]
def FinPost (f : List NV) (i bw bd capd : Nat) (dsp : List Value) (ts : List Tr) (v : Value) (h' : Hl) : Prop :=
  ∃ q' cap' sp' ds', h' = finH bw q' cap' (visit (treeAt f i) ts) sp' bd capd ds' dsp ∧ OutOk q' cap' (visit (treeAt f i) ts) sp' ∧ DoneOk f (visit (treeAt f i) ts) ds' ∧ v = .int .i64 ((visit (treeAt f i) ts).idxOf (treeAt f i) : Int)
set_option maxRecDepth 8000 in
theorem finish_c (f : List NV) (a : Option Addr) (ca : Nat) (hf : NodesOk f) (hfl : f.length ≤ 10000) (bw bd capd : Nat) (dsp : List Value) : ∀ (i : Nat), i < f.length → ∀ (w : World) (q : Option Nat) (cap : Nat) (ts : List Tr) (sp : List Value) (ds : List Int),
    HasH w (finH bw q cap ts sp bd capd ds dsp) → FA w a f → (∀ b o, a = some ⟨b, o, none⟩ → b ∉ blks (finH bw q cap ts sp bd capd ds dsp)) → OutOk q cap ts sp → ts ⊆ trees f → DoneOk f ts ds →
    CnS Tryd.prog 81 [.slice a f.length ca, .int .i64 i, .pointer (some ⟨bw, 0, none⟩)] w (finH bw q cap ts sp bd capd ds dsp) (FinPost f i bw bd capd dsp ts) := by
  intro i
  induction i using Nat.strongRecOn with
  | _ i IHi =>
  intro hi w q cap ts sp ds hh ha hsep ho hts hd
  have hdl := hd.len
  have hids : i < ds.length := by omega
  have hok := hf i hi
  have hclo := hf.ord.clo
  have hmem := treeAt_mem hi
  have hset : ∀ ts' : List Tr, Clo ts' → ts'.Nodup → ts' ⊆ trees f → visit (treeAt f i) ts' ⊆ trees f := fun ts' _ _ h => visit_sub (treeAt f i) hclo hmem h
  have has : FAS (blks (finH bw q cap ts sp bd capd ds dsp)) w a f := ⟨ha.at_, hsep⟩
  refine CnS.of hh Tryd.func81 rfl rfl ?_
  unfold finH at has ⊢
  refine GoH.seq ?_
  refine GoH.region ?_
  refine GoH.v (Vop.asg rfl rfl rfl rfl) ?_
  refine GoH.regionEnd ?_
  refine GoH.seq ?_
  refine GoH.seq ?_
  refine GoH.region ?_
  refine GoH.v (Vop.mv rfl rfl rfl rfl) ?_
  refine GoH.v (Vop.nilCk rfl rfl rfl rfl) ?_
  refine GoH.v (Vop.fldP rfl rfl rfl rfl Tryd.underlying107 rfl (by exact Tryd.sizeOf42) 1 rfl) ?_
  refine GoH.v (Vop.ldo rfl rfl rfl rfl Tryd.isAgg42 0 rfl rfl) ?_
  refine GoH.v (Vop.mv rfl rfl rfl rfl) ?_
  refine GoH.v (Vop.idxS rfl rfl rfl rfl rfl Tryd.underlying42 Tryd.sizeOf3 (i) ⟨rfl, hids⟩) ?_
  refine GoH.v (Vop.ldE (Value.int .i64) 0 rfl rfl rfl rfl Tryd.isAgg3 2 rfl hids) ?_
  refine GoH.v (Vop.bin rfl rfl rfl rfl bGe rfl) ?_
  refine GoH.regionEnd ?_
  refine GoH.cond rfl (fun hc => ?_) (fun hc => ?_)
  · -- yes
    have hge : 0 ≤ ds.getD i 0 := of_decide_eq_true hc
    obtain ⟨hm, hix⟩ : treeAt f i ∈ ts ∧ ds.getD i 0 = (ts.idxOf (treeAt f i) : Int) := by
      rcases hd.at_ i hi with h | h
      · omega
      · exact h
    refine GoH.seq ?_
    refine GoH.region ?_
    refine GoH.v (Vop.mv rfl rfl rfl rfl) ?_
    refine GoH.v (Vop.nilCk rfl rfl rfl rfl) ?_
    refine GoH.v (Vop.fldP rfl rfl rfl rfl Tryd.underlying107 rfl (by exact Tryd.sizeOf42) 1 rfl) ?_
    refine GoH.v (Vop.ldo rfl rfl rfl rfl Tryd.isAgg42 0 rfl rfl) ?_
    refine GoH.v (Vop.mv rfl rfl rfl rfl) ?_
    refine GoH.v (Vop.idxS rfl rfl rfl rfl rfl Tryd.underlying42 Tryd.sizeOf3 (i) ⟨rfl, hids⟩) ?_
    refine GoH.v (Vop.ldE (Value.int .i64) 0 rfl rfl rfl rfl Tryd.isAgg3 2 rfl hids) ?_
    refine GoH.v (Vop.asg rfl rfl rfl rfl) ?_
    refine GoH.regionEnd ?_
    refine GoH.ret Tryd.f81 Tryd.func81 rfl (fun w' hS => ?_)
    refine ⟨_, ⟨q, cap, sp, ds, ?_, ?_, ?_, ?_⟩, hS⟩
    · rw [visit_mem hm]; rfl
    · rw [visit_mem hm]; exact ho
    · rw [visit_mem hm]; exact hd
    · rw [visit_mem hm, ← hix]; rfl
  · -- no
    refine GoH.skip ?_
    refine GoH.seq ?_
    refine GoH.region ?_
    refine GoH.v (Vop.mv rfl rfl rfl rfl) ?_
    refine GoH.v (Vop.mv rfl rfl rfl rfl) ?_
    refine GoH.v (Vop.idxN rfl rfl rfl rfl rfl Tryd.underlying24 Tryd.sizeOf58 ⟨_, (has).at_⟩ (flat_len (enc := NV.cells) (sz := 6) (fun _ => rfl)) (by decide) (i) ⟨rfl, hi⟩) ?_
    refine GoH.v (Vop.ldN (cs := NV.cells f[i]) rfl rfl rfl rfl Tryd.isAgg58 Tryd.sizeOf58 (fun w _ hS => Sl.many (enc := NV.cells) (sz := 6) (has.ex0 hS.ext).at_ (fun _ => rfl) hi)) ?_
    refine GoH.alc rfl rfl rfl (fun _ => Tryd.zeroValue58 _) (fun b7 => ?_)
    refine GoH.stB rfl rfl rfl rfl Tryd.sizeOf58 0 rfl rfl rfl rfl ?_
    refine GoH.regionEnd ?_
    refine GoH.seq ?_
    refine GoH.seq ?_
    refine GoH.region ?_
    refine GoH.v (Vop.fldP rfl rfl rfl rfl Tryd.underlying58 rfl (by exact Tryd.sizeOf3) 0 rfl) ?_
    refine GoH.v (Vop.ldo rfl rfl rfl rfl Tryd.isAgg3 0 rfl rfl) ?_
    refine GoH.callP rfl rfl rfl rfl rfl (fun _ _ => Tryd.call77 _ _) (fun w _ hS => (by exact usesX_c f[i].op w)) ?_
    refine GoH.regionEnd ?_
    refine GoH.cond rfl (fun hc => ?_) (fun hc => ?_)
    · -- yes
      have hX : usX f[i].op = true := hc
      have hxr := hok.x hX
      obtain ⟨x, hx⟩ : ∃ x : Nat, f[i].x = (x : Int) := ⟨f[i].x.toNat, by omega⟩
      have hxi : x < i := by omega
      refine GoH.region ?_
      refine GoH.v (Vop.mv rfl rfl rfl rfl) ?_
      refine GoH.v (Vop.mv rfl rfl rfl rfl) ?_
      refine GoH.v (Vop.mv rfl rfl rfl rfl) ?_
      refine GoH.v (Vop.idxN rfl rfl rfl rfl rfl Tryd.underlying24 Tryd.sizeOf58 ⟨_, (has).at_⟩ (flat_len (enc := NV.cells) (sz := 6) (fun _ => rfl)) (by decide) (i) ⟨rfl, hi⟩) ?_
      refine GoH.v (Vop.fldA rfl rfl rfl rfl Tryd.underlying58 rfl Tryd.sizeOf3 ((i) * 6 + 4) rfl) ?_
      refine GoH.v (Vop.ld rfl rfl rfl rfl Tryd.isAgg3 (fun w _ hS => Sl.fld (enc := NV.cells) (sz := 6) ((has).ex0 hS.ext).at_ (fun _ => rfl) hi rfl)) ?_
      refine GoH.v (Vop.mv rfl rfl rfl rfl) ?_
      refine GoH.pick (pre := [_, _, _, _]) (pre' := [_, _, _, _]) [1, 2, 3, 0] (by decide) rfl ?_
      refine GoH.callS (h := finH bw q cap ts sp bd capd ds dsp) (hF := [(some b7, .cells (NV.cells f[i]).toArray 58 (0, 0))]) (fs := []) (cs := []) (fun _ v h' => FinPost f x bw bd capd dsp ts v h') rfl rfl rfl rfl rfl (fun _ _ => Tryd.call81 _ _) (fun w1 Y' hS => ?_) (fun w1 v h1 hR => ?_)
      · have hS1 := hS.subH (List.sublist_append_left (finH bw q cap ts sp bd capd ds dsp) _)
        have := IHi x hxi (by omega) w1 q cap ts sp ds hS1.has ⟨(has.ex0 hS.ext).at_⟩ (has.ex0 hS.ext).sep ho hts hd
        rw [← hx] at this
        exact this
      obtain ⟨q1, cap1, sp1, ds1, rfl, ho1, hd1, rfl⟩ := hR
      have hm1 : treeAt f x ∈ visit (treeAt f x) ts := (visit_ok (treeAt f x) ho.clo ho.nd).mem
      have hs1 : visit (treeAt f x) ts ⊆ trees f := visit_sub (treeAt f x) hclo (treeAt_mem (by omega)) hts
      unfold finH
      -- heap: bw q1 bd b7
      refine GoH.v (Vop.fldP rfl rfl rfl rfl Tryd.underlying58 rfl (by exact Tryd.sizeOf3) 4 rfl) ?_
      refine GoH.st rfl rfl rfl rfl Tryd.sizeOf3 rfl 3 rfl rfl ?_
      refine GoH.regionEnd ?_
      refine GoH.seq ?_
      refine GoH.seq ?_
      refine GoH.region ?_
      refine GoH.v (Vop.fldP rfl rfl rfl rfl Tryd.underlying58 rfl (by exact Tryd.sizeOf3) 0 rfl) ?_
      refine GoH.v (Vop.ldo rfl rfl rfl rfl Tryd.isAgg3 3 rfl rfl) ?_
      refine GoH.callP rfl rfl rfl rfl rfl (fun _ _ => Tryd.call78 _ _) (fun w _ hS => (by exact usesY_c f[i].op w)) ?_
      refine GoH.regionEnd ?_
      refine GoH.cond rfl (fun hc => ?_) (fun hc => ?_)
      · -- yes
        have hY : usY f[i].op = true := hc
        have hyr := hok.y hY
        obtain ⟨y, hy⟩ : ∃ y : Nat, f[i].y = (y : Int) := ⟨f[i].y.toNat, by omega⟩
        have hyi : y < i := by omega
        refine GoH.region ?_
        refine GoH.v (Vop.mv rfl rfl rfl rfl) ?_
        refine GoH.v (Vop.mv rfl rfl rfl rfl) ?_
        refine GoH.v (Vop.mv rfl rfl rfl rfl) ?_
        refine GoH.v (Vop.idxN rfl rfl rfl rfl rfl Tryd.underlying24 Tryd.sizeOf58 ⟨_, (has).at_⟩ (flat_len (enc := NV.cells) (sz := 6) (fun _ => rfl)) (by decide) (i) ⟨rfl, hi⟩) ?_
        refine GoH.v (Vop.fldA rfl rfl rfl rfl Tryd.underlying58 rfl Tryd.sizeOf3 ((i) * 6 + 5) rfl) ?_
        refine GoH.v (Vop.ld rfl rfl rfl rfl Tryd.isAgg3 (fun w _ hS => Sl.fld (enc := NV.cells) (sz := 6) ((has).ex0 hS.ext).at_ (fun _ => rfl) hi rfl)) ?_
        refine GoH.v (Vop.mv rfl rfl rfl rfl) ?_
        refine GoH.subH (h' := finH bw q1 cap1 (visit (treeAt f x) ts) sp1 bd capd ds1 dsp ++ [(some b7, .cells ((NV.cells f[i]).toArray.setIfInBounds 4 (.int .i64 ((visit (treeAt f x) ts).idxOf (treeAt f x) : Int))) 58 (0, 0))]) (List.Sublist.refl _) ?_
        refine GoH.callS (h := finH bw q1 cap1 (visit (treeAt f x) ts) sp1 bd capd ds1 dsp) (hF := [(some b7, .cells ((NV.cells f[i]).toArray.setIfInBounds 4 (.int .i64 ((visit (treeAt f x) ts).idxOf (treeAt f x) : Int))) 58 (0, 0))]) (fs := []) (cs := []) (fun _ v h' => FinPost f y bw bd capd dsp (visit (treeAt f x) ts) v h') rfl rfl rfl rfl rfl (fun _ _ => Tryd.call81 _ _) (fun w1 Y' hS => ?_) (fun w1 v h1 hR => ?_)
        · have hS1 := hS.subH (List.sublist_append_left (finH bw q1 cap1 (visit (treeAt f x) ts) sp1 bd capd ds1 dsp) _)
          have := IHi y hyi (by omega) w1 q1 cap1 (visit (treeAt f x) ts) sp1 ds1 hS1.has ⟨(has.ex0 hS.ext).at_⟩ (sepOf ha (by omega) hsep hS1) ho1 hs1 hd1
          rw [← hy] at this
          exact this
        obtain ⟨q2, cap2, sp2, ds2, rfl, ho2, hd2, rfl⟩ := hR
        have hVy := visit_ok (treeAt f y) ho1.clo ho1.nd
        have hsT : visit (treeAt f y) (visit (treeAt f x) ts) ⊆ trees f := visit_sub (treeAt f y) hclo (treeAt_mem (by omega)) hs1
        have htree : treeAt f i = .bin f[i].op f[i].i f[i].e f[i].g (treeAt f x) (treeAt f y) := by
          rcases kids_node hi hf with ⟨h, _⟩ | ⟨_, h, _⟩ | ⟨_, h⟩
          · rw [hX] at h; cases h
          · rw [hY] at h; cases h
          · rw [h, hx, hy]; rfl
        have hvk : vkids (treeAt f i) ts = visit (treeAt f y) (visit (treeAt f x) ts) := by rw [htree]; rfl
        have hkid : ∀ c ∈ kids (treeAt f i), c ∈ visit (treeAt f y) (visit (treeAt f x) ts) := fun c hc => by
          rw [htree] at hc
          simp only [kids, List.mem_cons, List.not_mem_nil, or_false] at hc
          rcases hc with rfl | rfl
          · exact hVy.pre.subset hm1
          · exact hVy.mem
        have hnode : ((NV.cells f[i]).toArray.setIfInBounds 4 (Value.int .i64 ((visit (treeAt f x) ts).idxOf (treeAt f x) : Int))).setIfInBounds 5 (Value.int .i64 ((visit (treeAt f y) (visit (treeAt f x) ts)).idxOf (treeAt f y) : Int)) = (nodeOf (visit (treeAt f y) (visit (treeAt f x) ts)) (treeAt f i)).v.cells := by
          rw [htree]
          simp only [nodeOf]
          rw [idx_pre hVy.pre hm1]
          rfl
        unfold finH
        -- heap: bw q2 bd b7
        refine GoH.v (Vop.fldP rfl rfl rfl rfl Tryd.underlying58 rfl (by exact Tryd.sizeOf3) 5 rfl) ?_
        refine GoH.st rfl rfl rfl rfl Tryd.sizeOf3 rfl 3 rfl rfl ?_
        refine GoH.regionEnd ?_
        refine GoH.seq ?_
        have hi2 : i < (ds2).length := by rw [hd2.len]; exact hi
        have hlT : (visit (treeAt f y) (visit (treeAt f x) ts)).length ≤ 100000 := by have := sub_len ho2.nd hsT; omega
        refine GoH.subH (h' := [(some bw, .cells #[osv q2 (nodesOf (visit (treeAt f y) (visit (treeAt f x) ts))).length cap2, osv (some bd) (ds2).length capd] 107 (0, 0)), (q2, obN 58 (nodesOf (visit (treeAt f y) (visit (treeAt f x) ts))) sp2), (some bd, ob I64 3 (ds2) dsp), (some b7, .cells (nodeOf (visit (treeAt f y) (visit (treeAt f x) ts)) (treeAt f i)).v.cells 58 (0, 0))]) (by rw [← hnode]; exact List.Sublist.refl _) ?_
        refine GoH.drawM 7 (fun h' => ∃ q0 c0 us s0, h' = [(some bw, .cells #[osv q0 (nodesOf us).length c0, osv (some bd) (ds2).length capd] 107 (0, 0)), (q0, obN 58 (nodesOf us) s0), (some bd, ob I64 3 (ds2) dsp), (some b7, .cells (nodeOf (visit (treeAt f y) (visit (treeAt f x) ts)) (treeAt f i)).v.cells 58 (0, 0))]) mixed rfl ⟨_, _, _, _, rfl⟩ ?_
        refine RdM.v 51 (.pointer (some ⟨bw, 0, none⟩)) rfl (fun _ _ => Vop.mv rfl rfl rfl rfl) ?_
        refine RdM.v 52 (.pointer (some ⟨bw, 0, none⟩)) rfl (fun _ _ => Vop.nilCk rfl rfl rfl rfl) ?_
        refine RdM.v 53 (.pointer (some ⟨bw, 1, none⟩)) rfl (fun _ _ => Vop.fldP rfl rfl rfl rfl Tryd.underlying107 rfl (by exact Tryd.sizeOf42) 1 rfl) ?_
        refine RdM.v 54 (osv (some bd) (ds2).length capd) rfl (fun h' hh => by obtain ⟨_, _, _, _, rfl⟩ := hh; exact Vop.ldo rfl rfl rfl rfl Tryd.isAgg42 0 rfl rfl) ?_
        refine RdM.v 55 (.int .i64 i) rfl (fun _ _ => Vop.mv rfl rfl rfl rfl) ?_
        refine RdM.v 56 (.pointer (some ⟨bw, 0, none⟩)) rfl (fun _ _ => Vop.mv rfl rfl rfl rfl) ?_
        refine RdM.v 57 (nodeOf (visit (treeAt f y) (visit (treeAt f x) ts)) (treeAt f i)).v rfl (fun h' hh => by obtain ⟨_, _, _, _, rfl⟩ := hh; exact Vop.ldB rfl rfl rfl rfl Tryd.isAgg58 3 rfl Tryd.sizeOf58 rfl) ?_
        refine RdM.nil ⟨58, fun v h' => ∃ q' cap' sp', h' = walkH bw q' cap' (putT (treeAt f i) (visit (treeAt f y) (visit (treeAt f x) ts))) sp' (osv (some bd) (ds2).length capd) ++ [(some bd, ob I64 3 (ds2) dsp), (some b7, .cells (nodeOf (visit (treeAt f y) (visit (treeAt f x) ts)) (treeAt f i)).v.cells 58 (0, 0))] ∧ OutOk q' cap' (putT (treeAt f i) (visit (treeAt f y) (visit (treeAt f x) ts))) sp' ∧ v = .int .i64 ((putT (treeAt f i) (visit (treeAt f y) (visit (treeAt f x) ts))).idxOf (treeAt f i) : Int),
          Mop.callS (h := walkH bw q2 cap2 (visit (treeAt f y) (visit (treeAt f x) ts)) sp2 (osv (some bd) (ds2).length capd)) (hF := [(some bd, ob I64 3 (ds2) dsp), (some b7, .cells (nodeOf (visit (treeAt f y) (visit (treeAt f x) ts)) (treeAt f i)).v.cells 58 (0, 0))]) (fs := []) (cs := []) rfl rfl rfl rfl rfl (fun _ _ => Tryd.call100 _ _) (fun w Y' hS => ?_), fun v h' hK => ?_⟩
        · have hS1 := hS.subH (List.sublist_append_left (walkH bw q2 cap2 (visit (treeAt f y) (visit (treeAt f x) ts)) sp2 (osv (some bd) (ds2).length capd)) _)
          exact (put_c bw q2 cap2 (visit (treeAt f y) (visit (treeAt f x) ts)) sp2 (osv (some bd) (ds2).length capd) (treeAt f i) w hS1.has ho2 hlT (treeAt_wf f i) hkid rfl).mono (fun v h' ⟨q', cap', sp', e1, e2, e3⟩ => ⟨q', cap', sp', by rw [e1]; rfl, e2, e3⟩)
        obtain ⟨q3, cap3, sp3, rfl, ho3, rfl⟩ := hK
        have hpv : putT (treeAt f i) (visit (treeAt f y) (visit (treeAt f x) ts)) = visit (treeAt f i) ts := (congrArg (putT (treeAt f i)) hvk).symm.trans (visit_put ho.clo ho.nd)
        rw [hpv] at ho3 ⊢
        have hV := visit_ok (treeAt f i) ho.clo ho.nd
        have hpre : (visit (treeAt f y) (visit (treeAt f x) ts)) <+: visit (treeAt f i) ts := by
          rw [← hpv]
          unfold putT
          split
          · exact List.prefix_refl _
          · exact List.prefix_append _ _
        refine ⟨⟨_, _, _, _, rfl⟩, ?_⟩
        refine GoH.v (Vop.idxS rfl rfl rfl rfl rfl Tryd.underlying42 Tryd.sizeOf3 i ⟨rfl, hi2⟩) ?_
        refine GoH.stE I64 _ rfl rfl rfl rfl Tryd.sizeOf3 rfl 2 rfl hi2 ?_
        refine GoH.regionEnd ?_
        -- heap: bw q3 bd b7
        refine GoH.seq ?_
        refine GoH.region ?_
        refine GoH.v (Vop.mv rfl rfl rfl rfl) ?_
        refine GoH.v (Vop.nilCk rfl rfl rfl rfl) ?_
        refine GoH.v (Vop.fldP rfl rfl rfl rfl Tryd.underlying107 rfl (by exact Tryd.sizeOf42) 1 rfl) ?_
        refine GoH.v (Vop.ldo rfl rfl rfl rfl Tryd.isAgg42 0 rfl rfl) ?_
        refine GoH.v (Vop.mv rfl rfl rfl rfl) ?_
        refine GoH.v (Vop.idxS rfl rfl rfl rfl rfl Tryd.underlying42 Tryd.sizeOf3 (i) ⟨rfl, hi2⟩) ?_
        refine GoH.v (Vop.ldE (Value.int .i64) 0 rfl rfl rfl rfl Tryd.isAgg3 2 rfl (by rw [List.length_set]; exact hi2)) ?_
        refine GoH.v (Vop.asg rfl rfl rfl rfl) ?_
        refine GoH.regionEnd ?_
        refine GoH.ret Tryd.f81 Tryd.func81 rfl (fun w' hS => ?_)
        refine ⟨_, ⟨q3, cap3, sp3, (ds2).set i ((visit (treeAt f i) ts).idxOf (treeAt f i) : Int), ?_, ho3, (hd2.mono hpre).set hi hV.mem, ?_⟩, hS.subH (.cons_cons _ (.cons_cons _ (.cons_cons _ (.cons _ .slnil))))⟩
        · unfold finH; rw [List.length_set]
        · simp [List.getD_eq_getElem?_getD, hi2, retV]
      · -- no
        have hY : usY f[i].op = false := hc
        have hsT := hs1
        have htree : treeAt f i = .un f[i].op f[i].i f[i].e f[i].g (treeAt f x) := by
          rcases kids_node hi hf with ⟨h, _⟩ | ⟨_, _, h⟩ | ⟨h, _⟩
          · rw [hX] at h; cases h
          · rw [h, hx]; rfl
          · rw [hY] at h; cases h
        have hvk : vkids (treeAt f i) ts = visit (treeAt f x) ts := by rw [htree]; rfl
        have hkid : ∀ c ∈ kids (treeAt f i), c ∈ visit (treeAt f x) ts := fun c hc => by
          rw [htree] at hc
          rw [List.mem_singleton.1 hc]; exact hm1
        have hnode : (NV.cells f[i]).toArray.setIfInBounds 4 (Value.int .i64 ((visit (treeAt f x) ts).idxOf (treeAt f x) : Int)) = (nodeOf (visit (treeAt f x) ts) (treeAt f i)).v.cells := by
          rw [htree]
          have hy0 := hok.y0 hY
          show #[I64 f[i].op, I64 f[i].i, I64 f[i].e, I64 f[i].g, _, I64 f[i].y] = _
          rw [hy0]; rfl
        refine GoH.skip ?_
        refine GoH.seq ?_
        have hi2 : i < (ds1).length := by rw [hd1.len]; exact hi
        have hlT : (visit (treeAt f x) ts).length ≤ 100000 := by have := sub_len ho1.nd hsT; omega
        refine GoH.subH (h' := [(some bw, .cells #[osv q1 (nodesOf (visit (treeAt f x) ts)).length cap1, osv (some bd) (ds1).length capd] 107 (0, 0)), (q1, obN 58 (nodesOf (visit (treeAt f x) ts)) sp1), (some bd, ob I64 3 (ds1) dsp), (some b7, .cells (nodeOf (visit (treeAt f x) ts) (treeAt f i)).v.cells 58 (0, 0))]) (by rw [← hnode]; exact List.Sublist.refl _) ?_
        refine GoH.drawM 7 (fun h' => ∃ q0 c0 us s0, h' = [(some bw, .cells #[osv q0 (nodesOf us).length c0, osv (some bd) (ds1).length capd] 107 (0, 0)), (q0, obN 58 (nodesOf us) s0), (some bd, ob I64 3 (ds1) dsp), (some b7, .cells (nodeOf (visit (treeAt f x) ts) (treeAt f i)).v.cells 58 (0, 0))]) mixed rfl ⟨_, _, _, _, rfl⟩ ?_
        refine RdM.v 51 (.pointer (some ⟨bw, 0, none⟩)) rfl (fun _ _ => Vop.mv rfl rfl rfl rfl) ?_
        refine RdM.v 52 (.pointer (some ⟨bw, 0, none⟩)) rfl (fun _ _ => Vop.nilCk rfl rfl rfl rfl) ?_
        refine RdM.v 53 (.pointer (some ⟨bw, 1, none⟩)) rfl (fun _ _ => Vop.fldP rfl rfl rfl rfl Tryd.underlying107 rfl (by exact Tryd.sizeOf42) 1 rfl) ?_
        refine RdM.v 54 (osv (some bd) (ds1).length capd) rfl (fun h' hh => by obtain ⟨_, _, _, _, rfl⟩ := hh; exact Vop.ldo rfl rfl rfl rfl Tryd.isAgg42 0 rfl rfl) ?_
        refine RdM.v 55 (.int .i64 i) rfl (fun _ _ => Vop.mv rfl rfl rfl rfl) ?_
        refine RdM.v 56 (.pointer (some ⟨bw, 0, none⟩)) rfl (fun _ _ => Vop.mv rfl rfl rfl rfl) ?_
        refine RdM.v 57 (nodeOf (visit (treeAt f x) ts) (treeAt f i)).v rfl (fun h' hh => by obtain ⟨_, _, _, _, rfl⟩ := hh; exact Vop.ldB rfl rfl rfl rfl Tryd.isAgg58 3 rfl Tryd.sizeOf58 rfl) ?_
        refine RdM.nil ⟨58, fun v h' => ∃ q' cap' sp', h' = walkH bw q' cap' (putT (treeAt f i) (visit (treeAt f x) ts)) sp' (osv (some bd) (ds1).length capd) ++ [(some bd, ob I64 3 (ds1) dsp), (some b7, .cells (nodeOf (visit (treeAt f x) ts) (treeAt f i)).v.cells 58 (0, 0))] ∧ OutOk q' cap' (putT (treeAt f i) (visit (treeAt f x) ts)) sp' ∧ v = .int .i64 ((putT (treeAt f i) (visit (treeAt f x) ts)).idxOf (treeAt f i) : Int),
          Mop.callS (h := walkH bw q1 cap1 (visit (treeAt f x) ts) sp1 (osv (some bd) (ds1).length capd)) (hF := [(some bd, ob I64 3 (ds1) dsp), (some b7, .cells (nodeOf (visit (treeAt f x) ts) (treeAt f i)).v.cells 58 (0, 0))]) (fs := []) (cs := []) rfl rfl rfl rfl rfl (fun _ _ => Tryd.call100 _ _) (fun w Y' hS => ?_), fun v h' hK => ?_⟩
        · have hS1 := hS.subH (List.sublist_append_left (walkH bw q1 cap1 (visit (treeAt f x) ts) sp1 (osv (some bd) (ds1).length capd)) _)
          exact (put_c bw q1 cap1 (visit (treeAt f x) ts) sp1 (osv (some bd) (ds1).length capd) (treeAt f i) w hS1.has ho1 hlT (treeAt_wf f i) hkid rfl).mono (fun v h' ⟨q', cap', sp', e1, e2, e3⟩ => ⟨q', cap', sp', by rw [e1]; rfl, e2, e3⟩)
        obtain ⟨q3, cap3, sp3, rfl, ho3, rfl⟩ := hK
        have hpv : putT (treeAt f i) (visit (treeAt f x) ts) = visit (treeAt f i) ts := (congrArg (putT (treeAt f i)) hvk).symm.trans (visit_put ho.clo ho.nd)
        rw [hpv] at ho3 ⊢
        have hV := visit_ok (treeAt f i) ho.clo ho.nd
        have hpre : (visit (treeAt f x) ts) <+: visit (treeAt f i) ts := by
          rw [← hpv]
          unfold putT
          split
          · exact List.prefix_refl _
          · exact List.prefix_append _ _
        refine ⟨⟨_, _, _, _, rfl⟩, ?_⟩
        refine GoH.v (Vop.idxS rfl rfl rfl rfl rfl Tryd.underlying42 Tryd.sizeOf3 i ⟨rfl, hi2⟩) ?_
        refine GoH.stE I64 _ rfl rfl rfl rfl Tryd.sizeOf3 rfl 2 rfl hi2 ?_
        refine GoH.regionEnd ?_
        -- heap: bw q3 bd b7
        refine GoH.seq ?_
        refine GoH.region ?_
        refine GoH.v (Vop.mv rfl rfl rfl rfl) ?_
        refine GoH.v (Vop.nilCk rfl rfl rfl rfl) ?_
        refine GoH.v (Vop.fldP rfl rfl rfl rfl Tryd.underlying107 rfl (by exact Tryd.sizeOf42) 1 rfl) ?_
        refine GoH.v (Vop.ldo rfl rfl rfl rfl Tryd.isAgg42 0 rfl rfl) ?_
        refine GoH.v (Vop.mv rfl rfl rfl rfl) ?_
        refine GoH.v (Vop.idxS rfl rfl rfl rfl rfl Tryd.underlying42 Tryd.sizeOf3 (i) ⟨rfl, hi2⟩) ?_
        refine GoH.v (Vop.ldE (Value.int .i64) 0 rfl rfl rfl rfl Tryd.isAgg3 2 rfl (by rw [List.length_set]; exact hi2)) ?_
        refine GoH.v (Vop.asg rfl rfl rfl rfl) ?_
        refine GoH.regionEnd ?_
        refine GoH.ret Tryd.f81 Tryd.func81 rfl (fun w' hS => ?_)
        refine ⟨_, ⟨q3, cap3, sp3, (ds1).set i ((visit (treeAt f i) ts).idxOf (treeAt f i) : Int), ?_, ho3, (hd1.mono hpre).set hi hV.mem, ?_⟩, hS.subH (.cons_cons _ (.cons_cons _ (.cons_cons _ (.cons _ .slnil))))⟩
        · unfold finH; rw [List.length_set]
        · simp [List.getD_eq_getElem?_getD, hi2, retV]
    · -- no
      have hX : usX f[i].op = false := hc
      have hY : usY f[i].op = false := by
        cases h : usY f[i].op with
        | false => rfl
        | true => rw [usY_X h] at hX; cases hX
      have hsT := hts
      have htree : treeAt f i = .leaf f[i].op f[i].i f[i].e f[i].g := by
        rcases kids_node hi hf with ⟨_, h⟩ | ⟨h, _⟩ | ⟨h, _⟩
        · exact h
        · rw [hX] at h; cases h
        · rw [hY] at h; cases h
      have hvk : vkids (treeAt f i) ts = ts := by rw [htree]; rfl
      have hkid : ∀ c ∈ kids (treeAt f i), c ∈ ts := fun c hc => by
        rw [htree] at hc; cases hc
      have hnode : (NV.cells f[i]).toArray = (nodeOf ts (treeAt f i)).v.cells := by
        rw [htree]
        have hx0 := hok.x0 hX
        have hy0 := hok.y0 hY
        show #[I64 f[i].op, I64 f[i].i, I64 f[i].e, I64 f[i].g, I64 f[i].x, I64 f[i].y] = _
        rw [hx0, hy0]; rfl
      refine GoH.skip ?_
      refine GoH.seq ?_
      refine GoH.seq ?_
      refine GoH.region ?_
      refine GoH.v (Vop.fldP rfl rfl rfl rfl Tryd.underlying58 rfl (by exact Tryd.sizeOf3) 0 rfl) ?_
      refine GoH.v (Vop.ldo rfl rfl rfl rfl Tryd.isAgg3 0 rfl rfl) ?_
      refine GoH.callP rfl rfl rfl rfl rfl (fun _ _ => Tryd.call78 _ _) (fun w _ hS => (by have := usesY_c f[i].op w; rw [hY] at this; exact this)) ?_
      refine GoH.regionEnd ?_
      refine GoH.condF rfl ?_
      refine GoH.skip ?_
      refine GoH.seq ?_
      refine GoH.pick (pre := [_, _, _, _]) (pre' := [_, _, _, _]) [1, 2, 3, 0] (by decide) rfl ?_
      have hi2 : i < (ds).length := by rw [hd.len]; exact hi
      have hlT : (ts).length ≤ 100000 := by have := sub_len ho.nd hsT; omega
      refine GoH.subH (h' := [(some bw, .cells #[osv q (nodesOf (ts)).length cap, osv (some bd) (ds).length capd] 107 (0, 0)), (q, obN 58 (nodesOf (ts)) sp), (some bd, ob I64 3 (ds) dsp), (some b7, .cells (nodeOf (ts) (treeAt f i)).v.cells 58 (0, 0))]) (by rw [← hnode]; exact List.Sublist.refl _) ?_
      refine GoH.drawM 7 (fun h' => ∃ q0 c0 us s0, h' = [(some bw, .cells #[osv q0 (nodesOf us).length c0, osv (some bd) (ds).length capd] 107 (0, 0)), (q0, obN 58 (nodesOf us) s0), (some bd, ob I64 3 (ds) dsp), (some b7, .cells (nodeOf (ts) (treeAt f i)).v.cells 58 (0, 0))]) mixed rfl ⟨_, _, _, _, rfl⟩ ?_
      refine RdM.v 51 (.pointer (some ⟨bw, 0, none⟩)) rfl (fun _ _ => Vop.mv rfl rfl rfl rfl) ?_
      refine RdM.v 52 (.pointer (some ⟨bw, 0, none⟩)) rfl (fun _ _ => Vop.nilCk rfl rfl rfl rfl) ?_
      refine RdM.v 53 (.pointer (some ⟨bw, 1, none⟩)) rfl (fun _ _ => Vop.fldP rfl rfl rfl rfl Tryd.underlying107 rfl (by exact Tryd.sizeOf42) 1 rfl) ?_
      refine RdM.v 54 (osv (some bd) (ds).length capd) rfl (fun h' hh => by obtain ⟨_, _, _, _, rfl⟩ := hh; exact Vop.ldo rfl rfl rfl rfl Tryd.isAgg42 0 rfl rfl) ?_
      refine RdM.v 55 (.int .i64 i) rfl (fun _ _ => Vop.mv rfl rfl rfl rfl) ?_
      refine RdM.v 56 (.pointer (some ⟨bw, 0, none⟩)) rfl (fun _ _ => Vop.mv rfl rfl rfl rfl) ?_
      refine RdM.v 57 (nodeOf (ts) (treeAt f i)).v rfl (fun h' hh => by obtain ⟨_, _, _, _, rfl⟩ := hh; exact Vop.ldB rfl rfl rfl rfl Tryd.isAgg58 3 rfl Tryd.sizeOf58 rfl) ?_
      refine RdM.nil ⟨58, fun v h' => ∃ q' cap' sp', h' = walkH bw q' cap' (putT (treeAt f i) (ts)) sp' (osv (some bd) (ds).length capd) ++ [(some bd, ob I64 3 (ds) dsp), (some b7, .cells (nodeOf (ts) (treeAt f i)).v.cells 58 (0, 0))] ∧ OutOk q' cap' (putT (treeAt f i) (ts)) sp' ∧ v = .int .i64 ((putT (treeAt f i) (ts)).idxOf (treeAt f i) : Int),
        Mop.callS (h := walkH bw q cap (ts) sp (osv (some bd) (ds).length capd)) (hF := [(some bd, ob I64 3 (ds) dsp), (some b7, .cells (nodeOf (ts) (treeAt f i)).v.cells 58 (0, 0))]) (fs := []) (cs := []) rfl rfl rfl rfl rfl (fun _ _ => Tryd.call100 _ _) (fun w Y' hS => ?_), fun v h' hK => ?_⟩
      · have hS1 := hS.subH (List.sublist_append_left (walkH bw q cap (ts) sp (osv (some bd) (ds).length capd)) _)
        exact (put_c bw q cap (ts) sp (osv (some bd) (ds).length capd) (treeAt f i) w hS1.has ho hlT (treeAt_wf f i) hkid rfl).mono (fun v h' ⟨q', cap', sp', e1, e2, e3⟩ => ⟨q', cap', sp', by rw [e1]; rfl, e2, e3⟩)
      obtain ⟨q3, cap3, sp3, rfl, ho3, rfl⟩ := hK
      have hpv : putT (treeAt f i) (ts) = visit (treeAt f i) ts := (congrArg (putT (treeAt f i)) hvk).symm.trans (visit_put ho.clo ho.nd)
      rw [hpv] at ho3 ⊢
      have hV := visit_ok (treeAt f i) ho.clo ho.nd
      have hpre : (ts) <+: visit (treeAt f i) ts := by
        rw [← hpv]
        unfold putT
        split
        · exact List.prefix_refl _
        · exact List.prefix_append _ _
      refine ⟨⟨_, _, _, _, rfl⟩, ?_⟩
      refine GoH.v (Vop.idxS rfl rfl rfl rfl rfl Tryd.underlying42 Tryd.sizeOf3 i ⟨rfl, hi2⟩) ?_
      refine GoH.stE I64 _ rfl rfl rfl rfl Tryd.sizeOf3 rfl 2 rfl hi2 ?_
      refine GoH.regionEnd ?_
      -- heap: bw q3 bd b7
      refine GoH.seq ?_
      refine GoH.region ?_
      refine GoH.v (Vop.mv rfl rfl rfl rfl) ?_
      refine GoH.v (Vop.nilCk rfl rfl rfl rfl) ?_
      refine GoH.v (Vop.fldP rfl rfl rfl rfl Tryd.underlying107 rfl (by exact Tryd.sizeOf42) 1 rfl) ?_
      refine GoH.v (Vop.ldo rfl rfl rfl rfl Tryd.isAgg42 0 rfl rfl) ?_
      refine GoH.v (Vop.mv rfl rfl rfl rfl) ?_
      refine GoH.v (Vop.idxS rfl rfl rfl rfl rfl Tryd.underlying42 Tryd.sizeOf3 (i) ⟨rfl, hi2⟩) ?_
      refine GoH.v (Vop.ldE (Value.int .i64) 0 rfl rfl rfl rfl Tryd.isAgg3 2 rfl (by rw [List.length_set]; exact hi2)) ?_
      refine GoH.v (Vop.asg rfl rfl rfl rfl) ?_
      refine GoH.regionEnd ?_
      refine GoH.ret Tryd.f81 Tryd.func81 rfl (fun w' hS => ?_)
      refine ⟨_, ⟨q3, cap3, sp3, (ds).set i ((visit (treeAt f i) ts).idxOf (treeAt f i) : Int), ?_, ho3, (hd.mono hpre).set hi hV.mem, ?_⟩, hS.subH (.cons_cons _ (.cons_cons _ (.cons_cons _ (.cons _ .slnil))))⟩
      · unfold finH; rw [List.length_set]
      · simp [List.getD_eq_getElem?_getD, hi2, retV]
end Go.Proofs.YtbjopkllkoomkaaDoor
