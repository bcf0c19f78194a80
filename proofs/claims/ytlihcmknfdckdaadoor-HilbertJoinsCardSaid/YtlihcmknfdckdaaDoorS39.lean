/- What calls of the program return, under the conditions that each theorem states. -/
import Derived.Test.YtlihcmknfdckdaaDoorS37
import Derived.Test.YtlihcmknfdckdaaDoorS38
import Derived.Test.YtlihcmknfdckdaaDoorS04
namespace Go.Proofs.YtlihcmknfdckdaaDoor
open Go.RowKit Go.Proofs.Wit Tryd
/-! pruned proofs: the program, 2 -/
theorem backw_c (A : Option Addr) (cA : Nat) (n : Nat) (w : World) : Cn Tryd.prog 64 [.slice A n cA] w (fun v w' => ∃ b, v = .func (.func 100) #[] #[.pointer (some ⟨b, 0, none⟩)] ∧ w.heap.size ≤ b ∧ w'.heap[b]? = some (.cells #[.slice A n cA] 22 (0, 0))) := by
 refine Cn.of func64 rfl rfl ?_
 refine gS (gR ?_)
 refine GoH.bx rfl rfl rfl rfl (fun b1 => ?_)
 refine gAs ?_; refine gE (gS (gR ?_))
 refine GoH.v (Vop.mkFunc rfl rfl rfl rfl rfl) ?_
 refine gAs ?_; refine gE ?_
 refine gT func64 fun w' hS => ?_
 exact ⟨hS.ext, b1, rfl, hS.fresh (j := 0) rfl, hS.get (j := 0) rfl⟩
set_option maxRecDepth 8000 in
theorem prune1_c (b12 bp n : Nat) (pl : List Int) (y : Int) (w : World) (h12 : w.heap[b12]? = some (.cells #[.slice (some ⟨bp, 0, none⟩) n n] 70 (0, 0))) (hp : SlI w (some ⟨bp, 0, none⟩) pl) (hl : pl.length = n) (h0 : 0 ≤ y) (hy : y < n) :
  Cn Tryd.prog 66 [.int .i64 y, .pointer (some ⟨b12, 0, none⟩)] w (fun v _ => v = .int .i64 (pl.getD y.toNat 0)) := by
 have HA : ∀ {w' : World} {j : Nat} {u : Value}, Ex [] w w' → (#[Value.slice (some ⟨bp, 0, none⟩) n n] : Array Value)[j]? = some u → w'.cell? ⟨b12, j, none⟩ = some u := fun e h => Ex.cell e h12 h
 subst hl
 obtain ⟨k, rfl⟩ : ∃ k : Nat, y = (k : Int) := ⟨y.toNat, by omega⟩
 have hk : k < pl.length := by omega
 have hg : pl[k] = pl.getD k 0 := by simp [List.getD_eq_getElem?_getD, hk]
 refine Cn.of func66 rfl rfl ?_
 refine gS (gR ?_); refine gAs ?_; refine gE (gS (gR ?_))
 refine GoH.v (Vop.ld (p := ⟨b12, 0, none⟩) rfl rfl rfl rfl isAgg70 (fun w _ hS => HA hS.ext rfl)) ?_
 refine gMv ?_
 refine GoH.v (Vop.idx rfl rfl rfl rfl rfl underlying70 sizeOf3 ⟨_, hp⟩ (by simp) (k) ⟨rfl, by simpa using hk⟩) ?_
 refine GoH.v (Vop.ld rfl rfl rfl rfl isAgg3 (fun w _ hS => (SlI.ex0 hp hS.ext).at (k) hk)) ?_
 refine gAs ?_; refine gE ?_
 refine gT func66 fun w' hS => ?_
 exact ⟨hS.ext, by rw [Int.toNat_natCast, hg]; rfl⟩
theorem infoLn : (Tryd.prog.info? 40).map (fun i => (i.zero, i.size, i.bytes)) = some (some (.agg #[.slice none 0 0, .int .i64 0, .int .i64 0, .int .i64 0, .int .i64 0]), 5, 56) := by kernel_rfl
set_option maxRecDepth 8000 in
theorem hprune_c (l : Int) (A : Option Addr) (cA : Nat) (ls : List LV) (w : World) (hA : LA w A ls) (hT : Axs w) :
    Cn Tryd.prog 30 [.int .i64 l, .slice A ls.length cA] w (fun v w' => ∃ sv ls', v = .tuple #[sv, .int .i64 (checkH l ls)] ∧ OwnLn0 80 40 w w' sv ls' ∧ (checkH l ls = 0 → ls'.map LV.d = pruL ls) ∧ (checkH l ls ≠ 0 → ls' = [])) := by
  obtain ⟨i1, hi1, hz1, hsz1, hby1⟩ := info_parts infoBg
  obtain ⟨i2, hi2, hz2, hsz2, hby2⟩ := info_parts infoIg
  obtain ⟨i3, hi3, hz3, hsz3, hby3⟩ := info_parts infoLn
  refine Cn.of func30 rfl rfl ?_
  refine gS (gR ?_)
  iterate 2 refine gAs ?_
  refine gE (gS (gS (gR ?_)))
  iterate 2 refine gMv ?_
  refine gP rfl rfl rfl rfl rfl call14 (fun w _ hS => (by exact hcheck_c l A cA ls w (hA.ex0 hS.ext) (hT.ex hS.ext))) ?_
  refine gAs ?_; refine gE (gS (gR ?_)); refine gMv ?_; refine gBi bNe ?_; refine gE ?_
  refine gC (fun hc => ?_) fun hc => ?_
  ·
   have h1 : checkH l ls ≠ 0 := by simpa using hc
   refine gS (gR ?_); refine gMv ?_
   iterate 2 refine gAs ?_
   refine gE ?_
   refine gT func30 fun w' hS => ?_
   exact ⟨hS.ext, _, [], rfl, OwnLn0.nil, fun h => absurd h h1, fun _ => rfl⟩
  ·
   have h1 : checkH l ls = 0 := by simpa using hc
   obtain ⟨hlo, hp0, hp4, h4⟩ := checkH_zero.1 h1
   have hnl : ls.length - 1 < ls.length := by omega
   have hrl : ls.length - 1 < (List.replicate ls.length false).length := by simp; omega
   refine gK (gS (gR ?_)); refine gMv ?_; refine gBl underlying22 ?_
   refine GoH.mkE Value.bool false rfl rfl rfl rfl rfl underlying85 hi1 hz1 rfl hsz1 (by rw [hby1]; omega) (by unfold maxLen; omega) (fun b24 => ?_)
   refine GoH.alc rfl rfl rfl (fun _ => zeroValue85 _) (fun b7 => ?_)
   refine GoH.st rfl rfl rfl rfl sizeOf85 rfl 0 rfl rfl ?_
   refine gE (gS (gR ?_)); refine gLo isAgg85 0 ?_; refine gMv ?_; refine gBl underlying22 ?_
   refine gBx rfl rfl rfl rfl (bSubE (c := ((ls.length - 1 : Nat) : Int)) (by omega) (by omega)) ?_
   refine GoH.v (Vop.idxS rfl rfl rfl rfl rfl underlying85 sizeOf4 (ls.length - 1) ⟨rfl, hnl⟩) ?_
   refine GoH.stE Value.bool _ rfl rfl rfl rfl sizeOf4 rfl 1 rfl hrl ?_
   refine gE (gS (gS (gR ?_))); refine gMv ?_
   refine gM rfl rfl rfl rfl rfl call64 (fun w _ hS => (by exact backw_c A cA ls.length w)) ?_
   rintro v w1 w2 Y' hS he ⟨bp, rfl, hb, hh⟩
   refine ⟨_, hS.gain he hh rfl hb, ?_⟩
   refine gE (gB ?_)
   refine GoH.rangeF (σ := List Bool) (cap := [(some bp, .cells #[.slice A ls.length cA] 22 (0, 0))]) (fun s => [(some b7, .cells #[.slice (some ⟨b24, 0, none⟩) ls.length ls.length] 85 (0, 0)), (some b24, ob Value.bool 4 s [])]) (fun i s => UsI ls i s) (fun _ _ => False) ((List.replicate ls.length false).set (ls.length - 1) true)
     rfl (fun _ _ => call100 _ _) (back_it w A cA ls hA hp4 bp) (fun a ha => by obtain ⟨i, _, rfl⟩ := List.mem_map.1 ha; rfl) rfl (UsI.init hp0) (List.Sublist.refl _) ?_ ?_ ?_
   · -- a round
    intro L Y' rec hi i az s haz hI hrec
    rw [List.getElem?_map] at haz
    obtain ⟨x, hx, rfl⟩ := Option.map_eq_some_iff.1 haz
    obtain ⟨hxl, hx2⟩ := List.getElem?_eq_some_iff.1 hx
    rw [List.length_range] at hxl
    rw [List.getElem_range] at hx2
    subst hx2
    obtain ⟨k, hkd⟩ : ∃ k, k = ls.length - 1 - i := ⟨_, rfl⟩
    have hk : k < ls.length := by omega
    have hks : k < s.length := by rw [hI.len]; exact hk
    have hki : k + 1 + i = ls.length := by omega
    have hkI : (ls.length : Int) - 1 - i = (k : Int) := by omega
    have hgk : ls.getD k ⟨⟨none, 0, []⟩, 0, 0, 0, 0⟩ = ls[k] := by simp [List.getD_eq_getElem?_getD, hk]
    unfold bkA
    rw [← hkd, hgk, hkI]
    have hln := line_nums (h4 k hk)
    have hr12 := (lineE_zero.1 (h4 k hk)).2.1
    have hpc := premN_cases hr12.1 hr12.2
    refine gS (gR ?_); refine gAs ?_; refine gE (gR ?_)
    refine GoH.alc rfl rfl rfl (fun _ => zeroValue40 _) (fun b9 => ?_)
    refine GoH.stB rfl rfl rfl rfl sizeOf40 0 rfl rfl rfl rfl ?_
    refine gE ?_
    refine GoH.beginRound hrec ?_
    refine gB (gS (gS (gR ?_))); refine gLo isAgg85 1 ?_; refine gMv ?_
    refine GoH.v (Vop.idxS rfl rfl rfl rfl rfl underlying85 sizeOf4 (k) ⟨rfl, hk⟩) ?_
    refine GoH.v (Vop.ldE Value.bool false rfl rfl rfl rfl isAgg4 2 rfl hks) ?_
    refine gUn uNot ?_; refine gE ?_
    refine gC (fun hc => ?_) fun hc => ?_
    ·
     have hs : sB s k = false := by simpa using hc
     refine GoH.exit rfl ?_
     exact GoH.rEnd s (hI.skip h1 hki hs) (.cons _ (List.Sublist.refl _))
    ·
     have hs : sB s k = true := by simpa using hc
     refine gK (gS (gR ?_)); refine gFp underlying40 sizeOf3 2 ?_; refine gLo isAgg3 0 ?_; refine gFp underlying40 sizeOf3 3 ?_; refine gLo isAgg3 0 ?_
     refine GoH.v (Vop.bld rfl rfl rfl rfl (bldA (c := [_, _]) underlying45 sizeOf3 zeroValue45 rfl)) ?_
     refine gMv ?_; refine gE (gB ?_)
     refine GoH.loop (σ := Nat × List Bool) (fun z => [(7, .pointer (some ⟨b7, 0, none⟩)), (9, .pointer (some ⟨b9, 0, none⟩)), (43, .agg (two ls[k].a ls[k].b)), (44, .int .i64 z.1)]) (fun z => [(some b9, .cells (LV.cells ls[k]).toArray 40 (0, 0)), (some b7, .cells #[.slice (some ⟨b24, 0, none⟩) ls.length ls.length] 85 (0, 0)), (some b24, ob Value.bool 4 z.2 [])] ++ hi)
       (fun z => z.1 ≤ 2 ∧ z.2 = (if z.1 = 0 then s else if z.1 = 1 then stA ls[k] s else stB' ls[k] (stA ls[k] s))) (fun z => 2 - z.1) (0, s) ⟨Nat.zero_le _, rfl⟩ ⟨rfl, rfl, rfl, rfl, trivial⟩ (List.Sublist.refl _) (fun z hZ IH => ?_)
     obtain ⟨q, s1⟩ := z
     obtain ⟨hq, hs1⟩ := hZ
     dsimp only at hq hs1 IH ⊢
     refine gS (gR ?_); refine gBi bLt ?_; refine gE (gS ?_)
     refine gC (fun hc => ?_) fun hc => ?_
     ·
      have hq2 : q < 2 := by simp at hc; omega
      obtain ⟨nn, hnn⟩ : ∃ nn, nn = [ls[k].a, ls[k].b].getD q 0 := ⟨_, rfl⟩
      have hsl : s1.length = ls.length := by
        rw [hs1]
        split
        · exact hI.len
        · split
          · rw [stA_len]; exact hI.len
          · rw [stB_len, stA_len]; exact hI.len
      refine gK (gS (gB (gS (gR ?_)))); refine gMv ?_
      refine GoH.v (Vop.ixA (v := .int .i64 nn) rfl rfl rfl rfl rfl underlying45 sizeOf3 isAgg3 q ⟨rfl, hq2⟩ (by rw [hnn]; exact two_get hq2)) ?_
      iterate 2 refine gAs ?_
      refine gE (gS (gR ?_)); refine gMv ?_; refine gFp underlying40 sizeOf3 1 ?_; refine gLo isAgg3 0 ?_
      refine gP rfl rfl rfl rfl rfl call65 (fun w _ hS => (by exact prem_c ls[k].r w)) ?_
      refine gBi bLt ?_; refine gE ?_
      refine gC (fun hc => ?_) fun hc => ?_
      ·
       have hqp : (q : Int) < premN ls[k].r := by simpa using hc
       have hnI : 0 ≤ nn ∧ nn < ls.length := by
         rcases (by omega : q = 0 ∨ q = 1) with e | e <;> subst e
         · have h5 : nn = ls[k].a := hnn
           have := hln.1 (by omega); omega
         · have h5 : nn = ls[k].b := hnn
           have := hln.2 (by omega); omega
       obtain ⟨j, hj⟩ : ∃ j : Nat, nn = (j : Int) := ⟨nn.toNat, by omega⟩
       have hjl : j < ls.length := by omega
       have hjs : j < s1.length := by omega
       refine gR ?_; refine gLo isAgg85 1 ?_; refine gMv ?_
       refine GoH.v (Vop.idxS rfl rfl rfl rfl rfl underlying85 sizeOf4 (j) ⟨hj, hjl⟩) ?_
       refine GoH.stE Value.bool _ rfl rfl rfl rfl sizeOf4 rfl 2 rfl hjs ?_
       refine gE (gIb (gR ?_)); refine gBx rfl rfl rfl rfl (bAdd (by omega)) ?_; refine gMv ?_; refine gE ?_
       refine IH (q + 1, s1.set j true) _ _ ⟨hq2, ?_⟩ (by dsimp only; omega) ⟨rfl, rfl, rfl, rfl, trivial⟩ (List.Sublist.refl _)
       dsimp only
       rcases (by omega : q = 0 ∨ q = 1) with e | e <;> subst e
       · rw [hs1, if_pos rfl, if_neg (by decide), if_pos rfl, stA, if_pos (by omega)]
         have h5 : nn = ls[k].a := hnn
         rw [← h5, hj]; rfl
       · rw [hs1, if_neg (by decide), if_pos rfl, if_neg (by decide), if_neg (by decide), stB', if_pos (by omega)]
         have h5 : nn = ls[k].b := hnn
         rw [← h5, hj]; rfl
      ·
       have hqp : ¬ (q : Int) < premN ls[k].r := by simpa using hc
       refine gK (gIb (gR ?_)); refine gBx rfl rfl rfl rfl (bAdd (by omega)) ?_; refine gMv ?_; refine gE ?_
       refine IH (q + 1, s1) _ _ ⟨hq2, ?_⟩ (by dsimp only; omega) ⟨rfl, rfl, rfl, rfl, trivial⟩ (List.Sublist.refl _)
       dsimp only
       rcases (by omega : q = 0 ∨ q = 1) with e | e <;> subst e
       · rw [hs1, if_pos rfl, if_neg (by decide), if_pos rfl, stA, if_neg (by omega)]
       · rw [hs1, if_neg (by decide), if_pos rfl, if_neg (by decide), if_neg (by decide), stB', if_neg (by omega)]
     ·
      have hq2 : ¬ q < 2 := by simp at hc; omega
      obtain rfl : q = 2 := by omega
      have hs2 : s1 = stB' ls[k] (stA ls[k] s) := hs1
      refine GoH.exit rfl (gIb ?_)
      exact GoH.rEnd s1 (by rw [hs2]; exact hI.step h1 hki hk hs) (.cons _ (List.Sublist.refl _))
   · -- all have come
    intro s hI
    rw [List.length_map, List.length_range] at hI
    refine gIb (gS (gR ?_)); refine gMv ?_; refine gBl underlying22 ?_
    refine GoH.mkE I64 0 rfl rfl rfl rfl rfl underlying70 hi2 hz2 rfl hsz2 (by rw [hby2]; omega) (by unfold maxLen; omega) (fun b59 => ?_)
    refine GoH.alc rfl rfl rfl (fun _ => zeroValue70 _) (fun b12 => ?_)
    refine GoH.st rfl rfl rfl rfl sizeOf70 rfl 0 rfl rfl ?_
    refine gE (gS (gR ?_)); refine gAs ?_; refine gE (gS (gS (gR ?_))); refine gMv ?_; refine gBl underlying22 ?_; refine gMv ?_; refine gE (gB ?_)
    have hnd : ∀ j, j < ls.length → sB s j = ndB ls j := fun j hj => hI.done h1 hj
    refine GoH.addNone (obL 40 [] []) ?_
    refine GoH.pick (pre := [_, _, _, _, _]) (pre' := [(some b12, .cells #[.slice (some ⟨b59, 0, none⟩) ls.length ls.length] 70 (0, 0)), (some b59, ob I64 3 (plcL ls 0) []), (some b7, .cells #[.slice (some ⟨b24, 0, none⟩) ls.length ls.length] 85 (0, 0)), (some b24, ob Value.bool 4 s []), (none, obL 40 [] [])]) [1, 2, 3, 4, 0] (by decide) (by rw [plcL_zero]; rfl) ?_
    refine GoH.loop (σ := Nat × Option Nat × Nat × List LV × List Value × Hl) (fun z => [(7, .pointer (some ⟨b7, 0, none⟩)), (12, .pointer (some ⟨b12, 0, none⟩)), (13, osv z.2.1 z.2.2.2.1.length z.2.2.1), (60, .slice A ls.length cA), (61, .int .i64 ls.length), (62, .int .i64 z.1)])
      (fun z => [(some b12, .cells #[.slice (some ⟨b59, 0, none⟩) ls.length ls.length] 70 (0, 0)), (some b59, ob I64 3 (plcL ls z.1) []), (some b7, .cells #[.slice (some ⟨b24, 0, none⟩) ls.length ls.length] 85 (0, 0)), (some b24, ob Value.bool 4 s []), (z.2.1, obL 40 z.2.2.2.1 z.2.2.2.2.1)] ++ z.2.2.2.2.2)
      (fun z => z.1 ≤ ls.length ∧ (z.2.1 = none → z.2.2.2.1.length = 0 ∧ z.2.2.1 = 0) ∧ (z.2.2.2.1.flatMap LV.cells ++ z.2.2.2.2.1).length = z.2.2.1 * 5 ∧ z.2.2.2.1.map LV.d = pruTo ls z.1 ∧ ∀ x ∈ z.2.2.2.1, x.f.In0 80 z.2.2.2.2.2 ∧ x.f.f.length ≤ maxLen)
      (fun z => ls.length - z.1) (0, none, 0, [], [], []) ⟨Nat.zero_le _, fun _ => ⟨rfl, rfl⟩, rfl, rfl, fun _ h => by cases h⟩ ⟨rfl, rfl, rfl, rfl, rfl, rfl, trivial⟩ (List.Sublist.refl _) (fun z hZ IH => ?_)
    obtain ⟨i, qo, co, os, spo, H⟩ := z
    obtain ⟨hi, hqo, hco, hos, hin⟩ := hZ
    dsimp only at hi hqo hco hos hin IH ⊢
    have hol : os.length = cntP (ndB ls) i := by rw [← pruTo_len, ← hos, List.length_map]
    have hol2 : os.length ≤ i := by rw [hol]; exact cntP_le
    refine gS (gR ?_); refine gBi bLt ?_; refine gE (gS ?_)
    refine gC (fun hc => ?_) fun hc => ?_
    ·
     have hlt : i < ls.length := by simpa using hc
     have hs : i < s.length := by rw [hI.len]; exact hlt
     obtain ⟨hfa, hla⟩ := hA.fs ls[i] (List.getElem_mem hlt)
     have hln := line_nums (h4 i hlt)
     have hr12 := (lineE_zero.1 (h4 i hlt)).2.1
     have hpl : i < (plcL ls i).length := by rw [plcL_len]; exact hlt
     have hps := pruTo_succ hlt
     refine gK (gS (gB (gS (gR ?_)))); refine gMv ?_
     refine GoH.v (Vop.idxN rfl rfl rfl rfl rfl underlying22 sizeOf40 ⟨_, (hA).at_⟩ (flat_len (enc := LV.cells) (sz := 5) (fun _ => rfl)) (by decide) (i) ⟨rfl, hlt⟩) ?_
     refine GoH.v (Vop.ldN (cs := LV.cells ls[i]) rfl rfl rfl rfl isAgg40 sizeOf40 (fun w _ hS => Sl.many (enc := LV.cells) (sz := 5) (hA.ex0 hS.ext).at_ (fun _ => rfl) hlt)) ?_
     refine GoH.alc rfl rfl rfl (fun _ => zeroValue40 _) (fun b15 => ?_)
     refine gAs ?_
     refine GoH.stB rfl rfl rfl rfl sizeOf40 0 rfl rfl rfl rfl ?_
     refine gE (gS (gR ?_)); refine gLo isAgg85 3 ?_; refine gMv ?_
     refine GoH.v (Vop.idxS rfl rfl rfl rfl rfl underlying85 sizeOf4 (i) ⟨rfl, hlt⟩) ?_
     refine GoH.v (Vop.ldE Value.bool false rfl rfl rfl rfl isAgg4 4 rfl hs) ?_
     refine gE ?_
     refine gC (fun hc => ?_) fun hc => ?_
     ·
      have hsi : sB s i = true := hc
      have hn : ndB ls i = true := by rw [← hnd i hlt]; exact hsi
      rw [if_pos hn] at hps
      have hset : (plcL ls i).set i (os.length : Int) = plcL ls (i + 1) := by rw [hol]; exact plcL_set hlt hn
      have hNd := ndB_iff.1 hn
      have hyI : ∀ y : Int, (10 ≤ ls[i].r ∧ y = ls[i].a) ∨ (ls[i].r = 10 ∧ y = ls[i].b) → 0 ≤ y ∧ y < i ∧ NdP ls y.toNat := fun y hy => by
        rcases hy with ⟨k1, rfl⟩ | ⟨k1, rfl⟩
        · exact ⟨(hln.1 k1).1, (hln.1 k1).2, .a hlt hNd k1⟩
        · exact ⟨(hln.2 k1).1, (hln.2 k1).2, .b hlt hNd k1⟩
      refine gS (gR ?_); refine gLo isAgg70 1 ?_
      iterate 2 refine gMv ?_
      refine gBl underlying22 ?_
      refine GoH.v (Vop.idxS rfl rfl rfl rfl rfl underlying70 sizeOf3 (i) ⟨rfl, hlt⟩) ?_
      skip
      refine GoH.stE (Value.int .i64) _ rfl rfl rfl rfl sizeOf3 rfl 2 rfl hpl ?_
      rw [hset]
      refine gE (gR ?_); refine gMv ?_
      refine GoH.v (Vop.ldB rfl rfl rfl rfl isAgg40 0 rfl sizeOf40 rfl) ?_
      refine GoH.v (Vop.mkFunc rfl rfl rfl rfl rfl) ?_
      refine gM rfl rfl rfl rfl rfl call61 (fun w _ hS => (by exact moved_c ls[i] 66 [.pointer (some ⟨b12, 0, none⟩)] (plcN ls) w (hfa.ex0 hS.ext) hla hr12 (fun _ _ => call66 _ _) (fun w' e y hy => by
        obtain ⟨y0, y1, y2⟩ := hyI y hy
        have := prune1_c b12 b59 ls.length (plcL ls (i + 1)) y w' (e.keep (hS.get (j := 1) rfl)) (SlI.ex0 (Sl.blk (hS.get (j := 2) rfl)) e) plcL_len y0 (by omega)
        rw [plcL_get y0 (by omega) (by omega) y2] at this
        exact this))) ?_
      rintro v w1 w2 Y' hS he ⟨qm, cm, spm, rfl, hqm, hcm, hnew⟩
      refine ⟨_, hS.gainL he hnew, ?_⟩
      refine GoH.bsN (c := [_, _, _, _, _]) rfl rfl rfl rfl underlying22 sizeOf40 zeroValue40 rfl rfl (fun b80 => ?_)
      refine GoH.appL (ls := os) (sp := spo) (q := qo) (nl := mvV (plcN ls) ls[i] qm cm) rfl rfl rfl rfl rfl underlying22 hi3 hz3 hsz3 rfl hqo 7 rfl 0 rfl hco (by unfold maxLen; omega) (by rw [hby3]; omega) (fun b' sp' cap' hlen => ?_)
      refine gAs ?_; refine gE (gIb (gR ?_)); refine gBx rfl rfl rfl rfl (bAdd (by omega)) ?_; refine gMv ?_; refine gE ?_
      refine GoH.pickT (pre := [_, _, _, _, _, _, _, _]) (pre' := [(some b12, .cells #[.slice (some ⟨b59, 0, none⟩) ls.length ls.length] 70 (0, 0)), (some b59, ob I64 3 (plcL ls (i + 1)) []), (some b7, .cells #[.slice (some ⟨b24, 0, none⟩) ls.length ls.length] 85 (0, 0)), (some b24, ob Value.bool 4 s []), (some b', obL 40 (os ++ [mvV (plcN ls) ls[i] qm cm]) sp'), (qm, obN 80 (compF ls[i].f.f) spm)]) H [3, 4, 5, 6, 7, 1] (by decide) rfl ?_
      refine IH (i + 1, some b', cap', os ++ [mvV (plcN ls) ls[i] qm cm], sp', (qm, obN 80 (compF ls[i].f.f) spm) :: H) _ _ ⟨hlt, (fun e => by cases e), hlen, ?_, fun x hx => ?_⟩ (by dsimp only; omega) ⟨rfl, rfl, rfl, rfl, rfl, rfl, trivial⟩ (List.Sublist.refl _)
      · dsimp only; rw [List.map_append, hos, hps]; rfl
      · dsimp only at hx ⊢
        rcases List.mem_append.1 hx with hx | hx
        · exact ⟨(hin x hx).1.mono (List.subset_cons_self _ _), (hin x hx).2⟩
        · rw [List.mem_singleton.1 hx]; exact ⟨⟨qm, spm, List.mem_cons_self .., rfl, fun e => (hqm e).1⟩, by have := compF_le ls[i].f.f; show (compF ls[i].f.f).length ≤ maxLen; unfold maxLen; omega⟩
     ·
      have hsi : sB s i = false := hc
      have hn : ndB ls i = false := by rw [← hnd i hlt]; exact hsi
      rw [if_neg (by rw [hn]; simp), List.append_nil] at hps
      refine gK (gIb (gR ?_)); refine gBx rfl rfl rfl rfl (bAdd (by omega)) ?_; refine gMv ?_; refine gE ?_
      refine IH (i + 1, qo, co, os, spo, H) _ _ ⟨hlt, hqo, hco, by dsimp only; rw [hps]; exact hos, hin⟩ (by dsimp only; omega) ⟨rfl, rfl, rfl, rfl, rfl, rfl, trivial⟩ (by dsimp only; rw [plcL_skip hn]; exact .cons _ (List.Sublist.refl _))
    ·
     have hge : ¬ i < ls.length := by simpa using hc
     obtain rfl : i = ls.length := by omega
     refine GoH.exit rfl (gS (gR ?_))
     refine gMv ?_
     iterate 2 refine gAs ?_
     refine gE ?_
     refine gT func30 fun w' hS => ?_
     exact ⟨hS.ext, _, os, by rw [h1]; rfl, ⟨qo, co, spo, H, rfl, hqo, hco, (NewH.of hS).sub (.cons _ (.cons _ (.cons _ (.cons _ (List.Sublist.refl _))))), hin⟩, fun _ => hos, fun h => absurd h1 h⟩
   · -- stopped
    intro c s h; exact h.elim
end Go.Proofs.YtlihcmknfdckdaaDoor
namespace Go.Proofs.YtlihcmknfdckdaaDoor
open Go.RowKit Go.Proofs.Wit Tryd
/-! pruned proofs: the reference -/
set_option maxRecDepth 8000 in
theorem gprune_c (l : Int) (A : Option Addr) (cA : Nat) (ls : List LV) (w : World) (hA : LA w A ls) :
    Cn Tryd.prog 32 [.int .i64 l, .slice A ls.length cA] w (fun v w' => ∃ sv ls', v = .tuple #[sv, .int .i64 (checkH l ls)] ∧ OwnLn0 80 40 w w' sv ls' ∧ (checkH l ls = 0 → ls'.map LV.d = pruL ls) ∧ (checkH l ls ≠ 0 → ls' = [])) := by
  obtain ⟨i1, hi1, hz1, hsz1, hby1⟩ := info_parts infoBg
  obtain ⟨i2, hi2, hz2, hsz2, hby2⟩ := info_parts infoIg
  obtain ⟨i3, hi3, hz3, hsz3, hby3⟩ := info_parts infoLn
  refine Cn.of func32 rfl rfl ?_
  refine gS (gR ?_)
  iterate 2 refine gAs ?_
  refine gE (gS (gS (gR ?_)))
  iterate 2 refine gMv ?_
  refine gP rfl rfl rfl rfl rfl call15 (fun w _ hS => (by exact gcheck_c l A cA ls w (hA.ex0 hS.ext))) ?_
  refine gAs ?_; refine gE (gS (gR ?_)); refine gMv ?_; refine gBi bNe ?_; refine gE ?_
  refine gC (fun hc => ?_) fun hc => ?_
  ·
   have h1 : checkH l ls ≠ 0 := by simpa using hc
   refine gS (gR ?_); refine gMv ?_
   iterate 2 refine gAs ?_
   refine gE ?_
   refine gT func32 fun w' hS => ?_
   exact ⟨hS.ext, _, [], rfl, OwnLn0.nil, fun h => absurd h h1, fun _ => rfl⟩
  ·
   have h1 : checkH l ls = 0 := by simpa using hc
   obtain ⟨hlo, hp0, hp4, h4⟩ := checkH_zero.1 h1
   have hnl : ls.length - 1 < ls.length := by omega
   have hrl : ls.length - 1 < (List.replicate ls.length false).length := by simp; omega
   refine gK (gS (gR ?_)); refine gMv ?_; refine gBl underlying22 ?_
   refine GoH.mkE Value.bool false rfl rfl rfl rfl rfl underlying85 hi1 hz1 rfl hsz1 (by rw [hby1]; omega) (by unfold maxLen; omega) (fun b21 => ?_)
   refine gAs ?_; refine gE (gS (gR ?_))
   iterate 2 refine gMv ?_
   refine gBl underlying22 ?_
   refine gBx rfl rfl rfl rfl (bSubE (c := ((ls.length - 1 : Nat) : Int)) (by omega) (by omega)) ?_
   refine GoH.v (Vop.idxS rfl rfl rfl rfl rfl underlying85 sizeOf4 (ls.length - 1) ⟨rfl, hnl⟩) ?_
   refine GoH.stE Value.bool _ rfl rfl rfl rfl sizeOf4 rfl 0 rfl hrl ?_
   refine gE (gS (gS (gR ?_))); refine gMv ?_; refine gBl underlying22 ?_
   refine gBx rfl rfl rfl rfl (bSubE (c := (ls.length : Int) - 1 - ((0 : Nat) : Int)) (by omega) (by omega)) ?_
   refine gAs ?_; refine gE (gB ?_)
   refine GoH.loop (σ := Nat × List Bool) (fun z => [(1, .slice A ls.length cA), (7, .slice (some ⟨b21, 0, none⟩) ls.length ls.length), (8, .int .i64 ((ls.length : Int) - 1 - (z.1 : Nat)))]) (fun z => [(some b21, ob Value.bool 4 z.2 [])])
     (fun z => z.1 ≤ ls.length ∧ UsI ls z.1 z.2) (fun z => ls.length - z.1) (0, (List.replicate ls.length false).set (ls.length - 1) true) ⟨Nat.zero_le _, UsI.init hp0⟩ ⟨rfl, rfl, rfl, trivial⟩ (List.Sublist.refl _) (fun z hZ IH => ?_)
   obtain ⟨i, s⟩ := z
   obtain ⟨hi, hI⟩ := hZ
   dsimp only at hi hI IH ⊢
   refine gS (gS (gR ?_)); refine gMv ?_; refine gBi bGe ?_; refine gE ?_
   refine gC (fun hc => ?_) fun hc => ?_
   ·
    have hlt : i < ls.length := by simp at hc; omega
    obtain ⟨k, hkd⟩ : ∃ k, k = ls.length - 1 - i := ⟨_, rfl⟩
    have hk : k < ls.length := by omega
    have hks : k < s.length := by rw [hI.len]; exact hk
    have hki : k + 1 + i = ls.length := by omega
    have hkI : (ls.length : Int) - 1 - (i : Nat) = (k : Int) := by omega
    rw [hkI]
    have hdn : (k : Int) - 1 = (ls.length : Int) - 1 - ((i + 1 : Nat) : Int) := by omega
    have hln := line_nums (h4 k hk)
    have hr12 := (lineE_zero.1 (h4 k hk)).2.1
    refine gK (gS (gB (gS (gS (gR ?_)))))
    iterate 2 refine gMv ?_
    refine GoH.v (Vop.idxS rfl rfl rfl rfl rfl underlying85 sizeOf4 (k) ⟨rfl, hk⟩) ?_
    refine GoH.v (Vop.ldE Value.bool false rfl rfl rfl rfl isAgg4 0 rfl hks) ?_
    refine gMv ?_
    refine gCs 38 (fun hc => ?_) fun hc => ?_
    ·
     have hs : sB s k = true := hc
     have hst := hI.step h1 hki hk hs
     iterate 2 refine gMv ?_
     refine GoH.v (Vop.idxN rfl rfl rfl rfl rfl underlying22 sizeOf40 ⟨_, (hA).at_⟩ (flat_len (enc := LV.cells) (sz := 5) (fun _ => rfl)) (by decide) (k) ⟨rfl, hk⟩) ?_
     refine GoH.v (Vop.fldA rfl rfl rfl rfl underlying40 rfl sizeOf3 ((k) * 5 + 1) rfl) ?_
     refine GoH.v (Vop.ld rfl rfl rfl rfl isAgg3 (fun w _ hS => Sl.fld (enc := LV.cells) (sz := 5) ((hA).ex0 hS.ext).at_ (fun _ => rfl) hk rfl)) ?_
     refine gBi bGe ?_; refine gPt ?_; refine gE ?_
     refine gC (fun hc => ?_) fun hc => ?_
     ·
      have h10 : 10 ≤ ls[k].r := by simpa using hc
      obtain ⟨a0, a1⟩ := hln.1 h10
      obtain ⟨ja, hja⟩ : ∃ j : Nat, ls[k].a = (j : Int) := ⟨ls[k].a.toNat, by omega⟩
      have hjal : ja < ls.length := by omega
      have hjas : ja < s.length := by rw [hI.len]; exact hjal
      have hA1 : stA ls[k] s = s.set ja true := by rw [stA, if_pos h10, hja]; rfl
      have hks2 : k < (s.set ja true).length := by rw [List.length_set]; exact hks
      have hs2 : sB (s.set ja true) k = true := sB_keep hjas hs
      refine gR ?_
      iterate 3 refine gMv ?_
      refine GoH.v (Vop.idxN rfl rfl rfl rfl rfl underlying22 sizeOf40 ⟨_, (hA).at_⟩ (flat_len (enc := LV.cells) (sz := 5) (fun _ => rfl)) (by decide) (k) ⟨rfl, hk⟩) ?_
      refine GoH.v (Vop.fldA rfl rfl rfl rfl underlying40 rfl sizeOf3 ((k) * 5 + 2) rfl) ?_
      refine GoH.v (Vop.ld rfl rfl rfl rfl isAgg3 (fun w _ hS => Sl.fld (enc := LV.cells) (sz := 5) ((hA).ex0 hS.ext).at_ (fun _ => rfl) hk rfl)) ?_
      refine GoH.v (Vop.idxS rfl rfl rfl rfl rfl underlying85 sizeOf4 (ja) ⟨hja, hjal⟩) ?_
      refine GoH.stE Value.bool _ rfl rfl rfl rfl sizeOf4 rfl 0 rfl hjas ?_
      refine gE (gS (gR ?_))
      iterate 2 refine gMv ?_
      refine GoH.v (Vop.idxS rfl rfl rfl rfl rfl underlying85 sizeOf4 (k) ⟨rfl, hk⟩) ?_
      refine GoH.v (Vop.ldE Value.bool false rfl rfl rfl rfl isAgg4 0 rfl hks2) ?_
      refine gMv ?_
      refine gCs 57 (fun hc => ?_) fun hc => ?_
      ·
       skip
       iterate 2 refine gMv ?_
       refine GoH.v (Vop.idxN rfl rfl rfl rfl rfl underlying22 sizeOf40 ⟨_, (hA).at_⟩ (flat_len (enc := LV.cells) (sz := 5) (fun _ => rfl)) (by decide) (k) ⟨rfl, hk⟩) ?_
       refine GoH.v (Vop.fldA rfl rfl rfl rfl underlying40 rfl sizeOf3 ((k) * 5 + 1) rfl) ?_
       refine GoH.v (Vop.ld rfl rfl rfl rfl isAgg3 (fun w _ hS => Sl.fld (enc := LV.cells) (sz := 5) ((hA).ex0 hS.ext).at_ (fun _ => rfl) hk rfl)) ?_
       refine gBi bEq ?_; refine gPt ?_; refine gE ?_
       refine gC (fun hc => ?_) fun hc => ?_
       ·
        have e10 : ls[k].r = 10 := by simpa using hc
        obtain ⟨b0, b1⟩ := hln.2 e10
        obtain ⟨jb, hjb⟩ : ∃ j : Nat, ls[k].b = (j : Int) := ⟨ls[k].b.toNat, by omega⟩
        have hjbl : jb < ls.length := by omega
        have hjbs : jb < (s.set ja true).length := by rw [List.length_set, hI.len]; exact hjbl
        have hB1 : stB' ls[k] (stA ls[k] s) = (s.set ja true).set jb true := by rw [hA1, stB', if_pos e10, hjb]; rfl
        refine gR ?_
        iterate 3 refine gMv ?_
        refine GoH.v (Vop.idxN rfl rfl rfl rfl rfl underlying22 sizeOf40 ⟨_, (hA).at_⟩ (flat_len (enc := LV.cells) (sz := 5) (fun _ => rfl)) (by decide) (k) ⟨rfl, hk⟩) ?_
        refine GoH.v (Vop.fldA rfl rfl rfl rfl underlying40 rfl sizeOf3 ((k) * 5 + 3) rfl) ?_
        refine GoH.v (Vop.ld rfl rfl rfl rfl isAgg3 (fun w _ hS => Sl.fld (enc := LV.cells) (sz := 5) ((hA).ex0 hS.ext).at_ (fun _ => rfl) hk rfl)) ?_
        refine GoH.v (Vop.idxS rfl rfl rfl rfl rfl underlying85 sizeOf4 (jb) ⟨hjb, hjbl⟩) ?_
        refine GoH.stE Value.bool _ rfl rfl rfl rfl sizeOf4 rfl 0 rfl hjbs ?_
        refine gE (gIb (gR ?_)); refine gMv ?_; refine gBx rfl rfl rfl rfl (bSub (by omega)) ?_; refine gAs ?_; refine gE ?_
        exact IH (i + 1, (s.set ja true).set jb true) _ _ ⟨hlt, by dsimp only; rw [← hB1]; exact hst⟩ (by dsimp only; omega) ⟨rfl, rfl, by rw [← hdn]; rfl, trivial⟩ (List.Sublist.refl _)
       ·
        have e10 : ¬ ls[k].r = 10 := by simpa using hc
        have hB1 : stB' ls[k] (stA ls[k] s) = s.set ja true := by rw [hA1, stB', if_neg e10]
        refine gK (gIb (gR ?_)); refine gMv ?_; refine gBx rfl rfl rfl rfl (bSub (by omega)) ?_; refine gAs ?_; refine gE ?_
        exact IH (i + 1, s.set ja true) _ _ ⟨hlt, by dsimp only; rw [← hB1]; exact hst⟩ (by dsimp only; omega) ⟨rfl, rfl, by rw [← hdn]; rfl, trivial⟩ (List.Sublist.refl _)
      ·
       have hno : sB (s.set ja true) k = false := hc
       rw [hs2] at hno; cases hno
     ·
      have h10 : ¬ 10 ≤ ls[k].r := by simpa using hc
      have hB1 : stB' ls[k] (stA ls[k] s) = s := by rw [stB', if_neg (by omega), stA, if_neg h10]
      refine gK (gS (gR ?_))
      iterate 2 refine gMv ?_
      refine GoH.v (Vop.idxS rfl rfl rfl rfl rfl underlying85 sizeOf4 (k) ⟨rfl, hk⟩) ?_
      refine GoH.v (Vop.ldE Value.bool false rfl rfl rfl rfl isAgg4 0 rfl hks) ?_
      refine gMv ?_
      refine gCs 57 (fun hc => ?_) fun hc => ?_
      ·
       skip
       iterate 2 refine gMv ?_
       refine GoH.v (Vop.idxN rfl rfl rfl rfl rfl underlying22 sizeOf40 ⟨_, (hA).at_⟩ (flat_len (enc := LV.cells) (sz := 5) (fun _ => rfl)) (by decide) (k) ⟨rfl, hk⟩) ?_
       refine GoH.v (Vop.fldA rfl rfl rfl rfl underlying40 rfl sizeOf3 ((k) * 5 + 1) rfl) ?_
       refine GoH.v (Vop.ld rfl rfl rfl rfl isAgg3 (fun w _ hS => Sl.fld (enc := LV.cells) (sz := 5) ((hA).ex0 hS.ext).at_ (fun _ => rfl) hk rfl)) ?_
       refine gBi bEq ?_; refine gPt ?_; refine gE ?_
       refine GoH.cond rfl (fun hc => by exfalso; have e10 : ls[k].r = 10 := by { simpa using hc }; omega) (fun _ => ?_)
       refine gK (gIb (gR ?_)); refine gMv ?_; refine gBx rfl rfl rfl rfl (bSub (by omega)) ?_; refine gAs ?_; refine gE ?_
       exact IH (i + 1, s) _ _ ⟨hlt, by dsimp only; rw [← hB1]; exact hst⟩ (by dsimp only; omega) ⟨rfl, rfl, by rw [← hdn]; rfl, trivial⟩ (List.Sublist.refl _)
      ·
       have hno : sB s k = false := hc
       rw [hs] at hno; cases hno
    ·
     have hs : sB s k = false := hc
     iterate 6 refine gNo ?_
     refine gPf ?_; refine gE (GoH.condF rfl (gK (gS (gR ?_))))
     iterate 2 refine gMv ?_
     refine GoH.v (Vop.idxS rfl rfl rfl rfl rfl underlying85 sizeOf4 (k) ⟨rfl, hk⟩) ?_
     refine GoH.v (Vop.ldE Value.bool false rfl rfl rfl rfl isAgg4 0 rfl hks) ?_
     refine gMv ?_
     refine gCs 57 (fun hc => ?_) fun hc => ?_
     ·
      have hno : sB s k = true := hc
      rw [hs] at hno; cases hno
     ·
      skip
      iterate 6 refine gNo ?_
      refine gPf ?_; refine gE (GoH.condF rfl (gK (gIb (gR ?_)))); refine gMv ?_; refine gBx rfl rfl rfl rfl (bSub (by omega)) ?_; refine gAs ?_; refine gE ?_
      exact IH (i + 1, s) _ _ ⟨hlt, hI.skip h1 hki hs⟩ (by dsimp only; omega) ⟨rfl, rfl, by rw [← hdn]; rfl, trivial⟩ (List.Sublist.refl _)
   ·
    have hge : ¬ i < ls.length := by simp at hc; omega
    obtain rfl : i = ls.length := by omega
    have hnd : ∀ j, j < ls.length → sB s j = ndB ls j := fun j hj => hI.done h1 hj
    refine GoH.exit rfl (gS (gR ?_))
    refine gMv ?_; refine gBl underlying22 ?_
    refine GoH.mkE I64 0 rfl rfl rfl rfl rfl underlying70 hi2 hz2 rfl hsz2 (by rw [hby2]; omega) (by unfold maxLen; omega) (fun b74 => ?_)
    refine gAs ?_; refine gE (gS (gR ?_)); refine gAs ?_; refine gE (gS (gS (gR ?_))); refine gMv ?_; refine gBl underlying22 ?_; refine gMv ?_; refine gE (gB ?_)
    refine GoH.addNone (obL 40 [] []) ?_
    refine GoH.pick (pre := [_, _, _]) (pre' := [(some b74, ob I64 3 (plcL ls 0) []), (some b21, ob Value.bool 4 s []), (none, obL 40 [] [])]) [1, 2, 0] (by decide) (by rw [plcL_zero]; rfl) ?_
    refine GoH.loop (σ := Nat × Option Nat × Nat × List LV × List Value × Hl) (fun z => [(7, .slice (some ⟨b21, 0, none⟩) ls.length ls.length), (9, .slice (some ⟨b74, 0, none⟩) ls.length ls.length), (10, osv z.2.1 z.2.2.2.1.length z.2.2.1), (75, .slice A ls.length cA), (76, .int .i64 ls.length), (77, .int .i64 z.1)])
      (fun z => [(some b74, ob I64 3 (plcL ls z.1) []), (some b21, ob Value.bool 4 s []), (z.2.1, obL 40 z.2.2.2.1 z.2.2.2.2.1)] ++ z.2.2.2.2.2)
      (fun z => z.1 ≤ ls.length ∧ (z.2.1 = none → z.2.2.2.1.length = 0 ∧ z.2.2.1 = 0) ∧ (z.2.2.2.1.flatMap LV.cells ++ z.2.2.2.2.1).length = z.2.2.1 * 5 ∧ z.2.2.2.1.map LV.d = pruTo ls z.1 ∧ ∀ x ∈ z.2.2.2.1, x.f.In0 80 z.2.2.2.2.2 ∧ x.f.f.length ≤ maxLen)
      (fun z => ls.length - z.1) (0, none, 0, [], [], []) ⟨Nat.zero_le _, fun _ => ⟨rfl, rfl⟩, rfl, rfl, fun _ h => by cases h⟩ ⟨rfl, rfl, rfl, rfl, rfl, rfl, trivial⟩ (List.Sublist.refl _) (fun z hZ IH => ?_)
    obtain ⟨i, qo, co, os, spo, H⟩ := z
    obtain ⟨hi, hqo, hco, hos, hin⟩ := hZ
    dsimp only at hi hqo hco hos hin IH ⊢
    have hol : os.length = cntP (ndB ls) i := by rw [← pruTo_len, ← hos, List.length_map]
    have hol2 : os.length ≤ i := by rw [hol]; exact cntP_le
    refine gS (gR ?_); refine gBi bLt ?_; refine gE (gS ?_)
    refine gC (fun hc => ?_) fun hc => ?_
    ·
     have hlt : i < ls.length := by simpa using hc
     have hs : i < s.length := by rw [hI.len]; exact hlt
     obtain ⟨hfa, hla⟩ := hA.fs ls[i] (List.getElem_mem hlt)
     have hln := line_nums (h4 i hlt)
     have hr12 := (lineE_zero.1 (h4 i hlt)).2.1
     have hpl : i < (plcL ls i).length := by rw [plcL_len]; exact hlt
     have hps := pruTo_succ hlt
     refine gK (gS (gB (gS (gR ?_)))); refine gMv ?_
     refine GoH.v (Vop.idxN rfl rfl rfl rfl rfl underlying22 sizeOf40 ⟨_, (hA).at_⟩ (flat_len (enc := LV.cells) (sz := 5) (fun _ => rfl)) (by decide) (i) ⟨rfl, hlt⟩) ?_
     refine GoH.v (Vop.ldN (cs := LV.cells ls[i]) rfl rfl rfl rfl isAgg40 sizeOf40 (fun w _ hS => Sl.many (enc := LV.cells) (sz := 5) (hA.ex0 hS.ext).at_ (fun _ => rfl) hlt)) ?_
     refine GoH.alc rfl rfl rfl (fun _ => zeroValue40 _) (fun b12 => ?_)
     refine gAs ?_
     refine GoH.stB rfl rfl rfl rfl sizeOf40 0 rfl rfl rfl rfl ?_
     refine gE (gS (gS (gR ?_)))
     iterate 2 refine gMv ?_
     refine GoH.v (Vop.idxS rfl rfl rfl rfl rfl underlying85 sizeOf4 (i) ⟨rfl, hlt⟩) ?_
     refine GoH.v (Vop.ldE Value.bool false rfl rfl rfl rfl isAgg4 2 rfl hs) ?_
     refine gUn uNot ?_; refine gE ?_
     refine gC (fun hc => ?_) fun hc => ?_
     ·
      have hsi : sB s i = false := by simpa using hc
      have hn : ndB ls i = false := by rw [← hnd i hlt]; exact hsi
      rw [if_neg (by rw [hn]; simp), List.append_nil] at hps
      refine GoH.exit rfl (gR ?_)
      refine gBx rfl rfl rfl rfl (bAdd (by omega)) ?_; refine gMv ?_; refine gE ?_
      refine IH (i + 1, qo, co, os, spo, H) _ _ ⟨hlt, hqo, hco, by dsimp only; rw [hps]; exact hos, hin⟩ (by dsimp only; omega) ⟨rfl, rfl, rfl, rfl, rfl, rfl, trivial⟩ (by dsimp only; rw [plcL_skip hn]; exact .cons _ (List.Sublist.refl _))
     ·
      have hsi : sB s i = true := by simpa using hc
      have hn : ndB ls i = true := by rw [← hnd i hlt]; exact hsi
      rw [if_pos hn] at hps
      have hset : (plcL ls i).set i (os.length : Int) = plcL ls (i + 1) := by rw [hol]; exact plcL_set hlt hn
      have hNd := ndB_iff.1 hn
      refine gK (gS (gR ?_))
      iterate 3 refine gMv ?_
      refine gBl underlying22 ?_
      refine GoH.v (Vop.idxS rfl rfl rfl rfl rfl underlying70 sizeOf3 (i) ⟨rfl, hlt⟩) ?_
      skip
      refine GoH.stE (Value.int .i64) _ rfl rfl rfl rfl sizeOf3 rfl 1 rfl hpl ?_
      rw [hset]
      refine gE (gS (gR ?_)); refine gFp underlying40 sizeOf23 0 ?_; refine gLo isAgg23 0 ?_
      refine gM rfl rfl rfl rfl rfl call54 (fun w _ hS => (by exact rcompact_c ls[i].f.a ls[i].f.c ls[i].f.f w (hfa.ex0 hS.ext) hla)) ?_
      rintro v w1 w2 Y' hS he ho
      rw [subF_top] at ho
      obtain ⟨qm, cm, spm, rfl, hqm, hcm, hS'⟩ := gainN hS he ho
      refine ⟨_, hS', ?_⟩
      refine gFp underlying40 sizeOf23 0 ?_
      refine GoH.st rfl rfl rfl rfl sizeOf23 rfl 1 rfl rfl ?_
      refine gE (gS (gS (gR ?_))); refine gFp underlying40 sizeOf3 1 ?_; refine gLo isAgg3 1 ?_; refine gBi bGe ?_; refine gE ?_
      refine gC (fun hc => ?_) fun hc => ?_
      ·
       have h10 : 10 ≤ ls[i].r := by simpa using hc
       obtain ⟨a0, a1⟩ := hln.1 h10
       obtain ⟨ja, hja⟩ : ∃ j : Nat, ls[i].a = (j : Int) := ⟨ls[i].a.toNat, by omega⟩
       have hjal : ja < ls.length := by omega
       have hjap : ja < (plcL ls (i + 1)).length := by rw [plcL_len]; exact hjal
       have hga : (plcL ls (i + 1)).getD ja 0 = plcN ls ls[i].a := by
         have := plcL_get (ls := ls) (i := i + 1) (y := ls[i].a) a0 (by omega) (by omega) (.a hlt hNd h10)
         rw [show ls[i].a.toNat = ja by omega] at this; exact this
       refine gR ?_; refine gMv ?_; refine gFp underlying40 sizeOf3 2 ?_; refine gLo isAgg3 1 ?_
       refine GoH.v (Vop.idxS rfl rfl rfl rfl rfl underlying70 sizeOf3 (ja) ⟨hja, hjal⟩) ?_
       skip
       refine GoH.v (Vop.ldE I64 0 rfl rfl rfl rfl isAgg3 2 rfl hjap) ?_
       rw [hga]
       refine gFp underlying40 sizeOf3 2 ?_
       refine GoH.st rfl rfl rfl rfl sizeOf3 rfl 1 rfl rfl ?_
       refine gE (gS (gS (gR ?_))); refine gFp underlying40 sizeOf3 1 ?_; refine gLo isAgg3 1 ?_; refine gBi bEq ?_; refine gE ?_
       refine gC (fun hc => ?_) fun hc => ?_
       ·
        have e10 : ls[i].r = 10 := by simpa using hc
        obtain ⟨b0, b1⟩ := hln.2 e10
        obtain ⟨jb, hjb⟩ : ∃ j : Nat, ls[i].b = (j : Int) := ⟨ls[i].b.toNat, by omega⟩
        have hjbl : jb < ls.length := by omega
        have hjbp : jb < (plcL ls (i + 1)).length := by rw [plcL_len]; exact hjbl
        have hgb : (plcL ls (i + 1)).getD jb 0 = plcN ls ls[i].b := by
          have := plcL_get (ls := ls) (i := i + 1) (y := ls[i].b) b0 (by omega) (by omega) (.b hlt hNd e10)
          rw [show ls[i].b.toNat = jb by omega] at this; exact this
        refine gR ?_; refine gMv ?_; refine gFp underlying40 sizeOf3 3 ?_; refine gLo isAgg3 1 ?_
        refine GoH.v (Vop.idxS rfl rfl rfl rfl rfl underlying70 sizeOf3 (jb) ⟨hjb, hjbl⟩) ?_
        skip
        refine GoH.v (Vop.ldE I64 0 rfl rfl rfl rfl isAgg3 2 rfl hjbp) ?_
        rw [hgb]
        refine gFp underlying40 sizeOf3 3 ?_
        refine GoH.st rfl rfl rfl rfl sizeOf3 rfl 1 rfl rfl ?_
        refine gE (gR ?_); refine gMv ?_
        refine GoH.v (Vop.ldB rfl rfl rfl rfl isAgg40 1 rfl sizeOf40 rfl) ?_
        refine GoH.bsN (c := [_, _, _, _, _]) rfl rfl rfl rfl underlying22 sizeOf40 zeroValue40 rfl rfl (fun b116 => ?_)
        have hdt : LV.d ⟨⟨qm.map (fun b => ⟨b, 0, none⟩), cm, compF ls[i].f.f⟩, ls[i].r, plcN ls ls[i].a, plcN ls ls[i].b, ls[i].g⟩ = mvL (plcN ls) ls[i] := by unfold mvL LV.d; rw [if_pos h10, if_pos e10]
        refine GoH.appL (ls := os) (sp := spo) (q := qo) (nl := ⟨⟨qm.map (fun b => ⟨b, 0, none⟩), cm, compF ls[i].f.f⟩, ls[i].r, plcN ls ls[i].a, plcN ls ls[i].b, ls[i].g⟩) rfl rfl rfl rfl rfl underlying22 hi3 hz3 hsz3 rfl hqo 5 rfl 0 rfl hco (by unfold maxLen; omega) (by rw [hby3]; omega) (fun b' sp' cap' hlen => ?_)
        refine gAs ?_; refine gE (gIb (gR ?_)); refine gBx rfl rfl rfl rfl (bAdd (by omega)) ?_; refine gMv ?_; refine gE ?_
        refine GoH.pickT (pre := [_, _, _, _, _, _]) (pre' := [(some b74, ob I64 3 (plcL ls (i + 1)) []), (some b21, ob Value.bool 4 s []), (some b', obL 40 (os ++ [⟨⟨qm.map (fun b => ⟨b, 0, none⟩), cm, compF ls[i].f.f⟩, ls[i].r, plcN ls ls[i].a, plcN ls ls[i].b, ls[i].g⟩]) sp'), (qm, obN 80 (compF ls[i].f.f) spm)]) H [3, 4, 5, 1] (by decide) rfl ?_
        refine IH (i + 1, some b', cap', os ++ [⟨⟨qm.map (fun b => ⟨b, 0, none⟩), cm, compF ls[i].f.f⟩, ls[i].r, plcN ls ls[i].a, plcN ls ls[i].b, ls[i].g⟩], sp', (qm, obN 80 (compF ls[i].f.f) spm) :: H) _ _ ⟨hlt, (fun e => by cases e), hlen, ?_, fun x hx => ?_⟩ (by dsimp only; omega) ⟨rfl, rfl, rfl, rfl, rfl, rfl, trivial⟩ (List.Sublist.refl _)
        · dsimp only; rw [List.map_append, hos, hps, ← hdt]; rfl
        · dsimp only at hx ⊢
          rcases List.mem_append.1 hx with hx | hx
          · exact ⟨(hin x hx).1.mono (List.subset_cons_self _ _), (hin x hx).2⟩
          · rw [List.mem_singleton.1 hx]; exact ⟨⟨qm, spm, List.mem_cons_self .., rfl, fun e => (hqm e).1⟩, by have := compF_le ls[i].f.f; show (compF ls[i].f.f).length ≤ maxLen; unfold maxLen; omega⟩
       ·
        have e10 : ¬ ls[i].r = 10 := by simpa using hc
        refine gK (gR ?_); refine gMv ?_
        refine GoH.v (Vop.ldB rfl rfl rfl rfl isAgg40 1 rfl sizeOf40 rfl) ?_
        refine GoH.bsN (c := [_, _, _, _, _]) rfl rfl rfl rfl underlying22 sizeOf40 zeroValue40 rfl rfl (fun b116 => ?_)
        have hdt : LV.d ⟨⟨qm.map (fun b => ⟨b, 0, none⟩), cm, compF ls[i].f.f⟩, ls[i].r, plcN ls ls[i].a, ls[i].b, ls[i].g⟩ = mvL (plcN ls) ls[i] := by unfold mvL LV.d; rw [if_pos h10, if_neg e10]
        refine GoH.appL (ls := os) (sp := spo) (q := qo) (nl := ⟨⟨qm.map (fun b => ⟨b, 0, none⟩), cm, compF ls[i].f.f⟩, ls[i].r, plcN ls ls[i].a, ls[i].b, ls[i].g⟩) rfl rfl rfl rfl rfl underlying22 hi3 hz3 hsz3 rfl hqo 5 rfl 0 rfl hco (by unfold maxLen; omega) (by rw [hby3]; omega) (fun b' sp' cap' hlen => ?_)
        refine gAs ?_; refine gE (gIb (gR ?_)); refine gBx rfl rfl rfl rfl (bAdd (by omega)) ?_; refine gMv ?_; refine gE ?_
        refine GoH.pickT (pre := [_, _, _, _, _, _]) (pre' := [(some b74, ob I64 3 (plcL ls (i + 1)) []), (some b21, ob Value.bool 4 s []), (some b', obL 40 (os ++ [⟨⟨qm.map (fun b => ⟨b, 0, none⟩), cm, compF ls[i].f.f⟩, ls[i].r, plcN ls ls[i].a, ls[i].b, ls[i].g⟩]) sp'), (qm, obN 80 (compF ls[i].f.f) spm)]) H [3, 4, 5, 1] (by decide) rfl ?_
        refine IH (i + 1, some b', cap', os ++ [⟨⟨qm.map (fun b => ⟨b, 0, none⟩), cm, compF ls[i].f.f⟩, ls[i].r, plcN ls ls[i].a, ls[i].b, ls[i].g⟩], sp', (qm, obN 80 (compF ls[i].f.f) spm) :: H) _ _ ⟨hlt, (fun e => by cases e), hlen, ?_, fun x hx => ?_⟩ (by dsimp only; omega) ⟨rfl, rfl, rfl, rfl, rfl, rfl, trivial⟩ (List.Sublist.refl _)
        · dsimp only; rw [List.map_append, hos, hps, ← hdt]; rfl
        · dsimp only at hx ⊢
          rcases List.mem_append.1 hx with hx | hx
          · exact ⟨(hin x hx).1.mono (List.subset_cons_self _ _), (hin x hx).2⟩
          · rw [List.mem_singleton.1 hx]; exact ⟨⟨qm, spm, List.mem_cons_self .., rfl, fun e => (hqm e).1⟩, by have := compF_le ls[i].f.f; show (compF ls[i].f.f).length ≤ maxLen; unfold maxLen; omega⟩
      ·
       have h10 : ¬ 10 ≤ ls[i].r := by simpa using hc
       refine gK (gS (gS (gR ?_))); refine gFp underlying40 sizeOf3 1 ?_; refine gLo isAgg3 1 ?_; refine gBi bEq ?_; refine gE ?_
       refine GoH.cond rfl (fun hc => by exfalso; have e10 : ls[i].r = 10 := by { simpa using hc }; omega) (fun _ => ?_)
       refine gK (gR ?_); refine gMv ?_
       refine GoH.v (Vop.ldB rfl rfl rfl rfl isAgg40 1 rfl sizeOf40 rfl) ?_
       refine GoH.bsN (c := [_, _, _, _, _]) rfl rfl rfl rfl underlying22 sizeOf40 zeroValue40 rfl rfl (fun b116 => ?_)
       have hdt : LV.d ⟨⟨qm.map (fun b => ⟨b, 0, none⟩), cm, compF ls[i].f.f⟩, ls[i].r, ls[i].a, ls[i].b, ls[i].g⟩ = mvL (plcN ls) ls[i] := by unfold mvL LV.d; rw [if_neg h10, if_neg (by omega)]
       refine GoH.appL (ls := os) (sp := spo) (q := qo) (nl := ⟨⟨qm.map (fun b => ⟨b, 0, none⟩), cm, compF ls[i].f.f⟩, ls[i].r, ls[i].a, ls[i].b, ls[i].g⟩) rfl rfl rfl rfl rfl underlying22 hi3 hz3 hsz3 rfl hqo 5 rfl 0 rfl hco (by unfold maxLen; omega) (by rw [hby3]; omega) (fun b' sp' cap' hlen => ?_)
       refine gAs ?_; refine gE (gIb (gR ?_)); refine gBx rfl rfl rfl rfl (bAdd (by omega)) ?_; refine gMv ?_; refine gE ?_
       refine GoH.pickT (pre := [_, _, _, _, _, _]) (pre' := [(some b74, ob I64 3 (plcL ls (i + 1)) []), (some b21, ob Value.bool 4 s []), (some b', obL 40 (os ++ [⟨⟨qm.map (fun b => ⟨b, 0, none⟩), cm, compF ls[i].f.f⟩, ls[i].r, ls[i].a, ls[i].b, ls[i].g⟩]) sp'), (qm, obN 80 (compF ls[i].f.f) spm)]) H [3, 4, 5, 1] (by decide) rfl ?_
       refine IH (i + 1, some b', cap', os ++ [⟨⟨qm.map (fun b => ⟨b, 0, none⟩), cm, compF ls[i].f.f⟩, ls[i].r, ls[i].a, ls[i].b, ls[i].g⟩], sp', (qm, obN 80 (compF ls[i].f.f) spm) :: H) _ _ ⟨hlt, (fun e => by cases e), hlen, ?_, fun x hx => ?_⟩ (by dsimp only; omega) ⟨rfl, rfl, rfl, rfl, rfl, rfl, trivial⟩ (List.Sublist.refl _)
       · dsimp only; rw [List.map_append, hos, hps, ← hdt]; rfl
       · dsimp only at hx ⊢
         rcases List.mem_append.1 hx with hx | hx
         · exact ⟨(hin x hx).1.mono (List.subset_cons_self _ _), (hin x hx).2⟩
         · rw [List.mem_singleton.1 hx]; exact ⟨⟨qm, spm, List.mem_cons_self .., rfl, fun e => (hqm e).1⟩, by have := compF_le ls[i].f.f; show (compF ls[i].f.f).length ≤ maxLen; unfold maxLen; omega⟩
    ·
     have hge : ¬ i < ls.length := by simpa using hc
     obtain rfl : i = ls.length := by omega
     refine GoH.exit rfl (gS (gR ?_))
     refine gMv ?_
     iterate 2 refine gAs ?_
     refine gE ?_
     refine gT func32 fun w' hS => ?_
     exact ⟨hS.ext, _, os, by rw [h1]; rfl, ⟨qo, co, spo, H, rfl, hqo, hco, (NewH.of hS).sub (.cons _ (.cons _ (List.Sublist.refl _))), hin⟩, fun _ => hos, fun h => absurd h1 h⟩
end Go.Proofs.YtlihcmknfdckdaaDoor
namespace Go.Proofs.YtlihcmknfdckdaaDoor
open Go.RowKit Go.Proofs.Wit Tryd
/-! joined proofs: the program and the reference -/
theorem sameB_comm {f g : List NV} : sameB f g = sameB g f := by
 unfold sameB
 exact decide_eq_decide.2 ⟨fun h => ⟨h.2.1, h.1, h.2.2.symm⟩, fun h => ⟨h.2.1, h.1, h.2.2.symm⟩⟩
theorem join1_c (y : Int) (w : World) : Cn Tryd.prog 62 [.int .i64 y] w (fun v _ => v = .int .i64 y) := by
 refine Cn.of func62 rfl rfl ?_
 refine gS (gR ?_); refine gAs ?_; refine gE (gS (gR ?_)); refine gMv ?_; refine gAs ?_; refine gE ?_
 refine gT func62 fun w' hS => ?_
 exact ⟨hS.ext, rfl⟩
theorem join2_c (y : Int) (b4 : Nat) (A : Option Addr) (n cA : Nat) (w : World) (h4 : w.heap[b4]? = some (.cells #[.slice A n cA] 22 (0, 0))) (h0 : 0 ≤ y ∧ y ≤ 1000) (hn : n ≤ 1000) : Cn Tryd.prog 63 [.int .i64 y, .pointer (some ⟨b4, 0, none⟩)] w (fun v _ => v = .int .i64 (y + n)) := by
 have HA : ∀ {w' : World} {j : Nat} {u : Value}, Ex [] w w' → (#[Value.slice A n cA] : Array Value)[j]? = some u → w'.cell? ⟨b4, j, none⟩ = some u := fun e h => Ex.cell e h4 h
 refine Cn.of func63 rfl rfl ?_
 refine gS (gR ?_); refine gAs ?_; refine gE (gS (gR ?_)); refine gMv ?_
 refine GoH.v (Vop.ld (p := ⟨b4, 0, none⟩) rfl rfl rfl rfl isAgg22 (fun w _ hS => HA hS.ext rfl)) ?_
 refine gBl underlying22 ?_; refine gBx rfl rfl rfl rfl (bAdd (by omega)) ?_; refine gAs ?_; refine gE ?_
 refine gT func63 fun w' hS => ?_
 exact ⟨hS.ext, rfl⟩
theorem mvL_id {x : LV} : mvL id x = ⟨compF x.f.f, x.r, x.a, x.b, x.g⟩ := by
 unfold mvL
 have e : ∀ (p : Prop) [Decidable p] (y : Int), (if p then id y else y) = y := fun p _ y => by split <;> rfl
 rw [e, e]
set_option maxRecDepth 8000 in
theorem hjoin_c (l : Int) (A : Option Addr) (cA : Nat) (a : List LV) (B : Option Addr) (cB : Nat) (b : List LV) (w : World) (hA : LA w A a) (hB : LA w B b) (hT : Axs w) :
    Cn Tryd.prog 29 [.int .i64 l, .slice A a.length cA, .slice B b.length cB] w (fun v w' => ∃ sv ls', v = .tuple #[sv, .int .i64 (joiE l a b)] ∧ OwnLn0 80 40 w w' sv ls' ∧ (joiE l a b = 0 → ls'.map LV.d = joiL a b) ∧ (joiE l a b ≠ 0 → ls' = [])) := by
  obtain ⟨i3, hi3, hz3, hsz3, hby3⟩ := info_parts infoLn
  refine Cn.of func29 rfl rfl ?_
  refine gS (gR ?_)
  refine GoH.bx rfl rfl rfl rfl (fun b4 => ?_)
  iterate 2 refine gAs ?_
  refine gE (gS (gS (gR ?_))); refine gMv ?_; refine gLo isAgg22 0 ?_
  refine gP rfl rfl rfl rfl rfl call14 (fun w _ hS => (by exact hcheck_c l A cA a w (hA.ex0 hS.ext) (hT.ex hS.ext))) ?_
  refine gAs ?_; refine gE (gS (gR ?_)); refine gMv ?_; refine gBi bNe ?_; refine gE ?_
  refine gC (fun hc => ?_) fun hc => ?_
  ·
   have h1 : checkH l a ≠ 0 := by simpa using hc
   refine gS (gR ?_); refine gMv ?_
   iterate 2 refine gAs ?_
   refine gE ?_
   refine gT func29 fun w' hS => ?_
   exact ⟨hS.ext, _, [], by rw [joiE, if_pos h1]; rfl, OwnLn0.nil, fun h => absurd h (by rw [joiE, if_pos h1]; exact h1), fun _ => rfl⟩
  ·
   have h1 : checkH l a = 0 := by simpa using hc
   refine gK (gS (gS (gR ?_)))
   iterate 2 refine gMv ?_
   refine gP rfl rfl rfl rfl rfl call14 (fun w _ hS => (by exact hcheck_c l B cB b w (hB.ex0 hS.ext) (hT.ex hS.ext))) ?_
   refine gAs ?_; refine gE (gS (gR ?_)); refine gMv ?_; refine gBi bNe ?_; refine gE ?_
   refine gC (fun hc => ?_) fun hc => ?_
   ·
    have h2 : checkH l b ≠ 0 := by simpa using hc
    refine gS (gR ?_); refine gMv ?_
    iterate 2 refine gAs ?_
    refine gE ?_
    refine gT func29 fun w' hS => ?_
    exact ⟨hS.ext, _, [], by rw [joiE, if_neg (by simp [h1]), if_pos h2]; rfl, OwnLn0.nil, fun h => absurd h (by rw [joiE, if_neg (by simp [h1]), if_pos h2]; exact h2), fun _ => rfl⟩
   ·
    have h2 : checkH l b = 0 := by simpa using hc
    obtain ⟨xa1, xa2, xa3, xa4⟩ := checkH_zero.1 h1
    obtain ⟨xb1, xb2, xb3, xb4⟩ := checkH_zero.1 h2
    have hla : a.length - 1 < a.length := by omega
    have hlb : b.length - 1 < b.length := by omega
    obtain ⟨hfa, hfal⟩ := hA.fs a[a.length - 1] (List.getElem_mem hla)
    obtain ⟨hfb, hfbl⟩ := hB.fs b[b.length - 1] (List.getElem_mem hlb)
    obtain ⟨hac, _⟩ := formE_zero.1 (lineE_zero.1 (xa4 _ hla)).1
    obtain ⟨hbc, _⟩ := formE_zero.1 (lineE_zero.1 (xb4 _ hlb)).1
    obtain ⟨X, hX⟩ : ∃ X, X = topT a[a.length - 1].f.f := ⟨_, rfl⟩
    obtain ⟨T, hT'⟩ : ∃ T, T = topT b[b.length - 1].f.f := ⟨_, rfl⟩
    have hXo : X.ok := by rw [hX]; exact (chkF_zero.1 hac).top
    have hcT := cf_comp hbc hT'
    have hlX : lstT a = X := by rw [hX]; exact lnT_get hla (by omega)
    have hlT : lstT b = T := by rw [hT']; exact lnT_get hlb (by omega)
    have hE2 : joiE l a b = if T ≠ imT X (kdI T) then 13 else if 400 < a.length + b.length + 1 then 8 else 0 := by rw [joiE, if_neg (by simp [h1]), if_neg (by simp [h2]), hlX, hlT]
    refine gK (gS (gR ?_))
    iterate 2 refine gLo isAgg22 0 ?_
    refine gBl underlying22 ?_
    refine gBx rfl rfl rfl rfl (bSubE (c := ((a.length - 1 : Nat) : Int)) (by omega) (by omega)) ?_
    refine GoH.v (Vop.idxN rfl rfl rfl rfl rfl underlying22 sizeOf40 ⟨_, (hA).at_⟩ (flat_len (enc := LV.cells) (sz := 5) (fun _ => rfl)) (by decide) ((a.length - 1)) ⟨rfl, hla⟩) ?_
    refine GoH.v (Vop.fldA rfl rfl rfl rfl underlying40 rfl sizeOf23 (((a.length - 1)) * 5 + 0) rfl) ?_
    refine GoH.v (Vop.ld rfl rfl rfl rfl isAgg23 (fun w _ hS => Sl.fld (enc := LV.cells) (sz := 5) ((hA).ex0 hS.ext).at_ (fun _ => rfl) hla rfl)) ?_
    refine gAs ?_; refine gE (gS (gR ?_))
    iterate 2 refine gMv ?_
    refine gBl underlying22 ?_
    refine gBx rfl rfl rfl rfl (bSubE (c := ((b.length - 1 : Nat) : Int)) (by omega) (by omega)) ?_
    refine GoH.v (Vop.idxN rfl rfl rfl rfl rfl underlying22 sizeOf40 ⟨_, (hB).at_⟩ (flat_len (enc := LV.cells) (sz := 5) (fun _ => rfl)) (by decide) ((b.length - 1)) ⟨rfl, hlb⟩) ?_
    refine GoH.v (Vop.fldA rfl rfl rfl rfl underlying40 rfl sizeOf23 (((b.length - 1)) * 5 + 0) rfl) ?_
    refine GoH.v (Vop.ld rfl rfl rfl rfl isAgg23 (fun w _ hS => Sl.fld (enc := LV.cells) (sz := 5) ((hB).ex0 hS.ext).at_ (fun _ => rfl) hlb rfl)) ?_
    refine gM rfl rfl rfl rfl rfl call44 (fun w _ hS => (by exact fcompact_c b[b.length - 1].f.a b[b.length - 1].f.c b[b.length - 1].f.f w (hfb.ex0 hS.ext) hfbl)) ?_
    rintro v w1 w2 Y' hS he ho
    rw [subF_top] at ho
    obtain ⟨qf, cf, spf, rfl, hqf, hcf, hS'⟩ := gainN hS he ho
    refine ⟨_, hS', ?_⟩
    refine gAs ?_; refine gE (gS (gR ?_)); refine gMv ?_
    refine gM rfl rfl rfl rfl rfl call59 (fun w _ hS => (by exact part_c (qf.map (fun b => ⟨b, 0, none⟩)) cf (compF b[b.length - 1].f.f) (some T) w (faAt hS 0 rfl (fun e => (hqf e).1)) hcT)) ?_
    rintro v w1 w2 Y' hS he ⟨nd, qa, ca, fa, spa, qy, cy, fy, spy, rfl, hqa, hqy, hnew, hBa, hBy, hop, hi, hg⟩
    refine ⟨_, hS.gainL he hnew, ?_⟩
    refine gMv ?_
    iterate 3 refine gEx ?_
    refine GoH.alc rfl rfl rfl (fun _ => zeroValue80 _) (fun b12 => ?_)
    refine GoH.stB rfl rfl rfl rfl sizeOf80 0 rfl rfl rfl rfl ?_
    iterate 2 refine gAs ?_
    refine gE (gS (gS (gR ?_))); refine gFp underlying80 sizeOf3 0 ?_; refine gLo isAgg3 0 ?_; refine gBi bNe ?_; refine gMv ?_
    refine gCs 56 (fun hc => ?_) fun hc => ?_
    ·
     have h3 : nd.op ≠ 7 := by simpa using hc
     have hE : joiE l a b = 13 := by rw [hE2, if_pos (fun e => h3 (by rw [hop, e]; rfl))]
     iterate 6 refine gNo ?_
     refine gPt ?_; refine gE (GoH.condT rfl (gS (gR ?_)))
     iterate 2 refine gAs ?_
     refine gE ?_
     refine gT func29 fun w' hS => ?_
     exact ⟨hS.ext, _, [], by rw [hE]; rfl, OwnLn0.nil, fun h => absurd h (by rw [hE]; decide), fun _ => rfl⟩
    ·
     have h3 : nd.op = 7 := by simpa using hc
     obtain ⟨X1, Y1, rfl⟩ := top_bin hcT.ok (by rw [← h3, hop]; rfl) (.inr (.inr (.inl rfl)))
     have hcY : Cf fy Y1 := hBy
     have hE2 : joiE l a b = if imT X1 Y1 ≠ imT X Y1 then 13 else if 400 < a.length + b.length + 1 then 8 else 0 := hE2
     iterate 3 refine gMv ?_
     refine gM rfl rfl rfl rfl rfl call60 (fun w _ hS => (by exact imp_c a[a.length - 1].f.a a[a.length - 1].f.c a[a.length - 1].f.f (qy.map (fun b => ⟨b, 0, none⟩)) cy fy w (hfa.ex0 hS.ext) hfal (faAt hS 2 rfl (fun e => (hqy e).1)) (bT_max hcY.eq))) ?_
     rintro v w1 w2 Y' hS he ho
     rw [show bldF ⟨7, 0, 0, 0, 0, 0⟩ [a[a.length - 1].f.f, fy] = bT (imT X Y1) from by have := bld2 (n := ⟨7, 0, 0, 0, 0, 0⟩) hac hcY.chk (by decide) rfl rfl; rw [hcY.top, ← hX] at this; exact this] at ho
     obtain ⟨qi, ci, spi, rfl, hqi, hci, hS'⟩ := gainN hS he ho
     refine ⟨_, hS', ?_⟩
     refine gP rfl rfl rfl rfl rfl call41 (fun w _ hS => (by exact fsame_c (qf.map (fun b => ⟨b, 0, none⟩)) cf (compF b[b.length - 1].f.f) (qi.map (fun b => ⟨b, 0, none⟩)) ci _ w (faAt hS 4 rfl (fun e => (hqf e).1)) (faAt hS 0 rfl (fun e => (hqi e).1)) (bT_max hcT.eq) (bT_max rfl))) ?_
     refine gUn uNot ?_; refine gPf ?_; refine gE ?_
     refine gC (fun hc => ?_) fun hc => ?_
     ·
      have h5 : ¬ imT X1 Y1 = imT X Y1 := by
        have h6 : sameB (compF b[b.length - 1].f.f) (bT (imT X Y1)) = false := by simpa using hc
        rw [sameB_cf hcT (im_ok hXo hcY.ok), decide_eq_false_iff_not] at h6; exact h6
      have hE : joiE l a b = 13 := by rw [hE2, if_pos h5]
      refine gS (gR ?_)
      iterate 2 refine gAs ?_
      refine gE ?_
      refine gT func29 fun w' hS => ?_
      exact ⟨hS.ext, _, [], by rw [hE]; rfl, OwnLn0.nil, fun h => absurd h (by rw [hE]; decide), fun _ => rfl⟩
     ·
      have h5 : imT X1 Y1 = imT X Y1 := by
        have h6 : sameB (compF b[b.length - 1].f.f) (bT (imT X Y1)) = true := by simpa using hc
        rw [sameB_cf hcT (im_ok hXo hcY.ok), decide_eq_true_eq] at h6; exact h6
      have hE3 : joiE l a b = if 400 < a.length + b.length + 1 then 8 else 0 := by rw [hE2, if_neg (fun h => h h5)]
      refine gK (gS (gS (gR ?_))); refine gLo isAgg22 5 ?_; refine gBl underlying22 ?_; refine gMv ?_; refine gBl underlying22 ?_
      iterate 2 refine gBx rfl rfl rfl rfl (bAdd (by omega)) ?_
      refine gBi bGt ?_; refine gE ?_
      refine gC (fun hc => ?_) fun hc => ?_
      ·
       have h6 : 400 < a.length + b.length + 1 := by simp at hc; omega
       have hE : joiE l a b = 8 := by rw [hE3, if_pos h6]
       refine gS (gR ?_)
       iterate 2 refine gAs ?_
       refine gE ?_
       refine gT func29 fun w' hS => ?_
       exact ⟨hS.ext, _, [], by rw [hE]; rfl, OwnLn0.nil, fun h => absurd h (by rw [hE]; decide), fun _ => rfl⟩
      ·
       have h6 : ¬ 400 < a.length + b.length + 1 := by simp at hc; omega
       have hE : joiE l a b = 0 := by rw [hE3, if_neg h6]
       refine gK (gS (gR ?_)); refine gAs ?_; refine gE (gS (gS (gR ?_))); refine gLo isAgg22 5 ?_; refine gBl underlying22 ?_; refine gMv ?_; refine gE (gB ?_)
       refine GoH.addNone (obL 40 [] []) ?_
       refine GoH.pick (pre := [_, _, _, _, _, _, _]) (pre' := [(some b4, .cells #[.slice A a.length cA] 22 (0, 0)), (none, obL 40 [] []), (qy, obN 80 fy spy)]) [6, 0, 4] (by decide) rfl ?_
       refine GoH.loop (σ := Nat × Option Nat × Nat × List LV × List Value × Hl) (fun z => [(2, .slice B b.length cB), (4, .pointer (some ⟨b4, 0, none⟩)), (14, osv qy fy.length cy), (15, osv z.2.1 z.2.2.2.1.length z.2.2.1), (71, .slice A a.length cA), (72, .int .i64 a.length), (73, .int .i64 z.1)])
         (fun z => [(some b4, .cells #[.slice A a.length cA] 22 (0, 0)), (z.2.1, obL 40 z.2.2.2.1 z.2.2.2.2.1), (qy, obN 80 fy spy)] ++ z.2.2.2.2.2)
         (fun z => z.1 ≤ a.length ∧ (z.2.1 = none → z.2.2.2.1.length = 0 ∧ z.2.2.1 = 0) ∧ (z.2.2.2.1.flatMap LV.cells ++ z.2.2.2.2.1).length = z.2.2.1 * 5 ∧ z.2.2.2.1.map LV.d = (a.take z.1).map (mvL id) ∧ ∀ x ∈ z.2.2.2.1, x.f.In0 80 z.2.2.2.2.2 ∧ x.f.f.length ≤ maxLen)
         (fun z => a.length - z.1) (0, none, 0, [], [], []) ⟨Nat.zero_le _, fun _ => ⟨rfl, rfl⟩, rfl, rfl, fun _ h => by cases h⟩ ⟨rfl, rfl, rfl, rfl, rfl, rfl, rfl, trivial⟩ (List.Sublist.refl _) (fun z hZ IH => ?_)
       obtain ⟨k, qo, co, os, spo, H⟩ := z
       obtain ⟨hk, hqo, hco, hos, hin⟩ := hZ
       dsimp only at hk hqo hco hos hin IH ⊢
       have hol : os.length = k := by have := congrArg List.length hos; simp at this; omega
       refine gS (gR ?_); refine gBi bLt ?_; refine gE (gS ?_)
       refine gC (fun hc => ?_) fun hc => ?_
       ·
        have hlt : k < a.length := by simpa using hc
        obtain ⟨hga, hgl⟩ := hA.fs a[k] (List.getElem_mem hlt)
        have hr12 := (lineE_zero.1 (xa4 k hlt)).2.1
        refine gK (gS (gB (gS (gR ?_))))
        refine GoH.v (Vop.idxN rfl rfl rfl rfl rfl underlying22 sizeOf40 ⟨_, (hA).at_⟩ (flat_len (enc := LV.cells) (sz := 5) (fun _ => rfl)) (by decide) (k) ⟨rfl, hlt⟩) ?_
        refine GoH.v (Vop.ldN (cs := LV.cells a[k]) rfl rfl rfl rfl isAgg40 sizeOf40 (fun w _ hS => Sl.many (enc := LV.cells) (sz := 5) (hA.ex0 hS.ext).at_ (fun _ => rfl) hlt)) ?_
        refine GoH.alc rfl rfl rfl (fun _ => zeroValue40 _) (fun b17 => ?_)
        refine GoH.stB rfl rfl rfl rfl sizeOf40 0 rfl rfl rfl rfl ?_
        refine gE (gR ?_); refine gMv ?_
        refine GoH.v (Vop.ldB rfl rfl rfl rfl isAgg40 0 rfl sizeOf40 rfl) ?_
        refine gM rfl rfl rfl rfl rfl call61 (fun w _ hS => (by exact moved_c a[k] 62 [] id w (hga.ex0 hS.ext) hgl hr12 (fun _ _ => call62 _ _) (fun w' e y hy => join1_c y w'))) ?_
        rintro v w1 w2 Y' hS he ⟨qm, cm, spm, rfl, hqm, hcm, hnew⟩
        refine ⟨_, hS.gainL he hnew, ?_⟩
        refine GoH.bsN (c := [_, _, _, _, _]) rfl rfl rfl rfl underlying22 sizeOf40 zeroValue40 rfl rfl (fun b80 => ?_)
        refine GoH.appL (ls := os) (sp := spo) (q := qo) (nl := mvV id a[k] qm cm) rfl rfl rfl rfl rfl underlying22 hi3 hz3 hsz3 rfl hqo 4 rfl 0 rfl hco (by unfold maxLen; omega) (by rw [hby3]; omega) (fun b' sp' cap' hlen => ?_)
        refine gAs ?_; refine gE (gIb (gR ?_)); refine gBx rfl rfl rfl rfl (bAdd (by omega)) ?_; refine gMv ?_; refine gE ?_
        refine GoH.pickT (pre := [_, _, _, _, _, _]) (pre' := [(some b4, .cells #[.slice A a.length cA] 22 (0, 0)), (some b', obL 40 (os ++ [mvV id a[k] qm cm]) sp'), (qy, obN 80 fy spy), (qm, obN 80 (compF a[k].f.f) spm)]) H [3, 4, 5, 1] (by decide) rfl ?_
        refine IH (k + 1, some b', cap', os ++ [mvV id a[k] qm cm], sp', (qm, obN 80 (compF a[k].f.f) spm) :: H) _ _ ⟨hlt, (fun e => by cases e), hlen, ?_, fun x hx => ?_⟩ (by dsimp only; omega) ⟨rfl, rfl, rfl, rfl, rfl, rfl, rfl, trivial⟩ (List.Sublist.refl _)
        · dsimp only; rw [List.map_append, hos, List.take_succ_eq_append_getElem hlt, List.map_append]; rfl
        · dsimp only at hx ⊢
          rcases List.mem_append.1 hx with hx | hx
          · exact ⟨(hin x hx).1.mono (List.subset_cons_self _ _), (hin x hx).2⟩
          · rw [List.mem_singleton.1 hx]; exact ⟨⟨qm, spm, List.mem_cons_self .., rfl, fun e => (hqm e).1⟩, by have := compF_le a[k].f.f; show (compF a[k].f.f).length ≤ maxLen; unfold maxLen; omega⟩
       ·
        have hge : ¬ k < a.length := by simpa using hc
        obtain rfl : k = a.length := by omega
        rw [List.take_length] at hos
        refine GoH.exit rfl (gS (gS (gR ?_)))
        refine gMv ?_; refine gBl underlying22 ?_; refine gMv ?_; refine gE (gB ?_)
        refine GoH.loop (σ := Nat × Option Nat × Nat × List LV × List Value × Hl) (fun z => [(2, .slice B b.length cB), (4, .pointer (some ⟨b4, 0, none⟩)), (14, osv qy fy.length cy), (15, osv z.2.1 z.2.2.2.1.length z.2.2.1), (83, .slice B b.length cB), (84, .int .i64 b.length), (85, .int .i64 z.1)])
          (fun z => [(some b4, .cells #[.slice A a.length cA] 22 (0, 0)), (z.2.1, obL 40 z.2.2.2.1 z.2.2.2.2.1), (qy, obN 80 fy spy)] ++ z.2.2.2.2.2)
          (fun z => z.1 ≤ b.length ∧ (z.2.1 = none → z.2.2.2.1.length = 0 ∧ z.2.2.1 = 0) ∧ (z.2.2.2.1.flatMap LV.cells ++ z.2.2.2.2.1).length = z.2.2.1 * 5 ∧ z.2.2.2.1.map LV.d = a.map (mvL id) ++ (b.take z.1).map (mvL (fun y => y + a.length)) ∧ ∀ x ∈ z.2.2.2.1, x.f.In0 80 z.2.2.2.2.2 ∧ x.f.f.length ≤ maxLen)
          (fun z => b.length - z.1) (0, qo, co, os, spo, H) ⟨Nat.zero_le _, hqo, hco, by dsimp only; rw [hos]; simp, hin⟩ ⟨rfl, rfl, rfl, rfl, rfl, rfl, rfl, trivial⟩ (List.Sublist.refl _) (fun z hZ IH => ?_)
        clear hqo hco hos hin hol
        obtain ⟨k, qo, co, os, spo, H⟩ := z
        obtain ⟨hk, hqo, hco, hos, hin⟩ := hZ
        dsimp only at hk hqo hco hos hin IH ⊢
        have hol : os.length = a.length + k := by have := congrArg List.length hos; simp at this; omega
        refine gS (gR ?_); refine gBi bLt ?_; refine gE (gS ?_)
        refine gC (fun hc => ?_) fun hc => ?_
        ·
         have hlt : k < b.length := by simpa using hc
         obtain ⟨hga, hgl⟩ := hB.fs b[k] (List.getElem_mem hlt)
         have hr12 := (lineE_zero.1 (xb4 k hlt)).2.1
         have hln := line_nums (xb4 k hlt)
         have hyI : ∀ y : Int, (10 ≤ b[k].r ∧ y = b[k].a) ∨ (b[k].r = 10 ∧ y = b[k].b) → 0 ≤ y ∧ y ≤ 1000 := fun y hy => by
           rcases hy with ⟨k1, rfl⟩ | ⟨k1, rfl⟩
           · have := hln.1 k1; omega
           · have := hln.2 k1; omega
         refine gK (gS (gB (gS (gR ?_))))
         refine GoH.v (Vop.idxN rfl rfl rfl rfl rfl underlying22 sizeOf40 ⟨_, (hB).at_⟩ (flat_len (enc := LV.cells) (sz := 5) (fun _ => rfl)) (by decide) (k) ⟨rfl, hlt⟩) ?_
         refine GoH.v (Vop.ldN (cs := LV.cells b[k]) rfl rfl rfl rfl isAgg40 sizeOf40 (fun w _ hS => Sl.many (enc := LV.cells) (sz := 5) (hB.ex0 hS.ext).at_ (fun _ => rfl) hlt)) ?_
         refine GoH.alc rfl rfl rfl (fun _ => zeroValue40 _) (fun b19 => ?_)
         refine GoH.stB rfl rfl rfl rfl sizeOf40 0 rfl rfl rfl rfl ?_
         refine gE (gR ?_); refine gMv ?_
         refine GoH.v (Vop.ldB rfl rfl rfl rfl isAgg40 0 rfl sizeOf40 rfl) ?_
         refine GoH.v (Vop.mkFunc rfl rfl rfl rfl rfl) ?_
         refine gM rfl rfl rfl rfl rfl call61 (fun w _ hS => (by exact moved_c b[k] 63 [.pointer (some ⟨b4, 0, none⟩)] (fun y => y + a.length) w (hga.ex0 hS.ext) hgl hr12 (fun _ _ => call63 _ _) (fun w' e y hy => join2_c y b4 A a.length cA w' (e.keep (hS.get (j := 1) rfl)) (hyI y hy) (by omega)))) ?_
         rintro v w1 w2 Y' hS he ⟨qm, cm, spm, rfl, hqm, hcm, hnew⟩
         refine ⟨_, hS.gainL he hnew, ?_⟩
         refine GoH.bsN (c := [_, _, _, _, _]) rfl rfl rfl rfl underlying22 sizeOf40 zeroValue40 rfl rfl (fun b93 => ?_)
         refine GoH.appL (ls := os) (sp := spo) (q := qo) (nl := mvV (fun y => y + a.length) b[k] qm cm) rfl rfl rfl rfl rfl underlying22 hi3 hz3 hsz3 rfl hqo 4 rfl 0 rfl hco (by unfold maxLen; omega) (by rw [hby3]; omega) (fun b' sp' cap' hlen => ?_)
         refine gAs ?_; refine gE (gIb (gR ?_)); refine gBx rfl rfl rfl rfl (bAdd (by omega)) ?_; refine gMv ?_; refine gE ?_
         refine GoH.pickT (pre := [_, _, _, _, _, _]) (pre' := [(some b4, .cells #[.slice A a.length cA] 22 (0, 0)), (some b', obL 40 (os ++ [mvV (fun y => y + a.length) b[k] qm cm]) sp'), (qy, obN 80 fy spy), (qm, obN 80 (compF b[k].f.f) spm)]) H [3, 4, 5, 1] (by decide) rfl ?_
         refine IH (k + 1, some b', cap', os ++ [mvV (fun y => y + a.length) b[k] qm cm], sp', (qm, obN 80 (compF b[k].f.f) spm) :: H) _ _ ⟨hlt, (fun e => by cases e), hlen, ?_, fun x hx => ?_⟩ (by dsimp only; omega) ⟨rfl, rfl, rfl, rfl, rfl, rfl, rfl, trivial⟩ (List.Sublist.refl _)
         · dsimp only; rw [List.map_append, hos, List.take_succ_eq_append_getElem hlt, List.map_append, List.append_assoc]; rfl
         · dsimp only at hx ⊢
           rcases List.mem_append.1 hx with hx | hx
           · exact ⟨(hin x hx).1.mono (List.subset_cons_self _ _), (hin x hx).2⟩
           · rw [List.mem_singleton.1 hx]; exact ⟨⟨qm, spm, List.mem_cons_self .., rfl, fun e => (hqm e).1⟩, by have := compF_le b[k].f.f; show (compF b[k].f.f).length ≤ maxLen; unfold maxLen; omega⟩
        ·
         have hge : ¬ k < b.length := by simpa using hc
         obtain rfl : k = b.length := by omega
         rw [List.take_length] at hos
         refine GoH.exit rfl (gS (gR ?_))
         iterate 2 refine gMv ?_
         refine gLo isAgg22 0 ?_; refine gBl underlying22 ?_; refine gBx rfl rfl rfl rfl (bSub (by omega)) ?_; refine gLo isAgg22 0 ?_; refine gBl underlying22 ?_; refine gMv ?_; refine gBl underlying22 ?_; refine gBx rfl rfl rfl rfl (bAdd (by omega)) ?_; refine gBx rfl rfl rfl rfl (bSub (by omega)) ?_
         refine GoH.v (Vop.bld rfl rfl rfl rfl (bld (c := [_, _, _, _, _]) underlying40 (Szs.cons sizeOf23 (Szs.cons sizeOf3 (Szs.cons sizeOf3 (Szs.cons sizeOf3 (Szs.cons sizeOf3 Szs.nil))))) zeroValue40 rfl)) ?_
         refine GoH.bsN (c := [_, _, _, _, _]) rfl rfl rfl rfl underlying22 sizeOf40 zeroValue40 rfl rfl (fun b108 => ?_)
         refine GoH.appL (ls := os) (sp := spo) (q := qo) (nl := ⟨⟨qy.map (fun b => ⟨b, 0, none⟩), cy, fy⟩, 10, (a.length : Int) - 1, (a.length : Int) + b.length - 1, 0⟩) rfl rfl rfl rfl rfl underlying22 hi3 hz3 hsz3 rfl hqo 2 rfl 0 rfl hco (by unfold maxLen; omega) (by rw [hby3]; omega) (fun b' sp' cap' hlen => ?_)
         iterate 2 refine gAs ?_
         refine gE ?_
         refine gT func29 fun w' hS => ?_
         refine ⟨hS.ext, _, _, by rw [hE]; rfl, ⟨some b', cap', sp', (qy, obN 80 fy spy) :: H, rfl, (fun e => by cases e), hlen, (NewH.of hS).sub (.cons _ (.cons _ (List.Sublist.refl _))), fun x hx => ?_⟩, fun _ => ?_, fun h => absurd hE h⟩
         · rcases List.mem_append.1 hx with hx | hx
           · exact ⟨(hin x hx).1.mono (List.subset_cons_self _ _), (hin x hx).2⟩
           · rw [List.mem_singleton.1 hx]; exact ⟨⟨qy, spy, List.mem_cons_self .., rfl, fun e => (hqy e).1⟩, bT_max hcY.eq⟩
         · rw [List.map_append, hos, joiL, hlT, show kdI (imT X1 Y1) = Y1 from rfl, ← hcY.eq]; rfl
end Go.Proofs.YtlihcmknfdckdaaDoor
namespace Go.Proofs.YtlihcmknfdckdaaDoor
open Go.RowKit Go.Proofs.Wit Tryd
/-! joined proofs: the reference -/
set_option maxRecDepth 8000 in
theorem gjoin_c (l : Int) (A : Option Addr) (cA : Nat) (a : List LV) (B : Option Addr) (cB : Nat) (b : List LV) (w : World) (hA : LA w A a) (hB : LA w B b) :
    Cn Tryd.prog 33 [.int .i64 l, .slice A a.length cA, .slice B b.length cB] w (fun v w' => ∃ sv ls', v = .tuple #[sv, .int .i64 (joiE l a b)] ∧ OwnLn0 80 40 w w' sv ls' ∧ (joiE l a b = 0 → ls'.map LV.d = joiL a b) ∧ (joiE l a b ≠ 0 → ls' = [])) := by
  obtain ⟨i3, hi3, hz3, hsz3, hby3⟩ := info_parts infoLn
  refine Cn.of func33 rfl rfl ?_
  refine gS (gR ?_)
  iterate 2 refine gAs ?_
  refine gE (gS (gS (gR ?_)))
  iterate 2 refine gMv ?_
  refine gP rfl rfl rfl rfl rfl call15 (fun w _ hS => (by exact gcheck_c l A cA a w (hA.ex0 hS.ext))) ?_
  refine gAs ?_; refine gE (gS (gR ?_)); refine gMv ?_; refine gBi bNe ?_; refine gE ?_
  refine gC (fun hc => ?_) fun hc => ?_
  ·
   have h1 : checkH l a ≠ 0 := by simpa using hc
   refine gS (gR ?_); refine gMv ?_
   iterate 2 refine gAs ?_
   refine gE ?_
   refine gT func33 fun w' hS => ?_
   exact ⟨hS.ext, _, [], by rw [joiE, if_pos h1]; rfl, OwnLn0.nil, fun h => absurd h (by rw [joiE, if_pos h1]; exact h1), fun _ => rfl⟩
  ·
   have h1 : checkH l a = 0 := by simpa using hc
   refine gK (gS (gS (gR ?_)))
   iterate 2 refine gMv ?_
   refine gP rfl rfl rfl rfl rfl call15 (fun w _ hS => (by exact gcheck_c l B cB b w (hB.ex0 hS.ext))) ?_
   refine gAs ?_; refine gE (gS (gR ?_)); refine gMv ?_; refine gBi bNe ?_; refine gE ?_
   refine gC (fun hc => ?_) fun hc => ?_
   ·
    have h2 : checkH l b ≠ 0 := by simpa using hc
    refine gS (gR ?_); refine gMv ?_
    iterate 2 refine gAs ?_
    refine gE ?_
    refine gT func33 fun w' hS => ?_
    exact ⟨hS.ext, _, [], by rw [joiE, if_neg (by simp [h1]), if_pos h2]; rfl, OwnLn0.nil, fun h => absurd h (by rw [joiE, if_neg (by simp [h1]), if_pos h2]; exact h2), fun _ => rfl⟩
   ·
    have h2 : checkH l b = 0 := by simpa using hc
    obtain ⟨xa1, xa2, xa3, xa4⟩ := checkH_zero.1 h1
    obtain ⟨xb1, xb2, xb3, xb4⟩ := checkH_zero.1 h2
    have hla : a.length - 1 < a.length := by omega
    have hlb : b.length - 1 < b.length := by omega
    obtain ⟨hfa, hfal⟩ := hA.fs a[a.length - 1] (List.getElem_mem hla)
    obtain ⟨hfb, hfbl⟩ := hB.fs b[b.length - 1] (List.getElem_mem hlb)
    obtain ⟨hac, _⟩ := formE_zero.1 (lineE_zero.1 (xa4 _ hla)).1
    obtain ⟨hbc, _⟩ := formE_zero.1 (lineE_zero.1 (xb4 _ hlb)).1
    obtain ⟨X, hX⟩ : ∃ X, X = topT a[a.length - 1].f.f := ⟨_, rfl⟩
    obtain ⟨T, hT'⟩ : ∃ T, T = topT b[b.length - 1].f.f := ⟨_, rfl⟩
    have hXo : X.ok := by rw [hX]; exact (chkF_zero.1 hac).top
    have hcT := cf_comp hbc hT'
    have hlX : lstT a = X := by rw [hX]; exact lnT_get hla (by omega)
    have hlT : lstT b = T := by rw [hT']; exact lnT_get hlb (by omega)
    have hE2 : joiE l a b = if T ≠ imT X (kdI T) then 13 else if 400 < a.length + b.length + 1 then 8 else 0 := by rw [joiE, if_neg (by simp [h1]), if_neg (by simp [h2]), hlX, hlT]
    refine gK (gS (gR ?_))
    iterate 2 refine gMv ?_
    refine gBl underlying22 ?_
    refine gBx rfl rfl rfl rfl (bSubE (c := ((b.length - 1 : Nat) : Int)) (by omega) (by omega)) ?_
    refine GoH.v (Vop.idxN rfl rfl rfl rfl rfl underlying22 sizeOf40 ⟨_, (hB).at_⟩ (flat_len (enc := LV.cells) (sz := 5) (fun _ => rfl)) (by decide) ((b.length - 1)) ⟨rfl, hlb⟩) ?_
    refine GoH.v (Vop.fldA rfl rfl rfl rfl underlying40 rfl sizeOf23 (((b.length - 1)) * 5 + 0) rfl) ?_
    refine GoH.v (Vop.ld rfl rfl rfl rfl isAgg23 (fun w _ hS => Sl.fld (enc := LV.cells) (sz := 5) ((hB).ex0 hS.ext).at_ (fun _ => rfl) hlb rfl)) ?_
    refine gM rfl rfl rfl rfl rfl call54 (fun w _ hS => (by exact rcompact_c b[b.length - 1].f.a b[b.length - 1].f.c b[b.length - 1].f.f w (hfb.ex0 hS.ext) hfbl)) ?_
    rintro v w1 w2 Y' hS he ho
    rw [subF_top] at ho
    obtain ⟨qf, cf, spf, rfl, hqf, hcf, hS'⟩ := gainN hS he ho
    refine ⟨_, hS', ?_⟩
    refine gM rfl rfl rfl rfl rfl call68 (fun w _ hS => (by exact gparts_c (qf.map (fun b => ⟨b, 0, none⟩)) cf (compF b[b.length - 1].f.f) (some T) 7 w (by decide) (faAt hS 0 rfl (fun e => (hqf e).1)) hcT)) ?_
    rintro v w1 w2 Y' hS he ⟨qa, ca, fa, spa, qy, cy, fy, spy, rfl, hqa, hqy, hnew, hBa, hBy⟩
    refine ⟨_, hS.gainL he hnew, ?_⟩
    refine gMv ?_
    iterate 3 refine gEx ?_
    iterate 3 refine gAs ?_
    refine gE (gS (gS (gR ?_))); refine gMv ?_; refine gUn uNot ?_; refine gMv ?_
    refine gCs 45 (fun hc => ?_) fun hc => ?_
    ·
     have h3 : ¬ opP (some T) = 7 := by simpa using hc
     have hE : joiE l a b = 13 := by rw [hE2, if_pos (fun e => h3 (by rw [e]; rfl))]
     iterate 10 refine gNo ?_
     refine gPt ?_; refine gE (GoH.condT rfl (gS (gR ?_)))
     iterate 2 refine gAs ?_
     refine gE ?_
     refine gT func33 fun w' hS => ?_
     exact ⟨hS.ext, _, [], by rw [hE]; rfl, OwnLn0.nil, fun h => absurd h (by rw [hE]; decide), fun _ => rfl⟩
    ·
     have h3 : opP (some T) = 7 := by simpa using hc
     rw [if_pos h3] at hBa
     rw [if_pos ⟨h3, rfl⟩] at hBy
     obtain ⟨X1, Y1, rfl⟩ := top_bin hcT.ok h3 (.inr (.inr (.inl rfl)))
     have hcX : Cf fa X1 := hBa
     have hcY : Cf fy Y1 := hBy
     have hE2 : joiE l a b = if imT X1 Y1 ≠ imT X Y1 then 13 else if 400 < a.length + b.length + 1 then 8 else 0 := hE2
     iterate 3 refine gMv ?_
     refine gBl underlying22 ?_
     refine gBx rfl rfl rfl rfl (bSubE (c := ((a.length - 1 : Nat) : Int)) (by omega) (by omega)) ?_
     refine GoH.v (Vop.idxN rfl rfl rfl rfl rfl underlying22 sizeOf40 ⟨_, (hA).at_⟩ (flat_len (enc := LV.cells) (sz := 5) (fun _ => rfl)) (by decide) ((a.length - 1)) ⟨rfl, hla⟩) ?_
     refine GoH.v (Vop.fldA rfl rfl rfl rfl underlying40 rfl sizeOf23 (((a.length - 1)) * 5 + 0) rfl) ?_
     refine GoH.v (Vop.ld rfl rfl rfl rfl isAgg23 (fun w _ hS => Sl.fld (enc := LV.cells) (sz := 5) ((hA).ex0 hS.ext).at_ (fun _ => rfl) hla rfl)) ?_
     refine gP rfl rfl rfl rfl rfl call42 (fun w _ hS => (by exact gsameF_c (qa.map (fun b => ⟨b, 0, none⟩)) ca fa a[a.length - 1].f.a a[a.length - 1].f.c a[a.length - 1].f.f w (faAt hS 0 rfl (fun e => (hqa e).1)) (hfa.ex0 hS.ext) (bT_max hcX.eq) hfal)) ?_
     refine gUn uNot ?_; refine gPf ?_; refine gE ?_
     refine gC (fun hc => ?_) fun hc => ?_
     ·
      have h5 : ¬ imT X1 Y1 = imT X Y1 := by
        have h6 : sameB fa a[a.length - 1].f.f = false := by simpa using hc
        rw [sameB_comm, same_cf hac hcX, decide_eq_false_iff_not, ← hX] at h6
        exact fun e => h6 (by injection e with _ _ _ _ e1 _; exact e1.symm)
      have hE : joiE l a b = 13 := by rw [hE2, if_pos h5]
      refine gS (gR ?_)
      iterate 2 refine gAs ?_
      refine gE ?_
      refine gT func33 fun w' hS => ?_
      exact ⟨hS.ext, _, [], by rw [hE]; rfl, OwnLn0.nil, fun h => absurd h (by rw [hE]; decide), fun _ => rfl⟩
     ·
      have h5 : imT X1 Y1 = imT X Y1 := by
        have h6 : sameB fa a[a.length - 1].f.f = true := by simpa using hc
        rw [sameB_comm, same_cf hac hcX, decide_eq_true_eq, ← hX] at h6
        rw [h6]
      have hE3 : joiE l a b = if 400 < a.length + b.length + 1 then 8 else 0 := by rw [hE2, if_neg (fun h => h h5)]
      refine gK (gS (gS (gR ?_))); refine gMv ?_; refine gBl underlying22 ?_; refine gMv ?_; refine gBl underlying22 ?_
      iterate 2 refine gBx rfl rfl rfl rfl (bAdd (by omega)) ?_
      refine gBi bGt ?_; refine gE ?_
      refine gC (fun hc => ?_) fun hc => ?_
      ·
       have h6 : 400 < a.length + b.length + 1 := by simp at hc; omega
       have hE : joiE l a b = 8 := by rw [hE3, if_pos h6]
       refine gS (gR ?_)
       iterate 2 refine gAs ?_
       refine gE ?_
       refine gT func33 fun w' hS => ?_
       exact ⟨hS.ext, _, [], by rw [hE]; rfl, OwnLn0.nil, fun h => absurd h (by rw [hE]; decide), fun _ => rfl⟩
      ·
       have h6 : ¬ 400 < a.length + b.length + 1 := by simp at hc; omega
       have hE : joiE l a b = 0 := by rw [hE3, if_neg h6]
       refine gK (gS (gR ?_)); refine gAs ?_; refine gE (gS (gS (gR ?_))); refine gMv ?_; refine gBl underlying22 ?_; refine gMv ?_; refine gE (gB ?_)
       refine GoH.addNone (obL 40 [] []) ?_
       refine GoH.pick (pre := [_, _, _, _]) (pre' := [(none, obL 40 [] []), (qy, obN 80 fy spy)]) [0, 2] (by decide) rfl ?_
       refine GoH.loop (σ := Nat × Option Nat × Nat × List LV × List Value × Hl) (fun z => [(1, .slice A a.length cA), (2, .slice B b.length cB), (11, osv qy fy.length cy), (13, osv z.2.1 z.2.2.2.1.length z.2.2.1), (64, .slice A a.length cA), (65, .int .i64 a.length), (66, .int .i64 z.1)])
         (fun z => [(z.2.1, obL 40 z.2.2.2.1 z.2.2.2.2.1), (qy, obN 80 fy spy)] ++ z.2.2.2.2.2)
         (fun z => z.1 ≤ a.length ∧ (z.2.1 = none → z.2.2.2.1.length = 0 ∧ z.2.2.1 = 0) ∧ (z.2.2.2.1.flatMap LV.cells ++ z.2.2.2.2.1).length = z.2.2.1 * 5 ∧ z.2.2.2.1.map LV.d = (a.take z.1).map (mvL id) ∧ ∀ x ∈ z.2.2.2.1, x.f.In0 80 z.2.2.2.2.2 ∧ x.f.f.length ≤ maxLen)
         (fun z => a.length - z.1) (0, none, 0, [], [], []) ⟨Nat.zero_le _, fun _ => ⟨rfl, rfl⟩, rfl, rfl, fun _ h => by cases h⟩ ⟨rfl, rfl, rfl, rfl, rfl, rfl, rfl, trivial⟩ (List.Sublist.refl _) (fun z hZ IH => ?_)
       obtain ⟨k, qo, co, os, spo, H⟩ := z
       obtain ⟨hk, hqo, hco, hos, hin⟩ := hZ
       dsimp only at hk hqo hco hos hin IH ⊢
       have hol : os.length = k := by have := congrArg List.length hos; simp at this; omega
       refine gS (gR ?_); refine gBi bLt ?_; refine gE (gS ?_)
       refine gC (fun hc => ?_) fun hc => ?_
       ·
        have hlt : k < a.length := by simpa using hc
        obtain ⟨hga, hgl⟩ := hA.fs a[k] (List.getElem_mem hlt)
        refine gK (gS (gB (gS (gR ?_))))
        refine GoH.v (Vop.idxN rfl rfl rfl rfl rfl underlying22 sizeOf40 ⟨_, (hA).at_⟩ (flat_len (enc := LV.cells) (sz := 5) (fun _ => rfl)) (by decide) (k) ⟨rfl, hlt⟩) ?_
        refine GoH.v (Vop.ldN (cs := LV.cells a[k]) rfl rfl rfl rfl isAgg40 sizeOf40 (fun w _ hS => Sl.many (enc := LV.cells) (sz := 5) (hA.ex0 hS.ext).at_ (fun _ => rfl) hlt)) ?_
        refine GoH.alc rfl rfl rfl (fun _ => zeroValue40 _) (fun b15 => ?_)
        refine GoH.stB rfl rfl rfl rfl sizeOf40 0 rfl rfl rfl rfl ?_
        refine gE (gS (gR ?_)); refine gFp underlying40 sizeOf23 0 ?_; refine gLo isAgg23 0 ?_
        refine gM rfl rfl rfl rfl rfl call54 (fun w _ hS => (by exact rcompact_c a[k].f.a a[k].f.c a[k].f.f w (hga.ex0 hS.ext) hgl)) ?_
        rintro v w1 w2 Y' hS he ho
        rw [subF_top] at ho
        obtain ⟨qm, cm, spm, rfl, hqm, hcm, hS'⟩ := gainN hS he ho
        refine ⟨_, hS', ?_⟩
        refine gFp underlying40 sizeOf23 0 ?_
        refine GoH.st rfl rfl rfl rfl sizeOf23 rfl 1 rfl rfl ?_
        refine gE (gR ?_); refine gMv ?_
        refine GoH.v (Vop.ldB rfl rfl rfl rfl isAgg40 1 rfl sizeOf40 rfl) ?_
        refine GoH.bsN (c := [_, _, _, _, _]) rfl rfl rfl rfl underlying22 sizeOf40 zeroValue40 rfl rfl (fun b76 => ?_)
        have hdt : LV.d ⟨⟨qm.map (fun b => ⟨b, 0, none⟩), cm, compF a[k].f.f⟩, a[k].r, a[k].a, a[k].b, a[k].g⟩ = mvL (id) a[k] := by rw [mvL_id]; rfl
        refine GoH.appL (ls := os) (sp := spo) (q := qo) (nl := ⟨⟨qm.map (fun b => ⟨b, 0, none⟩), cm, compF a[k].f.f⟩, a[k].r, a[k].a, a[k].b, a[k].g⟩) rfl rfl rfl rfl rfl underlying22 hi3 hz3 hsz3 rfl hqo 3 rfl 0 rfl hco (by unfold maxLen; omega) (by rw [hby3]; omega) (fun b' sp' cap' hlen => ?_)
        refine gAs ?_; refine gE (gIb (gR ?_)); refine gBx rfl rfl rfl rfl (bAdd (by omega)) ?_; refine gMv ?_; refine gE ?_
        refine GoH.pickT (pre := [_, _, _, _, _]) (pre' := [(some b', obL 40 (os ++ [⟨⟨qm.map (fun b => ⟨b, 0, none⟩), cm, compF a[k].f.f⟩, a[k].r, a[k].a, a[k].b, a[k].g⟩]) sp'), (qy, obN 80 fy spy), (qm, obN 80 (compF a[k].f.f) spm)]) H [3, 4, 1] (by decide) rfl ?_
        refine IH (k + 1, some b', cap', os ++ [⟨⟨qm.map (fun b => ⟨b, 0, none⟩), cm, compF a[k].f.f⟩, a[k].r, a[k].a, a[k].b, a[k].g⟩], sp', (qm, obN 80 (compF a[k].f.f) spm) :: H) _ _ ⟨hlt, (fun e => by cases e), hlen, ?_, fun x hx => ?_⟩ (by dsimp only; omega) ⟨rfl, rfl, rfl, rfl, rfl, rfl, rfl, trivial⟩ (List.Sublist.refl _)
        · dsimp only; rw [List.map_append, hos, List.take_succ_eq_append_getElem hlt, List.map_append]; rw [show List.map (mvL (id)) [a[k]] = [mvL (id) a[k]] from rfl, ← hdt]; rfl
        · dsimp only at hx ⊢
          rcases List.mem_append.1 hx with hx | hx
          · exact ⟨(hin x hx).1.mono (List.subset_cons_self _ _), (hin x hx).2⟩
          · rw [List.mem_singleton.1 hx]; exact ⟨⟨qm, spm, List.mem_cons_self .., rfl, fun e => (hqm e).1⟩, by have := compF_le a[k].f.f; show (compF a[k].f.f).length ≤ maxLen; unfold maxLen; omega⟩
       ·
        have hge : ¬ k < a.length := by simpa using hc
        obtain rfl : k = a.length := by omega
        rw [List.take_length] at hos
        refine GoH.exit rfl (gS (gS (gR ?_)))
        refine gMv ?_; refine gBl underlying22 ?_; refine gMv ?_; refine gE (gB ?_)
        refine GoH.loop (σ := Nat × Option Nat × Nat × List LV × List Value × Hl) (fun z => [(1, .slice A a.length cA), (2, .slice B b.length cB), (11, osv qy fy.length cy), (13, osv z.2.1 z.2.2.2.1.length z.2.2.1), (79, .slice B b.length cB), (80, .int .i64 b.length), (81, .int .i64 z.1)])
          (fun z => [(z.2.1, obL 40 z.2.2.2.1 z.2.2.2.2.1), (qy, obN 80 fy spy)] ++ z.2.2.2.2.2)
          (fun z => z.1 ≤ b.length ∧ (z.2.1 = none → z.2.2.2.1.length = 0 ∧ z.2.2.1 = 0) ∧ (z.2.2.2.1.flatMap LV.cells ++ z.2.2.2.2.1).length = z.2.2.1 * 5 ∧ z.2.2.2.1.map LV.d = a.map (mvL id) ++ (b.take z.1).map (mvL (fun y => y + a.length)) ∧ ∀ x ∈ z.2.2.2.1, x.f.In0 80 z.2.2.2.2.2 ∧ x.f.f.length ≤ maxLen)
          (fun z => b.length - z.1) (0, qo, co, os, spo, H) ⟨Nat.zero_le _, hqo, hco, by dsimp only; rw [hos]; simp, hin⟩ ⟨rfl, rfl, rfl, rfl, rfl, rfl, rfl, trivial⟩ (List.Sublist.refl _) (fun z hZ IH => ?_)
        clear hqo hco hos hin hol
        obtain ⟨k, qo, co, os, spo, H⟩ := z
        obtain ⟨hk, hqo, hco, hos, hin⟩ := hZ
        dsimp only at hk hqo hco hos hin IH ⊢
        have hol : os.length = a.length + k := by have := congrArg List.length hos; simp at this; omega
        refine gS (gR ?_); refine gBi bLt ?_; refine gE (gS ?_)
        refine gC (fun hc => ?_) fun hc => ?_
        ·
         have hlt : k < b.length := by simpa using hc
         obtain ⟨hga, hgl⟩ := hB.fs b[k] (List.getElem_mem hlt)
         have hln := line_nums (xb4 k hlt)
         refine gK (gS (gB (gS (gR ?_))))
         refine GoH.v (Vop.idxN rfl rfl rfl rfl rfl underlying22 sizeOf40 ⟨_, (hB).at_⟩ (flat_len (enc := LV.cells) (sz := 5) (fun _ => rfl)) (by decide) (k) ⟨rfl, hlt⟩) ?_
         refine GoH.v (Vop.ldN (cs := LV.cells b[k]) rfl rfl rfl rfl isAgg40 sizeOf40 (fun w _ hS => Sl.many (enc := LV.cells) (sz := 5) (hB.ex0 hS.ext).at_ (fun _ => rfl) hlt)) ?_
         refine GoH.alc rfl rfl rfl (fun _ => zeroValue40 _) (fun b17 => ?_)
         refine GoH.stB rfl rfl rfl rfl sizeOf40 0 rfl rfl rfl rfl ?_
         refine gE (gS (gR ?_)); refine gFp underlying40 sizeOf23 0 ?_; refine gLo isAgg23 0 ?_
         refine gM rfl rfl rfl rfl rfl call54 (fun w _ hS => (by exact rcompact_c b[k].f.a b[k].f.c b[k].f.f w (hga.ex0 hS.ext) hgl)) ?_
         rintro v w1 w2 Y' hS he ho
         rw [subF_top] at ho
         obtain ⟨qm, cm, spm, rfl, hqm, hcm, hS'⟩ := gainN hS he ho
         refine ⟨_, hS', ?_⟩
         refine gFp underlying40 sizeOf23 0 ?_
         refine GoH.st rfl rfl rfl rfl sizeOf23 rfl 1 rfl rfl ?_
         refine gE (gS (gS (gR ?_))); refine gFp underlying40 sizeOf3 1 ?_; refine gLo isAgg3 1 ?_; refine gBi bGe ?_; refine gE ?_
         refine gC (fun hc => ?_) fun hc => ?_
         ·
          have h10 : 10 ≤ b[k].r := by simpa using hc
          have hln1 := hln.1 h10
          refine gR ?_; refine gFp underlying40 sizeOf3 2 ?_; refine gLo isAgg3 1 ?_; refine gMv ?_; refine gBl underlying22 ?_; refine gBx rfl rfl rfl rfl (bAdd (by omega)) ?_; refine gFp underlying40 sizeOf3 2 ?_
          refine GoH.st rfl rfl rfl rfl sizeOf3 rfl 1 rfl rfl ?_
          refine gE (gS (gS (gR ?_))); refine gFp underlying40 sizeOf3 1 ?_; refine gLo isAgg3 1 ?_; refine gBi bEq ?_; refine gE ?_
          refine gC (fun hc => ?_) fun hc => ?_
          ·
           have e10 : b[k].r = 10 := by simpa using hc
           have hln2 := hln.2 e10
           refine gR ?_; refine gFp underlying40 sizeOf3 3 ?_; refine gLo isAgg3 1 ?_; refine gMv ?_; refine gBl underlying22 ?_; refine gBx rfl rfl rfl rfl (bAdd (by omega)) ?_; refine gFp underlying40 sizeOf3 3 ?_
           refine GoH.st rfl rfl rfl rfl sizeOf3 rfl 1 rfl rfl ?_
           refine gE (gR ?_); refine gMv ?_
           refine GoH.v (Vop.ldB rfl rfl rfl rfl isAgg40 1 rfl sizeOf40 rfl) ?_
           refine GoH.bsN (c := [_, _, _, _, _]) rfl rfl rfl rfl underlying22 sizeOf40 zeroValue40 rfl rfl (fun b109 => ?_)
           have hdt : LV.d ⟨⟨qm.map (fun b => ⟨b, 0, none⟩), cm, compF b[k].f.f⟩, b[k].r, b[k].a + a.length, b[k].b + a.length, b[k].g⟩ = mvL (fun y => y + a.length) b[k] := by unfold mvL LV.d; rw [if_pos h10, if_pos e10]
           refine GoH.appL (ls := os) (sp := spo) (q := qo) (nl := ⟨⟨qm.map (fun b => ⟨b, 0, none⟩), cm, compF b[k].f.f⟩, b[k].r, b[k].a + a.length, b[k].b + a.length, b[k].g⟩) rfl rfl rfl rfl rfl underlying22 hi3 hz3 hsz3 rfl hqo 3 rfl 0 rfl hco (by unfold maxLen; omega) (by rw [hby3]; omega) (fun b' sp' cap' hlen => ?_)
           refine gAs ?_; refine gE (gIb (gR ?_)); refine gBx rfl rfl rfl rfl (bAdd (by omega)) ?_; refine gMv ?_; refine gE ?_
           refine GoH.pickT (pre := [_, _, _, _, _]) (pre' := [(some b', obL 40 (os ++ [⟨⟨qm.map (fun b => ⟨b, 0, none⟩), cm, compF b[k].f.f⟩, b[k].r, b[k].a + a.length, b[k].b + a.length, b[k].g⟩]) sp'), (qy, obN 80 fy spy), (qm, obN 80 (compF b[k].f.f) spm)]) H [3, 4, 1] (by decide) rfl ?_
           refine IH (k + 1, some b', cap', os ++ [⟨⟨qm.map (fun b => ⟨b, 0, none⟩), cm, compF b[k].f.f⟩, b[k].r, b[k].a + a.length, b[k].b + a.length, b[k].g⟩], sp', (qm, obN 80 (compF b[k].f.f) spm) :: H) _ _ ⟨hlt, (fun e => by cases e), hlen, ?_, fun x hx => ?_⟩ (by dsimp only; omega) ⟨rfl, rfl, rfl, rfl, rfl, rfl, rfl, trivial⟩ (List.Sublist.refl _)
           · dsimp only; rw [List.map_append, hos, List.take_succ_eq_append_getElem hlt, List.map_append, List.append_assoc]; rw [show List.map (mvL (fun y => y + a.length)) [b[k]] = [mvL (fun y => y + a.length) b[k]] from rfl, ← hdt]; rfl
           · dsimp only at hx ⊢
             rcases List.mem_append.1 hx with hx | hx
             · exact ⟨(hin x hx).1.mono (List.subset_cons_self _ _), (hin x hx).2⟩
             · rw [List.mem_singleton.1 hx]; exact ⟨⟨qm, spm, List.mem_cons_self .., rfl, fun e => (hqm e).1⟩, by have := compF_le b[k].f.f; show (compF b[k].f.f).length ≤ maxLen; unfold maxLen; omega⟩
          ·
           have e10 : ¬ b[k].r = 10 := by simpa using hc
           refine gK (gR ?_); refine gMv ?_
           refine GoH.v (Vop.ldB rfl rfl rfl rfl isAgg40 1 rfl sizeOf40 rfl) ?_
           refine GoH.bsN (c := [_, _, _, _, _]) rfl rfl rfl rfl underlying22 sizeOf40 zeroValue40 rfl rfl (fun b109 => ?_)
           have hdt : LV.d ⟨⟨qm.map (fun b => ⟨b, 0, none⟩), cm, compF b[k].f.f⟩, b[k].r, b[k].a + a.length, b[k].b, b[k].g⟩ = mvL (fun y => y + a.length) b[k] := by unfold mvL LV.d; rw [if_pos h10, if_neg e10]
           refine GoH.appL (ls := os) (sp := spo) (q := qo) (nl := ⟨⟨qm.map (fun b => ⟨b, 0, none⟩), cm, compF b[k].f.f⟩, b[k].r, b[k].a + a.length, b[k].b, b[k].g⟩) rfl rfl rfl rfl rfl underlying22 hi3 hz3 hsz3 rfl hqo 3 rfl 0 rfl hco (by unfold maxLen; omega) (by rw [hby3]; omega) (fun b' sp' cap' hlen => ?_)
           refine gAs ?_; refine gE (gIb (gR ?_)); refine gBx rfl rfl rfl rfl (bAdd (by omega)) ?_; refine gMv ?_; refine gE ?_
           refine GoH.pickT (pre := [_, _, _, _, _]) (pre' := [(some b', obL 40 (os ++ [⟨⟨qm.map (fun b => ⟨b, 0, none⟩), cm, compF b[k].f.f⟩, b[k].r, b[k].a + a.length, b[k].b, b[k].g⟩]) sp'), (qy, obN 80 fy spy), (qm, obN 80 (compF b[k].f.f) spm)]) H [3, 4, 1] (by decide) rfl ?_
           refine IH (k + 1, some b', cap', os ++ [⟨⟨qm.map (fun b => ⟨b, 0, none⟩), cm, compF b[k].f.f⟩, b[k].r, b[k].a + a.length, b[k].b, b[k].g⟩], sp', (qm, obN 80 (compF b[k].f.f) spm) :: H) _ _ ⟨hlt, (fun e => by cases e), hlen, ?_, fun x hx => ?_⟩ (by dsimp only; omega) ⟨rfl, rfl, rfl, rfl, rfl, rfl, rfl, trivial⟩ (List.Sublist.refl _)
           · dsimp only; rw [List.map_append, hos, List.take_succ_eq_append_getElem hlt, List.map_append, List.append_assoc]; rw [show List.map (mvL (fun y => y + a.length)) [b[k]] = [mvL (fun y => y + a.length) b[k]] from rfl, ← hdt]; rfl
           · dsimp only at hx ⊢
             rcases List.mem_append.1 hx with hx | hx
             · exact ⟨(hin x hx).1.mono (List.subset_cons_self _ _), (hin x hx).2⟩
             · rw [List.mem_singleton.1 hx]; exact ⟨⟨qm, spm, List.mem_cons_self .., rfl, fun e => (hqm e).1⟩, by have := compF_le b[k].f.f; show (compF b[k].f.f).length ≤ maxLen; unfold maxLen; omega⟩
         ·
          have h10 : ¬ 10 ≤ b[k].r := by simpa using hc
          refine gK (gS (gS (gR ?_))); refine gFp underlying40 sizeOf3 1 ?_; refine gLo isAgg3 1 ?_; refine gBi bEq ?_; refine gE ?_
          refine GoH.cond rfl (fun hc => by exfalso; have e10 : b[k].r = 10 := by { simpa using hc }; omega) (fun _ => ?_)
          refine gK (gR ?_); refine gMv ?_
          refine GoH.v (Vop.ldB rfl rfl rfl rfl isAgg40 1 rfl sizeOf40 rfl) ?_
          refine GoH.bsN (c := [_, _, _, _, _]) rfl rfl rfl rfl underlying22 sizeOf40 zeroValue40 rfl rfl (fun b109 => ?_)
          have hdt : LV.d ⟨⟨qm.map (fun b => ⟨b, 0, none⟩), cm, compF b[k].f.f⟩, b[k].r, b[k].a, b[k].b, b[k].g⟩ = mvL (fun y => y + a.length) b[k] := by unfold mvL LV.d; rw [if_neg h10, if_neg (by omega)]
          refine GoH.appL (ls := os) (sp := spo) (q := qo) (nl := ⟨⟨qm.map (fun b => ⟨b, 0, none⟩), cm, compF b[k].f.f⟩, b[k].r, b[k].a, b[k].b, b[k].g⟩) rfl rfl rfl rfl rfl underlying22 hi3 hz3 hsz3 rfl hqo 3 rfl 0 rfl hco (by unfold maxLen; omega) (by rw [hby3]; omega) (fun b' sp' cap' hlen => ?_)
          refine gAs ?_; refine gE (gIb (gR ?_)); refine gBx rfl rfl rfl rfl (bAdd (by omega)) ?_; refine gMv ?_; refine gE ?_
          refine GoH.pickT (pre := [_, _, _, _, _]) (pre' := [(some b', obL 40 (os ++ [⟨⟨qm.map (fun b => ⟨b, 0, none⟩), cm, compF b[k].f.f⟩, b[k].r, b[k].a, b[k].b, b[k].g⟩]) sp'), (qy, obN 80 fy spy), (qm, obN 80 (compF b[k].f.f) spm)]) H [3, 4, 1] (by decide) rfl ?_
          refine IH (k + 1, some b', cap', os ++ [⟨⟨qm.map (fun b => ⟨b, 0, none⟩), cm, compF b[k].f.f⟩, b[k].r, b[k].a, b[k].b, b[k].g⟩], sp', (qm, obN 80 (compF b[k].f.f) spm) :: H) _ _ ⟨hlt, (fun e => by cases e), hlen, ?_, fun x hx => ?_⟩ (by dsimp only; omega) ⟨rfl, rfl, rfl, rfl, rfl, rfl, rfl, trivial⟩ (List.Sublist.refl _)
          · dsimp only; rw [List.map_append, hos, List.take_succ_eq_append_getElem hlt, List.map_append, List.append_assoc]; rw [show List.map (mvL (fun y => y + a.length)) [b[k]] = [mvL (fun y => y + a.length) b[k]] from rfl, ← hdt]; rfl
          · dsimp only at hx ⊢
            rcases List.mem_append.1 hx with hx | hx
            · exact ⟨(hin x hx).1.mono (List.subset_cons_self _ _), (hin x hx).2⟩
            · rw [List.mem_singleton.1 hx]; exact ⟨⟨qm, spm, List.mem_cons_self .., rfl, fun e => (hqm e).1⟩, by have := compF_le b[k].f.f; show (compF b[k].f.f).length ≤ maxLen; unfold maxLen; omega⟩
        ·
         have hge : ¬ k < b.length := by simpa using hc
         obtain rfl : k = b.length := by omega
         rw [List.take_length] at hos
         refine GoH.exit rfl (gS (gR ?_))
         iterate 3 refine gMv ?_
         refine gBl underlying22 ?_; refine gBx rfl rfl rfl rfl (bSub (by omega)) ?_; refine gMv ?_; refine gBl underlying22 ?_; refine gBx rfl rfl rfl rfl (bSub (by omega)) ?_
         refine GoH.v (Vop.bld rfl rfl rfl rfl (bld (c := [_, _, _, _, _]) underlying40 (Szs.cons sizeOf23 (Szs.cons sizeOf3 (Szs.cons sizeOf3 (Szs.cons sizeOf3 (Szs.cons sizeOf3 Szs.nil))))) zeroValue40 rfl)) ?_
         refine GoH.bsN (c := [_, _, _, _, _]) rfl rfl rfl rfl underlying22 sizeOf40 zeroValue40 rfl rfl (fun b121 => ?_)
         refine GoH.appL (ls := os) (sp := spo) (q := qo) (nl := ⟨⟨qy.map (fun b => ⟨b, 0, none⟩), cy, fy⟩, 10, (a.length : Int) - 1, (os.length : Int) - 1, 0⟩) rfl rfl rfl rfl rfl underlying22 hi3 hz3 hsz3 rfl hqo 1 rfl 0 rfl hco (by unfold maxLen; omega) (by rw [hby3]; omega) (fun b' sp' cap' hlen => ?_)
         iterate 2 refine gAs ?_
         refine gE ?_
         refine gT func33 fun w' hS => ?_
         refine ⟨hS.ext, _, _, by rw [hE]; rfl, ⟨some b', cap', sp', (qy, obN 80 fy spy) :: H, rfl, (fun e => by cases e), hlen, (NewH.of hS).sub (.cons _ (List.Sublist.refl _)), fun x hx => ?_⟩, fun _ => ?_, fun h => absurd hE h⟩
         · rcases List.mem_append.1 hx with hx | hx
           · exact ⟨(hin x hx).1.mono (List.subset_cons_self _ _), (hin x hx).2⟩
           · rw [List.mem_singleton.1 hx]; exact ⟨⟨qy, spy, List.mem_cons_self .., rfl, fun e => (hqy e).1⟩, bT_max hcY.eq⟩
         · rw [List.map_append, hos, joiL, hlT, show kdI (imT X1 Y1) = Y1 from rfl, ← hcY.eq]
           have : (os.length : Int) - 1 = (a.length : Int) + b.length - 1 := by omega
           rw [this]; rfl
end Go.Proofs.YtlihcmknfdckdaaDoor
namespace Go.Proofs.YtlihcmknfdckdaaDoor
open Go.RowKit Go.Proofs.Wit Tryd
set_option maxRecDepth 8000 in
theorem gsame49_c (A : Option Addr) (cA : Nat) (a : List LV) (B : Option Addr) (cB : Nat) (b : List LV) (w : World) (hA : LA w A a) (hB : LA w B b) (hl : a.length ≤ maxLen) (hd : a.map LV.d = b.map LV.d) :
    Cn Tryd.prog 31 [.slice A a.length cA, .slice B b.length cB] w (fun v _ => v = .bool true) := by
  have hlen := dat_len hd
  unfold maxLen at hl
  refine Cn.of func31 rfl rfl ?_
  refine gS (gR ?_); refine gAs ?_; refine gE (gS (gS (gR ?_))); refine gMv ?_; refine gBl underlying22 ?_; refine gMv ?_; refine gBl underlying22 ?_
  refine gBx rfl rfl rfl rfl (bNeV (v := false) (by rw [hlen]; exact bne_self_eq_false _)) ?_
  refine gE (GoH.condF rfl (gK (gS (gS (gR ?_))))); refine gMv ?_; refine gBl underlying22 ?_; refine gMv ?_; refine gE (gB ?_)
  refine GoH.loop (σ := Nat) (fun k => [(0, .slice A a.length cA), (1, .slice B b.length cB), (12, .int .i64 a.length), (13, .int .i64 k)]) (fun _ => []) (fun k => k ≤ a.length) (fun k => a.length - k) 0 (Nat.zero_le _) ⟨rfl, rfl, rfl, rfl, trivial⟩ (List.nil_sublist _) (fun k hk IH => ?_)
  refine gS (gR ?_); refine gBi bLt ?_; refine gE (gS ?_)
  refine gC (fun hc => ?_) fun hc => ?_
  ·
   have hka : k < a.length := by simpa using hc
   have hkb : k < b.length := by omega
   have e := dat_at hd hka hkb
   have ef : a[k].f.f = b[k].f.f := congrArg LD.f e
   have er : a[k].r = b[k].r := congrArg LD.r e
   have ea : a[k].a = b[k].a := congrArg LD.a e
   have eb : a[k].b = b[k].b := congrArg LD.b e
   have eg : a[k].g = b[k].g := congrArg LD.g e
   obtain ⟨hfa, hfal⟩ := hA.fs a[k] (List.getElem_mem hka)
   obtain ⟨hfb, hfbl⟩ := hB.fs b[k] (List.getElem_mem hkb)
   refine gK (gS (gB (gS (gR ?_)))); refine gMv ?_; refine gAs ?_; refine gE (gS ?_)
   refine GoH.draw 64 mixed rfl ?_
   iterate 2 refine rMv ?_
   refine RdGo.v (Vop.idxN rfl rfl rfl rfl rfl underlying22 sizeOf40 ⟨_, (hA).at_⟩ (flat_len (enc := LV.cells) (sz := 5) (fun _ => rfl)) (by decide) (k) ⟨rfl, hka⟩) ?_
   refine RdGo.v (Vop.fldA rfl rfl rfl rfl underlying40 rfl sizeOf3 ((k) * 5 + 1) rfl) ?_
   refine RdGo.v (Vop.ld rfl rfl rfl rfl isAgg3 (fun w _ hS => Sl.fld (enc := LV.cells) (sz := 5) ((hA).ex0 hS.ext).at_ (fun _ => rfl) hka rfl)) ?_
   iterate 2 refine rMv ?_
   refine RdGo.v (Vop.idxN rfl rfl rfl rfl rfl underlying22 sizeOf40 ⟨_, (hB).at_⟩ (flat_len (enc := LV.cells) (sz := 5) (fun _ => rfl)) (by decide) (k) ⟨rfl, hkb⟩) ?_
   refine RdGo.v (Vop.fldA rfl rfl rfl rfl underlying40 rfl sizeOf3 ((k) * 5 + 1) rfl) ?_
   refine RdGo.v (Vop.ld rfl rfl rfl rfl isAgg3 (fun w _ hS => Sl.fld (enc := LV.cells) (sz := 5) ((hB).ex0 hS.ext).at_ (fun _ => rfl) hkb rfl)) ?_
   refine RdGo.v (Vop.bin rfl rfl rfl rfl (bNeV (v := false) (by rw [er]; exact bne_self_eq_false _)) rfl) ?_
   iterate 3 refine rMv ?_
   refine RdGo.v (Vop.idxN rfl rfl rfl rfl rfl underlying22 sizeOf40 ⟨_, (hA).at_⟩ (flat_len (enc := LV.cells) (sz := 5) (fun _ => rfl)) (by decide) (k) ⟨rfl, hka⟩) ?_
   refine RdGo.v (Vop.fldA rfl rfl rfl rfl underlying40 rfl sizeOf3 ((k) * 5 + 2) rfl) ?_
   refine RdGo.v (Vop.ld rfl rfl rfl rfl isAgg3 (fun w _ hS => Sl.fld (enc := LV.cells) (sz := 5) ((hA).ex0 hS.ext).at_ (fun _ => rfl) hka rfl)) ?_
   iterate 2 refine rMv ?_
   refine RdGo.v (Vop.idxN rfl rfl rfl rfl rfl underlying22 sizeOf40 ⟨_, (hB).at_⟩ (flat_len (enc := LV.cells) (sz := 5) (fun _ => rfl)) (by decide) (k) ⟨rfl, hkb⟩) ?_
   refine RdGo.v (Vop.fldA rfl rfl rfl rfl underlying40 rfl sizeOf3 ((k) * 5 + 2) rfl) ?_
   refine RdGo.v (Vop.ld rfl rfl rfl rfl isAgg3 (fun w _ hS => Sl.fld (enc := LV.cells) (sz := 5) ((hB).ex0 hS.ext).at_ (fun _ => rfl) hkb rfl)) ?_
   refine RdGo.v (Vop.bin rfl rfl rfl rfl (bNeV (v := false) (by rw [ea]; exact bne_self_eq_false _)) rfl) ?_
   refine rPf ?_
   iterate 3 refine rMv ?_
   refine RdGo.v (Vop.idxN rfl rfl rfl rfl rfl underlying22 sizeOf40 ⟨_, (hA).at_⟩ (flat_len (enc := LV.cells) (sz := 5) (fun _ => rfl)) (by decide) (k) ⟨rfl, hka⟩) ?_
   refine RdGo.v (Vop.fldA rfl rfl rfl rfl underlying40 rfl sizeOf3 ((k) * 5 + 3) rfl) ?_
   refine RdGo.v (Vop.ld rfl rfl rfl rfl isAgg3 (fun w _ hS => Sl.fld (enc := LV.cells) (sz := 5) ((hA).ex0 hS.ext).at_ (fun _ => rfl) hka rfl)) ?_
   iterate 2 refine rMv ?_
   refine RdGo.v (Vop.idxN rfl rfl rfl rfl rfl underlying22 sizeOf40 ⟨_, (hB).at_⟩ (flat_len (enc := LV.cells) (sz := 5) (fun _ => rfl)) (by decide) (k) ⟨rfl, hkb⟩) ?_
   refine RdGo.v (Vop.fldA rfl rfl rfl rfl underlying40 rfl sizeOf3 ((k) * 5 + 3) rfl) ?_
   refine RdGo.v (Vop.ld rfl rfl rfl rfl isAgg3 (fun w _ hS => Sl.fld (enc := LV.cells) (sz := 5) ((hB).ex0 hS.ext).at_ (fun _ => rfl) hkb rfl)) ?_
   refine RdGo.v (Vop.bin rfl rfl rfl rfl (bNeV (v := false) (by rw [eb]; exact bne_self_eq_false _)) rfl) ?_
   refine rPf ?_
   iterate 3 refine rMv ?_
   refine RdGo.v (Vop.idxN rfl rfl rfl rfl rfl underlying22 sizeOf40 ⟨_, (hA).at_⟩ (flat_len (enc := LV.cells) (sz := 5) (fun _ => rfl)) (by decide) (k) ⟨rfl, hka⟩) ?_
   refine RdGo.v (Vop.fldA rfl rfl rfl rfl underlying40 rfl sizeOf3 ((k) * 5 + 4) rfl) ?_
   refine RdGo.v (Vop.ld rfl rfl rfl rfl isAgg3 (fun w _ hS => Sl.fld (enc := LV.cells) (sz := 5) ((hA).ex0 hS.ext).at_ (fun _ => rfl) hka rfl)) ?_
   iterate 2 refine rMv ?_
   refine RdGo.v (Vop.idxN rfl rfl rfl rfl rfl underlying22 sizeOf40 ⟨_, (hB).at_⟩ (flat_len (enc := LV.cells) (sz := 5) (fun _ => rfl)) (by decide) (k) ⟨rfl, hkb⟩) ?_
   refine RdGo.v (Vop.fldA rfl rfl rfl rfl underlying40 rfl sizeOf3 ((k) * 5 + 4) rfl) ?_
   refine RdGo.v (Vop.ld rfl rfl rfl rfl isAgg3 (fun w _ hS => Sl.fld (enc := LV.cells) (sz := 5) ((hB).ex0 hS.ext).at_ (fun _ => rfl) hkb rfl)) ?_
   refine RdGo.v (Vop.bin rfl rfl rfl rfl (bNeV (v := false) (by rw [eg]; exact bne_self_eq_false _)) rfl) ?_
   refine rPf ?_
   iterate 3 refine rMv ?_
   refine RdGo.v (Vop.idxN rfl rfl rfl rfl rfl underlying22 sizeOf40 ⟨_, (hA).at_⟩ (flat_len (enc := LV.cells) (sz := 5) (fun _ => rfl)) (by decide) (k) ⟨rfl, hka⟩) ?_
   refine RdGo.v (Vop.fldA rfl rfl rfl rfl underlying40 rfl sizeOf23 ((k) * 5 + 0) rfl) ?_
   refine RdGo.v (Vop.ld rfl rfl rfl rfl isAgg23 (fun w _ hS => Sl.fld (enc := LV.cells) (sz := 5) ((hA).ex0 hS.ext).at_ (fun _ => rfl) hka rfl)) ?_
   iterate 2 refine rMv ?_
   refine RdGo.v (Vop.idxN rfl rfl rfl rfl rfl underlying22 sizeOf40 ⟨_, (hB).at_⟩ (flat_len (enc := LV.cells) (sz := 5) (fun _ => rfl)) (by decide) (k) ⟨rfl, hkb⟩) ?_
   refine RdGo.v (Vop.fldA rfl rfl rfl rfl underlying40 rfl sizeOf23 ((k) * 5 + 0) rfl) ?_
   refine RdGo.v (Vop.ld rfl rfl rfl rfl isAgg23 (fun w _ hS => Sl.fld (enc := LV.cells) (sz := 5) ((hB).ex0 hS.ext).at_ (fun _ => rfl) hkb rfl)) ?_
   refine RdGo.callP rfl rfl rfl rfl rfl (fun _ _ => call67 _ _) (fun w _ hS => (by exact rEqual_c a[k].f.a a[k].f.c a[k].f.f b[k].f.a b[k].f.c b[k].f.f w (hfa.ex0 hS.ext) (hfb.ex0 hS.ext) hfal)) ?_
   rw [decide_eq_true ef]
   refine rUn uNot ?_; refine rPf ?_
   refine RdGo.nil ?_
   refine gE (GoH.condF rfl (gK (gIb (gR ?_)))); refine gBx rfl rfl rfl rfl (bAdd (by omega)) ?_; refine gMv ?_; refine gE ?_
   exact IH (k + 1) _ _ hka (by omega) ⟨rfl, rfl, rfl, rfl, trivial⟩ (List.nil_sublist _)
  ·
   skip
   refine GoH.exit rfl (gS (gR ?_))
   refine gAs ?_; refine gE ?_
   refine gT func31 fun w' hS => ?_
   exact ⟨hS.ext, rfl⟩
end Go.Proofs.YtlihcmknfdckdaaDoor
