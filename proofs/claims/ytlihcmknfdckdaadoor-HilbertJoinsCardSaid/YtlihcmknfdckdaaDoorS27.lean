/- What calls of the program return, under the conditions that each theorem states. -/
import Derived.Test.YtlihcmknfdckdaaDoorS25
import Derived.Test.YtlihcmknfdckdaaDoorS21
import Derived.Test.YtlihcmknfdckdaaDoorS26
import Derived.Test.YtlihcmknfdckdaaDoorS02
import Derived.Test.YtlihcmknfdckdaaDoorS04
import Derived.Test.YtlihcmknfdckdaaDoorS16
import Derived.Test.YtlihcmknfdckdaaDoorS14
namespace Go.Proofs.YtlihcmknfdckdaaDoor
open Go.RowKit Go.Proofs.Wit Tryd
/-! tautologies: the program -/
theorem isProp_c (op : Int) (w : World) : Cn Tryd.prog 186 [.int .i64 op] w (fun v _ => v = .bool (decide (op ≤ 8))) := by
 refine Cn.of func186 rfl rfl ?_
 refine gS (gR ?_); refine gAs ?_; refine gE (gS (gR ?_)); refine gMv ?_; refine gBi bLe ?_; refine gAs ?_; refine gE ?_
 refine gT func186 fun w' hS => ?_
 exact ⟨hS.ext, rfl⟩
theorem comb_c (op : Int) (x y : Bool) (w : World) : Cn Tryd.prog 187 [.int .i64 op, .bool x, .bool y] w (fun v _ => v = .bool (cmbB op x y)) := by
  refine Cn.of func187 rfl rfl ?_
  refine gS (gR ?_); refine gAs ?_; refine gE (gS (gS (gR ?_))); refine gMv ?_; refine gE (gB (gS (gR ?_))); refine gBi bEq ?_; refine gAs ?_; refine gE ?_
  refine gC (fun hc => ?_) fun hc => ?_
  ·
   have h1 : op = 1 := by simpa using hc
   refine gS (gR ?_); refine gAs ?_; refine gE ?_
   refine gT func187 fun w' hS => ?_
   exact ⟨hS.ext, by rw [h1]; rfl⟩
  ·
   have h1 : ¬ op = 1 := by simpa using hc
   refine gS (gR ?_); refine gBi bEq ?_; refine gAs ?_; refine gE ?_
   refine gC (fun hc => ?_) fun hc => ?_
   ·
    have h4 : op = 4 := by simpa using hc
    refine gS (gR ?_); refine gMv ?_; refine gUn uNot ?_; refine gAs ?_; refine gE ?_
    refine gT func187 fun w' hS => ?_
    exact ⟨hS.ext, by rw [h4]; rfl⟩
   ·
    have h4 : ¬ op = 4 := by simpa using hc
    refine gS (gR ?_); refine gBi bEq ?_; refine gAs ?_; refine gE ?_
    refine gC (fun hc => ?_) fun hc => ?_
    ·
     have h5 : op = 5 := by simpa using hc
     refine gS (gR ?_)
     iterate 2 refine gMv ?_
     refine gCs 17 (fun hc => ?_) fun hc => ?_
     ·
      have hx : x = true := hc
      refine gMv ?_; refine gPt ?_; refine gAs ?_; refine gE ?_
      refine gT func187 fun w' hS => ?_
      exact ⟨hS.ext, by rw [h5, hx]; rfl⟩
     ·
      have hx : x = false := hc
      refine gNo ?_; refine gPf ?_; refine gAs ?_; refine gE ?_
      refine gT func187 fun w' hS => ?_
      exact ⟨hS.ext, by rw [h5, hx]; rfl⟩
    ·
     have h5 : ¬ op = 5 := by simpa using hc
     refine gS (gR ?_); refine gBi bEq ?_; refine gAs ?_; refine gE ?_
     refine gC (fun hc => ?_) fun hc => ?_
     ·
      have h6 : op = 6 := by simpa using hc
      refine gS (gR ?_)
      iterate 2 refine gMv ?_
      refine gCs 23 (fun hc => ?_) fun hc => ?_
      ·
       have hx : x = true := hc
       refine gNo ?_; refine gPt ?_; refine gAs ?_; refine gE ?_
       refine gT func187 fun w' hS => ?_
       exact ⟨hS.ext, by rw [h6, hx]; rfl⟩
      ·
       have hx : x = false := hc
       refine gMv ?_; refine gPf ?_; refine gAs ?_; refine gE ?_
       refine gT func187 fun w' hS => ?_
       exact ⟨hS.ext, by rw [h6, hx]; rfl⟩
     ·
      have h6 : ¬ op = 6 := by simpa using hc
      refine gS (gR ?_); refine gBi bEq ?_; refine gAs ?_; refine gE ?_
      refine gC (fun hc => ?_) fun hc => ?_
      ·
       have h7 : op = 7 := by simpa using hc
       refine gS (gR ?_); refine gMv ?_; refine gUn uNot ?_; refine gMv ?_
       refine gCs 30 (fun hc => ?_) fun hc => ?_
       ·
        have hx : x = false := by simpa using hc
        refine gNo ?_; refine gPt ?_; refine gAs ?_; refine gE ?_
        refine gT func187 fun w' hS => ?_
        exact ⟨hS.ext, by rw [h7, hx]; rfl⟩
       ·
        have hx : x = true := by simpa using hc
        refine gMv ?_; refine gPf ?_; refine gAs ?_; refine gE ?_
        refine gT func187 fun w' hS => ?_
        exact ⟨hS.ext, by rw [h7, hx]; rfl⟩
      ·
       have h7 : ¬ op = 7 := by simpa using hc
       refine gS (gR ?_); refine gBi bEq ?_; refine gAs ?_; refine gE ?_
       refine gC (fun hc => ?_) fun hc => ?_
       ·
        have h8 : op = 8 := by simpa using hc
        refine gS (gR ?_)
        iterate 2 refine gMv ?_
        refine gBx rfl rfl rfl rfl (bEqB underlying4) ?_; refine gAs ?_; refine gE ?_
        refine gT func187 fun w' hS => ?_
        exact ⟨hS.ext, by rw [h8]; rfl⟩
       ·
        have h8 : ¬ op = 8 := by simpa using hc
        refine gK (gIb (gS (gR ?_))); refine gAs ?_; refine gE ?_
        refine gT func187 fun w' hS => ?_
        exact ⟨hS.ext, by rw [cmbB, if_neg h1, if_neg h4, if_neg h5, if_neg h6, if_neg h7, if_neg h8]; rfl⟩
theorem infoBb : (Tryd.prog.info? 4).map (fun i => (i.zero, i.size, i.bytes)) = some (some (Value.bool false), 1, 1) := by kernel_rfl
set_option maxRecDepth 8000 in
theorem bvalue_c (a : Option Addr) (ca : Nat) (c : List NV) (bq bz : Nat) (lf : Nat → Bool) (w : World) (ha : FA w a c) (hC : CanF c)
    (hleaf : ∀ w', Ex [] w w' → ∀ i : Nat, i < c.length → Cn Tryd.prog 183 [.int .i64 i, .pointer (some ⟨bq, 0, none⟩), .pointer (some ⟨bz, 0, none⟩)] w' (fun v _ => v = .bool (lf i))) :
    Cn Tryd.prog 182 [.slice a c.length ca, .func (.func 183) #[] #[.pointer (some ⟨bq, 0, none⟩), .pointer (some ⟨bz, 0, none⟩)]] w (fun v _ => v = .bool (evB (rT c lf) (topT c))) := by
  obtain ⟨i1, hi1, hz1, hsz1, hby1⟩ := info_parts infoBb
  have hO := hC.nodes
  have hcl := hC.len
  have hcp : 0 < c.length := (chkF_zero.1 hC.chk).pos
  obtain ⟨VS, hVS⟩ : ∃ VS : Nat → Bool, VS = fun k => evB (rT c lf) (treeAt c k) := ⟨_, rfl⟩
  refine Cn.of func182 rfl rfl ?_
  refine gS (gR ?_); refine gAs ?_; refine gE (gS (gR ?_)); refine gMv ?_; refine gBl underlying23 ?_
  refine GoH.mkE Value.bool false rfl rfl rfl rfl rfl underlying85 hi1 hz1 rfl hsz1 (by rw [hby1]; omega) (by unfold maxLen; omega) (fun b5 => ?_)
  refine gAs ?_; refine gE (gS (gS (gR ?_))); refine gMv ?_; refine gBl underlying23 ?_; refine gMv ?_; refine gE (gB ?_)
  refine GoH.loop (σ := Nat) (fun k => [(0, .slice a c.length ca), (1, .func (.func 183) #[] #[.pointer (some ⟨bq, 0, none⟩), .pointer (some ⟨bz, 0, none⟩)]), (5, .slice (some ⟨b5, 0, none⟩) (prt c.length VS false k).length c.length), (11, .slice a c.length ca), (12, .int .i64 c.length), (13, .int .i64 k)])
    (fun k => [(some b5, ob Value.bool 4 (prt c.length VS false k) [])]) (fun k => k ≤ c.length) (fun k => c.length - k) 0 (Nat.zero_le _) ⟨rfl, rfl, by rw [prt_len]; rfl, rfl, rfl, rfl, trivial⟩ (by rw [prt_zero]; exact List.Sublist.refl _) (fun k hI IH => ?_)
  refine gS (gR ?_); refine gBi bLt ?_; refine gE (gS ?_)
  refine gC (fun hc => ?_) fun hc => ?_
  ·
   have hlt : k < c.length := by simpa using hc
   have hok := hO k hlt
   have hop := hok.op
   have hlk : k < (prt c.length VS false k).length := by rw [prt_len]; exact hlt
   refine gK (gS (gB (gS (gR ?_)))); refine gMv ?_
   refine GoH.v (Vop.idxN rfl rfl rfl rfl rfl underlying23 sizeOf80 ⟨_, (ha).at_⟩ (flat_len (enc := NV.cells) (sz := 6) (fun _ => rfl)) (by decide) (k) ⟨rfl, hlt⟩) ?_
   refine GoH.v (Vop.ldN (cs := NV.cells c[k]) rfl rfl rfl rfl isAgg80 sizeOf80 (fun w _ hS => Sl.many (enc := NV.cells) (sz := 6) (ha.ex0 hS.ext).at_ (fun _ => rfl) hlt)) ?_
   refine GoH.alc rfl rfl rfl (fun _ => zeroValue80 _) (fun b7 => ?_)
   refine gAs ?_
   refine GoH.stB rfl rfl rfl rfl sizeOf80 0 rfl rfl rfl rfl ?_
   refine gE (gS (gR ?_)); refine gFp underlying80 sizeOf3 0 ?_; refine gLo isAgg3 0 ?_; refine gBi bEq ?_; refine gMv ?_
   refine gCs 21 (fun hc => ?_) fun hc => ?_
   ·
    have h3 : c[k].op = 3 := by simpa using hc
    have hlf : lfB c[k].op = true := by rw [h3]; rfl
    have hv : VS k = lf k := by rw [hVS]; exact (ev_leaf hlt hO hlf).trans (rT_at hC hlt)
    iterate 4 refine gNo ?_
    refine gPt ?_; refine gE (GoH.condT rfl (gR ?_))
    iterate 4 refine gMv ?_
    refine GoH.callCP (fs := []) (cs := [.pointer (some ⟨bq, 0, none⟩), .pointer (some ⟨bz, 0, none⟩)]) rfl rfl rfl rfl rfl (fun _ _ => call183 _ _) (fun w _ hS => (hleaf w hS.ext k hlt)) ?_
    refine GoH.v (Vop.idxS rfl rfl rfl rfl rfl underlying85 sizeOf4 (k) ⟨rfl, hlk⟩) ?_
    refine GoH.stE Value.bool _ rfl rfl rfl rfl sizeOf4 rfl 1 rfl hlk ?_
    refine gE (gIb (gR ?_)); refine gBx rfl rfl rfl rfl (bAdd (by omega)) ?_; refine gMv ?_; refine gE ?_
    exact IH (k + 1) _ _ hlt (by omega) ⟨rfl, rfl, by simp only [prt_len]; rfl, rfl, rfl, rfl, trivial⟩ (by rw [← hv, prt_set hlt]; exact .cons _ (List.Sublist.refl _))
   ·
    have h3 : ¬ c[k].op = 3 := by simpa using hc
    refine gFp underlying80 sizeOf3 0 ?_; refine gLo isAgg3 0 ?_
    refine gP rfl rfl rfl rfl rfl call186 (fun w _ hS => (by exact isProp_c c[k].op w)) ?_
    refine gUn uNot ?_; refine gPf ?_; refine gE ?_
    refine gC (fun hc => ?_) fun hc => ?_
    ·
     have h8 : ¬ c[k].op ≤ 8 := by simpa using hc
     have hlf : lfB c[k].op = true := by unfold lfB; simp; omega
     have hv : VS k = lf k := by rw [hVS]; exact (ev_leaf hlt hO hlf).trans (rT_at hC hlt)
     refine gR ?_
     iterate 4 refine gMv ?_
     refine GoH.callCP (fs := []) (cs := [.pointer (some ⟨bq, 0, none⟩), .pointer (some ⟨bz, 0, none⟩)]) rfl rfl rfl rfl rfl (fun _ _ => call183 _ _) (fun w _ hS => (hleaf w hS.ext k hlt)) ?_
     refine GoH.v (Vop.idxS rfl rfl rfl rfl rfl underlying85 sizeOf4 (k) ⟨rfl, hlk⟩) ?_
     refine GoH.stE Value.bool _ rfl rfl rfl rfl sizeOf4 rfl 1 rfl hlk ?_
     refine gE (gIb (gR ?_)); refine gBx rfl rfl rfl rfl (bAdd (by omega)) ?_; refine gMv ?_; refine gE ?_
     exact IH (k + 1) _ _ hlt (by omega) ⟨rfl, rfl, by simp only [prt_len]; rfl, rfl, rfl, rfl, trivial⟩ (by rw [← hv, prt_set hlt]; exact .cons _ (List.Sublist.refl _))
    ·
     have h8 : c[k].op ≤ 8 := by simpa using hc
     have hlf : lfB c[k].op = false := by unfold lfB; simp; omega
     obtain ⟨kx, hkx⟩ : ∃ j : Nat, c[k].x = (j : Int) := ⟨c[k].x.toNat, by
       cases hX : usX c[k].op with
       | false => have := hok.x0 hX; omega
       | true => have := hok.x hX; omega⟩
     obtain ⟨ky, hky⟩ : ∃ j : Nat, c[k].y = (j : Int) := ⟨c[k].y.toNat, by
       cases hY : usY c[k].op with
       | false => have := hok.y0 hY; omega
       | true => have := hok.y hY; omega⟩
     have hlx : kx < c.length := by
       cases hX : usX c[k].op with
       | false => have := hok.x0 hX; omega
       | true => have := hok.x hX; omega
     have hly : ky < c.length := by
       cases hY : usY c[k].op with
       | false => have := hok.y0 hY; omega
       | true => have := hok.y hY; omega
     have etx : c[k].x.toNat = kx := by omega
     have ety : c[k].y.toNat = ky := by omega
     have hfx : kx < (prt c.length VS false k).length := by rw [prt_len]; exact hlx
     have hfy : ky < (prt c.length VS false k).length := by rw [prt_len]; exact hly
     have hv : cmbB c[k].op ((prt c.length VS false k).getD kx false) ((prt c.length VS false k).getD ky false) = VS k := by
       rw [hVS]
       refine ev_node hlt hO hlf (fun hX => ?_) (fun hY => ?_)
       · have := hok.x hX; rw [etx, prt_get (by omega) hlx]
       · have := hok.y hY; rw [ety, prt_get (by omega) hly]
     refine GoH.drawQ 18 16 [] mixed ?_
     refine RdQ.v (i := 0) (Vop.mv rfl rfl rfl rfl) (List.nil_sublist _) rfl rfl rfl rfl (by repeat (first | exact List.Sublist.refl _ | exact List.nil_sublist _ | refine List.Sublist.cons_cons _ ?_ | refine List.Sublist.cons _ ?_)) ?_
     refine RdQ.v (i := 1) (Vop.mv rfl rfl rfl rfl) (List.nil_sublist _) rfl rfl rfl rfl (by repeat (first | exact List.Sublist.refl _ | exact List.nil_sublist _ | refine List.Sublist.cons_cons _ ?_ | refine List.Sublist.cons _ ?_)) ?_
     refine RdQ.v (i := 2) (Vop.fldP rfl rfl rfl rfl underlying80 rfl (by exact sizeOf3) 0 rfl) (List.nil_sublist _) rfl rfl rfl rfl (by repeat (first | exact List.Sublist.refl _ | exact List.nil_sublist _ | refine List.Sublist.cons_cons _ ?_ | refine List.Sublist.cons _ ?_)) ?_
     refine RdQ.v (i := 3) (Vop.ldo rfl rfl rfl rfl isAgg3 0 rfl rfl) (List.nil_sublist _) rfl rfl rfl rfl (by repeat (first | exact List.Sublist.refl _ | exact List.nil_sublist _ | refine List.Sublist.cons_cons _ ?_ | refine List.Sublist.cons _ ?_)) ?_
     refine RdQ.v (i := 4) (Vop.mv rfl rfl rfl rfl) (List.nil_sublist _) rfl rfl rfl rfl (by repeat (first | exact List.Sublist.refl _ | exact List.nil_sublist _ | refine List.Sublist.cons_cons _ ?_ | refine List.Sublist.cons _ ?_)) ?_
     refine RdQ.v (i := 5) (Vop.fldP rfl rfl rfl rfl underlying80 rfl (by exact sizeOf3) 4 rfl) (List.nil_sublist _) rfl rfl rfl rfl (by repeat (first | exact List.Sublist.refl _ | exact List.nil_sublist _ | refine List.Sublist.cons_cons _ ?_ | refine List.Sublist.cons _ ?_)) ?_
     refine RdQ.v (i := 6) (Vop.ldo rfl rfl rfl rfl isAgg3 0 rfl rfl) (List.nil_sublist _) rfl rfl rfl rfl (by repeat (first | exact List.Sublist.refl _ | exact List.nil_sublist _ | refine List.Sublist.cons_cons _ ?_ | refine List.Sublist.cons _ ?_)) ?_
     refine RdQ.v (i := 7) (Vop.idxS rfl rfl rfl rfl rfl underlying85 sizeOf4 (kx) ⟨hkx, hfx⟩) (List.nil_sublist _) rfl rfl rfl rfl (by repeat (first | exact List.Sublist.refl _ | exact List.nil_sublist _ | refine List.Sublist.cons_cons _ ?_ | refine List.Sublist.cons _ ?_)) ?_
     refine RdQ.v (i := 8) (Vop.ldE Value.bool false rfl rfl rfl rfl isAgg4 1 rfl hfx) (List.nil_sublist _) rfl rfl rfl rfl (by repeat (first | exact List.Sublist.refl _ | exact List.nil_sublist _ | refine List.Sublist.cons_cons _ ?_ | refine List.Sublist.cons _ ?_)) ?_
     refine RdQ.v (i := 9) (Vop.mv rfl rfl rfl rfl) (List.nil_sublist _) rfl rfl rfl rfl (by repeat (first | exact List.Sublist.refl _ | exact List.nil_sublist _ | refine List.Sublist.cons_cons _ ?_ | refine List.Sublist.cons _ ?_)) ?_
     refine RdQ.v (i := 10) (Vop.fldP rfl rfl rfl rfl underlying80 rfl (by exact sizeOf3) 5 rfl) (List.nil_sublist _) rfl rfl rfl rfl (by repeat (first | exact List.Sublist.refl _ | exact List.nil_sublist _ | refine List.Sublist.cons_cons _ ?_ | refine List.Sublist.cons _ ?_)) ?_
     refine RdQ.v (i := 11) (Vop.ldo rfl rfl rfl rfl isAgg3 0 rfl rfl) (List.nil_sublist _) rfl rfl rfl rfl (by repeat (first | exact List.Sublist.refl _ | exact List.nil_sublist _ | refine List.Sublist.cons_cons _ ?_ | refine List.Sublist.cons _ ?_)) ?_
     refine RdQ.v (i := 12) (Vop.idxS rfl rfl rfl rfl rfl underlying85 sizeOf4 (ky) ⟨hky, hfy⟩) (List.nil_sublist _) rfl rfl rfl rfl (by repeat (first | exact List.Sublist.refl _ | exact List.nil_sublist _ | refine List.Sublist.cons_cons _ ?_ | refine List.Sublist.cons _ ?_)) ?_
     refine RdQ.v (i := 13) (Vop.ldE Value.bool false rfl rfl rfl rfl isAgg4 1 rfl hfy) (List.nil_sublist _) rfl rfl rfl rfl (by repeat (first | exact List.Sublist.refl _ | exact List.nil_sublist _ | refine List.Sublist.cons_cons _ ?_ | refine List.Sublist.cons _ ?_)) ?_
     refine RdQ.callP (i := 14) rfl rfl rfl rfl rfl rfl (fun _ _ => call187 _ _) (fun w _ hS => (by exact comb_c c[k].op _ _ w)) (by rw [cur_before rfl]; repeat (first | exact List.Sublist.refl _ | exact List.nil_sublist _ | refine List.Sublist.cons_cons _ ?_ | refine List.Sublist.cons _ ?_)) ?_
     refine RdQ.v (i := 15) (Vop.idxS rfl rfl rfl rfl rfl underlying85 sizeOf4 (k) ⟨rfl, hlk⟩) (List.nil_sublist _) rfl rfl rfl rfl (by repeat (first | exact List.Sublist.refl _ | exact List.nil_sublist _ | refine List.Sublist.cons_cons _ ?_ | refine List.Sublist.cons _ ?_)) ?_
     refine RdQ.stE (i := 16) Value.bool _ rfl rfl rfl rfl rfl sizeOf4 rfl 1 rfl hlk (by rw [cur_after rfl]; exact List.nil_sublist _) ?_
     refine RdQ.done rfl ?_
     refine gE (gIb (gR ?_)); refine gBx rfl rfl rfl rfl (bAdd (by omega)) ?_; refine gMv ?_; refine gE ?_
     exact IH (k + 1) _ _ hlt (by omega) ⟨rfl, rfl, by simp only [prt_len]; rfl, rfl, rfl, rfl, trivial⟩ (by rw [hv, prt_set hlt]; exact .cons _ (List.Sublist.refl _))
  ·
   have hge : ¬ k < c.length := by simpa using hc
   obtain rfl : k = c.length := by omega
   have hl1 : c.length - 1 < (prt c.length VS false c.length).length := by rw [prt_len]; omega
   refine GoH.exit rfl (gS (gR ?_))
   iterate 2 refine gMv ?_
   refine gBl underlying23 ?_
   refine gBx rfl rfl rfl rfl (bSubE (c := ((c.length - 1 : Nat) : Int)) (by omega) (by omega)) ?_
   refine GoH.v (Vop.idxS rfl rfl rfl rfl rfl underlying85 sizeOf4 (c.length - 1) ⟨rfl, hl1⟩) ?_
   refine GoH.v (Vop.ldE Value.bool false rfl rfl rfl rfl isAgg4 0 rfl hl1) ?_
   refine gAs ?_; refine gE ?_
   refine gT func182 fun w' hS => ?_
   exact ⟨hS.ext, by rw [prt_get (by omega) (by omega), hVS, topT_treeAt]; rfl⟩
theorem tau1_c (i : Nat) (b10 b7 bn : Nat) (v n : Nat) (nums : List Int) (w : World) (h10 : w.heap[b10]? = some (.cells #[.int .i64 (v : Int)] 3 (0, 0))) (h7 : w.heap[b7]? = some (.cells #[.slice (some ⟨bn, 0, none⟩) n n] 70 (0, 0)))
  (hb : SlI w (some ⟨bn, 0, none⟩) nums) (hn : nums.length = n) (hi : i < n) (hv : v < 1024) (hk : 0 ≤ nums.getD i 0 ∧ nums.getD i 0 ≤ 64) :
  Cn Tryd.prog 183 [.int .i64 i, .pointer (some ⟨b10, 0, none⟩), .pointer (some ⟨b7, 0, none⟩)] w (fun u _ => u = .bool (v.testBit (nums.getD i 0).toNat)) := by
 have HA : ∀ {w' : World} {j : Nat} {u : Value}, Ex [] w w' → (#[Value.int .i64 (v : Int)] : Array Value)[j]? = some u → w'.cell? ⟨b10, j, none⟩ = some u := fun e h => Ex.cell e h10 h
 have HB : ∀ {w' : World} {j : Nat} {u : Value}, Ex [] w w' → (#[Value.slice (some ⟨bn, 0, none⟩) n n] : Array Value)[j]? = some u → w'.cell? ⟨b7, j, none⟩ = some u := fun e h => Ex.cell e h7 h
 subst hn
 have hd : v / 2 ^ (nums.getD i 0).toNat ≤ v := Nat.div_le_self _ _
 have hgi : nums[i] = nums.getD i 0 := by simp [List.getD_eq_getElem?_getD, hi]
 have hfin : (((v / 2 ^ (nums.getD i 0).toNat % 2 : Nat) : Int) == 1) = v.testBit (nums.getD i 0).toNat := by
  rw [Nat.testBit_eq_decide_div_mod_eq, Bool.eq_iff_iff, beq_iff_eq, decide_eq_true_eq]
  omega
 refine Cn.of func183 rfl rfl ?_
 refine gS (gR ?_); refine gAs ?_; refine gE (gS ?_)
 refine GoH.draw 9 mixed rfl ?_
 refine RdGo.v (Vop.ld (p := ⟨b10, 0, none⟩) rfl rfl rfl rfl isAgg3 (fun w _ hS => HA hS.ext rfl)) ?_
 refine RdGo.v (Vop.ld (p := ⟨b7, 0, none⟩) rfl rfl rfl rfl isAgg70 (fun w _ hS => HB hS.ext rfl)) ?_
 refine rMv ?_
 refine RdGo.v (Vop.idx rfl rfl rfl rfl rfl underlying70 sizeOf3 ⟨_, hb⟩ (by simp) (i) ⟨rfl, by simpa using hi⟩) ?_
 refine RdGo.v (Vop.ld rfl rfl rfl rfl isAgg3 (fun w _ hS => (SlI.ex0 hb hS.ext).at (i) hi)) ?_
 refine RdGo.v (Vop.bin rfl rfl rfl rfl (bShrN (x := v) (j := (nums.getD i 0).toNat) (by rw [hgi]; omega) (by omega) (by omega)) rfl) ?_
 refine RdGo.v (Vop.bin rfl rfl rfl rfl (bAnd1N (by omega)) rfl) ?_
 refine rBi bEq ?_; refine rAs ?_
 refine RdGo.nil ?_
 refine gE ?_
 refine gT func183 fun w' hS => ?_
 exact ⟨hS.ext, by rw [← hfin]; rfl⟩
end Go.Proofs.YtlihcmknfdckdaaDoor
namespace Go.Proofs.YtlihcmknfdckdaaDoor
open Go.RowKit Go.Proofs.Wit Tryd
/-! the walk to the atoms: the program -/
def leafH (bs : Nat) (q : Option Nat) (s : List Bool) (o : List Int) (sp : List Value) : Hl := [(some bs, ob Value.bool 4 s []), (q, ob I64 3 o sp)]
def LeafPost (c : List NV) (i bs : Nat) (s : List Bool) (o : List Int) (v : Value) (h' : Hl) : Prop := ∃ q' cap' sp' s' o', h' = leafH bs q' s' o' sp' ∧ v = osv q' o'.length cap' ∧ (q' = none → o'.length = 0 ∧ cap' = 0) ∧ (o'.map I64 ++ sp').length = cap' ∧ Lv c i s o s' o'
set_option maxRecDepth 8000 in
theorem leaves_c (a : Option Addr) (ca : Nat) (c : List NV) (hO : NodesOk c) (hcl : c.length ≤ 200) (bs : Nat) : ∀ (i : Nat), i < c.length → ∀ (w : World) (q : Option Nat) (cap : Nat) (s : List Bool) (o : List Int) (sp : List Value),
    HasH w (leafH bs q s o sp) → FA w a c → (∀ b o', a = some ⟨b, o', none⟩ → b ∉ blks (leafH bs q s o sp)) → (q = none → o.length = 0 ∧ cap = 0) → (o.map I64 ++ sp).length = cap → s.length = c.length → OutL c s o →
    CnS Tryd.prog 181 [.slice a c.length ca, .int .i64 i, .slice (some ⟨bs, 0, none⟩) c.length c.length, osv q o.length cap] w (leafH bs q s o sp) (LeafPost c i bs s o) := by
  obtain ⟨i1, hi1, hz1, hsz1, hby1⟩ := info_parts infoI
  intro i
  induction i using Nat.strongRecOn with
  | _ i IHi =>
  intro hi w q cap s o sp hh ha hsep hq hcap hs hol
  have hok := hO i hi
  have hop := hok.op
  have has : FAS (blks (leafH bs q s o sp)) w a c := ⟨ha.at_, hsep⟩
  have hole := hol.le
  have hsi : i < s.length := by omega
  refine CnS.of hh func181 rfl rfl ?_
  unfold leafH at has ⊢
  refine gS (gR ?_); refine gAs ?_; refine gE (gS (gS (gR ?_)))
  iterate 2 refine gMv ?_
  refine GoH.v (Vop.idxS rfl rfl rfl rfl rfl underlying85 sizeOf4 (i) ⟨rfl, hi⟩) ?_
  refine GoH.v (Vop.ldE Value.bool false rfl rfl rfl rfl isAgg4 0 rfl hsi) ?_
  refine gE ?_
  refine gC (fun hc => ?_) fun hc => ?_
  ·
   have h1 : sB s i = true := hc
   refine gS (gR ?_); refine gMv ?_; refine gAs ?_; refine gE ?_
   refine gT func181 fun w' hS => ?_
   exact ⟨_, ⟨q, cap, sp, s, o, rfl, rfl, hq, hcap, Lv.seen h1⟩, hS⟩
  ·
   have h1 : sB s i = false := hc
   refine gK (gS (gR ?_))
   iterate 2 refine gMv ?_
   refine GoH.v (Vop.idxS rfl rfl rfl rfl rfl underlying85 sizeOf4 (i) ⟨rfl, hi⟩) ?_
   refine GoH.stE Value.bool _ rfl rfl rfl rfl sizeOf4 rfl 0 rfl hsi ?_
   refine gE (gS (gR ?_))
   iterate 2 refine gMv ?_
   refine GoH.v (Vop.idxN rfl rfl rfl rfl rfl underlying23 sizeOf80 ⟨_, (has).at_⟩ (flat_len (enc := NV.cells) (sz := 6) (fun _ => rfl)) (by decide) (i) ⟨rfl, hi⟩) ?_
   refine GoH.v (Vop.ldN (cs := NV.cells c[i]) rfl rfl rfl rfl isAgg80 sizeOf80 (fun w _ hS => Sl.many (enc := NV.cells) (sz := 6) (has.ex0 hS.ext).at_ (fun _ => rfl) hi)) ?_
   refine GoH.alc rfl rfl rfl (fun _ => zeroValue80 _) (fun b9 => ?_)
   refine GoH.stB rfl rfl rfl rfl sizeOf80 0 rfl rfl rfl rfl ?_
   refine gE (gS (gS (gR ?_))); refine gFp underlying80 sizeOf3 0 ?_; refine gLo isAgg3 0 ?_; refine gBi bEq ?_; refine gMv ?_
   refine gCs 25 (fun hc => ?_) fun hc => ?_
   ·
    have h3 : c[i].op = 3 := by simpa using hc
    have hlf : lfB c[i].op = true := by rw [h3]; rfl
    iterate 4 refine gNo ?_
    refine gPt ?_; refine gE (GoH.condT rfl (gS (gR ?_)))
    iterate 2 refine gMv ?_
    refine GoH.bsN (c := [_]) rfl rfl rfl rfl underlying70 sizeOf3 zeroValue3 rfl rfl (fun b33 => ?_)
    refine GoH.appE I64 (xs := o) (sp := sp) (q := q) (news := [(i : Int)]) (spn := []) rfl rfl rfl rfl rfl underlying70 hi1 hz1 hsz1 rfl hq 3 rfl 0 rfl hcap rfl (by decide) (fun _ => rfl) (by unfold maxLen; omega) (by rw [hby1]; omega) (fun b' sp' cap' hlen2 => ?_)
    refine gAs ?_; refine gE ?_
    refine gT func181 fun w' hS => ?_
    exact ⟨_, ⟨some b', cap', sp', s.set i true, o ++ [(i : Int)], rfl, rfl, (fun e => by cases e), hlen2, Lv.leaf hi hO hs h1 hlf⟩, hS.subH (.cons _ (.cons _ (List.Sublist.refl _)))⟩
   ·
    have h3 : ¬ c[i].op = 3 := by simpa using hc
    refine gFp underlying80 sizeOf3 0 ?_; refine gLo isAgg3 0 ?_
    refine gP rfl rfl rfl rfl rfl call186 (fun w _ hS => (by exact isProp_c c[i].op w)) ?_
    refine gUn uNot ?_; refine gPf ?_; refine gE ?_
    refine gC (fun hc => ?_) fun hc => ?_
    ·
     have h8 : ¬ c[i].op ≤ 8 := by simpa using hc
     have hlf : lfB c[i].op = true := by unfold lfB; simp; omega
     refine gS (gR ?_)
     iterate 2 refine gMv ?_
     refine GoH.bsN (c := [_]) rfl rfl rfl rfl underlying70 sizeOf3 zeroValue3 rfl rfl (fun b33 => ?_)
     refine GoH.appE I64 (xs := o) (sp := sp) (q := q) (news := [(i : Int)]) (spn := []) rfl rfl rfl rfl rfl underlying70 hi1 hz1 hsz1 rfl hq 3 rfl 0 rfl hcap rfl (by decide) (fun _ => rfl) (by unfold maxLen; omega) (by rw [hby1]; omega) (fun b' sp' cap' hlen2 => ?_)
     refine gAs ?_; refine gE ?_
     refine gT func181 fun w' hS => ?_
     exact ⟨_, ⟨some b', cap', sp', s.set i true, o ++ [(i : Int)], rfl, rfl, (fun e => by cases e), hlen2, Lv.leaf hi hO hs h1 hlf⟩, hS.subH (.cons _ (.cons _ (List.Sublist.refl _)))⟩
    ·
     have h8 : c[i].op ≤ 8 := by simpa using hc
     have hlf : lfB c[i].op = false := by unfold lfB; simp; omega
     obtain ⟨hkx, hky⟩ := lf_kids hi hO hlf
     have hX := usX_ge hop
     have hol1 := hol.set hsi
     have hsl1 : (s.set i true).length = c.length := by rw [List.length_set]; exact hs
     refine gK (gS ?_)
     refine GoH.seqJ (α := {z : Option Nat × Nat × List Value × List Bool × List Int // (z.1 = none → z.2.2.2.2.length = 0 ∧ z.2.1 = 0) ∧ (z.2.2.2.2.map I64 ++ z.2.2.1).length = z.2.1 ∧ z.2.2.2.1.length = c.length ∧ OutL c z.2.2.2.1 z.2.2.2.2 ∧ ((usX c[i].op = true ∧ Lv c c[i].x.toNat (s.set i true) o z.2.2.2.1 z.2.2.2.2 ∧ ∀ u ∈ atT (treeAt c c[i].x.toNat), u ∈ atT (treeAt c i)) ∨ (usX c[i].op = false ∧ z.2.2.2.1 = s.set i true ∧ z.2.2.2.2 = o))})
       (fun z => [(0, .slice a c.length ca), (2, .slice (some ⟨bs, 0, none⟩) c.length c.length), (3, osv z.1.1 z.1.2.2.2.2.length z.1.2.1), (9, .pointer (some ⟨b9, 0, none⟩))]) (fun z => leafH bs z.1.1 z.1.2.2.2.1 z.1.2.2.2.2 z.1.2.2.1 ++ [(some b9, .cells (NV.cells c[i]).toArray 80 (0, 0))]) (fun z => ?_) (fun K => ?_)
     · -- what comes behind
      obtain ⟨⟨q2, cap2, sp2, s2, o2⟩, hq2, hcap2, hsl2, hol2, hA⟩ := z
      dsimp only at hq2 hcap2 hsl2 hol2 hA ⊢
      unfold leafH
      refine gS (gS (gR ?_)); refine gFp underlying80 sizeOf3 0 ?_; refine gLo isAgg3 2 ?_; refine gBi bGe ?_; refine gE ?_
      refine gC (fun hc => ?_) fun hc => ?_
      ·
       have h5 : 5 ≤ c[i].op := by simpa using hc
       have hY : usY c[i].op = true := by
         have : c[i].op = 5 ∨ c[i].op = 6 ∨ c[i].op = 7 ∨ c[i].op = 8 := by omega
         rcases this with h | h | h | h <;> rw [h] <;> rfl
       have hy := hok.y hY
       obtain ⟨y, hyy⟩ : ∃ y : Nat, c[i].y = (y : Int) := ⟨c[i].y.toNat, by omega⟩
       have hyi : y < i := by omega
       have hyt : c[i].y.toNat = y := by omega
       refine gR ?_; refine gMv ?_; refine gFp underlying80 sizeOf3 5 ?_; refine gLo isAgg3 2 ?_
       iterate 2 refine gMv ?_
       refine GoH.callS (h := leafH bs q2 s2 o2 sp2) (hF := [(some b9, .cells (NV.cells c[i]).toArray 80 (0, 0))]) (fs := []) (cs := []) (fun _ v h' => LeafPost c y bs s2 o2 v h') rfl rfl rfl rfl rfl (fun _ _ => call181 _ _) (fun w1 Y' hS => ?_) (fun w1 v h1 hR => ?_)
       · have hS1 := hS.subH (List.sublist_append_left (leafH bs q2 s2 o2 sp2) _)
         have := IHi y hyi (by omega) w1 q2 cap2 s2 o2 sp2 hS1.has ⟨(has.ex0 hS.ext).at_⟩ (sepOf ha (by omega) hsep hS1) hq2 hcap2 hsl2 hol2
         rw [← hyy] at this
         exact this
       obtain ⟨q3, cap3, sp3, s3, o3, rfl, rfl, hq3, hcap3, hL⟩ := hR
       unfold leafH
       refine gAs ?_; refine gE (gS (gR ?_)); refine gMv ?_; refine gAs ?_; refine gE ?_
       refine gT func181 fun w' hS => ?_
       exact ⟨_, ⟨q3, cap3, sp3, s3, o3, rfl, rfl, hq3, hcap3, Lv.node hi hs h1 hlf hA (.inl ⟨hY, by rw [hyt]; exact hL, hky hY⟩)⟩, hS.subH (List.sublist_append_left (leafH bs q3 s3 o3 sp3) _)⟩
      ·
       have h5 : ¬ 5 ≤ c[i].op := by simpa using hc
       have hY : usY c[i].op = false := by
         have : c[i].op = 1 ∨ c[i].op = 2 ∨ c[i].op = 4 := by omega
         rcases this with h | h | h <;> rw [h] <;> rfl
       refine gK (gS (gR ?_)); refine gMv ?_; refine gAs ?_; refine gE ?_
       refine gT func181 fun w' hS => ?_
       exact ⟨_, ⟨q2, cap2, sp2, s2, o2, rfl, rfl, hq2, hcap2, Lv.node hi hs h1 hlf hA (.inr ⟨hY, rfl, rfl⟩)⟩, hS.subH (List.sublist_append_left (leafH bs q2 s2 o2 sp2) _)⟩
     · -- the first part
      refine gS (gR ?_); refine gFp underlying80 sizeOf3 0 ?_; refine gLo isAgg3 0 ?_; refine gBi bGe ?_; refine gE ?_
      refine gC (fun hc => ?_) fun hc => ?_
      ·
       have h4 : 4 ≤ c[i].op := by simpa using hc
       have hXt : usX c[i].op = true := by rw [hX]; simpa using h4
       have hx := hok.x hXt
       obtain ⟨x, hxx⟩ : ∃ x : Nat, c[i].x = (x : Int) := ⟨c[i].x.toNat, by omega⟩
       have hxi : x < i := by omega
       have hxt : c[i].x.toNat = x := by omega
       refine gR ?_; refine gMv ?_; refine gFp underlying80 sizeOf3 4 ?_; refine gLo isAgg3 0 ?_
       iterate 2 refine gMv ?_
       refine GoH.pick (pre := [_, _, _]) (pre' := leafH bs q (s.set i true) o sp ++ [(some b9, .cells (NV.cells c[i]).toArray 80 (0, 0))]) [1, 2, 0] (by decide) rfl ?_
       refine GoH.callS (h := leafH bs q (s.set i true) o sp) (hF := [(some b9, .cells (NV.cells c[i]).toArray 80 (0, 0))]) (fs := []) (cs := []) (fun _ v h' => LeafPost c x bs (s.set i true) o v h') rfl rfl rfl rfl rfl (fun _ _ => call181 _ _) (fun w1 Y' hS => ?_) (fun w1 v h1 hR => ?_)
       · have hS1 := hS.subH (List.sublist_append_left (leafH bs q (s.set i true) o sp) _)
         have := IHi x hxi (by omega) w1 q cap (s.set i true) o sp hS1.has ⟨(has.ex0 hS.ext).at_⟩ (sepOf ha (by omega) hsep hS1) hq hcap hsl1 hol1
         rw [← hxx] at this
         exact this
       obtain ⟨q3, cap3, sp3, s3, o3, rfl, rfl, hq3, hcap3, hL⟩ := hR
       unfold leafH
       refine gAs ?_; refine gE ?_
       exact K ⟨(q3, cap3, sp3, s3, o3), hq3, hcap3, by rw [hL.len]; exact hsl1, hol1.go hL, .inl ⟨hXt, by rw [hxt]; exact hL, hkx hXt⟩⟩ _ _ (by repeat (first | exact SubF.nil | refine SubF.cons rfl ?_)) (fun _ _ hS => hS)
      ·
       have h4 : ¬ 4 ≤ c[i].op := by simpa using hc
       have hXf : usX c[i].op = false := by rw [hX]; simpa using h4
       refine gK ?_
       refine GoH.pick (pre := [_, _, _]) (pre' := leafH bs q (s.set i true) o sp ++ [(some b9, .cells (NV.cells c[i]).toArray 80 (0, 0))]) [1, 2, 0] (by decide) rfl ?_
       exact K ⟨(q, cap, sp, s.set i true, o), hq, hcap, hsl1, hol1, .inr ⟨hXf, rfl, rfl⟩⟩ _ _ (by repeat (first | exact SubF.nil | refine SubF.cons rfl ?_)) (fun _ _ hS => hS)
end Go.Proofs.YtlihcmknfdckdaaDoor
namespace Go.Proofs.YtlihcmknfdckdaaDoor
open Go.RowKit Go.Proofs.Wit Tryd
/-! tautologies: the program, 2 -/
set_option maxRecDepth 8000 in
theorem btau_c (a : Option Addr) (ca : Nat) (f : List NV) (w : World) (ha : FA w a f) (hl : f.length ≤ maxLen) (hck : chkF f = 0) :
    Cn Tryd.prog 177 [.slice a f.length ca] w (fun v _ => ∃ (b : Bool) (e : Int), v = .tuple #[.bool b, .int .i64 e] ∧ ((b = true ∧ e = 0) ↔ AxTau (topT f))) := by
  obtain ⟨i1, hi1, hz1, hsz1, hby1⟩ := info_parts infoBb
  obtain ⟨i2, hi2, hz2, hsz2, hby2⟩ := info_parts infoI
  obtain ⟨c, hcE⟩ : ∃ c, c = compF f := ⟨_, rfl⟩
  have hC : CanF c := by rw [hcE]; exact CanF.compF hck
  have hO := hC.nodes
  have hcl := hC.len
  have hcp : 0 < c.length := (chkF_zero.1 hC.chk).pos
  have htop : topT c = topT f := by rw [hcE]; exact topT_comp hck
  have hT : treeAt c (c.length - 1) = topT f := by rw [← topT_treeAt]; exact htop
  refine Cn.of func177 rfl rfl ?_
  refine gS (gR ?_)
  iterate 2 refine gAs ?_
  refine gE (gS (gS (gR ?_))); refine gMv ?_
  refine gP rfl rfl rfl rfl rfl call75 (fun w _ hS => (by have := fcheck_c a ca f w (ha.ex0 hS.ext) hl; rw [hck] at this; exact this)) ?_
  refine gAs ?_; refine gE (gS (gR ?_)); refine gMv ?_
  refine gBx rfl rfl rfl rfl (bNeV (v := false) rfl) ?_
  refine gE (GoH.condF rfl (gK (gS (gR ?_)))); refine gMv ?_
  refine gM rfl rfl rfl rfl rfl call44 (fun w _ hS => (by exact fcompact_c a ca f w (ha.ex0 hS.ext) hl)) ?_
  rintro v w1 w2 Y' hS he ho
  rw [subF_top, ← hcE] at ho
  obtain ⟨qc, capc, spc, rfl, hqc, hcapc, hS'⟩ := gainN hS he ho
  refine ⟨_, hS', ?_⟩
  refine gAs ?_; refine gE (gS (gR ?_))
  iterate 2 refine gMv ?_
  refine gBl underlying23 ?_
  refine gBx rfl rfl rfl rfl (bSubE (c := ((c.length - 1 : Nat) : Int)) (by omega) (by omega)) ?_
  refine gMv ?_; refine gBl underlying23 ?_
  refine GoH.mkE Value.bool false rfl rfl rfl rfl rfl underlying85 hi1 hz1 rfl hsz1 (by rw [hby1]; omega) (by unfold maxLen; omega) (fun b24 => ?_)
  refine GoH.addNone (ob I64 3 [] []) ?_
  refine GoH.pick (pre := [_, _, _]) (pre' := leafH b24 none (List.replicate c.length false) [] [] ++ [(qc, obN 80 c spc)]) [1, 0, 2] (by decide) rfl ?_
  refine GoH.callS (h := leafH b24 none (List.replicate c.length false) [] []) (hF := [(qc, obN 80 c spc)]) (fs := []) (cs := []) (fun _ v h' => LeafPost c (c.length - 1) b24 (List.replicate c.length false) [] v h') rfl rfl rfl rfl rfl (fun _ _ => call181 _ _) (fun w1 Y' hS => ?_) (fun w1 v h1 hR => ?_)
  · have hfa : FA w1 (qc.map (fun b => ⟨b, 0, none⟩)) c := faAt hS 2 rfl (fun e => (hqc e).1)
    have hS1 := hS.subH (List.sublist_append_left (leafH b24 none (List.replicate c.length false) [] []) _)
    have hin : FV.In 80 [(qc, obN 80 c spc)] ⟨qc.map (fun b => ⟨b, 0, none⟩), capc, c⟩ := ⟨qc, spc, List.mem_cons_self .., rfl, hqc, hcapc⟩
    exact leaves_c (qc.map (fun b => ⟨b, 0, none⟩)) capc c hO hcl b24 (c.length - 1) (by omega) w1 none 0 (List.replicate c.length false) [] [] hS1.has hfa (hin.sep hS).sep (fun _ => ⟨rfl, rfl⟩) rfl (by simp) OutL.nil
  obtain ⟨q6, cap6, sp6, s6, o6, rfl, rfl, hq6, hcap6, hL⟩ := hR
  obtain ⟨l, rfl, hn, hlt, hmem⟩ := hL.done hO (by omega)
  rw [hT] at hmem
  have hnd := map_nd hC hn hlt
  have htau := tau_iff hnd hmem
  rw [List.length_map] at htau
  have hll : (l.map (fun j : Nat => (j : Int))).length = l.length := List.length_map ..
  have hl2 : l.length ≤ 200 := by
    have := hn.length_le_of_subset (fun j hj => List.mem_range.2 (hlt j hj) : l ⊆ List.range c.length)
    simp at this; omega
  unfold leafH
  refine gAs ?_; refine gE (gS (gS (gR ?_))); refine gMv ?_; refine gBl underlying70 ?_; refine gBi bGt ?_; refine gE ?_
  refine gC (fun hc => ?_) fun hc => ?_
  ·
   have h10 : ¬ l.length ≤ 10 := by rw [hll] at hc; simp at hc; omega
   refine gS (gR ?_)
   iterate 2 refine gAs ?_
   refine gE ?_
   refine gT func177 fun w' hS => ?_
   exact ⟨hS.ext, false, 8, rfl, ⟨fun h => (by cases h.1), fun h => absurd (htau.1 h).1 h10⟩⟩
  ·
   have h10 : l.length ≤ 10 := by rw [hll] at hc; simp at hc; omega
   have hnums := tau_nums hmem (R := fun v => rT c (fun i => v.testBit ((nmL c.length l l.length).getD i 0).toNat)) (fun v u hu => rT_nums hC hlt v u hu)
   rw [List.length_map] at hnums
   have hpw : 2 ^ l.length ≤ 2 ^ 10 := Nat.pow_le_pow_right (by decide) h10
   have hp10 : (2 : Nat) ^ 10 = 1024 := by decide
   refine gK (gS (gR ?_)); refine gMv ?_; refine gBl underlying23 ?_
   refine GoH.mkE I64 0 rfl rfl rfl rfl rfl underlying70 hi2 hz2 rfl hsz2 (by rw [hby2]; omega) (by unfold maxLen; omega) (fun b31 => ?_)
   refine GoH.alc rfl rfl rfl (fun _ => zeroValue70 _) (fun b7 => ?_)
   refine GoH.st rfl rfl rfl rfl sizeOf70 rfl 0 rfl rfl ?_
   refine gE (gS (gS (gR ?_))); refine gMv ?_; refine gBl underlying70 ?_; refine gMv ?_; refine gE (gB ?_)
   refine GoH.loop (σ := Nat) (fun k => [(5, osv qc c.length capc), (6, osv q6 (l.map (fun j : Nat => (j : Int))).length cap6), (7, .pointer (some ⟨b7, 0, none⟩)), (32, osv q6 (l.map (fun j : Nat => (j : Int))).length cap6), (33, .int .i64 (l.map (fun j : Nat => (j : Int))).length), (34, .int .i64 k)])
     (fun k => [(some b7, .cells #[.slice (some ⟨b31, 0, none⟩) c.length c.length] 70 (0, 0)), (some b31, ob I64 3 (nmL c.length l k) []), (q6, ob I64 3 (l.map (fun j : Nat => (j : Int))) sp6), (qc, obN 80 c spc)])
     (fun k => k ≤ l.length) (fun k => l.length - k) 0 (Nat.zero_le _) ⟨rfl, rfl, rfl, rfl, rfl, rfl, trivial⟩ (by rw [nmL_zero]; exact .cons_cons _ (.cons_cons _ (.cons _ (List.Sublist.refl _)))) (fun k hI IH => ?_)
   refine gS (gR ?_); refine gBi bLt ?_; refine gE (gS ?_)
   refine gC (fun hc => ?_) fun hc => ?_
   ·
    have hk : k < l.length := by rw [hll] at hc; simpa using hc
    have hkm : k < (l.map (fun j : Nat => (j : Int))).length := by rw [hll]; exact hk
    obtain ⟨b6, rfl⟩ : ∃ b, q6 = some b := by
      cases q6 with
      | none => have := (hq6 rfl).1; omega
      | some b => exact ⟨b, rfl⟩
    have hlk : l[k] < c.length := hlt _ (List.getElem_mem hk)
    have hgk : (l.map (fun j : Nat => (j : Int))).getD k 0 = (l[k] : Int) := by simp [List.getD_eq_getElem?_getD, hk]
    refine gK (gS (gB (gS (gR ?_)))); refine gMv ?_
    refine GoH.v (Vop.idxS rfl rfl rfl rfl rfl underlying70 sizeOf3 (k) ⟨rfl, hkm⟩) ?_
    refine GoH.v (Vop.ldE I64 0 rfl rfl rfl rfl isAgg3 2 rfl hkm) ?_
    iterate 2 refine gAs ?_
    refine gE (gR ?_); refine gLo isAgg70 0 ?_
    iterate 2 refine gMv ?_
    refine GoH.v (Vop.idxS rfl rfl rfl rfl rfl underlying70 sizeOf3 (l[k]) ⟨hgk, hlk⟩) ?_
    refine GoH.stE (Value.int .i64) _ rfl rfl rfl rfl sizeOf3 rfl 1 rfl (by rw [nmL_len]; exact hlk) ?_
    refine gE (gIb (gR ?_)); refine gBx rfl rfl rfl rfl (bAdd (by omega)) ?_; refine gMv ?_; refine gE ?_
    exact IH (k + 1) _ _ hk (by omega) ⟨rfl, rfl, rfl, rfl, rfl, rfl, trivial⟩ (by rw [← nmL_set hn hk]; exact List.Sublist.refl _)
   ·
    have hge : ¬ k < l.length := by rw [hll] at hc; simpa using hc
    obtain rfl : k = l.length := by omega
    refine GoH.exit rfl (gS (gS (gR ?_)))
    refine gMv ?_; refine gBl underlying70 ?_
    refine gBx rfl rfl rfl rfl (bShlN (x := 1) (j := l.length) (by rw [hll]) (by omega) (by omega)) ?_
    refine gMv ?_; refine gE (gB ?_)
    refine GoH.loop (σ := Nat) (fun v => [(5, osv qc c.length capc), (7, .pointer (some ⟨b7, 0, none⟩)), (46, .int .i64 ((1 * 2 ^ l.length : Nat) : Int)), (47, .int .i64 v)])
      (fun _ => [(some b7, .cells #[.slice (some ⟨b31, 0, none⟩) c.length c.length] 70 (0, 0)), (some b31, ob I64 3 (nmL c.length l l.length) []), (qc, obN 80 c spc)])
      (fun v => v ≤ 2 ^ l.length ∧ ∀ u, u < v → evB (rT c (fun i => u.testBit ((nmL c.length l l.length).getD i 0).toNat)) (topT f) = true) (fun v => 2 ^ l.length - v) 0 ⟨Nat.zero_le _, fun u hu => absurd hu (Nat.not_lt_zero _)⟩ ⟨rfl, rfl, rfl, rfl, trivial⟩ (.cons_cons _ (.cons_cons _ (.cons _ (List.Sublist.refl _)))) (fun v hI IH => ?_)
    obtain ⟨hvl, hall⟩ := hI
    refine gS (gR ?_); refine gBi bLt ?_; refine gE (gS ?_)
    refine gC (fun hc => ?_) fun hc => ?_
    ·
     have hv : v < 2 ^ l.length := by
       have : (v : Int) < ((1 * 2 ^ l.length : Nat) : Int) := by simpa using hc
       omega
     refine gK (gS (gB (gS (gR ?_)))); refine gMv ?_
     refine GoH.alc rfl rfl rfl (fun _ => zeroValue3 _) (fun b10 => ?_)
     refine GoH.st rfl rfl rfl rfl sizeOf3 rfl 0 rfl rfl ?_
     refine gE (gS (gR ?_)); refine gMv ?_
     refine GoH.v (Vop.mkFunc rfl rfl rfl rfl rfl) ?_
     refine gP rfl rfl rfl rfl rfl call182 (fun w _ hS => (by have := bvalue_c (qc.map (fun b => ⟨b, 0, none⟩)) capc c b10 b7 (fun i => v.testBit ((nmL c.length l l.length).getD i 0).toNat) w (faAt hS 3 rfl (fun e => (hqc e).1)) hC (fun w' e i hi => tau1_c i b10 b7 b31 v c.length (nmL c.length l l.length) w' (e.keep (hS.get (j := 0) rfl)) (e.keep (hS.get (j := 1) rfl)) (SlI.ex0 (Sl.blk (hS.get (j := 2) rfl)) e) nmL_len hi (by omega) (by rw [nmL_get hi]; split <;> omega)); rw [htop] at this; exact this)) ?_
     refine gUn uNot ?_; refine gE ?_
     refine gC (fun hc => ?_) fun hc => ?_
     ·
      have hb : evB (rT c (fun i => v.testBit ((nmL c.length l l.length).getD i 0).toNat)) (topT f) = false := by simpa using hc
      refine gS (gR ?_)
      iterate 2 refine gAs ?_
      refine gE ?_
      refine gT func177 fun w' hS => ?_
      exact ⟨hS.ext, false, 0, rfl, ⟨fun h => (by cases h.1), fun h => by have := hnums.1 (htau.1 h).2 v hv; rw [hb] at this; cases this⟩⟩
     ·
      have hb : evB (rT c (fun i => v.testBit ((nmL c.length l l.length).getD i 0).toNat)) (topT f) = true := by simpa using hc
      refine gK (gIb (gR ?_)); refine gBx rfl rfl rfl rfl (bAdd (by omega)) ?_; refine gMv ?_; refine gE ?_
      refine IH (v + 1) _ _ ⟨hv, fun u hu => ?_⟩ (by omega) ⟨rfl, rfl, rfl, rfl, trivial⟩ (.cons _ (List.Sublist.refl _))
      by_cases e : u = v
      · rw [e]; exact hb
      · exact hall u (by omega)
    ·
     have hge : ¬ v < 2 ^ l.length := by
       have : ¬ (v : Int) < ((1 * 2 ^ l.length : Nat) : Int) := by simpa using hc
       omega
     obtain rfl : v = 2 ^ l.length := by omega
     refine GoH.exit rfl (gS (gR ?_))
     iterate 2 refine gAs ?_
     refine gE ?_
     refine gT func177 fun w' hS => ?_
     exact ⟨hS.ext, true, 0, rfl, ⟨fun _ => htau.2 ⟨h10, hnums.2 hall⟩, fun _ => ⟨rfl, rfl⟩⟩⟩
end Go.Proofs.YtlihcmknfdckdaaDoor
namespace Go.Proofs.YtlihcmknfdckdaaDoor
open Go.RowKit Go.Proofs.Wit Tryd
/-! the table of axioms -/
theorem axTau_c (a : Option Addr) (ca : Nat) (f : List NV) (t : Tr) (w : World) (ha : FA w a f) (hf : Cf f t) :
    Cn Tryd.prog 163 [.slice a f.length ca] w (fun v _ => ∃ b, v = .bool b ∧ (b = true ↔ AxTau t)) := by
  refine Cn.of func163 rfl rfl ?_
  refine gS (gR ?_); refine gAs ?_; refine gE (gS (gR ?_)); refine gMv ?_
  refine gM rfl rfl rfl rfl rfl call177 (fun w _ hS => (by exact btau_c a ca f w (ha.ex0 hS.ext) (bT_max hf.eq) hf.chk)) ?_
  rintro v w1 w2 Y' hS he ⟨b, e, rfl, hb⟩
  rw [hf.top] at hb
  refine ⟨_, hS.later he, ?_⟩
  refine gMv ?_
  iterate 2 refine gEx ?_
  iterate 2 refine gAs ?_
  refine gE (gS (gR ?_))
  iterate 2 refine gMv ?_
  refine gCs 11 (fun hc => ?_) fun hc => ?_
  ·
   have hbt : b = true := hc
   refine gMv ?_; refine gBi bEq ?_; refine gPt ?_; refine gAs ?_; refine gE ?_
   refine gT func163 fun w' hS => ?_
   exact ⟨hS.ext, _, rfl, by rw [← hb]; simp [hbt]⟩
  ·
   have hbf : b = false := hc
   iterate 2 refine gNo ?_
   refine gPf ?_; refine gAs ?_; refine gE ?_
   refine gT func163 fun w' hS => ?_
   exact ⟨hS.ext, false, rfl, by rw [← hb]; simp [hbf]⟩
def axFn (r : Int) : FuncId := if r = 1 then 163 else if r = 2 then 164 else if r = 3 then 165 else if r = 4 then 168 else if r = 5 then 170 else if r = 6 then 171 else if r = 7 then 174 else if r = 8 then 175 else 176
abbrev gAx : Nat := 0
abbrev Axs := FtAt gAx axFn
theorem axEnter {r : Int} (h1 : 1 ≤ r) (h9 : r ≤ 9) : ∀ args w, (callFunc (axFn r) args).run Tryd.prog w = .ok (.enter (axFn r) args) w :=
 nine (p := fun r => ∀ args w, (callFunc (axFn r) args).run Tryd.prog w = .ok (.enter (axFn r) args) w) ⟨(fun _ _ => call163 _ _), (fun _ _ => call164 _ _), (fun _ _ => call165 _ _), (fun _ _ => call168 _ _), (fun _ _ => call170 _ _), (fun _ _ => call171 _ _), (fun _ _ => call174 _ _), (fun _ _ => call175 _ _), (fun _ _ => call176 _ _)⟩ h1 h9
theorem axInst_c (r : Int) (a : Option Addr) (ca : Nat) (f : List NV) (t : Tr) (w : World) (h1 : 1 ≤ r) (h9 : r ≤ 9) (ha : FA w a f) (hf : Cf f t) :
  Cn Tryd.prog (axFn r) [.slice a f.length ca] w (fun v _ => ∃ b, v = .bool b ∧ (b = true ↔ InstT r t)) :=
 nine (p := fun r => Cn Tryd.prog (axFn r) [.slice a f.length ca] w (fun v _ => ∃ b, v = .bool b ∧ (b = true ↔ InstT r t)))
  ⟨axTau_c a ca f t w ha hf, axKp_c a ca f t w ha hf, axTp_c a ca f t w ha hf, ax4p_c a ca f t w ha hf, ax5p_c a ca f t w ha hf, axDp_c a ca f t w ha hf, axPp_c a ca f t w ha hf, axEp_c a ca f t w ha hf, axCp_c a ca f t w ha hf⟩ h1 h9
end Go.Proofs.YtlihcmknfdckdaaDoor
