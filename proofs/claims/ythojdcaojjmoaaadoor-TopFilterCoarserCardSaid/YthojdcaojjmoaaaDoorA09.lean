/- What calls of the program return, under the conditions that each theorem states. -/
import Derived.Test.YthojdcaojjmoaaaDoorA07
import Derived.Test.YthojdcaojjmoaaaDoorA08
import Derived.Test.YthojdcaojjmoaaaDoorA04
namespace Go.Proofs.YthojdcaojjmoaaaDoor
open Go.RowKit Go.Proofs.Wit
/-! sets of worlds, the blocks that they meet, facts -/
theorem members1_it (w0 : World) (S : List Nat) (hT : Tab w0) (h0 : gTab ∉ S) (s0 : W64) (b : Nat) :
    IterC Tryd.prog w0 S 62 [.pointer (some ⟨b, 0, none⟩)] ((pts s0).map (fun i : Nat => [Value.int .i64 (i : Int)])) [(some b, .cells #[U s0] 37 (0, 0))] := by
  refine IterC.of Tryd.func62 rfl rfl (fun Y σ Hc I X Yx L hy c0 hI0 => ?_)
  refine gB ?_
  refine GoH.loop (σ := Nat × W64 × σ) (fun s => [(0, Value.func (.yield L) #[] #[]), (1, .pointer (some ⟨b, 0, none⟩))]) (fun s => (some b, .cells #[U s.2.1] 37 (0, 0)) :: Hc s.2.2)
    (fun s => (pts s0).drop s.1 = pts s.2.1 ∧ s.1 ≤ (pts s0).length ∧ I s.1 s.2.2) (fun s => s.2.1.toNat) (0, s0, c0) ⟨rfl, Nat.zero_le _, hI0⟩ ⟨rfl, rfl, trivial⟩ (List.Sublist.refl _) (fun s hs IH => ?_)
  obtain ⟨i, s, c⟩ := s
  obtain ⟨hb, hle, hI⟩ := hs
  dsimp only at hb hle hI
  refine gS (gS (gR ?_))
  refine gLo Tryd.isAgg37 0 ?_
  refine GoH.v (Vop.bin (b := U 0#64) rfl rfl rfl rfl bNeU rfl) ?_
  refine gE ?_
  refine GoH.cond rfl (fun hc => ?_) (fun hc => ?_)
  ·
   have hs : s ≠ 0#64 := by simpa using hc
   refine gK (gS (gB (gS (gR ?_))))
   refine gMv ?_
   refine gLo Tryd.isAgg37 0 ?_
   refine GoH.callP rfl rfl rfl rfl rfl (fun _ _ => Tryd.call63 _ _) (fun w _ hS => tz_c s w (hT.ex hS.ext h0) hs) ?_
   obtain ⟨ha, hd⟩ := pts_drop hb hs
   refine GoH.yieldI (fun h' => ∃ c', I (i + 1) c' ∧ h' = (some b, .cells #[U s] 37 (0, 0)) :: Hc c') (fun h' Y' => ∃ c', X c' ∧ h' = (some b, .cells #[U s] 37 (0, 0)) :: Hc c' ∧ Y' = Yx c') rfl rfl rfl rfl rfl
     (fun w Y1 hS => ?_) (fun h' hh => ?_) (fun h' Y' hh => ?_)
   · obtain ⟨fn, tm, as', bd, hyy, hrr⟩ := hy i [.int .i64 (tz s)] (by rw [List.getElem?_map, ha]; rfl) c hI [(some b, .cells #[U s] 37 (0, 0))] w Y1 hS
     refine ⟨fn, tm, as', bd, hyy, fun c2 cs => ?_⟩
     obtain ⟨v, w', hpost, hst⟩ := hrr c2 cs
     refine ⟨v, w', ?_, hst⟩
     rcases hpost with ⟨hv, c', hI', hS'⟩ | ⟨hv, c', hX', hS'⟩
     · exact .inl ⟨hv, _, ⟨c', hI', rfl⟩, hS'⟩
     · exact .inr ⟨hv, _, _, ⟨c', hX', rfl, rfl⟩, hS'⟩
   rotate_left
   · obtain ⟨c', hX', rfl, rfl⟩ := hh
     refine gUn uNot ?_
     refine GoH.regionEnd (GoH.condT rfl (GoH.ret Tryd.f62 Tryd.func62 rfl (fun w' hS => .inr ⟨c', hX', hS.subH (List.sublist_cons_self ..)⟩)))
   obtain ⟨c', hI', rfl⟩ := hh
   have hlt := (List.getElem?_eq_some_iff.1 ha).1
   refine gUn uNot ?_
   refine gE ?_
   refine GoH.cond rfl (fun hc => ?_) (fun hc => ?_)
   ·
    simp at hc
   ·
    refine gK (gIb (gR ?_))
    iterate 2 refine gLo Tryd.isAgg37 0 ?_
    refine GoH.v (Vop.bin (b := U 1#64) rfl rfl rfl rfl bSubU rfl) ?_
    refine gBi bAnd ?_
    refine GoH.st rfl rfl rfl rfl Tryd.sizeOf37 rfl 0 rfl rfl ?_
    refine gE ?_
    exact IH (i + 1, s &&& (s - 1#64), c') _ _ ⟨hd, hlt, hI'⟩ (and_sub_lt hs) ⟨rfl, rfl, trivial⟩ (List.Sublist.refl _)
  ·
   have hs : s = 0#64 := by simpa using hc
   subst hs
   refine GoH.exit rfl ?_
   refine GoH.fin Tryd.f62 Tryd.func62 rfl (fun w' hS => ?_)
   have hi : i = (pts s0).length := by
     rw [pts_zero] at hb
     have := List.drop_eq_nil_iff.1 hb
     omega
   subst hi
   exact .inl ⟨c, by simpa using hI, hS.subH (List.sublist_cons_self ..)⟩
theorem members_c (s : W64) (w : World) : Cn Tryd.prog 47 [U s] w (fun v w' => ∃ b, v = .func (.func 62) #[] #[.pointer (some ⟨b, 0, none⟩)] ∧ w.heap.size ≤ b ∧ w'.heap[b]? = some (.cells #[U s] 37 (0, 0))) := by
  refine Cn.of Tryd.func47 rfl rfl ?_
  refine gS (gR ?_)
  refine GoH.bx rfl rfl rfl rfl (fun b1 => ?_)
  refine gAs ?_
  refine gE (gS (gR ?_))
  refine GoH.v (Vop.mkFunc rfl rfl rfl rfl rfl) ?_
  refine gAs ?_
  refine gE ?_
  refine GoH.ret Tryd.f47 Tryd.func47 rfl (fun w' hS => ?_)
  exact ⟨hS.ext, b1, rfl, hS.fresh (j := 0) rfl, hS.get (j := 0) rfl⟩
theorem reached_c (a : Option Addr) (ca : Nat) (p : List Int) (s : W64) (w : World) (hT : Tab w) (ha : SlI w a p) (hp : OkP p) (hv : ∀ i ∈ pts s, i < p.length) :
    Cn Tryd.prog 32 [.slice a p.length ca, U s] w (fun v _ => v = U (rch p s)) := by
  refine Cn.of Tryd.func32 rfl rfl ?_
  refine gS (gR ?_)
  refine GoH.bx rfl rfl rfl rfl (fun b2 => ?_)
  refine GoH.v (Vop.asg (v := U 0#64) rfl rfl rfl rfl) ?_
  refine gE (gS (gR ?_))
  refine GoH.alc rfl rfl rfl (fun _ => Tryd.zeroValue37 _) (fun b5 => ?_)
  refine gE (gS (gS (gR ?_)))
  refine gMv ?_
  refine GoH.callM _ rfl rfl rfl rfl rfl (fun _ _ => Tryd.call47 _ _) (fun w _ hS => members_c s w) ?_
  rintro v w1 w2 Y' hS he ⟨bp, rfl, hb, hh⟩
  refine ⟨_, hS.gain he hh rfl hb, ?_⟩
  refine gE (gB ?_)
  refine GoH.rangeF (σ := W64) (cap := [(some bp, .cells #[U s] 37 (0, 0))]) (fun acc => [(some b5, .cells #[U acc] 37 (0, 0)), (some b2, .cells #[.slice a p.length ca] 29 (0, 0))]) (fun i acc => acc = ((pts s).take i).foldl (fun o w => o ||| (bitsP p).getD w 0#64) 0#64) (fun _ _ => False) 0#64
    rfl (fun _ _ => Tryd.call62 _ _) (members1_it w [] hT (by simp) s bp) (args1 rfl) rfl rfl (List.Sublist.refl _) ?_ ?_ ?_
  · -- a round
   intro L Y' rec hi i az acc haz hI hrec
   rw [List.getElem?_map] at haz
   obtain ⟨x, hx, rfl⟩ := Option.map_eq_some_iff.1 haz
   have hxr : x < p.length := hv x (List.mem_of_getElem? hx)
   have hlow := hp.low x hxr
   rw [← lowE hxr] at hlow
   have hbx : (bitsP p).getD x 0#64 = 1#64 <<< (p[x].toNat) := by simp [bitsP, List.getD_eq_getElem?_getD, hxr]
   refine gR ?_
   refine gAs ?_
   refine gE ?_
   refine GoH.beginRound hrec ?_
   refine gB ?_
   refine GoH.draw 7 mixed rfl ?_
   refine rLo Tryd.isAgg37 0 ?_
   refine rLo Tryd.isAgg29 1 ?_
   refine rMv ?_
   refine RdGo.v (Vop.idx rfl rfl rfl rfl rfl Tryd.underlying29 Tryd.sizeOf3 ⟨_, ha⟩ (by simp) (x) ⟨rfl, by simpa using hxr⟩) ?_
   refine RdGo.v (Vop.ld rfl rfl rfl rfl Tryd.isAgg3 (fun w _ hS => (SlI.ex0 ha hS.ext).at (x) hxr)) ?_
   refine RdGo.v (Vop.bin (a := U 1#64) rfl rfl rfl rfl (bShl (p[x].toNat) (by omega)) rfl) ?_
   refine rBi bOr ?_
   refine RdGo.nil ?_
   refine GoH.st rfl rfl rfl rfl Tryd.sizeOf37 rfl 0 rfl rfl ?_
   refine gE (gIb ?_)
   exact GoH.rEnd (acc ||| 1#64 <<< (p[x].toNat)) (by obtain ⟨h1, h2⟩ := List.getElem?_eq_some_iff.1 hx; rw [List.take_succ_eq_append_getElem h1, List.foldl_append, ← hI, h2, ← hbx]; rfl) (List.Sublist.refl _)
  · -- all have come
   intro acc hI
   refine gIb (gS (gR ?_))
   refine gLo Tryd.isAgg37 0 ?_
   refine gAs ?_
   refine gE ?_
   refine GoH.ret Tryd.f32 Tryd.func32 rfl (fun w' hS => ?_)
   exact ⟨hS.ext, by rw [hI, rch, mapR, List.length_map, List.take_length]; rfl⟩
  · -- stopped
   intro c s h; exact h.elim
theorem facts_c (m : MV) (x : Nat) (w : World) (hm : m.At w) (hv : ValM m.n m.val m.rel) (hx : (x : Int) < m.n) : Cn Tryd.prog 29 [m.v, .int .i64 x] w (fun v _ => v = .int .i64 (fm m.val x)) := by
  have hfa := hv.facts
  have hlv := hm.lv
  unfold maxLen at hlv
  refine Cn.of Tryd.func29 rfl rfl ?_
  refine gS (gR ?_)
  refine GoH.bx rfl rfl rfl rfl (fun b2 => ?_)
  refine gAs ?_
  refine gE (gS (gS (gR ?_)))
  refine GoH.v (Vop.ldB rfl rfl rfl rfl Tryd.isAgg25 0 rfl Tryd.sizeOf25 rfl) ?_
  refine GoH.callP rfl rfl rfl rfl rfl (fun _ _ => Tryd.call14 _ _) (fun w _ hS => (by exact (mcheck_c m w (hm.ex0 hS.ext)).mono (fun v w' _ e => by rw [e, checkM_zero.2 hv]))) ?_
  refine GoH.v (Vop.bin rfl rfl rfl rfl (bNeV (v := false) rfl) rfl) ?_
  iterate 2 refine gMv ?_
  refine GoH.v (Vop.bin rfl rfl rfl rfl (bLtV (v := false) (decide_eq_false (by omega))) rfl) ?_
  refine gPf ?_
  iterate 2 refine gMv ?_
  refine gFp Tryd.underlying25 Tryd.sizeOf3 0 ?_
  refine GoH.v (Vop.ldo (v := .int .i64 m.n) rfl rfl rfl rfl Tryd.isAgg3 0 rfl rfl) ?_
  refine GoH.v (Vop.bin rfl rfl rfl rfl (bGeV (v := false) (decide_eq_false (by omega))) rfl) ?_
  refine gPf ?_
  refine gE (GoH.condF rfl (gK (gS (gR ?_))))
  refine gAs ?_
  refine gE (gS (gS (gR ?_)))
  refine gFp Tryd.underlying25 Tryd.sizeOf22 1 ?_
  refine GoH.v (Vop.ldo (v := .slice m.va m.val.length m.vc) rfl rfl rfl rfl Tryd.isAgg22 0 rfl rfl) ?_
  refine gBl Tryd.underlying22 ?_
  refine gMv ?_
  refine gE (gB ?_)
  refine GoH.loop (σ := Nat) (fun k => [(1, .int .i64 x), (5, .int .i64 (fmTo m.val x k)), (22, .slice m.va m.val.length m.vc), (23, .int .i64 m.val.length), (24, .int .i64 k)]) (fun _ => []) (fun k => k ≤ m.val.length) (fun k => m.val.length - k) 0 (Nat.zero_le _) ⟨rfl, rfl, rfl, rfl, rfl, trivial⟩ (List.nil_sublist _) (fun k hI IH => ?_)
  refine gS (gR ?_)
  refine gBi bLt ?_
  refine gE (gS ?_)
  refine GoH.cond rfl (fun hc => ?_) (fun hc => ?_)
  ·
   have hlt : k < m.val.length := by simpa using hc
   have hb1 := bit1_le (m.val.getD k 0#64) x
   refine gK (gS (gB (gS (gR ?_))))
   refine gMv ?_
   refine GoH.v (Vop.idx rfl rfl rfl rfl rfl Tryd.underlying22 Tryd.sizeOf37 ⟨_, hm.val⟩ (by simp) (k) ⟨rfl, by simpa using hlt⟩) ?_
   refine GoH.v (Vop.ld rfl rfl rfl rfl Tryd.isAgg37 (fun w _ hS => (SlU.ex0 hm.val hS.ext).at (k) hlt)) ?_
   iterate 2 refine gAs ?_
   refine gE (gR ?_)
   iterate 3 refine gMv ?_
   refine GoH.v (Vop.bin rfl rfl rfl rfl (bShr x rfl) rfl) ?_
   refine GoH.v (Vop.bin (b := U 1#64) rfl rfl rfl rfl bAnd rfl) ?_
   refine GoH.v (Vop.conv rfl rfl rfl (cInt (a := (((m.val.getD k 0#64 >>> x) &&& 1#64).toNat : Int)) (k := .i64) Tryd.underlying37 Tryd.underlying3 (IntWalk.i64_in _ (by omega))) rfl) ?_
   refine gMv ?_
   refine GoH.v (Vop.bin rfl rfl rfl rfl (bShlN (j := k) rfl (bits_le hb1 (by omega)) (by omega)) rfl) ?_
   refine GoH.v (Vop.bin rfl rfl rfl rfl (bOrN (fm_lt (by omega)) (bits_le hb1 (by omega)) fm_step) rfl) ?_
   refine gAs ?_
   refine gE (gIb (gR ?_))
   refine GoH.v (Vop.bin rfl rfl rfl rfl (bAdd (by omega)) rfl) ?_
   refine gMv ?_
   refine gE ?_
   exact IH (k + 1) _ _ hlt (by omega) ⟨rfl, rfl, rfl, rfl, rfl, trivial⟩ .slnil
  ·
   have hge : ¬ k < m.val.length := by simpa using hc
   obtain rfl : k = m.val.length := by omega
   refine GoH.exit rfl (gS (gR ?_))
   refine gMv ?_
   refine gAs ?_
   refine gE ?_
   refine GoH.ret Tryd.f29 Tryd.func29 rfl (fun w' hS => ?_)
   exact ⟨hS.ext, rfl⟩
end Go.Proofs.YthojdcaojjmoaaaDoor
namespace Go.Proofs.YthojdcaojjmoaaaDoor
open Go.RowKit Go.Proofs.Wit
/-! numbers in hexadecimal -/
theorem pow2_c (w : World) : Cn Tryd.prog 75 [.int .i64 16] w (fun v _ => v = .bool true) := by
  refine Cn.of Tryd.func75 rfl rfl ?_
  refine gS (gR ?_)
  refine gAs ?_
  refine gE (gS (gR ?_))
  iterate 2 refine gMv ?_
  refine GoH.v (Vop.bin rfl rfl rfl rfl (bSubE (c := 15) (by decide) (by omega)) rfl) ?_
  refine GoH.v (Vop.bin rfl rfl rfl rfl (bI (z := .int .i64 0) _ (by rfl)) rfl) ?_
  refine GoH.v (Vop.bin rfl rfl rfl rfl (bEqV (v := true) rfl) rfl) ?_
  refine gAs ?_
  refine gE ?_
  refine GoH.ret Tryd.f75 Tryd.func75 rfl (fun w' hS => ?_)
  exact ⟨hS.ext, rfl⟩
theorem tzw_c (w : World) (hT : Tab w) : Cn Tryd.prog 76 [U 16#64] w (fun v _ => v = .int .i64 4) := by
  refine Cn.of Tryd.func76 rfl rfl ?_
  refine gS (gR ?_)
  refine gAs ?_
  refine gE (gS ?_)
  refine GoH.cond rfl (fun hc => ?_) (fun hc => ?_)
  ·
   cases hc
  ·
   refine gK (gS (gR ?_))
   refine gMv ?_
   refine GoH.callP rfl rfl rfl rfl rfl (fun _ _ => Tryd.call63 _ _) (fun w _ hS => (by exact (tz_c 16#64 w (hT.ex hS.ext) (by decide)).mono (fun v w' _ e => by rw [e]))) ?_
   refine gAs ?_
   refine gE ?_
   refine GoH.ret Tryd.f76 Tryd.func76 rfl (fun w' hS => ?_)
   exact ⟨hS.ext, rfl⟩
/-- the letters that lie in the array -/
structure Fmt (x u : W64) (L : List UInt8) (i : Nat) : Prop where
  len : L.length = 65
  lo : 50 ≤ i
  hi : i ≤ 65
  sm : u.toNat < 16 ^ (i - 49)
  txt : hexN x.toNat = hexN u.toNat ++ L.drop i
theorem Fmt.start (x : W64) : Fmt x x (List.replicate 65 0) 65 := ⟨by simp, by omega, by omega, x.isLt, by simp⟩
theorem drop_set {L : List UInt8} {i : Nat} {c : UInt8} (h : i < L.length) : (L.set i c).drop i = c :: L.drop (i + 1) := by
  rw [List.drop_set, if_neg (by omega), Nat.sub_self, List.drop_eq_getElem_cons h]; rfl
theorem Fmt.next {x u : W64} {L : List UInt8} {i : Nat} (h : Fmt x u L i) (hu : ¬ u.toNat < 16) : Fmt x (u >>> 4) (L.set (i - 1) (dig (u.toNat % 16))) (i - 1) ∧ 51 ≤ i := by
  have h1 := h.len; have h2 := h.lo; have h3 := h.hi; have h4 := h.sm
  have h51 : 51 ≤ i := by
    rcases Nat.lt_or_ge i 51 with hl | hg
    · obtain rfl : i = 50 := by omega
      simp at h4; omega
    · exact hg
  have e1 : (u >>> 4).toNat = u.toNat / 16 := by rw [BitVec.toNat_ushiftRight, Nat.shiftRight_eq_div_pow]
  have e2 : (16 : Nat) ^ (i - 49) = 16 ^ (i - 1 - 49) * 16 := by rw [← Nat.pow_succ]; congr 1; omega
  refine ⟨⟨by simp [h1], by omega, by omega, by rw [e1]; omega, ?_⟩, h51⟩
  rw [h.txt, hexN_hi hu, e1, drop_set (by omega), Nat.sub_add_cancel (by omega)]
  simp
theorem and15 (u : W64) : (u &&& (16#64 - 1#64)).toNat = u.toNat % 16 := by
  rw [show (16#64 - 1#64 : W64) = 15#64 from by decide, BitVec.toNat_and]
  exact Nat.and_two_pow_sub_one_eq_mod u.toNat 4
theorem fmtBits_c (x : W64) (w : World) (hT : Tab w) : Cn Tryd.prog 61 [.slice none 0 0, U x, .int .i64 16, .bool false, .bool false] w (fun v _ => v = .tuple #[.slice none 0 0, bstr (hexN x.toNat)]) := by
  refine Cn.of Tryd.func61 rfl rfl ?_
  refine gS (gR ?_)
  iterate 2 refine gAs ?_
  refine gE (gS (gS (gR ?_)))
  refine gMv ?_
  refine GoH.v (Vop.bin rfl rfl rfl rfl (bLtV (v := false) rfl) rfl) ?_
  iterate 2 refine gMv ?_
  refine GoH.v (Vop.bin rfl rfl rfl rfl (bEqV (v := false) rfl) rfl) ?_
  refine gPf ?_
  iterate 2 refine gMv ?_
  refine GoH.v (Vop.bin rfl rfl rfl rfl (bGtV (v := false) rfl) rfl) ?_
  refine gPf ?_
  refine gE (GoH.condF rfl (gK (gS (gR ?_))))
  refine GoH.alc rfl rfl rfl (fun _ => Tryd.zeroValue116 _) (fun b12 => ?_)
  refine gE (gS (gR ?_))
  refine gAs ?_
  refine gE (gS (gS (gR ?_)))
  refine gMv ?_
  refine gE ?_
  refine GoH.cond rfl (fun hc => ?_) (fun hc => ?_)
  ·
   cases hc
  ·
   refine gK (gS (gS (gR ?_)))
   refine gMv ?_
   refine GoH.callP rfl rfl rfl rfl rfl (fun _ _ => Tryd.call75 _ _) (fun w _ hS => pow2_c w) ?_
   refine gE (GoH.condT rfl (gS (gR ?_)))
   refine gMv ?_
   refine GoH.v (Vop.conv (v := U 16#64) rfl rfl rfl (cInt (a := 16) (k := .u64) Tryd.underlying3 Tryd.underlying117 (wrapN64 (by omega))) rfl) ?_
   refine GoH.callP rfl rfl rfl rfl rfl (fun _ _ => Tryd.call76 _ _) (fun w _ hS => tzw_c w (hT.ex hS.ext)) ?_
   refine GoH.v (Vop.conv (v := U 4#64) rfl rfl rfl (cInt (a := 4) (k := .u64) Tryd.underlying3 Tryd.underlying117 (wrapN64 (by omega))) rfl) ?_
   refine gAs ?_
   refine gE (gS (gR ?_))
   refine gMv ?_
   refine GoH.v (Vop.conv (v := U 16#64) rfl rfl rfl (cInt (a := 16) (k := .u64) Tryd.underlying3 Tryd.underlying37 (wrapN64 (by omega))) rfl) ?_
   refine gAs ?_
   refine gE (gS (gR ?_))
   refine gMv ?_
   refine GoH.v (Vop.conv (v := U 16#64) rfl rfl rfl (cInt (a := 16) (k := .u64) Tryd.underlying3 Tryd.underlying117 (wrapN64 (by omega))) rfl) ?_
   refine GoH.v (Vop.bin (b := U 1#64) rfl rfl rfl rfl bSubU rfl) ?_
   refine gAs ?_
   refine gE (gS (gB ?_))
   refine GoH.loop (σ := W64 × List UInt8 × Nat) (fun z => [(1, U z.1), (3, .bool false), (4, .bool false), (10, .slice none 0 0), (12, .pointer (some ⟨b12, 0, none⟩)), (13, .int .i64 z.2.2), (14, U 4#64), (15, U 16#64), (16, U (16#64 - 1#64))]) (fun z => [(some b12, ob I8 116 z.2.1 [])])
     (fun z => Fmt x z.1 z.2.1 z.2.2) (fun z => z.1.toNat) (x, List.replicate 65 0, 65) (Fmt.start x) ⟨rfl, rfl, rfl, rfl, rfl, rfl, rfl, rfl, rfl, trivial⟩ (by exact List.Sublist.refl _) (fun z hI IH => ?_)
   obtain ⟨u, L, i⟩ := z
   dsimp only at hI IH ⊢
   have hlen := hI.len; have hlo := hI.lo; have hhi := hI.hi
   refine gS (gS (gR ?_))
   iterate 2 refine gMv ?_
   refine GoH.v (Vop.bin rfl rfl rfl rfl (bGeUB (y := 16#64)) rfl) ?_
   refine gE ?_
   refine GoH.cond rfl (fun hc => ?_) (fun hc => ?_)
   ·
    have hu : ¬ u.toNat < 16 := by simpa using hc
    obtain ⟨hn, h51⟩ := hI.next hu
    have hm : u.toNat % 16 < 36 := by omega
    refine gK (gB (gS (gR ?_)))
    refine gMv ?_
    refine GoH.v (Vop.bin rfl rfl rfl rfl (bSubE (c := ((i - 1 : Nat) : Int)) (by omega) (by omega)) rfl) ?_
    refine gAs ?_
    refine gE (gS (gR ?_))
    iterate 3 refine gMv ?_
    refine gBi bAnd ?_
    refine GoH.v (Vop.idxC (l8 := digL) rfl rfl rfl rfl rfl Tryd.underlying9 (u.toNat % 16) ⟨by rw [and15], hm⟩) ?_
    refine GoH.v (Vop.idxA rfl rfl rfl rfl rfl Tryd.underlying116 Tryd.sizeOf5 (i - 1) rfl (by omega)) ?_
    refine GoH.stA I8 (dig (u.toNat % 16)) rfl rfl rfl rfl Tryd.sizeOf5 rfl 0 rfl (by rw [hlen, Nat.zero_add]; omega) ?_
    refine gE (gR ?_)
    iterate 2 refine gMv ?_
    refine GoH.v (Vop.bin rfl rfl rfl rfl (bShr _ rfl) rfl) ?_
    refine gAs ?_
    refine gE (gIb ?_)
    exact IH (u >>> 4, L.set (i - 1) (dig (u.toNat % 16)), i - 1) _ _ hn (by dsimp only; rw [BitVec.toNat_ushiftRight, Nat.shiftRight_eq_div_pow]; omega) ⟨rfl, rfl, rfl, rfl, rfl, rfl, rfl, rfl, rfl, trivial⟩ (by rw [Nat.zero_add]; exact List.Sublist.refl _)
   ·
    have hu : u.toNat < 16 := by simpa using hc
    refine GoH.exit rfl (gS (gR ?_))
    refine gMv ?_
    refine GoH.v (Vop.bin rfl rfl rfl rfl (bSubE (c := ((i - 1 : Nat) : Int)) (by omega) (by omega)) rfl) ?_
    refine gAs ?_
    refine gE (gR ?_)
    iterate 2 refine gMv ?_
    refine GoH.v (Vop.idxC (l8 := digL) rfl rfl rfl rfl rfl Tryd.underlying9 u.toNat ⟨rfl, by have : digL.length = 36 := rfl; omega⟩) ?_
    refine GoH.v (Vop.idxA rfl rfl rfl rfl rfl Tryd.underlying116 Tryd.sizeOf5 (i - 1) rfl (by omega)) ?_
    refine GoH.stA I8 (dig u.toNat) rfl rfl rfl rfl Tryd.sizeOf5 rfl 0 rfl (by rw [hlen, Nat.zero_add]; omega) ?_
    refine gE (gS (gS (gR ?_)))
    refine gMv ?_
    refine gE ?_
    refine GoH.cond rfl (fun hc => ?_) (fun hc => ?_)
    ·
     cases hc
    ·
     refine gK (gS (gS (gR ?_)))
     refine gMv ?_
     refine gE ?_
     refine GoH.cond rfl (fun hc => ?_) (fun hc => ?_)
     ·
      cases hc
     ·
      refine gK (gS (gR ?_))
      refine gMv ?_
      refine GoH.v (Vop.slLoA (lo := i - 1) rfl rfl rfl rfl rfl Tryd.underlying116 Tryd.sizeOf5 rfl (by omega)) ?_
      refine GoH.v (Vop.cStr (L := L.set (0 + (i - 1)) (dig u.toNat)) rfl rfl rfl rfl Tryd.underlying62 Tryd.underlying9 Tryd.underlying5 0 rfl (by rw [List.length_set, hlen]; omega) (hexN x.toNat) (by rw [Nat.zero_add, drop_set (by omega), Nat.sub_add_cancel (by omega), hI.txt, hexN_lo hu]; rfl)) ?_
      refine gAs ?_
      refine gE ?_
      refine GoH.ret Tryd.f61 Tryd.func61 rfl (fun w' hS => ?_)
      exact ⟨hS.ext, rfl⟩
theorem fmtU1_c (x : W64) (w : World) (hT : Tab w) : Cn Tryd.prog 46 [U x, .int .i64 16] w (fun v _ => v = bstr (hexN x.toNat)) := by
  refine Cn.of Tryd.func46 rfl rfl ?_
  refine gS (gR ?_)
  refine gAs ?_
  refine gE (gS (gS (gR ?_)))
  refine gMv ?_
  refine GoH.v (Vop.bin rfl rfl rfl rfl (bEqV (v := false) rfl) rfl) ?_
  refine gE (GoH.condF rfl (gK (gS (gR ?_))))
  iterate 2 refine gMv ?_
  refine GoH.callP rfl rfl rfl rfl rfl (fun _ _ => Tryd.call61 _ _) (fun w _ hS => fmtBits_c x w (hT.ex hS.ext)) ?_
  refine gMv ?_
  iterate 2 refine gEx ?_
  iterate 2 refine gAs ?_
  refine gE (gS (gR ?_))
  refine gMv ?_
  refine gAs ?_
  refine gE ?_
  refine GoH.ret Tryd.f46 Tryd.func46 rfl (fun w' hS => ?_)
  exact ⟨hS.ext, rfl⟩
theorem fmtU_c (x : W64) (w : World) (hT : Tab w) : Cn Tryd.prog 31 [U x, .int .i64 16] w (fun v _ => v = bstr (hexN x.toNat)) := by
  refine Cn.of Tryd.func31 rfl rfl ?_
  refine gS (gR ?_)
  refine gAs ?_
  refine gE (gS (gR ?_))
  iterate 2 refine gMv ?_
  refine GoH.callP rfl rfl rfl rfl rfl (fun _ _ => Tryd.call46 _ _) (fun w _ hS => fmtU1_c x w (hT.ex hS.ext)) ?_
  refine gAs ?_
  refine gE ?_
  refine GoH.ret Tryd.f31 Tryd.func31 rfl (fun w' hS => ?_)
  exact ⟨hS.ext, rfl⟩
end Go.Proofs.YthojdcaojjmoaaaDoor
namespace Go.Proofs.YthojdcaojjmoaaaDoor
open Go.RowKit Go.Proofs.Wit
/-! the rounds -/
theorem eqI_of {xs ys : List Int} (hl : xs.length = ys.length) (h : ∀ i, i < xs.length → xs.getD i 0 = ys.getD i 0) : xs = ys := by
  apply List.ext_getElem hl
  intro i h1 h2
  have := h i h1
  simpa [List.getD_eq_getElem?_getD, h1, h2] using this
theorem equalI_c (a : Option Addr) (ca : Nat) (xs : List Int) (b : Option Addr) (cb : Nat) (ys : List Int) (w : World) (ha : SlI w a xs) (hb : SlI w b ys) (hl : xs.length ≤ maxLen) :
    Cn Tryd.prog 27 [.slice a xs.length ca, .slice b ys.length cb] w (fun v _ => v = .bool (xs == ys)) := by
  unfold maxLen at hl
  refine Cn.of Tryd.func27 rfl rfl ?_
  refine gS (gR ?_)
  refine gAs ?_
  refine gE (gS (gS (gR ?_)))
  refine gMv ?_
  refine gBl Tryd.underlying29 ?_
  refine gMv ?_
  refine gBl Tryd.underlying29 ?_
  refine gBi bNe ?_
  refine gE ?_
  refine GoH.cond rfl (fun hc => ?_) (fun hc => ?_)
  ·
   have h1 : xs.length ≠ ys.length := by simp at hc; omega
   refine gS (gR ?_)
   refine gAs ?_
   refine gE ?_
   refine GoH.ret Tryd.f27 Tryd.func27 rfl (fun w' hS => ?_)
   exact ⟨hS.ext, by rw [show (xs == ys) = false from by rw [beq_eq_false_iff_ne]; rintro rfl; exact h1 rfl]; rfl⟩
  ·
   have h1 : xs.length = ys.length := by simp at hc; omega
   refine gK (gS (gS (gR ?_)))
   refine gMv ?_
   refine gBl Tryd.underlying29 ?_
   refine gMv ?_
   refine gE (gB ?_)
   refine GoH.loop (σ := Nat) (fun k => [(0, .slice a xs.length ca), (1, .slice b ys.length cb), (12, .int .i64 xs.length), (13, .int .i64 k)]) (fun _ => []) (fun k => k ≤ xs.length ∧ ∀ i, i < k → xs.getD i 0 = ys.getD i 0) (fun k => xs.length - k) 0 ⟨Nat.zero_le _, fun i hi => by omega⟩ ⟨rfl, rfl, rfl, rfl, trivial⟩ .slnil (fun k hI IH => ?_)
   obtain ⟨hk, hall⟩ := hI
   refine gS (gR ?_)
   refine gBi bLt ?_
   refine gE (gS ?_)
   refine GoH.cond rfl (fun hc => ?_) (fun hc => ?_)
   ·
    have hlt : k < xs.length := by simpa using hc
    have hlt2 : k < ys.length := h1 ▸ hlt
    refine gK (gS (gB (gS (gR ?_))))
    refine gMv ?_
    refine gAs ?_
    refine gE (gS ?_)
    refine GoH.draw 9 mixed rfl ?_
    iterate 2 refine rMv ?_
    refine RdGo.v (Vop.idx rfl rfl rfl rfl rfl Tryd.underlying29 Tryd.sizeOf3 ⟨_, ha⟩ (by simp) (k) ⟨rfl, by simpa using hlt⟩) ?_
    refine RdGo.v (Vop.ld rfl rfl rfl rfl Tryd.isAgg3 (fun w _ hS => (SlI.ex0 ha hS.ext).at (k) hlt)) ?_
    iterate 2 refine rMv ?_
    refine RdGo.v (Vop.idx rfl rfl rfl rfl rfl Tryd.underlying29 Tryd.sizeOf3 ⟨_, hb⟩ (by simp) (k) ⟨rfl, by simpa using hlt2⟩) ?_
    refine RdGo.v (Vop.ld rfl rfl rfl rfl Tryd.isAgg3 (fun w _ hS => (SlI.ex0 hb hS.ext).at (k) hlt2)) ?_
    refine rBi bNe ?_
    refine RdGo.nil ?_
    refine gE ?_
    refine GoH.cond rfl (fun hc => ?_) (fun hc => ?_)
    ·
     have h2 : (xs == ys) = false := by
       rw [beq_eq_false_iff_ne]
       rintro rfl
       simp at hc
     refine gS (gR ?_)
     refine gAs ?_
     refine gE ?_
     refine GoH.ret Tryd.f27 Tryd.func27 rfl (fun w' hS => ?_)
     exact ⟨hS.ext, by rw [h2]; rfl⟩
    ·
     have h2 : xs[k] = ys[k] := by simpa using hc
     refine gK (gIb (gR ?_))
     refine GoH.v (Vop.bin rfl rfl rfl rfl (bAdd (by omega)) rfl) ?_
     refine gMv ?_
     refine gE ?_
     exact IH (k + 1) _ _ ⟨hlt, fun i hi => by
     by_cases e : i = k
     · subst e; rw [← lowE hlt, ← lowE hlt2, h2]
     · exact hall i (by omega)⟩ (by omega) ⟨rfl, rfl, rfl, rfl, trivial⟩ .slnil
   ·
    have hge : ¬ k < xs.length := by simpa using hc
    obtain rfl : k = xs.length := by omega
    refine GoH.exit rfl (gS (gR ?_))
    refine gAs ?_
    refine gE ?_
    refine GoH.ret Tryd.f27 Tryd.func27 rfl (fun w' hS => ?_)
    exact ⟨hS.ext, by rw [eqI_of h1 hall, beq_self_eq_true]; rfl⟩
theorem reachedN_c (a : Option Addr) (ca : Nat) (p : List Int) (s : W64) (w : World) (n : Nat) (hn : p.length = n) (hT : Tab w) (ha : SlI w a p) (hp : OkP p) (hv : ∀ i ∈ pts s, i < n) :
    Cn Tryd.prog 32 [.slice a n ca, U s] w (fun v _ => v = U (rch p s)) := by subst hn; exact reached_c a ca p s w hT ha hp hv
theorem splitN_c (a : Option Addr) (ca : Nat) (xs : List Int) (b : Option Addr) (cb : Nat) (ys : List Int) (w : World) (n : Nat) (hx : xs.length = n) (hy : ys.length = n) (ha : SlI w a xs) (hb : SlI w b ys) (hp : OkP xs) :
    Cn Tryd.prog 30 [.slice a n ca, .slice b n cb] w (fun v w' => ∃ q, v = .tuple #[.slice (some ⟨q, 0, none⟩) n n, .int .i64 0] ∧ w.heap.size ≤ q ∧ w'.heap[q]? = some (ob I64 3 (divP xs ys) [])) := by
  subst hx; have := split_c a ca xs b cb ys w ha hb hp hy; rw [hy] at this; exact this
/-- relations of n worlds, as a list of lists in memory -/
structure RelAt (w : World) (n : Nat) (ra : Option Addr) (rows : List Row) : Prop where
  rel : SlR w ra rows
  row : ∀ r ∈ rows, r.At w ∧ Val r.xs ∧ r.xs.length = n
  len : rows.length ≤ 20
abbrev psM (n : Nat) (m : MV) (rows : List Row) : Nat → List Int := psq n m.val (rows.map Row.xs)
set_option maxRecDepth 8000 in
theorem rounds1_it (m : MV) (n : Nat) (ra : Option Addr) (rc : Nat) (rows : List Row) (w0 : World) (hT : Tab w0) (hm : m.At w0) (hv : ValM m.n m.val m.rel) (hn : m.n = (n : Int)) (hr : RelAt w0 n ra rows) (bm br : Nat) :
    IterE Tryd.prog w0 [] 28 [.pointer (some ⟨bm, 0, none⟩), .pointer (some ⟨br, 0, none⟩)] 3 (psM n m rows) [(some bm, .cells m.v.cells 25 (0, 0)), (some br, .cells #[.slice ra rows.length rc] 23 (0, 0))] := by
  obtain ⟨i0, hi, hz, hsz, hby⟩ := info_parts infoI
  have hn64 := hv.n64
  have hn1 := hv.n1
  have hrl := hr.len
  refine IterE.of Tryd.func28 rfl rfl (fun Y σ Hc N I X Yx L hN hy c0 hI0 => ?_)
  refine gS (gR ?_)
  refine gFp Tryd.underlying25 Tryd.sizeOf3 0 ?_
  refine GoH.v (Vop.ldo (v := .int .i64 m.n) rfl rfl rfl rfl Tryd.isAgg3 0 rfl rfl) ?_
  refine GoH.mkE I64 0 (m := n) rfl rfl (by rw [← hn]; rfl) (by rw [← hn]; rfl) rfl Tryd.underlying29 hi hz rfl hsz (by rw [hby]; omega) (by unfold maxLen; omega) (fun b17 => ?_)
  refine gAs ?_
  refine gE (gS (gR ?_))
  refine gFp Tryd.underlying25 Tryd.sizeOf3 0 ?_
  refine GoH.v (Vop.ldo (v := .int .i64 m.n) rfl rfl rfl rfl Tryd.isAgg3 1 rfl rfl) ?_
  refine GoH.mkE I64 0 (m := n) rfl rfl (by rw [← hn]; rfl) (by rw [← hn]; rfl) rfl Tryd.underlying29 hi hz rfl hsz (by rw [hby]; omega) (by unfold maxLen; omega) (fun b20 => ?_)
  refine gAs ?_
  refine gE (gS (gS (gR ?_)))
  refine gMv ?_
  refine gBl Tryd.underlying29 ?_
  refine gMv ?_
  refine gE (gB ?_)
  refine GoH.loop (σ := Nat) (fun k => [(0, Value.func (.yield L) #[] #[]), (1, .pointer (some ⟨bm, 0, none⟩)), (2, .pointer (some ⟨br, 0, none⟩)), (4, .slice (some ⟨b17, 0, none⟩) n n), (5, .slice (some ⟨b20, 0, none⟩) n n), (22, .int .i64 n), (23, .int .i64 k)])
    (fun k => (some b20, ob I64 3 (fillI n (fun x => (fm m.val x : Int)) k) []) :: (some b17, ob I64 3 (List.replicate n 0) []) :: (some bm, .cells m.v.cells 25 (0, 0)) :: (some br, .cells #[.slice ra rows.length rc] 23 (0, 0)) :: Hc c0)
    (fun k => k ≤ n) (fun k => n - k) 0 (Nat.zero_le _) ⟨rfl, rfl, rfl, rfl, rfl, rfl, rfl, trivial⟩ (by rw [fillI_zero]; exact List.Sublist.refl _) (fun k hI IH => ?_)
  refine gS (gR ?_)
  refine gBi bLt ?_
  refine gE (gS ?_)
  refine GoH.cond rfl (fun hc => ?_) (fun hc => ?_)
  ·
   have hlt : k < n := by simpa using hc
   refine gK (gS (gB (gS (gR ?_))))
   refine gMv ?_
   refine gAs ?_
   refine gE (gR ?_)
   iterate 2 refine gMv ?_
   refine GoH.v (Vop.ldB rfl rfl rfl rfl Tryd.isAgg25 2 rfl Tryd.sizeOf25 rfl) ?_
   refine gMv ?_
   refine GoH.callP rfl rfl rfl rfl rfl (fun _ _ => Tryd.call29 _ _) (fun w _ hS => facts_c m k w (hm.ex0 hS.ext) hv (by omega)) ?_
   refine GoH.v (Vop.idxS rfl rfl rfl rfl rfl Tryd.underlying29 Tryd.sizeOf3 (k) ⟨rfl, (by simpa using hlt)⟩) ?_
   refine GoH.stE (Value.int .i64) _ rfl rfl rfl rfl Tryd.sizeOf3 rfl 0 rfl (by rw [fillI_len]; exact hlt) ?_
   refine gE (gIb (gR ?_))
   refine GoH.v (Vop.bin rfl rfl rfl rfl (bAdd (by omega)) rfl) ?_
   refine gMv ?_
   refine gE ?_
   exact IH (k + 1) _ _ hlt (by omega) ⟨rfl, rfl, rfl, rfl, rfl, rfl, rfl, trivial⟩ (by rw [← fillI_set hlt]; exact List.Sublist.refl _)
  ·
   have hge : ¬ k < n := by simpa using hc
   obtain rfl : n = k := by omega
   refine GoH.exit rfl (gS (gR ?_))
   iterate 2 refine gMv ?_
   refine GoH.callM _ rfl rfl rfl rfl rfl (fun _ _ => Tryd.call30 _ _) (fun w _ hS => splitN_c (some ⟨b17, 0, none⟩) n (List.replicate n 0) (some ⟨b20, 0, none⟩) n (fillI n (fun x => (fm m.val x : Int)) n) w n (by simp) fillI_len (sliAt hS 1 (q := some b17) rfl (fun e => by cases e)) (sliAt hS 0 (q := some b20) rfl (fun e => by cases e)) (okP_zero (by omega))) ?_
   rintro v w1 w2 Y' hS he ⟨q, rfl, hq, hh⟩
   rw [fillI_all, div_zero] at hh
   refine ⟨_, hS.gain he hh rfl hq, ?_⟩
   refine gMv ?_
   iterate 2 refine gEx ?_
   refine gAs ?_
   refine gE (gB ?_)
   have hpl : ∀ i, (psM n m rows i).length = n := fun i => psq_len i
   have hpo : ∀ i, OkP (psM n m rows i) := fun i => psq_ok (by omega) i
   have hV0 : ∀ b (t : List Nat), pV (psM n m rows) b t = .slice (some ⟨b, 0, none⟩) n n := fun b t => by rw [pV, hpl]
   refine GoH.pickT (pre := [_, _, _, _, _]) (pre' := [(some bm, .cells m.v.cells 25 (0, 0)), (some br, .cells #[.slice ra rows.length rc] 23 (0, 0)), (some q, ob I64 3 (psM n m rows 0) [])]) (Hc c0) [3, 4, 0] (by decide) rfl ?_
   refine GoH.loop (σ := List Nat × Nat × σ) (fun z => [(0, Value.func (.yield L) #[] #[]), (1, .pointer (some ⟨bm, 0, none⟩)), (2, .pointer (some ⟨br, 0, none⟩)), (4, .slice (some ⟨z.2.1, 0, none⟩) n n)])
     (fun z => (some bm, .cells m.v.cells 25 (0, 0)) :: (some br, .cells #[.slice ra rows.length rc] 23 (0, 0)) :: (some z.2.1, ob I64 3 (psM n m rows z.1.length) []) :: (Hist 3 (psM n m rows) z.1 ++ Hc z.2.2))
     (fun z => I z.1 z.2.2) (fun z => N + 1 - z.1.length) ([], q, c0) hI0 ⟨rfl, rfl, rfl, rfl, trivial⟩ (List.Sublist.refl _) (fun z hI IH => ?_)
   obtain ⟨t, q, c⟩ := z
   dsimp only at hI IH ⊢
   refine gS (gS (gR ?_))
   iterate 2 refine gMv ?_
   refine GoH.yieldI (a := [pV (psM n m rows) q t]) (fun h' => ∃ c', I (q :: t) c' ∧ h' = (some bm, .cells m.v.cells 25 (0, 0)) :: (some br, .cells #[.slice ra rows.length rc] 23 (0, 0)) :: (some q, ob I64 3 (psM n m rows t.length) []) :: (Hist 3 (psM n m rows) t ++ Hc c'))
     (fun h' Y' => ∃ c', X (q :: t) c' ∧ h' = (some bm, .cells m.v.cells 25 (0, 0)) :: (some br, .cells #[.slice ra rows.length rc] 23 (0, 0)) :: (some q, ob I64 3 (psM n m rows t.length) []) :: (Hist 3 (psM n m rows) t ++ Hc c') ∧ Y' = Yx c') rfl rfl rfl (by rw [hV0]; rfl) rfl
     (fun w Y1 hS => ?_) (fun h' hh => ?_) (fun h' Y' hh => ?_)
   · obtain ⟨fn, tm, as', bd, hyy, hrr⟩ := hy q t c hI [(some bm, .cells m.v.cells 25 (0, 0)), (some br, .cells #[.slice ra rows.length rc] 23 (0, 0))] w Y1 hS
     refine ⟨fn, tm, as', bd, hyy, fun c2 cs => ?_⟩
     obtain ⟨v, w', hpost, hst⟩ := hrr c2 cs
     refine ⟨v, w', ?_, hst⟩
     rcases hpost with ⟨hv, c', hI', hS'⟩ | ⟨hv, c', hX', hS'⟩
     · exact .inl ⟨hv, _, ⟨c', hI', rfl⟩, hS'⟩
     · exact .inr ⟨hv, _, _, ⟨c', hX', rfl, rfl⟩, hS'⟩
   rotate_left
   · obtain ⟨c', hX', rfl, rfl⟩ := hh
     refine GoH.regionEnd (GoH.condF rfl (GoH.exit rfl (GoH.fin Tryd.f28 Tryd.func28 rfl (fun w' hS => ⟨q :: t, c', hX', hS.subH (.cons _ (.cons _ (List.Sublist.refl _)))⟩))))
   obtain ⟨c', hI', rfl⟩ := hh
   have htN := hN _ _ hI'
   rw [List.length_cons] at htN
   refine gE (GoH.condT rfl (gK (gB (gS (gR ?_)))))
   refine GoH.mkMap bstr evN rfl rfl rfl (fun b42 => ?_)
   refine gAs ?_
   refine gE (gS (gR ?_))
   refine gFp Tryd.underlying25 Tryd.sizeOf3 0 ?_
   refine GoH.v (Vop.ldo (v := .int .i64 m.n) rfl rfl rfl rfl Tryd.isAgg3 1 rfl rfl) ?_
   refine GoH.mkE I64 0 (m := n) rfl rfl (by rw [← hn]; rfl) (by rw [← hn]; rfl) rfl Tryd.underlying29 hi hz rfl hsz (by rw [hby]; omega) (by unfold maxLen; omega) (fun b45 => ?_)
   refine gAs ?_
   refine gE (gS (gS (gR ?_)))
   refine gMv ?_
   refine gBl Tryd.underlying29 ?_
   refine gMv ?_
   refine gE (gB ?_)
   obtain ⟨p, hp⟩ : ∃ p, psM n m rows t.length = p := ⟨_, rfl⟩
   have hpn : p.length = n := by rw [← hp]; exact hpl _
   have hpk : OkP p := by rw [← hp]; exact hpo _
   have hKs := KeyOk.bstr (P := Tryd.prog) (kt := 9) Tryd.underlying9
   refine GoH.loop (σ := Nat × List (List UInt8 × Nat) × List Int) (fun z => [(0, Value.func (.yield L) #[] #[]), (1, .pointer (some ⟨bm, 0, none⟩)), (2, .pointer (some ⟨br, 0, none⟩)), (4, .slice (some ⟨q, 0, none⟩) n n), (7, .map (some b42)), (8, .slice (some ⟨b45, 0, none⟩) n n), (47, .int .i64 n), (48, .int .i64 z.1)])
     (fun z => (some b45, ob I64 3 z.2.2 []) :: (some b42, mobj bstr evN z.2.1) :: (some bm, .cells m.v.cells 25 (0, 0)) :: (some br, .cells #[.slice ra rows.length rc] 23 (0, 0)) :: (some q, ob I64 3 p []) :: (Hist 3 (psM n m rows) t ++ Hc c'))
     (fun z => Nums (ksOf (rows.map Row.xs) p) n z.2.1 z.2.2 z.1) (fun z => n - z.1) (0, [], List.replicate n 0) Nums.start ⟨rfl, rfl, rfl, rfl, rfl, rfl, rfl, rfl, trivial⟩ (by rw [← hp]; exact List.Sublist.refl _) (fun z hI IH2 => ?_)
   obtain ⟨k, Lm, l⟩ := z
   have hIk := hI.le
   have hIl := hI.len
   dsimp only at hI IH2 hIk hIl ⊢
   refine gS (gR ?_)
   refine gBi bLt ?_
   refine gE (gS ?_)
   refine GoH.cond rfl (fun hc => ?_) (fun hc => ?_)
   ·
    have hlt : k < n := by simpa using hc
    refine gK (gS (gB (gS (gR ?_))))
    refine gMv ?_
    refine gAs ?_
    refine gE (gS (gR ?_))
    refine gAs ?_
    refine gE (gS (gS (gR ?_)))
    refine gLo Tryd.isAgg23 3 ?_
    refine gBl Tryd.underlying23 ?_
    refine gMv ?_
    refine gE (gB ?_)
    refine GoH.loop (σ := Nat) (fun j => [(0, Value.func (.yield L) #[] #[]), (1, .pointer (some ⟨bm, 0, none⟩)), (2, .pointer (some ⟨br, 0, none⟩)), (4, .slice (some ⟨q, 0, none⟩) n n), (7, .map (some b42)), (8, .slice (some ⟨b45, 0, none⟩) n n), (47, .int .i64 n), (48, .int .i64 k), (9, .int .i64 k), (10, bstr (keyL ((rows.take j).map (fun r => rch p (r.xs.getD k 0#64))))), (51, .slice ra rows.length rc), (52, .int .i64 rows.length), (53, .int .i64 j)])
      (fun _ => (some b45, ob I64 3 l []) :: (some b42, mobj bstr evN Lm) :: (some bm, .cells m.v.cells 25 (0, 0)) :: (some br, .cells #[.slice ra rows.length rc] 23 (0, 0)) :: (some q, ob I64 3 p []) :: (Hist 3 (psM n m rows) t ++ Hc c'))
      (fun j => j ≤ rows.length) (fun j => rows.length - j) 0 (Nat.zero_le _) ⟨rfl, rfl, rfl, rfl, rfl, rfl, rfl, rfl, rfl, rfl, rfl, rfl, rfl, trivial⟩ (List.Sublist.refl _) (fun j hj IH3 => ?_)
    refine gS (gR ?_)
    refine gBi bLt ?_
    refine gE (gS ?_)
    refine GoH.cond rfl (fun hc => ?_) (fun hc => ?_)
    ·
     have hltj : j < rows.length := by simpa using hc
     obtain ⟨hrow, hrv, hrn⟩ := hr.row rows[j] (List.getElem_mem hltj)
     have hkr : k < rows[j].xs.length := by omega
     have hb0 := hexW_len (rch p (rows[j].xs.getD k 0#64))
     have hb1 : (hexN (rch p (rows[j].xs.getD k 0#64)).toNat).length + ([32] : List UInt8).length ≤ 1000000 := by rw [List.length_singleton]; omega
     have hb2 : (keyL ((rows.take j).map (fun r => rch p (r.xs.getD k 0#64)))).length + (hexN (rch p (rows[j].xs.getD k 0#64)).toNat ++ [32]).length ≤ 1000000 := by
       rw [List.length_append, List.length_singleton]
       have h2 := keyL_len ((rows.take j).map (fun r => rch p (r.xs.getD k 0#64)))
       have h3 : ((rows.take j).map (fun r => rch p (r.xs.getD k 0#64))).length = j := by rw [List.length_map, List.length_take]; omega
       rw [h3] at h2; omega
     refine gK (gS (gB (gS (gR ?_))))
     refine GoH.v (Vop.idx rfl rfl rfl rfl rfl Tryd.underlying23 Tryd.sizeOf22 ⟨_, hr.rel⟩ (by simp) (j) ⟨rfl, by simpa using hltj⟩) ?_
     refine GoH.v (Vop.ld rfl rfl rfl rfl Tryd.isAgg22 (fun w _ hS => (SlR.ex0 hr.rel hS.ext).at (j) hltj)) ?_
     refine gAs ?_
     refine gE (gR ?_)
     iterate 4 refine gMv ?_
     refine GoH.v (Vop.idx rfl rfl rfl rfl rfl Tryd.underlying22 Tryd.sizeOf37 ⟨_, hrow.at_⟩ (by simp) (k) ⟨rfl, by simpa using hkr⟩) ?_
     refine GoH.v (Vop.ld rfl rfl rfl rfl Tryd.isAgg37 (fun w _ hS => (SlU.ex0 hrow.at_ hS.ext).at (k) hkr)) ?_
     refine GoH.callP rfl rfl rfl rfl rfl (fun _ _ => Tryd.call32 _ _) (fun w _ hS => reachedN_c (some ⟨q, 0, none⟩) n p (rows[j].xs.getD k 0#64) w n hpn (hT.ex hS.ext) (sliAt hS 4 (q := some q) rfl (fun e => by cases e)) hpk (fun i hi => by have := hrv.pts k i hi; omega)) ?_
     refine GoH.callP rfl rfl rfl rfl rfl (fun _ _ => Tryd.call31 _ _) (fun w _ hS => fmtU_c (rch p (rows[j].xs.getD k 0#64)) w (hT.ex hS.ext)) ?_
     refine GoH.v (Vop.bin rfl rfl rfl rfl (bCat (b := [32]) hb1) rfl) ?_
     refine GoH.v (Vop.bin rfl rfl rfl rfl (bCat hb2) rfl) ?_
     refine gAs ?_
     refine gE (gIb (gR ?_))
     refine GoH.v (Vop.bin rfl rfl rfl rfl (bAdd (by omega)) rfl) ?_
     refine gMv ?_
     refine gE ?_
     exact IH3 (j + 1) _ _ hltj (by omega) ⟨rfl, rfl, rfl, rfl, rfl, rfl, rfl, rfl, rfl, (by rw [List.take_succ_eq_append_getElem hltj, List.map_append, List.map_singleton, keyL_snoc]; rfl), rfl, rfl, rfl, trivial⟩ (List.Sublist.refl _)
    ·
     have hge : ¬ j < rows.length := by simpa using hc
     obtain rfl : j = rows.length := by omega
     have hks : keyL ((rows.take rows.length).map (fun r => rch p (r.xs.getD k 0#64))) = ksOf (rows.map Row.xs) p k := by rw [List.take_length, ksOf, List.map_map]; rfl
     rw [hks]
     refine GoH.exit rfl (gS (gS (gR ?_)))
     iterate 2 refine gMv ?_
     refine GoH.v (Vop.lkup (ev := evN) (a := ksOf (rows.map Row.xs) p k) (z := .int .i64 0) (L := Lm) hKs rfl rfl rfl rfl rfl Tryd.underlying61 (fun _ => Tryd.zeroValue3 _) 1 rfl) ?_
     refine gMv ?_
     iterate 2 refine gEx ?_
     iterate 2 refine gAs ?_
     refine gE (gS (gR ?_))
     refine gMv ?_
     refine gUn uNot ?_
     refine gE ?_
     refine GoH.cond rfl (fun hc => ?_) (fun hc => ?_)
     ·
      have hno : mget (fun a b => a == b) Lm (ksOf (rows.map Row.xs) p k) = none := by
        cases h : mget (fun a b => a == b) Lm (ksOf (rows.map Row.xs) p k) with
        | none => rfl
        | some v => rw [h] at hc; simp at hc
      obtain ⟨hI2, hnew⟩ := hI.new hno
      refine gR ?_
      iterate 3 refine gMv ?_
      refine GoH.v (Vop.lenM rfl rfl rfl rfl Tryd.underlying61 1 rfl) ?_
      refine GoH.mapIns hKs rfl (.inl rfl) rfl rfl rfl (a := ksOf (rows.map Row.xs) p k) (v := Lm.length) rfl rfl Tryd.underlying61 1 rfl hno ?_
      refine gE (gR ?_)
      iterate 4 refine gMv ?_
      refine GoH.v (Vop.lkup1 (ev := evN) (a := ksOf (rows.map Row.xs) p k) (v := Lm.length) hKs rfl rfl rfl rfl rfl Tryd.underlying61 1 rfl hnew) ?_
      refine GoH.v (Vop.idxS rfl rfl rfl rfl rfl Tryd.underlying29 Tryd.sizeOf3 (k) ⟨rfl, (by simpa using hlt)⟩) ?_
      refine GoH.stE (Value.int .i64) _ rfl rfl rfl rfl Tryd.sizeOf3 rfl 0 rfl (by rw [hIl]; exact hlt) ?_
      refine gE (gIb (gR ?_))
      refine GoH.v (Vop.bin rfl rfl rfl rfl (bAdd (by omega)) rfl) ?_
      refine gMv ?_
      refine gE ?_
      exact IH2 (k + 1, Lm ++ [(ksOf (rows.map Row.xs) p k, Lm.length)], l.set k (Lm.length : Int)) _ _ (hI2.old hlt hnew) (by dsimp only; omega) ⟨rfl, rfl, rfl, rfl, rfl, rfl, rfl, rfl, trivial⟩ (List.Sublist.refl _)
     ·
      obtain ⟨v, hv⟩ : ∃ v, mget (fun a b => a == b) Lm (ksOf (rows.map Row.xs) p k) = some v := by
        cases h : mget (fun a b => a == b) Lm (ksOf (rows.map Row.xs) p k) with
        | none => rw [h] at hc; simp at hc
        | some v => exact ⟨v, rfl⟩
      refine gK (gR ?_)
      iterate 4 refine gMv ?_
      refine GoH.v (Vop.lkup1 (ev := evN) (a := ksOf (rows.map Row.xs) p k) (v := v) hKs rfl rfl rfl rfl rfl Tryd.underlying61 1 rfl hv) ?_
      refine GoH.v (Vop.idxS rfl rfl rfl rfl rfl Tryd.underlying29 Tryd.sizeOf3 (k) ⟨rfl, (by simpa using hlt)⟩) ?_
      refine GoH.stE (Value.int .i64) _ rfl rfl rfl rfl Tryd.sizeOf3 rfl 0 rfl (by rw [hIl]; exact hlt) ?_
      refine gE (gIb (gR ?_))
      refine GoH.v (Vop.bin rfl rfl rfl rfl (bAdd (by omega)) rfl) ?_
      refine gMv ?_
      refine gE ?_
      exact IH2 (k + 1, Lm, l.set k (v : Int)) _ _ (hI.old hlt hv) (by dsimp only; omega) ⟨rfl, rfl, rfl, rfl, rfl, rfl, rfl, rfl, trivial⟩ (List.Sublist.refl _)
   ·
    have hge : ¬ k < n := by simpa using hc
    obtain rfl : n = k := by omega
    have hnx : divP p l = psM n m rows (t.length + 1) := by
      rw [show psM n m rows (t.length + 1) = nxt (rows.map Row.xs) (psM n m rows t.length) from rfl, hp]
      subst hpn
      exact nums_next hI
    refine GoH.exit rfl (gR ?_)
    iterate 2 refine gMv ?_
    refine GoH.callM _ rfl rfl rfl rfl rfl (fun _ _ => Tryd.call30 _ _) (fun w _ hS => splitN_c (some ⟨q, 0, none⟩) n p (some ⟨b45, 0, none⟩) n l w n hpn hIl (sliAt hS 4 (q := some q) rfl (fun e => by cases e)) (sliAt hS 0 (q := some b45) rfl (fun e => by cases e)) hpk) ?_
    rintro v w1 w2 Y' hS he ⟨q2, rfl, hq, hh⟩
    rw [hnx] at hh
    refine ⟨_, (hS.gain he hh rfl hq).pickT (pre := [_, _, _, _, _, _]) (pre' := [(some bm, .cells m.v.cells 25 (0, 0)), (some br, .cells #[.slice ra rows.length rc] 23 (0, 0)), (some q2, ob I64 3 (psM n m rows (t.length + 1)) []), (some q, ob I64 3 p [])]) [3, 4, 0, 5] (by decide) rfl, ?_⟩
    refine gMv ?_
    iterate 2 refine gEx ?_
    refine gAs ?_
    refine gE (gIb ?_)
    exact IH (q :: t, q2, c') _ _ hI' (by simp only [List.length_cons]; omega) ⟨rfl, rfl, rfl, rfl, trivial⟩ (by rw [← hp]; exact List.Sublist.refl _)
end Go.Proofs.YthojdcaojjmoaaaDoor
namespace Go.Proofs.YthojdcaojjmoaaaDoor
open Go.RowKit Go.Proofs.Wit
/-! partitions into bisimilar worlds -/
theorem rounds_c (m : MV) (ra : Option Addr) (rc : Nat) (rl : Nat) (w : World) :
    Cn Tryd.prog 16 [m.v, .slice ra rl rc] w (fun v w' => ∃ b c, v = .func (.func 28) #[] #[.pointer (some ⟨b, 0, none⟩), .pointer (some ⟨c, 0, none⟩)] ∧ NewH w w' [(some b, .cells m.v.cells 25 (0, 0)), (some c, .cells #[.slice ra rl rc] 23 (0, 0))]) := by
  refine Cn.of Tryd.func16 rfl rfl ?_
  refine gS (gR ?_)
  refine GoH.bx rfl rfl rfl rfl (fun b2 => ?_)
  refine GoH.bx rfl rfl rfl rfl (fun b3 => ?_)
  refine gAs ?_
  refine gE (gS (gR ?_))
  refine GoH.v (Vop.mkFunc rfl rfl rfl rfl rfl) ?_
  refine gAs ?_
  refine gE ?_
  refine GoH.ret Tryd.f16 Tryd.func16 rfl (fun w' hS => ?_)
  exact ⟨hS.ext, b2, b3, rfl, (NewH.of (hS.pickT (pre := [_, _]) (pre' := [_, _]) (HR := []) [1, 0] (by decide) rfl)).sub (List.Sublist.refl _)⟩
def prevA : List Nat → Option Addr
  | [] => none
  | b :: _ => some ⟨b, 0, none⟩
def prevL (pf : Nat → List Int) : List Nat → List Int
  | [] => []
  | _ :: t => pf t.length
def Chain (pf : Nat → List Int) (t : List Nat) : Prop := ∀ j, j + 1 < t.length → pf j ≠ pf (j + 1)
def prevV (pf : Nat → List Int) (t : List Nat) : Value := .slice (prevA t) (prevL pf t).length (prevL pf t).length
set_option maxRecDepth 8000 in
theorem stable_c (m : MV) (n : Nat) (ra : Option Addr) (rc : Nat) (rows : List Row) (w : World) (hT : Tab w) (hm : m.At w) (hv : ValM m.n m.val m.rel) (hn : m.n = (n : Int)) (hr : RelAt w n ra rows) :
    Cn Tryd.prog 15 [m.v, .slice ra rows.length rc] w (fun v w' => ∃ q, v = .tuple #[.slice (some ⟨q, 0, none⟩) n n, .int .i64 (dep n m.val (rows.map Row.xs))] ∧ w.heap.size ≤ q ∧ w'.heap[q]? = some (ob I64 3 (psM n m rows (dep n m.val (rows.map Row.xs))) [])) := by
  have hn64 := hv.n64
  have hn1 := hv.n1
  obtain ⟨hd1, hd2, hd3⟩ := dep_spec (n := n) (val := m.val) (rels := rows.map Row.xs) (by omega) (by omega)
  have hlt : ∀ t, Chain (psM n m rows) t → t.length ≤ n := fun t ht => by
    apply Classical.byContradiction
    intro hc
    exact ht (dep n m.val (rows.map Row.xs)) (by omega) hd2
  refine Cn.of Tryd.func15 rfl rfl ?_
  refine gS (gR ?_)
  refine GoH.bx rfl rfl rfl rfl (fun b2 => ?_)
  iterate 2 refine gAs ?_
  refine gE (gS (gR ?_))
  refine GoH.alc rfl rfl rfl (fun _ => Tryd.zeroValue29 _) (fun b6 => ?_)
  refine gE (gS (gR ?_))
  refine GoH.alc rfl rfl rfl (fun _ => Tryd.zeroValue3 _) (fun b7 => ?_)
  refine GoH.st rfl rfl rfl rfl Tryd.sizeOf3 rfl 0 rfl rfl ?_
  refine gE (gS (gS (gR ?_)))
  refine GoH.v (Vop.ldB rfl rfl rfl rfl Tryd.isAgg25 2 rfl Tryd.sizeOf25 rfl) ?_
  refine gMv ?_
  refine GoH.callM _ rfl rfl rfl rfl rfl (fun _ _ => Tryd.call16 _ _) (fun w _ hS => rounds_c m ra rc rows.length w) ?_
  rintro v w1 w2 Y' hS he ⟨bm, br, rfl, hH⟩
  refine ⟨_, hS.gainL he hH, ?_⟩
  refine gE (gB ?_)
  refine GoH.rangeE (σ := List Nat) (cap := [(some bm, .cells m.v.cells 25 (0, 0)), (some br, .cells #[.slice ra rows.length rc] 23 (0, 0))]) (fun s => [(some b7, .cells #[.int .i64 ((s.length : Int) - 1)] 3 (0, 0)), (some b6, .cells #[prevV (psM n m rows) s] 29 (0, 0)), (some b2, .cells m.v.cells 25 (0, 0))]) n (fun t s => t = s ∧ Chain (psM n m rows) t)
    (fun c t s => c = .exit 0 ∧ ∃ b b' s', t = b :: s ∧ s = b' :: s' ∧ Chain (psM n m rows) s ∧ psM n m rows s'.length = psM n m rows (s'.length + 1)) []
    rfl (fun _ _ => Tryd.call28 _ _) (rounds1_it m n ra rc rows _ hT hm hv hn hr bm br) rfl rfl (fun t s h => hlt t h.2) ⟨rfl, fun j hj => by simp at hj⟩ (List.Sublist.refl _) ?_ ?_ ?_
  · -- a round
   intro L Y' rec hi b t s hI hrec
   obtain ⟨rfl, hch⟩ := hI
   dsimp only [pV]
   have htl := hlt t hch
   refine gR ?_
   refine gAs ?_
   refine gE ?_
   refine GoH.beginRound hrec ?_
   refine gB (gS (gS (gR ?_)))
   refine gMv ?_
   refine gLo Tryd.isAgg29 1 ?_
   refine GoH.callP rfl rfl rfl rfl rfl (fun _ _ => Tryd.call27 _ _) (fun w _ hS => (by
   refine equalI_c (some ⟨b, 0, none⟩) (psM n m rows t.length).length (psM n m rows t.length) (prevA t) (prevL (psM n m rows) t).length (prevL (psM n m rows) t) w (sliAt hS 3 (q := some b) rfl (fun e => by cases e)) ?_ (by rw [psq_len]; unfold maxLen; omega)
   cases t with
   | nil => exact Sl.nil _ _
   | cons b' t' => exact sliAt hS 4 (q := some b') rfl (fun e => by cases e))) ?_
   refine gE ?_
   refine GoH.cond rfl (fun hc => ?_) (fun hc => ?_)
   ·
    have h1 : psM n m rows t.length = prevL (psM n m rows) t := by simpa using hc
    cases t with
    | nil => have h2 := congrArg List.length h1; rw [psq_len] at h2; simp [prevL] at h2; omega
    | cons b' t' => exact GoH.rExit (b :: b' :: t', b' :: t') rfl ⟨rfl, rfl, b, b', t', rfl, rfl, hch, h1.symm⟩ (List.Sublist.refl _)
   ·
    have h1 : psM n m rows t.length ≠ prevL (psM n m rows) t := by simpa using hc
    refine gK (gS (gR ?_))
    refine gMv ?_
    refine GoH.st rfl rfl rfl rfl Tryd.sizeOf29 rfl 1 rfl rfl ?_
    refine gE (gR ?_)
    refine gLo Tryd.isAgg3 0 ?_
    refine GoH.v (Vop.bin rfl rfl rfl rfl (bAdd (by omega)) rfl) ?_
    refine GoH.st rfl rfl rfl rfl Tryd.sizeOf3 rfl 0 rfl rfl ?_
    refine gE (gIb ?_)
    refine GoH.rEnd (b :: t, b :: t) ⟨rfl, rfl, fun j hj => ?_⟩ (by simp only [List.length_cons]; rw [show ((t.length + 1 : Nat) : Int) - 1 = (t.length : Int) - 1 + 1 from by omega]; exact List.Sublist.refl _)
    simp only [List.length_cons] at hj
    by_cases e : j + 1 < t.length
    · exact hch j e
    · cases t with
      | nil => simp at hj
      | cons b' t' =>
        simp only [List.length_cons] at hj e
        obtain rfl : j = t'.length := by omega
        exact fun e => h1 e.symm
  · -- all have come
   exact fun h => h
  · -- stopped
   rintro c t s ⟨rfl, b, b', s', rfl, rfl, hch, hq⟩
   have hdq : s'.length = dep n m.val (rows.map Row.xs) := dep_uniq (by omega) (by omega) hq (fun j hj => hch j (by simp only [List.length_cons]; omega))
   dsimp only [prevV, prevL, prevA]
   refine GoH.exit rfl (gS ?_)
   refine GoH.draw 4 mixed rfl ?_
   refine rLo Tryd.isAgg29 1 ?_
   refine rLo Tryd.isAgg3 0 ?_
   iterate 2 refine rAs ?_
   refine RdGo.nil ?_
   refine gE ?_
   refine GoH.ret Tryd.f15 Tryd.func15 rfl (fun w' hS => ?_)
   refine ⟨hS.ext, b', by rw [← hdq, psq_len]; simp; rfl, ?_⟩
   rw [← hdq]
   exact ⟨hS.fresh (j := 4) rfl, hS.get (j := 4) rfl⟩
theorem ValM.relAt {m : MV} {w : World} {n : Nat} (hv : ValM m.n m.val m.rel) (hm : m.At w) (hn : m.n = (n : Int)) : RelAt w n m.ra m.rows :=
  ⟨hm.rel, fun r h => ⟨hm.row r h, hv.rels r.xs (List.mem_map.2 ⟨r, h, rfl⟩), by have := hv.len r.xs (List.mem_map.2 ⟨r, h, rfl⟩); omega⟩, by
    have h1 := hv.agents
    have h2 : m.rel.length = m.rows.length := by simp [MV.rel]
    omega⟩
theorem coarsest_c (m : MV) (w : World) (hT : Tab w) (hm : m.At w) :
    Cn Tryd.prog 7 [m.v] w (fun v w' => ∃ sv, v = .tuple #[sv, .int .i64 (checkM m.n m.val m.rel)] ∧ OwnS I64 3 w w' sv (crs m.n m.val m.rel)) := by
  refine Cn.of Tryd.func7 rfl rfl ?_
  refine gS (gR ?_)
  refine GoH.bx rfl rfl rfl rfl (fun b1 => ?_)
  iterate 2 refine gAs ?_
  refine gE (gS (gS (gR ?_)))
  refine GoH.v (Vop.ldB rfl rfl rfl rfl Tryd.isAgg25 0 rfl Tryd.sizeOf25 rfl) ?_
  refine GoH.callP rfl rfl rfl rfl rfl (fun _ _ => Tryd.call14 _ _) (fun w _ hS => (by exact mcheck_c m w (hm.ex0 hS.ext))) ?_
  refine gAs ?_
  refine gE (gS (gR ?_))
  refine gMv ?_
  refine gBi bNe ?_
  refine gE ?_
  refine GoH.cond rfl (fun hc => ?_) (fun hc => ?_)
  ·
   have h1 : checkM m.n m.val m.rel ≠ 0 := by simpa using hc
   refine gS (gR ?_)
   refine gMv ?_
   iterate 2 refine gAs ?_
   refine gE ?_
   refine GoH.ret Tryd.f7 Tryd.func7 rfl (fun w' hS => ?_)
   exact ⟨hS.ext, _, rfl, by rw [crs_bad h1]; exact OwnS.nil0⟩
  ·
   have h1 : checkM m.n m.val m.rel = 0 := by simpa using hc
   have hv := checkM_zero.1 h1
   obtain ⟨n, hn⟩ : ∃ n : Nat, m.n = n := ⟨m.n.toNat, by have := hv.n1; omega⟩
   refine gK (gS (gR ?_))
   refine GoH.v (Vop.ldB rfl rfl rfl rfl Tryd.isAgg25 0 rfl Tryd.sizeOf25 rfl) ?_
   refine gFp Tryd.underlying25 Tryd.sizeOf23 2 ?_
   refine GoH.v (Vop.ldo (v := .slice m.ra m.rows.length m.rc) rfl rfl rfl rfl Tryd.isAgg23 0 rfl rfl) ?_
   refine GoH.callM _ rfl rfl rfl rfl rfl (fun _ _ => Tryd.call15 _ _) (fun w _ hS => stable_c m n m.ra m.rc m.rows w (hT.ex hS.ext) (hm.ex0 hS.ext) hv hn (ValM.relAt hv (hm.ex0 hS.ext) hn)) ?_
   rintro v w1 w2 Y' hS he ⟨q, rfl, hq, hh⟩
   refine ⟨_, hS.gain he hh rfl hq, ?_⟩
   refine gMv ?_
   iterate 2 refine gEx ?_
   iterate 2 refine gAs ?_
   refine gE (gS (gR ?_))
   refine gMv ?_
   iterate 2 refine gAs ?_
   refine gE ?_
   refine GoH.ret Tryd.f7 Tryd.func7 rfl (fun w' hS => ?_)
   exact ⟨hS.ext, _, by rw [h1]; rfl, by rw [crs_ok h1, hn]; exact OwnS.one hS 0 rfl (psq_len _).symm⟩
set_option maxRecDepth 8000 in
theorem roundsX_c (m : MV) (k : Int) (w : World) (hT : Tab w) (hm : m.At w) :
    Cn Tryd.prog 8 [m.v, .int .i64 k] w (fun v w' => ∃ sv, v = .tuple #[sv, .int .i64 (rndsE m.n m.val m.rel k)] ∧ OwnS I64 3 w w' sv (rnds m.n m.val m.rel k)) := by
  refine Cn.of Tryd.func8 rfl rfl ?_
  refine gS (gR ?_)
  refine GoH.bx rfl rfl rfl rfl (fun b2 => ?_)
  refine GoH.bx rfl rfl rfl rfl (fun b3 => ?_)
  refine GoH.alc rfl rfl rfl (fun _ => Tryd.zeroValue29 _) (fun b4 => ?_)
  refine GoH.alc rfl rfl rfl (fun _ => Tryd.zeroValue3 _) (fun b5 => ?_)
  refine gE (gS (gS (gR ?_)))
  refine GoH.v (Vop.ldB rfl rfl rfl rfl Tryd.isAgg25 3 rfl Tryd.sizeOf25 rfl) ?_
  refine GoH.callP rfl rfl rfl rfl rfl (fun _ _ => Tryd.call14 _ _) (fun w _ hS => (by exact mcheck_c m w (hm.ex0 hS.ext))) ?_
  refine gAs ?_
  refine gE (gS (gR ?_))
  refine gMv ?_
  refine gBi bNe ?_
  refine gE ?_
  refine GoH.cond rfl (fun hc => ?_) (fun hc => ?_)
  ·
   have h1 : checkM m.n m.val m.rel ≠ 0 := by simpa using hc
   have h2 : rndsE m.n m.val m.rel k ≠ 0 := by rw [rndsE, if_pos h1]; exact h1
   refine gS (gR ?_)
   refine gMv ?_
   refine GoH.st rfl rfl rfl rfl Tryd.sizeOf29 rfl 1 rfl rfl ?_
   refine GoH.st rfl rfl rfl rfl Tryd.sizeOf3 rfl 0 rfl rfl ?_
   refine gE ?_
   refine GoH.retH Tryd.f8 Tryd.func8 _ (resH.cell1 rfl Tryd.isAgg29 (j := 1) rfl rfl (resH.cell1 rfl Tryd.isAgg3 (j := 0) rfl rfl resH.nil)) (fun w' hS => ?_)
   exact ⟨hS.ext, _, by rw [rndsE, if_pos h1]; rfl, by rw [rnds_bad h2]; exact OwnS.nil0⟩
  ·
   have h1 : checkM m.n m.val m.rel = 0 := by simpa using hc
   have hv := checkM_zero.1 h1
   obtain ⟨n, hn⟩ : ∃ n : Nat, m.n = n := ⟨m.n.toNat, by have := hv.n1; omega⟩
   have hn64 := hv.n64
   have hn1 := hv.n1
   refine gK (gS (gS (gR ?_)))
   refine gLo Tryd.isAgg3 2 ?_
   refine gBi bLt ?_
   refine gE ?_
   refine GoH.cond rfl (fun hc => ?_) (fun hc => ?_)
   ·
    have h3 : k < 0 := by simpa using hc
    have h2 : rndsE m.n m.val m.rel k = 2 := by rw [rndsE, if_neg (by simp [h1]), if_pos h3]
    refine gS (gR ?_)
    refine GoH.st rfl rfl rfl rfl Tryd.sizeOf29 rfl 1 rfl rfl ?_
    refine GoH.st rfl rfl rfl rfl Tryd.sizeOf3 rfl 0 rfl rfl ?_
    refine gE ?_
    refine GoH.retH Tryd.f8 Tryd.func8 _ (resH.cell1 rfl Tryd.isAgg29 (j := 1) rfl rfl (resH.cell1 rfl Tryd.isAgg3 (j := 0) rfl rfl resH.nil)) (fun w' hS => ?_)
    exact ⟨hS.ext, _, by rw [h2]; rfl, by rw [rnds_bad (by rw [h2]; decide)]; exact OwnS.nil0⟩
   ·
    have h3 : ¬ k < 0 := by simpa using hc
    have h2 : rndsE m.n m.val m.rel k = 0 := by rw [rndsE, if_neg (by simp [h1]), if_neg h3]
    refine gK (gS (gR ?_))
    refine GoH.alc rfl rfl rfl (fun _ => Tryd.zeroValue3 _) (fun b7 => ?_)
    refine GoH.st rfl rfl rfl rfl Tryd.sizeOf3 rfl 0 rfl rfl ?_
    refine gE (gS (gS (gR ?_)))
    refine GoH.v (Vop.ldB rfl rfl rfl rfl Tryd.isAgg25 4 rfl Tryd.sizeOf25 rfl) ?_
    refine gFp Tryd.underlying25 Tryd.sizeOf23 2 ?_
    refine GoH.v (Vop.ldo (v := .slice m.ra m.rows.length m.rc) rfl rfl rfl rfl Tryd.isAgg23 4 rfl rfl) ?_
    refine GoH.callM _ rfl rfl rfl rfl rfl (fun _ _ => Tryd.call16 _ _) (fun w _ hS => rounds_c m m.ra m.rc m.rows.length w) ?_
    rintro v w1 w2 Y' hS he ⟨bm, br, rfl, hH⟩
    refine ⟨_, hS.gainL he hH, ?_⟩
    refine gE (gB ?_)
    refine GoH.rangeE (σ := Option Nat × Nat) (cap := [(some bm, .cells m.v.cells 25 (0, 0)), (some br, .cells #[.slice m.ra m.rows.length m.rc] 23 (0, 0))]) (fun s => [(some b7, .cells #[.int .i64 (s.2 : Int)] 3 (0, 0)), (some b5, .cells #[.int .i64 0] 3 (0, 0)), (some b4, .cells #[match s.1 with | none => .slice none 0 0 | some b => .slice (some ⟨b, 0, none⟩) n n] 29 (0, 0)), (some b3, .cells #[.int .i64 k] 3 (0, 0)), (some b2, .cells m.v.cells 25 (0, 0))]) n (fun t s => s.1 = none ∧ t.length = s.2 ∧ s.2 ≤ k.toNat ∧ s.2 ≤ n)
      (fun c t s => c = .ret ∧ ∃ b t', t = b :: t' ∧ s.1 = some b ∧ t'.length = min k.toNat n) (none, 0)
      rfl (fun _ _ => Tryd.call28 _ _) (rounds1_it m n m.ra m.rc m.rows _ hT hm hv hn (ValM.relAt hv hm hn) bm br) rfl rfl (fun t s h => by omega) ⟨rfl, rfl, Nat.zero_le _, Nat.zero_le _⟩ (List.Sublist.refl _) ?_ ?_ ?_
    · -- a round
     rintro L Y' rec hi b t ⟨s, i⟩ ⟨hI, hi1, hi2, hi3⟩ hrec
     dsimp only at hI hi1 hi2 hi3
     subst hI
     dsimp only [pV]
     rw [show (psM n m m.rows t.length).length = n from psq_len _]
     refine gR ?_
     refine gAs ?_
     refine gE ?_
     refine GoH.beginRound hrec ?_
     refine gB (gS (gS (gR ?_)))
     refine gLo Tryd.isAgg3 0 ?_
     refine gLo Tryd.isAgg3 3 ?_
     refine gBi bEq ?_
     refine gMv ?_
     refine GoH.cases (d := 24) rfl (fun hc => ?_) (fun hc => ?_)
     ·
      have hik : (i : Int) = k := by simpa using hc
      iterate 4 refine gNo ?_
      refine gPt ?_
      refine gE (GoH.condT rfl (gS (gR ?_)))
      refine gMv ?_
      refine GoH.st rfl rfl rfl rfl Tryd.sizeOf29 rfl 2 rfl rfl ?_
      refine GoH.st rfl rfl rfl rfl Tryd.sizeOf3 rfl 1 rfl rfl ?_
      refine gE ?_
      exact GoH.rRet (b :: t, (some b, i)) ⟨rfl, rfl, b, t, rfl, rfl, by omega⟩ (List.Sublist.refl _)
     ·
      have hik : (i : Int) ≠ k := by simpa using hc
      refine gLo Tryd.isAgg3 0 ?_
      refine gFp Tryd.underlying25 Tryd.sizeOf3 0 ?_
      refine GoH.v (Vop.ldo (v := .int .i64 m.n) rfl rfl rfl rfl Tryd.isAgg3 4 rfl rfl) ?_
      refine gBi bEq ?_
      refine gPf ?_
      refine gE ?_
      refine GoH.cond rfl (fun hc => ?_) (fun hc => ?_)
      ·
       have hin : (i : Int) = m.n := by simpa using hc
       refine gS (gR ?_)
       refine gMv ?_
       refine GoH.st rfl rfl rfl rfl Tryd.sizeOf29 rfl 2 rfl rfl ?_
       refine GoH.st rfl rfl rfl rfl Tryd.sizeOf3 rfl 1 rfl rfl ?_
       refine gE ?_
       exact GoH.rRet (b :: t, (some b, i)) ⟨rfl, rfl, b, t, rfl, rfl, by omega⟩ (List.Sublist.refl _)
      ·
       have hin : (i : Int) ≠ m.n := by simpa using hc
       refine gK (gR ?_)
       refine gLo Tryd.isAgg3 0 ?_
       refine GoH.v (Vop.bin rfl rfl rfl rfl (bAdd (by omega)) rfl) ?_
       refine GoH.st rfl rfl rfl rfl Tryd.sizeOf3 rfl 0 rfl rfl ?_
       refine gE (gIb ?_)
       exact GoH.rEnd (b :: t, (none, i + 1)) ⟨rfl, rfl, by simp only [List.length_cons]; omega, by dsimp only; omega, by dsimp only; omega⟩ (List.Sublist.refl _)
    · -- all have come
     exact fun h => h
    · -- stopped
     rintro c t ⟨s, i⟩ ⟨rfl, b, t', rfl, hs, ht⟩
     dsimp only at hs
     subst hs
     dsimp only
     refine GoH.retH Tryd.f8 Tryd.func8 _ (resH.cell1 rfl Tryd.isAgg29 (j := 2) rfl rfl (resH.cell1 rfl Tryd.isAgg3 (j := 1) rfl rfl resH.nil)) (fun w' hS => ?_)
     refine ⟨hS.ext, _, by rw [h2]; rfl, ?_⟩
     rw [rnds_ok h2, hn, show min k.toNat ((n : Int)).toNat = t'.length from ht.symm]
     exact OwnS.one hS 5 rfl (psq_len _).symm
end Go.Proofs.YthojdcaojjmoaaaDoor
