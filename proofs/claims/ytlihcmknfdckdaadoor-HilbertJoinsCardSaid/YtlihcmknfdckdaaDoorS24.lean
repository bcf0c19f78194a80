/- What calls of the program return, under the conditions that each theorem states. -/
import Derived.Test.YtlihcmknfdckdaaDoorS22
import Derived.Test.YtlihcmknfdckdaaDoorS23
import Derived.Test.YtlihcmknfdckdaaDoorS16
import Derived.Test.YtlihcmknfdckdaaDoorS04
import Derived.Test.YtlihcmknfdckdaaDoorS17
import Derived.Test.YtlihcmknfdckdaaDoorS18
import Derived.Test.YtlihcmknfdckdaaDoorS19
namespace Go.Proofs.YtlihcmknfdckdaaDoor
open Go.RowKit Go.Proofs.Wit Tryd
/-! the walk to the atoms: the reference -/
theorem infoBg : (Tryd.prog.info? 4).map (fun i => (i.zero, i.size, i.bytes)) = some (some (Value.bool false), 1, 1) := by kernel_rfl
def iL (o : List Nat) : List Int := o.map (fun j : Nat => (j : Int))
theorem iL_len {o : List Nat} : (iL o).length = o.length := by simp [iL]
theorem iL_snoc {o : List Nat} {j : Nat} : iL (o ++ [j]) = iL o ++ [(j : Int)] := by simp [iL]
theorem iL_get {o : List Nat} {k : Nat} (hk : k < o.length) : (iL o).getD k 0 = (o[k] : Int) := by simp [iL, List.getD_eq_getElem?_getD, hk]
theorem iL_cut {t : TypeId} {st : List Nat} {i : Nat} {sp : List Value} : ob I64 t (iL (st ++ [i])) sp = ob I64 t (iL st) (I64 i :: sp) := by simp [ob, iL]
/-- the state of the walk -/
structure KS where
  q : Option Nat
  cap : Nat
  sp : List Value
  o : List Nat
  s : List Bool
  bs : Nat
  cap2 : Nat
  sp2 : List Value
  st : List Nat
def KS.L (z : KS) (a : Option Addr) (n ca : Nat) (b11 : Nat) : Fl := [(0, .slice a n ca), (3, osv z.q (iL z.o).length z.cap), (4, .slice (some ⟨b11, 0, none⟩) n n), (5, osv (some z.bs) (iL z.st).length z.cap2)]
def KS.H (z : KS) (b11 : Nat) : Hl := [(z.q, ob I64 3 (iL z.o) z.sp), (some b11, ob Value.bool 4 z.s []), (some z.bs, ob I64 3 (iL z.st) z.sp2)]
structure KS.I (z : KS) (c : List NV) (r : Nat) : Prop where
  tk : Tk c r z.s z.o z.st
  hq : z.q = none → z.o.length = 0 ∧ z.cap = 0
  hcap : ((iL z.o).map I64 ++ z.sp).length = z.cap
  hcap2 : ((iL z.st).map I64 ++ z.sp2).length = z.cap2
  hst : z.st.length ≤ 2 * z.o.length + 1
set_option maxRecDepth 8000 in
theorem gtrunk_c (a : Option Addr) (ca : Nat) (c : List NV) (w : World) (ha : FA w a c) (hO : NodesOk c) (hp : 0 < c.length) (hl : c.length ≤ 200) :
    Cn Tryd.prog 132 [.slice a c.length ca] w (fun v w' => ∃ (q : Option Nat) (cap : Nat) (sp : List Value) (o : List Nat) (s : List Bool), v = osv q (iL o).length cap ∧ (q = none → o.length = 0 ∧ cap = 0) ∧ NewH w w' [(q, ob I64 3 (iL o) sp)] ∧ Tk c (c.length - 1) s o []) := by
  obtain ⟨i1, hi1, hz1, hsz1, hby1⟩ := info_parts infoBg
  obtain ⟨i2, hi2, hz2, hsz2, hby2⟩ := info_parts infoI
  refine Cn.of func132 rfl rfl ?_
  refine gS (gR ?_); refine gAs ?_; refine gE (gS (gR ?_))
  refine GoH.bsN (c := []) rfl rfl rfl rfl underlying70 sizeOf3 zeroValue3 rfl rfl (fun b8 => ?_)
  refine gAs ?_; refine gE (gS (gR ?_)); refine gMv ?_; refine gBl underlying23 ?_
  refine GoH.mkE Value.bool false rfl rfl rfl rfl rfl underlying85 hi1 hz1 rfl hsz1 (by rw [hby1]; omega) (by unfold maxLen; omega) (fun b11 => ?_)
  refine gAs ?_; refine gE (gS (gR ?_)); refine gMv ?_; refine gBl underlying23 ?_
  refine gBx rfl rfl rfl rfl (bSubE (c := ((c.length - 1 : Nat) : Int)) (by omega) (by omega)) ?_
  refine GoH.bsN (c := [_]) rfl rfl rfl rfl underlying70 sizeOf3 zeroValue3 rfl rfl (fun b15 => ?_)
  refine gAs ?_; refine gE (gS (gB ?_))
  refine GoH.pick (pre := [_, _, _]) (pre' := [(some b8, ob I64 3 (iL []) []), (some b11, ob Value.bool 4 (List.replicate c.length false) []), (some b15, ob I64 3 (iL [c.length - 1]) [])]) [2, 1, 0] (by decide) rfl ?_
  refine GoH.loop (σ := KS) (fun z => z.L a c.length ca b11) (fun z => z.H b11) (fun z => z.I c (c.length - 1)) (fun z => 3 * (c.length - z.o.length) + z.st.length)
    ⟨some b8, 0, [], [], List.replicate c.length false, b15, 1, [], [c.length - 1]⟩ ⟨Tk.init (by omega), (fun e => by cases e), rfl, rfl, Nat.le_refl _⟩ ⟨rfl, rfl, rfl, rfl, trivial⟩ (List.Sublist.refl _) (fun z hI IH => ?_)
  obtain ⟨q, cap, sp, o, s, bs, cap2, sp2, st⟩ := z
  obtain ⟨hT, hq, hcap, hcap2, hst⟩ := hI
  dsimp only at hT hq hcap hcap2 hst IH ⊢
  unfold KS.L KS.H
  dsimp only
  refine gS (gS (gR ?_)); refine gMv ?_; refine gBl underlying70 ?_; refine gBi bGt ?_; refine gE ?_
  refine gC (fun hc => ?_) fun hc => ?_
  ·
   have h1 : 0 < st.length := by rw [iL_len] at hc; simpa using hc
   obtain ⟨st0, i, rfl⟩ : ∃ st0 i, st = st0 ++ [i] := ⟨st.dropLast, st.getLast (by intro e; rw [e] at h1; exact absurd h1 (by decide)), (List.dropLast_concat_getLast _).symm⟩
   have hll : (iL (st0 ++ [i])).length = st0.length + 1 := by rw [iL_len]; simp
   have hlk : st0.length < (iL (st0 ++ [i])).length := by omega
   have hgi : (iL (st0 ++ [i])).getD st0.length 0 = (i : Int) := by rw [iL_get (by simp)]; simp
   have hstl : (iL st0).length = st0.length := iL_len
   have hi := hT.lt_top
   have hsi : i < s.length := by rw [hT.len]; exact hi
   have hok := hO i hi
   have hop := hok.op
   have hole := hT.ole
   have hst2 : st0.length ≤ 2 * o.length := by simp at hst; omega
   refine gK (gB (gS (gR ?_)))
   iterate 2 refine gMv ?_
   refine gBl underlying70 ?_
   refine gBx rfl rfl rfl rfl (bSubE (c := ((st0.length : Nat) : Int)) (by omega) (by omega)) ?_
   refine GoH.v (Vop.idxS rfl rfl rfl rfl rfl underlying70 sizeOf3 (st0.length) ⟨rfl, hlk⟩) ?_
   refine GoH.v (Vop.ldE I64 0 rfl rfl rfl rfl isAgg3 2 rfl hlk) ?_
   refine gAs ?_; refine gE (gS (gR ?_))
   iterate 2 refine gMv ?_
   refine gBl underlying70 ?_
   refine gBx rfl rfl rfl rfl (bSubE (c := ((st0.length : Nat) : Int)) (by omega) (by omega)) ?_
   refine GoH.v (Vop.slHi (hi := st0.length) rfl rfl rfl rfl rfl underlying70 sizeOf3 rfl (by rw [← hcap2]; simp [iL])) ?_
   rw [iL_cut, hgi]
   have hcap2' : ((iL st0).map I64 ++ (I64 i :: sp2)).length = cap2 := by rw [← hcap2]; simp [iL]
   refine gAs ?_; refine gE (gS (gS (gR ?_)))
   iterate 2 refine gMv ?_
   refine GoH.v (Vop.idxS rfl rfl rfl rfl rfl underlying85 sizeOf4 (i) ⟨rfl, hi⟩) ?_
   refine GoH.v (Vop.ldE Value.bool false rfl rfl rfl rfl isAgg4 1 rfl hsi) ?_
   refine gE ?_
   refine gC (fun hc => ?_) fun hc => ?_
   ·
    have hs1 : sB s i = true := hc
    refine GoH.exit rfl ?_
    exact IH ⟨q, cap, sp, o, s, bs, cap2, I64 i :: sp2, st0⟩ _ _ ⟨hT.skip hs1, hq, hcap, hcap2', by dsimp only; omega⟩ (by simp) ⟨rfl, rfl, rfl, by rw [hstl]; rfl, trivial⟩ (List.Sublist.refl _)
   ·
    have hs1 : sB s i = false := hc
    have hol := hT.olt1 hs1
    have hoil : (iL o).length = o.length := iL_len
    refine gK (gS (gR ?_))
    iterate 2 refine gMv ?_
    refine GoH.v (Vop.idxS rfl rfl rfl rfl rfl underlying85 sizeOf4 (i) ⟨rfl, hi⟩) ?_
    refine GoH.stE Value.bool _ rfl rfl rfl rfl sizeOf4 rfl 1 rfl hsi ?_
    refine gE (gS (gR ?_))
    iterate 2 refine gMv ?_
    refine GoH.bsN (c := [_]) rfl rfl rfl rfl underlying70 sizeOf3 zeroValue3 rfl rfl (fun b39 => ?_)
    refine GoH.appE I64 (xs := iL o) (sp := sp) (q := q) (news := [(i : Int)]) (spn := []) rfl rfl rfl rfl rfl underlying70 hi2 hz2 hsz2 rfl (by rw [hoil]; exact hq) 1 rfl 0 rfl hcap rfl (by decide) (fun _ => rfl) (by unfold maxLen; omega) (by rw [hby2]; omega) (fun bo spo capo hlen2 => ?_)
    rw [← iL_snoc] at hlen2 ⊢
    refine gAs ?_; refine gE (gS (gR ?_))
    iterate 2 refine gMv ?_
    refine GoH.v (Vop.idxN rfl rfl rfl rfl rfl underlying23 sizeOf80 ⟨_, (ha).at_⟩ (flat_len (enc := NV.cells) (sz := 6) (fun _ => rfl)) (by decide) (i) ⟨rfl, hi⟩) ?_
    refine GoH.v (Vop.ldN (cs := NV.cells c[i]) rfl rfl rfl rfl isAgg80 sizeOf80 (fun w _ hS => Sl.many (enc := NV.cells) (sz := 6) (ha.ex0 hS.ext).at_ (fun _ => rfl) hi)) ?_
    refine GoH.alc rfl rfl rfl (fun _ => zeroValue80 _) (fun b7 => ?_)
    refine GoH.stB rfl rfl rfl rfl sizeOf80 0 rfl rfl rfl rfl ?_
    refine gE (gS (gS (gR ?_))); refine gFp underlying80 sizeOf3 0 ?_; refine gLo isAgg3 0 ?_; refine gBi bEq ?_; refine gMv ?_
    refine gCs 48 (fun hc => ?_) fun hc => ?_
    ·
     have h3 : c[i].op = 3 := by simpa using hc
     have hlf : lfB c[i].op = true := by rw [h3]; rfl
     iterate 4 refine gNo ?_
     refine gPt ?_; refine gE (GoH.condT rfl (GoH.exit rfl ?_))
     exact IH ⟨some bo, capo, spo, o ++ [i], s.set i true, bs, cap2, I64 i :: sp2, st0⟩ _ _ ⟨hT.go hs1 (fun _ h => h) (fun _ h => .inl h) (fun hi h => by rw [hlf] at h; cases h), (fun e => by cases e), hlen2, hcap2', by simp; omega⟩ (by simp; omega) ⟨rfl, rfl, rfl, by rw [hstl]; rfl, trivial⟩ (.cons _ (.cons _ (List.Sublist.refl _)))
    ·
     have h3 : ¬ c[i].op = 3 := by simpa using hc
     refine gFp underlying80 sizeOf3 0 ?_; refine gLo isAgg3 0 ?_
     refine gP rfl rfl rfl rfl rfl call110 (fun w _ hS => (by exact gprop_c c[i].op w)) ?_
     refine gUn uNot ?_; refine gPf ?_; refine gE ?_
     refine gC (fun hc => ?_) fun hc => ?_
     ·
      have h8 : ¬ (1 ≤ c[i].op ∧ c[i].op ≤ 8) := by simp at hc; omega
      have hlf : lfB c[i].op = true := by unfold lfB; simp; omega
      refine GoH.exit rfl ?_
      exact IH ⟨some bo, capo, spo, o ++ [i], s.set i true, bs, cap2, I64 i :: sp2, st0⟩ _ _ ⟨hT.go hs1 (fun _ h => h) (fun _ h => .inl h) (fun hi h => by rw [hlf] at h; cases h), (fun e => by cases e), hlen2, hcap2', by simp; omega⟩ (by simp; omega) ⟨rfl, rfl, rfl, by rw [hstl]; rfl, trivial⟩ (.cons _ (.cons _ (List.Sublist.refl _)))
     ·
      have h8 : (1 ≤ c[i].op ∧ c[i].op ≤ 8) := by simpa using hc
      have hlf : lfB c[i].op = false := by unfold lfB; simp; omega
      obtain ⟨hkx, hky⟩ := lf_kids hi hO hlf
      refine gK (gS (gS (gR ?_))); refine gFp underlying80 sizeOf3 0 ?_; refine gLo isAgg3 0 ?_
      refine gP rfl rfl rfl rfl rfl call93 (fun w _ hS => (by exact usesY_c c[i].op w)) ?_
      refine gE ?_
      refine gC (fun hc => ?_) fun hc => ?_
      ·
       have hY : usY c[i].op = true := hc
       have hX : usX c[i].op = true := usY_X hY
       obtain ⟨hx0, hxl⟩ := hok.x hX
       obtain ⟨hy0, hyl⟩ := hok.y hY
       obtain ⟨x, hxx⟩ : ∃ x : Nat, c[i].x = (x : Int) := ⟨c[i].x.toNat, by omega⟩
       obtain ⟨y, hyy⟩ : ∃ y : Nat, c[i].y = (y : Int) := ⟨c[i].y.toNat, by omega⟩
       have hxt : c[i].x.toNat = x := by omega
       have hyt : c[i].y.toNat = y := by omega
       have hTn := hT.go (st' := st0 ++ [y] ++ [x]) hs1 (fun _ h => List.mem_append_left _ (List.mem_append_left _ h)) (fun j h => by
         rcases List.mem_append.1 h with h | h
         · rcases List.mem_append.1 h with h | h
           · exact .inl h
           · rw [List.mem_singleton.1 h]; exact .inr ⟨by omega, by rw [← hyt]; exact hky hY⟩
         · rw [List.mem_singleton.1 h]; exact .inr ⟨by omega, by rw [← hxt]; exact hkx hX⟩) (fun _ _ => ⟨fun _ => by rw [hxt]; simp, fun _ => by rw [hyt]; simp⟩)
       refine gR ?_; refine gMv ?_; refine gFp underlying80 sizeOf3 5 ?_; refine gLo isAgg3 0 ?_
       refine GoH.bsN (c := [_]) rfl rfl rfl rfl underlying70 sizeOf3 zeroValue3 rfl rfl (fun b60 => ?_)
       refine GoH.appE I64 (xs := iL st0) (sp := I64 i :: sp2) (q := some bs) (news := [c[i].y]) (spn := []) rfl rfl (by rw [hstl]; rfl) rfl rfl underlying70 hi2 hz2 hsz2 rfl (fun e => by cases e) 5 rfl 0 rfl hcap2' rfl (by decide) (fun _ => rfl) (by unfold maxLen; omega) (by rw [hby2]; omega) (fun bt spt capt hlen3 => ?_)
       rw [hyy, ← iL_snoc] at hlen3 ⊢
       refine gAs ?_; refine gE (gS (gR ?_)); refine gFp underlying80 sizeOf3 0 ?_; refine gLo isAgg3 1 ?_
       refine gP rfl rfl rfl rfl rfl call92 (fun w _ hS => (by exact usesX_c c[i].op w)) ?_
       refine gE ?_
       refine gC (fun hc => ?_) fun hc => ?_
       ·
        have hyl2 : (iL (st0 ++ [y])).length = st0.length + 1 := by rw [iL_len]; simp
        refine gR ?_; refine gMv ?_; refine gFp underlying80 sizeOf3 4 ?_; refine gLo isAgg3 1 ?_
        refine GoH.bsN (c := [_]) rfl rfl rfl rfl underlying70 sizeOf3 zeroValue3 rfl rfl (fun b68 => ?_)
        refine GoH.appE I64 (xs := iL (st0 ++ [y])) (sp := spt) (q := some bt) (news := [c[i].x]) (spn := []) rfl rfl rfl rfl rfl underlying70 hi2 hz2 hsz2 rfl (fun e => by cases e) 6 rfl 0 rfl hlen3 rfl (by decide) (fun _ => rfl) (by unfold maxLen; omega) (by rw [hby2]; omega) (fun bu spu capu hlen4 => ?_)
        rw [hxx, ← iL_snoc] at hlen4 ⊢
        refine gAs ?_; refine gE (gIb ?_)
        exact IH ⟨some bo, capo, spo, o ++ [i], s.set i true, bu, capu, spu, st0 ++ [y] ++ [x]⟩ _ _ ⟨hTn, (fun e => by cases e), hlen2, hlen4, by simp; omega⟩ (by simp; omega) ⟨rfl, rfl, rfl, rfl, trivial⟩ (.cons _ (.cons _ (.cons _ (.cons _ (List.Sublist.refl _)))))
       ·
        have hno : usX c[i].op = false := hc
        rw [hX] at hno; cases hno
      ·
       have hY : usY c[i].op = false := hc
       refine gK (gS (gR ?_)); refine gFp underlying80 sizeOf3 0 ?_; refine gLo isAgg3 0 ?_
       refine gP rfl rfl rfl rfl rfl call92 (fun w _ hS => (by exact usesX_c c[i].op w)) ?_
       refine gE ?_
       refine gC (fun hc => ?_) fun hc => ?_
       ·
        have hX : usX c[i].op = true := hc
        obtain ⟨hx0, hxl⟩ := hok.x hX
        obtain ⟨x, hxx⟩ : ∃ x : Nat, c[i].x = (x : Int) := ⟨c[i].x.toNat, by omega⟩
        have hxt : c[i].x.toNat = x := by omega
        have hTn := hT.go (st' := st0 ++ [x]) hs1 (fun _ h => List.mem_append_left _ h) (fun j h => by
          rcases List.mem_append.1 h with h | h
          · exact .inl h
          · rw [List.mem_singleton.1 h]; exact .inr ⟨by omega, by rw [← hxt]; exact hkx hX⟩) (fun _ _ => ⟨fun _ => by rw [hxt]; simp, fun h => by rw [hY] at h; cases h⟩)
        refine gR ?_; refine gMv ?_; refine gFp underlying80 sizeOf3 4 ?_; refine gLo isAgg3 0 ?_
        refine GoH.bsN (c := [_]) rfl rfl rfl rfl underlying70 sizeOf3 zeroValue3 rfl rfl (fun b68 => ?_)
        refine GoH.appE I64 (xs := iL st0) (sp := I64 i :: sp2) (q := some bs) (news := [c[i].x]) (spn := []) rfl rfl (by rw [hstl]; rfl) rfl rfl underlying70 hi2 hz2 hsz2 rfl (fun e => by cases e) 5 rfl 0 rfl hcap2' rfl (by decide) (fun _ => rfl) (by unfold maxLen; omega) (by rw [hby2]; omega) (fun bt spt capt hlen3 => ?_)
        rw [hxx, ← iL_snoc] at hlen3 ⊢
        refine gAs ?_; refine gE (gIb ?_)
        exact IH ⟨some bo, capo, spo, o ++ [i], s.set i true, bt, capt, spt, st0 ++ [x]⟩ _ _ ⟨hTn, (fun e => by cases e), hlen2, hlen3, by simp; omega⟩ (by simp; omega) ⟨rfl, rfl, rfl, rfl, trivial⟩ (.cons _ (.cons _ (.cons _ (List.Sublist.refl _))))
       ·
        have hX : usX c[i].op = false := hc
        have hTn := hT.go (st' := st0) hs1 (fun _ h => h) (fun _ h => .inl h) (fun _ _ => ⟨fun h => (by rw [hX] at h; cases h), fun h => by rw [hY] at h; cases h⟩)
        refine gK (gIb ?_)
        exact IH ⟨some bo, capo, spo, o ++ [i], s.set i true, bs, cap2, I64 i :: sp2, st0⟩ _ _ ⟨hTn, (fun e => by cases e), hlen2, hcap2', by simp; omega⟩ (by simp; omega) ⟨rfl, rfl, rfl, by rw [hstl]; rfl, trivial⟩ (.cons _ (.cons _ (List.Sublist.refl _)))
  ·
   have h1 : st.length = 0 := by rw [iL_len] at hc; simpa using hc
   obtain rfl := List.eq_nil_of_length_eq_zero h1
   refine GoH.exit rfl (gS (gR ?_))
   refine gMv ?_; refine gAs ?_; refine gE ?_
   refine gT func132 fun w' hS => ?_
   exact ⟨hS.ext, q, cap, sp, o, s, rfl, hq, (NewH.of hS).sub (.cons_cons _ (.cons _ (.cons _ .slnil))), hT⟩
end Go.Proofs.YtlihcmknfdckdaaDoor
namespace Go.Proofs.YtlihcmknfdckdaaDoor
open Go.RowKit Go.Proofs.Wit Tryd
/-! atoms: the reference -/
set_option maxRecDepth 8000 in
theorem gmeet_c (q : Option Nat) (cap : Nat) (gs : List FV) (sp : List Value) (x : FV) (w : World) (hh : HasH w [(q, ob FV.v 23 gs sp)]) (hg : ∀ g ∈ gs, FAS (blks [(q, ob FV.v 23 gs sp)]) w g.a g.f) (hx : FAS (blks [(q, ob FV.v 23 gs sp)]) w x.a x.f)
    (hgl : ∀ g ∈ gs, g.f.length ≤ maxLen) (hq : q = none → gs.length = 0 ∧ cap = 0) (hcap : (gs.map FV.v ++ sp).length = cap) (hl : gs.length ≤ 200) (hne : ∀ g ∈ gs, g.f ≠ x.f) :
    CnS Tryd.prog 133 [osv q gs.length cap, x.v] w [(q, ob FV.v 23 gs sp)] (fun v h' => ∃ b' cap' sp', v = osv (some b') (gs ++ [x]).length cap' ∧ h' = [(some b', ob FV.v 23 (gs ++ [x]) sp')] ∧ ((gs ++ [x]).map FV.v ++ sp').length = cap') := by
  obtain ⟨i1, hi1, hz1, hsz1, hby1⟩ := info_parts infoNg
  refine CnS.of hh func133 rfl rfl ?_
  refine gS (gR ?_); refine gAs ?_; refine gE (gS (gS (gR ?_))); refine gAs ?_; refine gE (gB ?_)
  refine GoH.loop (σ := Nat) (fun k => [(0, osv q gs.length cap), (1, x.v), (5, .int .i64 k)]) (fun _ => [(q, ob FV.v 23 gs sp)]) (fun k => k ≤ gs.length) (fun k => gs.length - k) 0 (Nat.zero_le _) ⟨rfl, rfl, rfl, trivial⟩ (List.Sublist.refl _) (fun k hk IH => ?_)
  refine gS (gS (gR ?_))
  iterate 2 refine gMv ?_
  refine gBl underlying111 ?_; refine gBi bLt ?_; refine gE ?_
  refine gC (fun hc => ?_) fun hc => ?_
  ·
   have hm : k < gs.length := by simpa using hc
   obtain ⟨b, rfl⟩ : ∃ b, q = some b := by
     cases q with
     | none => have := (hq rfl).1; omega
     | some b => exact ⟨b, rfl⟩
   have hgk : gs.getD k FV.z = gs[k] := getD_lt hm
   have hmem : gs[k] ∈ gs := List.getElem_mem hm
   refine gK (gS (gB (gS (gR ?_))))
   iterate 2 refine gMv ?_
   refine GoH.v (Vop.idxS rfl rfl rfl rfl rfl underlying111 sizeOf23 (k) ⟨rfl, hm⟩) ?_
   skip
   refine GoH.v (Vop.ldE FV.v FV.z rfl rfl rfl rfl isAgg23 0 rfl hm) ?_
   rw [hgk]
   refine gMv ?_
   refine gP rfl rfl rfl rfl rfl call67 (fun w _ hS => (by exact rEqual_c gs[k].a gs[k].c gs[k].f x.a x.c x.f w ⟨((hg _ hmem).ex0 hS.ext).at_⟩ ⟨(hx.ex0 hS.ext).at_⟩ (hgl _ hmem))) ?_
   refine gE ?_
   refine GoH.cond rfl (fun hc => by exfalso; exact hne _ hmem (by simpa using hc)) (fun _ => ?_)
   refine gK (gIb (gR ?_)); refine gMv ?_; refine gBx rfl rfl rfl rfl (bAdd (by omega)) ?_; refine gAs ?_; refine gE ?_
   exact IH (k + 1) _ _ hm (by omega) ⟨rfl, rfl, rfl, trivial⟩ (List.Sublist.refl _)
  ·
   skip
   refine GoH.exit rfl (gS (gR ?_))
   iterate 2 refine gMv ?_
   refine GoH.bsN (c := [_]) rfl rfl rfl rfl underlying111 sizeOf23 zeroValue23 rfl rfl (fun b21 => ?_)
   refine GoH.appE FV.v (news := [x]) (spn := []) (xs := gs) (sp := sp) (q := q) rfl rfl rfl rfl rfl underlying111 hi1 hz1 hsz1 rfl hq 1 rfl 0 rfl hcap rfl (by decide) (fun _ => rfl) (by unfold maxLen; omega) (by rw [hby1]; omega) (fun b' sp' cap' hlen => ?_)
   refine gAs ?_; refine gE ?_
   refine gT func133 fun w' hS => ?_
   exact ⟨_, ⟨b', cap', sp', rfl, rfl, hlen⟩, hS.subH (.cons _ (List.Sublist.refl _))⟩
set_option maxRecDepth 8000 in
theorem gatoms_c (a : Option Addr) (ca : Nat) (f : List NV) (w : World) (ha : FA w a f) (hl : f.length ≤ maxLen) (hck : chkF f = 0) :
    Cn Tryd.prog 109 [.slice a f.length ca] w (fun v w' => ∃ sv gs o s, v = .tuple #[sv, .int .i64 0] ∧ Tk (compF f) ((compF f).length - 1) s o [] ∧ (∃ (q : Option Nat) (cap : Nat) (sp : List Value) (H : Hl), sv = osv q gs.length cap ∧ (q = none → gs.length = 0 ∧ cap = 0) ∧ (gs.map FV.v ++ sp).length = cap ∧ NewH w w' ((q, ob FV.v 23 gs sp) :: H) ∧ ClIs 80 H gs ((lfs (compF f) o).map (treeAt (compF f))))) := by
  obtain ⟨c, hcE⟩ : ∃ c, c = compF f := ⟨_, rfl⟩
  have hC : CanF c := by rw [hcE]; exact CanF.compF hck
  have hO := hC.nodes
  have hcl := hC.len
  have hcp : 0 < c.length := (chkF_zero.1 hC.chk).pos
  have hsub : ∀ j : Nat, j < c.length → Cf (subF c j) (treeAt c j) := fun j hj => by
    obtain ⟨h1, h2⟩ := hC.sub hj
    have h3 := Cf.of h1.ok (by rw [← h1.can]; exact h1.len)
    rw [← h1.can, h2] at h3
    exact h3
  rw [← hcE]
  refine Cn.of func109 rfl rfl ?_
  refine gS (gR ?_)
  iterate 2 refine gAs ?_
  refine gE (gS (gS (gR ?_))); refine gMv ?_
  refine gP rfl rfl rfl rfl rfl call25 (fun w _ hS => (by exact rchk_c a ca f w (ha.ex0 hS.ext) hl)) ?_
  refine gAs ?_; refine gE (gS (gR ?_)); refine gMv ?_; refine gBi bNe ?_; refine gE ?_
  refine GoH.cond rfl (fun hc => by exfalso; exact absurd hck (by simpa using hc)) (fun _ => ?_)
  refine gK (gS (gR ?_)); refine gMv ?_
  refine gM rfl rfl rfl rfl rfl call54 (fun w _ hS => (by exact rcompact_c a ca f w (ha.ex0 hS.ext) hl)) ?_
  rintro v w1 w2 Y' hS he ho
  rw [subF_top, ← hcE] at ho
  obtain ⟨qc, capc, spc, rfl, hqc, hcapc, hS'⟩ := gainN hS he ho
  refine ⟨_, hS', ?_⟩
  refine gAs ?_; refine gE (gS (gR ?_)); refine gMv ?_
  refine gM rfl rfl rfl rfl rfl call132 (fun w _ hS => (by exact gtrunk_c (qc.map (fun b => ⟨b, 0, none⟩)) capc c w (faAt hS 0 rfl (fun e => (hqc e).1)) hO hcp hcl)) ?_
  rintro v w1 w2 Y' hS he ⟨qo, capo, spo, o, s, rfl, hqo, hnew, hT⟩
  refine ⟨_, hS.gainL he hnew, ?_⟩
  refine gAs ?_; refine gE (gS (gR ?_)); refine gAs ?_; refine gE (gS (gS (gR ?_))); refine gAs ?_; refine gE (gB ?_)
  have hole := hT.ole
  obtain ⟨bc, rfl⟩ : ∃ b, qc = some b := by
    cases qc with
    | none => have := (hqc rfl).1; omega
    | some b => exact ⟨b, rfl⟩
  refine GoH.addNone (ob FV.v 23 [] []) ?_
  refine GoH.pick (pre' := [(none, ob FV.v 23 [] []), (some bc, obN 80 c spc), (qo, ob I64 3 (iL o) spo)]) [0, 2, 1] (by decide) rfl ?_
  refine GoH.loop (σ := Nat × Option Nat × Nat × List FV × List Value × Hl) (fun z => [(0, osv (some bc) c.length capc), (5, osv qo (iL o).length capo), (6, osv z.2.1 z.2.2.2.1.length z.2.2.1), (7, .int .i64 z.1)])
    (fun z => [(z.2.1, ob FV.v 23 z.2.2.2.1 z.2.2.2.2.1), (some bc, obN 80 c spc), (qo, ob I64 3 (iL o) spo)] ++ z.2.2.2.2.2)
    (fun z => z.1 ≤ o.length ∧ (z.2.1 = none → z.2.2.2.1.length = 0 ∧ z.2.2.1 = 0) ∧ (z.2.2.2.1.map FV.v ++ z.2.2.2.2.1).length = z.2.2.1 ∧ ClIs 80 z.2.2.2.2.2 z.2.2.2.1 ((lfs c (o.take z.1)).map (treeAt c)))
    (fun z => o.length - z.1) (0, none, 0, [], [], []) ⟨Nat.zero_le _, fun _ => ⟨rfl, rfl⟩, rfl, ClIs.nil⟩ ⟨rfl, rfl, rfl, rfl, trivial⟩ (List.Sublist.refl _) (fun z hI IH => ?_)
  obtain ⟨k, q, cap, gs, sp, H⟩ := z
  obtain ⟨hk, hq, hcap, hG⟩ := hI
  dsimp only at hk hq hcap hG IH ⊢
  refine gS (gS (gR ?_))
  iterate 2 refine gMv ?_
  refine gBl underlying70 ?_; refine gBi bLt ?_; refine gE ?_
  refine gC (fun hc => ?_) fun hc => ?_
  ·
   have hm : k < o.length := by rw [iL_len] at hc; simpa using hc
   have hmi : k < (iL o).length := by rw [iL_len]; exact hm
   obtain ⟨bo, rfl⟩ : ∃ b, qo = some b := by
     cases qo with
     | none => have := (hqo rfl).1; omega
     | some b => exact ⟨b, rfl⟩
   have hok : o[k] < c.length := hT.olt (List.getElem_mem hm)
   have hgk : (iL o).getD k 0 = (o[k] : Int) := iL_get hm
   have htk : o.take (k + 1) = o.take k ++ [o[k]] := List.take_succ_eq_append_getElem hm
   have hsn := lfs_snoc (o := o.take k) hok
   rw [← htk] at hsn
   have hop := (hO _ hok).op
   refine gK (gS (gB (gS (gR ?_))))
   iterate 3 refine gMv ?_
   refine GoH.v (Vop.idxS rfl rfl rfl rfl rfl underlying70 sizeOf3 (k) ⟨rfl, hmi⟩) ?_
   refine GoH.v (Vop.ldE I64 0 rfl rfl rfl rfl isAgg3 2 rfl hmi) ?_
   refine GoH.v (Vop.idxS rfl rfl rfl rfl rfl underlying23 sizeOf80 (o[k]) ⟨hgk, hok⟩) ?_
   refine GoH.v (Vop.ldN (cs := NV.cells c[o[k]]) rfl rfl rfl rfl isAgg80 sizeOf80 (fun w _ hS => Sl.many (enc := NV.cells) (sz := 6) (a := some ⟨bc, 0, none⟩) (Sl.blk (hS.get (j := 1) rfl)) (fun _ => rfl) hok)) ?_
   refine GoH.alc rfl rfl rfl (fun _ => zeroValue80 _) (fun b8 => ?_)
   refine GoH.stB rfl rfl rfl rfl sizeOf80 0 rfl rfl rfl rfl ?_
   refine gE (gS (gR ?_)); refine gFp underlying80 sizeOf3 0 ?_; refine gLo isAgg3 0 ?_; refine gBi bEq ?_; refine gMv ?_
   refine gCs 34 (fun hc => ?_) fun hc => ?_
   ·
    have h3 : c[o[k]].op = 3 := by simpa using hc
    have hlf : lfB c[o[k]].op = true := by rw [h3]; rfl
    rw [if_pos hlf] at hsn
    have hnd := map_nd hC (lfs_nd hT) (lfs_lt hT)
    have hne : treeAt c o[k] ∉ (lfs c (o.take k)).map (treeAt c) := fun hm2 => by
      obtain ⟨j, hj, e⟩ := List.mem_map.1 hm2
      have hj2 := List.mem_of_mem_take (List.mem_filter.1 hj).1
      have e2 := treeAt_inj hC (hT.olt hj2) hok e
      have hj3 := (List.mem_filter.1 hj).1
      rw [e2] at hj3
      have h4 := (hT.nd.sublist (List.take_sublist (k + 1) o))
      rw [htk] at h4
      exact (List.nodup_append.1 h4).2.2 _ hj3 _ (List.mem_singleton.2 rfl) rfl
    have hgsl : gs.length ≤ 200 := by
      have h4 := hG.len
      rw [List.length_map] at h4
      have h5 := List.length_filter_le (fun j => lfB (c.getD j (⟨0, 0, 0, 0, 0, 0⟩ : NV)).op) (o.take k)
      have h6 := List.length_take_le k o
      have h7 : (lfs c (o.take k)).length ≤ (o.take k).length := h5
      omega
    iterate 4 refine gNo ?_
    refine gPt ?_; refine gE (GoH.condT rfl (gR ?_))
    iterate 4 refine gMv ?_
    refine GoH.v (Vop.idxS rfl rfl rfl rfl rfl underlying70 sizeOf3 (k) ⟨rfl, hmi⟩) ?_
    refine GoH.v (Vop.ldE I64 0 rfl rfl rfl rfl isAgg3 3 rfl hmi) ?_
    refine gM rfl rfl rfl rfl rfl call95 (fun w _ hS => (by rw [hgk]; exact rsub_c (some ⟨bc, 0, none⟩) capc c (o[k] : Int) w (faAt hS 2 rfl (fun e => by cases e)) (by unfold maxLen; omega))) ?_
    rintro v w1 w2 Y' hS he ho
    obtain ⟨qf, capf, spf, rfl, hqf, hcapf, hS'⟩ := gainN hS he ho
    refine ⟨_, hS', ?_⟩
    have hxc : Cf (subF c (o[k] : Nat)) (treeAt c o[k]) := hsub _ hok
    have hxin : FV.In 80 ((qf, obN 80 (subF c (o[k] : Nat)) spf) :: H) ⟨qf.map (fun b => ⟨b, 0, none⟩), capf, subF c (o[k] : Nat)⟩ := ⟨qf, spf, List.mem_cons_self .., rfl, hqf, hcapf⟩
    refine GoH.pickT (pre := [_, _, _, _, _]) (pre' := [(q, ob FV.v 23 gs sp), (some bc, obN 80 c spc), (some bo, ob I64 3 (iL o) spo), (qf, obN 80 (subF c (o[k] : Nat)) spf)]) H [2, 3, 4, 0] (by decide) rfl ?_
    refine GoH.callS (h := [(q, ob FV.v 23 gs sp)]) (hF := [(some bc, obN 80 c spc), (some bo, ob I64 3 (iL o) spo), (qf, obN 80 (subF c (o[k] : Nat)) spf)] ++ H) (fs := []) (cs := []) (fun _ v h' => ∃ b' cap' sp', v = osv (some b') (gs ++ [(⟨qf.map (fun b => ⟨b, 0, none⟩), capf, subF c (o[k] : Nat)⟩ : FV)]).length cap' ∧ h' = [(some b', ob FV.v 23 (gs ++ [(⟨qf.map (fun b => ⟨b, 0, none⟩), capf, subF c (o[k] : Nat)⟩ : FV)]) sp')] ∧ ((gs ++ [(⟨qf.map (fun b => ⟨b, 0, none⟩), capf, subF c (o[k] : Nat)⟩ : FV)]).map FV.v ++ sp').length = cap') rfl rfl rfl rfl rfl (fun _ _ => call133 _ _) (fun w1 Y' hS => ?_) (fun w1 v h1 hR => ?_)
    · exact gmeet_c q cap gs sp ⟨qf.map (fun b => ⟨b, 0, none⟩), capf, subF c (o[k] : Nat)⟩ w1 (hS.subH (List.sublist_append_left [(q, ob FV.v 23 gs sp)] _)).has (fun g hg => ((hG.in_ g hg).mono (List.subset_append_of_subset_right [(some bc, obN 80 c spc), (some bo, ob I64 3 (iL o) spo), (qf, obN 80 (subF c (o[k] : Nat)) spf)] (List.Subset.refl H))).sep hS) ((hxin.mono (List.subset_append_right [(some bc, obN 80 c spc), (some bo, ob I64 3 (iL o) spo)] _)).sep hS)
        (fun g hg => by obtain ⟨u, _, hu⟩ := hG.mem hg; have := hu.le; unfold maxLen; omega) hq hcap hgsl (fun g hg e => by
          obtain ⟨u, hu1, hu2⟩ := hG.mem hg
          have := (hu2.inj hxc).1 e
          rw [this] at hu1; exact hne hu1)
    obtain ⟨b', cap', sp', rfl, rfl, hlen⟩ := hR
    refine gAs ?_; refine gE (gIb (gR ?_)); refine gMv ?_; refine gBx rfl rfl rfl rfl (bAdd (by omega)) ?_; refine gAs ?_; refine gE ?_
    refine IH (k + 1, some b', cap', gs ++ [⟨qf.map (fun b => ⟨b, 0, none⟩), capf, subF c (o[k] : Nat)⟩], sp', (qf, obN 80 (subF c (o[k] : Nat)) spf) :: H) _ _ ⟨hm, (fun e => by cases e), hlen, ?_⟩ (by dsimp only; omega) ⟨rfl, rfl, rfl, rfl, trivial⟩ (List.Sublist.refl _)
    dsimp only
    rw [hsn, List.map_append]
    exact (hG.mono (List.subset_cons_self _ _)).snoc hxc hxin
   ·
    have h3 : ¬ c[o[k]].op = 3 := by simpa using hc
    refine gFp underlying80 sizeOf3 0 ?_; refine gLo isAgg3 0 ?_
    refine gP rfl rfl rfl rfl rfl call110 (fun w _ hS => (by exact gprop_c c[o[k]].op w)) ?_
    refine gUn uNot ?_; refine gPf ?_; refine gE ?_
    refine gC (fun hc => ?_) fun hc => ?_
    ·
     have h8 : ¬ (1 ≤ c[o[k]].op ∧ c[o[k]].op ≤ 8) := by simp at hc; omega
     have hlf : lfB c[o[k]].op = true := by unfold lfB; simp; omega
     rw [if_pos hlf] at hsn
     have hnd := map_nd hC (lfs_nd hT) (lfs_lt hT)
     have hne : treeAt c o[k] ∉ (lfs c (o.take k)).map (treeAt c) := fun hm2 => by
       obtain ⟨j, hj, e⟩ := List.mem_map.1 hm2
       have hj2 := List.mem_of_mem_take (List.mem_filter.1 hj).1
       have e2 := treeAt_inj hC (hT.olt hj2) hok e
       have hj3 := (List.mem_filter.1 hj).1
       rw [e2] at hj3
       have h4 := (hT.nd.sublist (List.take_sublist (k + 1) o))
       rw [htk] at h4
       exact (List.nodup_append.1 h4).2.2 _ hj3 _ (List.mem_singleton.2 rfl) rfl
     have hgsl : gs.length ≤ 200 := by
       have h4 := hG.len
       rw [List.length_map] at h4
       have h5 := List.length_filter_le (fun j => lfB (c.getD j (⟨0, 0, 0, 0, 0, 0⟩ : NV)).op) (o.take k)
       have h6 := List.length_take_le k o
       have h7 : (lfs c (o.take k)).length ≤ (o.take k).length := h5
       omega
     refine gR ?_
     iterate 4 refine gMv ?_
     refine GoH.v (Vop.idxS rfl rfl rfl rfl rfl underlying70 sizeOf3 (k) ⟨rfl, hmi⟩) ?_
     refine GoH.v (Vop.ldE I64 0 rfl rfl rfl rfl isAgg3 3 rfl hmi) ?_
     refine gM rfl rfl rfl rfl rfl call95 (fun w _ hS => (by rw [hgk]; exact rsub_c (some ⟨bc, 0, none⟩) capc c (o[k] : Int) w (faAt hS 2 rfl (fun e => by cases e)) (by unfold maxLen; omega))) ?_
     rintro v w1 w2 Y' hS he ho
     obtain ⟨qf, capf, spf, rfl, hqf, hcapf, hS'⟩ := gainN hS he ho
     refine ⟨_, hS', ?_⟩
     have hxc : Cf (subF c (o[k] : Nat)) (treeAt c o[k]) := hsub _ hok
     have hxin : FV.In 80 ((qf, obN 80 (subF c (o[k] : Nat)) spf) :: H) ⟨qf.map (fun b => ⟨b, 0, none⟩), capf, subF c (o[k] : Nat)⟩ := ⟨qf, spf, List.mem_cons_self .., rfl, hqf, hcapf⟩
     refine GoH.pickT (pre := [_, _, _, _, _]) (pre' := [(q, ob FV.v 23 gs sp), (some bc, obN 80 c spc), (some bo, ob I64 3 (iL o) spo), (qf, obN 80 (subF c (o[k] : Nat)) spf)]) H [2, 3, 4, 0] (by decide) rfl ?_
     refine GoH.callS (h := [(q, ob FV.v 23 gs sp)]) (hF := [(some bc, obN 80 c spc), (some bo, ob I64 3 (iL o) spo), (qf, obN 80 (subF c (o[k] : Nat)) spf)] ++ H) (fs := []) (cs := []) (fun _ v h' => ∃ b' cap' sp', v = osv (some b') (gs ++ [(⟨qf.map (fun b => ⟨b, 0, none⟩), capf, subF c (o[k] : Nat)⟩ : FV)]).length cap' ∧ h' = [(some b', ob FV.v 23 (gs ++ [(⟨qf.map (fun b => ⟨b, 0, none⟩), capf, subF c (o[k] : Nat)⟩ : FV)]) sp')] ∧ ((gs ++ [(⟨qf.map (fun b => ⟨b, 0, none⟩), capf, subF c (o[k] : Nat)⟩ : FV)]).map FV.v ++ sp').length = cap') rfl rfl rfl rfl rfl (fun _ _ => call133 _ _) (fun w1 Y' hS => ?_) (fun w1 v h1 hR => ?_)
     · exact gmeet_c q cap gs sp ⟨qf.map (fun b => ⟨b, 0, none⟩), capf, subF c (o[k] : Nat)⟩ w1 (hS.subH (List.sublist_append_left [(q, ob FV.v 23 gs sp)] _)).has (fun g hg => ((hG.in_ g hg).mono (List.subset_append_of_subset_right [(some bc, obN 80 c spc), (some bo, ob I64 3 (iL o) spo), (qf, obN 80 (subF c (o[k] : Nat)) spf)] (List.Subset.refl H))).sep hS) ((hxin.mono (List.subset_append_right [(some bc, obN 80 c spc), (some bo, ob I64 3 (iL o) spo)] _)).sep hS)
         (fun g hg => by obtain ⟨u, _, hu⟩ := hG.mem hg; have := hu.le; unfold maxLen; omega) hq hcap hgsl (fun g hg e => by
           obtain ⟨u, hu1, hu2⟩ := hG.mem hg
           have := (hu2.inj hxc).1 e
           rw [this] at hu1; exact hne hu1)
     obtain ⟨b', cap', sp', rfl, rfl, hlen⟩ := hR
     refine gAs ?_; refine gE (gIb (gR ?_)); refine gMv ?_; refine gBx rfl rfl rfl rfl (bAdd (by omega)) ?_; refine gAs ?_; refine gE ?_
     refine IH (k + 1, some b', cap', gs ++ [⟨qf.map (fun b => ⟨b, 0, none⟩), capf, subF c (o[k] : Nat)⟩], sp', (qf, obN 80 (subF c (o[k] : Nat)) spf) :: H) _ _ ⟨hm, (fun e => by cases e), hlen, ?_⟩ (by dsimp only; omega) ⟨rfl, rfl, rfl, rfl, trivial⟩ (List.Sublist.refl _)
     dsimp only
     rw [hsn, List.map_append]
     exact (hG.mono (List.subset_cons_self _ _)).snoc hxc hxin
    ·
     have h8 : (1 ≤ c[o[k]].op ∧ c[o[k]].op ≤ 8) := by simpa using hc
     have hlf : ¬ lfB c[o[k]].op = true := by unfold lfB; simp; omega
     rw [if_neg hlf] at hsn
     refine gK (gIb (gR ?_)); refine gMv ?_; refine gBx rfl rfl rfl rfl (bAdd (by omega)) ?_; refine gAs ?_; refine gE ?_
     exact IH (k + 1, q, cap, gs, sp, H) _ _ ⟨hm, hq, hcap, by dsimp only; rw [hsn]; exact hG⟩ (by dsimp only; omega) ⟨rfl, rfl, rfl, rfl, trivial⟩ (.cons _ (List.Sublist.refl _))
  ·
   have hge : ¬ k < o.length := by rw [iL_len] at hc; simpa using hc
   obtain rfl : k = o.length := by omega
   rw [List.take_length] at hG
   refine GoH.exit rfl (gS (gR ?_))
   refine gMv ?_
   iterate 2 refine gAs ?_
   refine gE ?_
   refine gT func109 fun w' hS => ?_
   exact ⟨hS.ext, _, gs, o, s, rfl, hT, q, cap, sp, H, rfl, hq, hcap, (NewH.of hS).sub (.cons_cons _ (.cons _ (.cons _ (List.Sublist.refl _)))), hG⟩
end Go.Proofs.YtlihcmknfdckdaaDoor
namespace Go.Proofs.YtlihcmknfdckdaaDoor
open Go.RowKit Go.Proofs.Wit Tryd
/-! tautologies: the reference -/
theorem boAt {w0 w : World} {S : List Nat} {h : Hl} {Y : List (Nat × Obj)} (s : St w0 S w h Y) (j : Nat) {q : Option Nat} {vs : List Bool} {e : TypeId} {sp : List Value} (hj : h[j]? = some (q, ob Value.bool e vs sp)) (hq : q = none → vs.length = 0) : SlBo w (q.map (fun b => ⟨b, 0, none⟩)) vs := by
 cases q with
 | none => rw [List.eq_nil_of_length_eq_zero (hq rfl)]; exact Sl.nil _ _
 | some b => exact Sl.blk (s.get hj)
theorem bit_fin {v k : Nat} : (((v / 2 ^ k % 2 : Nat) : Int) == 1) = v.testBit k := by
 rw [Nat.testBit_eq_decide_div_mod_eq, Bool.eq_iff_iff, beq_iff_eq, decide_eq_true_eq]
 omega
theorem infoIg : (Tryd.prog.info? 3).map (fun i => (i.zero, i.size, i.bytes)) = some (some (I64 0), 1, 8) := by kernel_rfl
set_option maxRecDepth 8000 in
theorem gtau_c (a : Option Addr) (ca : Nat) (f : List NV) (w : World) (ha : FA w a f) (hl : f.length ≤ maxLen) (hck : chkF f = 0) :
    Cn Tryd.prog 80 [.slice a f.length ca] w (fun v _ => ∃ (b : Bool) (e : Int), v = .tuple #[.bool b, .int .i64 e] ∧ ((b = true ∧ e = 0) ↔ AxTau (topT f))) := by
  obtain ⟨i1, hi1, hz1, hsz1, hby1⟩ := info_parts infoBg
  obtain ⟨i2, hi2, hz2, hsz2, hby2⟩ := info_parts infoIg
  obtain ⟨c, hcE⟩ : ∃ c, c = compF f := ⟨_, rfl⟩
  have hC : CanF c := by rw [hcE]; exact CanF.compF hck
  have hO := hC.nodes
  have hcl := hC.len
  have hcp : 0 < c.length := (chkF_zero.1 hC.chk).pos
  have htop : topT c = topT f := by rw [hcE]; exact topT_comp hck
  have hT0 : treeAt c (c.length - 1) = topT f := by rw [← topT_treeAt]; exact htop
  have hsub : ∀ j : Nat, j < c.length → Cf (subF c j) (treeAt c j) := fun j hj => by
    obtain ⟨h1, h2⟩ := hC.sub hj
    have h3 := Cf.of h1.ok (by rw [← h1.can]; exact h1.len)
    rw [← h1.can, h2] at h3
    exact h3
  refine Cn.of func80 rfl rfl ?_
  refine gS (gR ?_)
  iterate 2 refine gAs ?_
  refine gE (gS (gR ?_)); refine gMv ?_
  refine gM rfl rfl rfl rfl rfl call109 (fun w _ hS => (by exact gatoms_c a ca f w (ha.ex0 hS.ext) hl hck)) ?_
  rintro v w1 w2 Y' hS he ⟨sv, gs, o, s, rfl, hT, q, cap, sp, H, rfl, hq, hcap, hnew, hG⟩
  rw [← hcE] at hT hG
  have hmem := hT.done hO
  rw [hT0] at hmem
  have hnd := map_nd hC (lfs_nd hT) (lfs_lt hT)
  obtain ⟨L, hL⟩ : ∃ L, L = (lfs c o).map (treeAt c) := ⟨_, rfl⟩
  rw [← hL] at hmem hnd hG
  have htau := tau_iff hnd hmem
  have hll := hG.len
  refine ⟨_, hS.gainPre (pre := [_]) he hnew, ?_⟩
  refine gMv ?_
  iterate 2 refine gEx ?_
  iterate 2 refine gAs ?_
  refine gE (gS (gS (gR ?_))); refine gMv ?_; refine gBi bNe ?_; refine gE ?_
  refine GoH.cond rfl (fun hc => by exfalso; simp at hc) (fun _ => ?_)
  refine gK (gS (gS (gR ?_))); refine gMv ?_; refine gBl underlying111 ?_; refine gBi bGt ?_; refine gE ?_
  refine gC (fun hc => ?_) fun hc => ?_
  ·
   have h10 : ¬ gs.length ≤ 10 := by simp at hc; omega
   refine gS (gR ?_)
   iterate 2 refine gAs ?_
   refine gE ?_
   refine gT func80 fun w' hS => ?_
   exact ⟨hS.ext, false, 8, rfl, ⟨fun h => (by cases h.1), fun h => absurd (htau.1 h).1 (by omega)⟩⟩
  ·
   have h10 : gs.length ≤ 10 := by simp at hc; omega
   have hnums := tau_nums hmem (R := rLv L) (fun v u hu => rLv_bit hu)
   have hpw : 2 ^ gs.length ≤ 2 ^ 10 := Nat.pow_le_pow_right (by decide) h10
   have hp10 : (2 : Nat) ^ 10 = 1024 := by decide
   refine gK (gS (gR ?_)); refine gMv ?_
   refine gM rfl rfl rfl rfl rfl call54 (fun w _ hS => (by exact rcompact_c a ca f w (ha.ex0 hS.ext) hl)) ?_
   rintro v w1 w2 Y' hS he ho
   rw [subF_top, ← hcE] at ho
   obtain ⟨qc, capc, spc, rfl, hqc, hcapc, hS'⟩ := gainN hS he ho
   refine ⟨_, hS', ?_⟩
   refine gAs ?_; refine gE (gS (gR ?_)); refine gAs ?_; refine gE (gS (gS (gR ?_))); refine gAs ?_; refine gE (gB ?_)
   obtain ⟨bc, rfl⟩ : ∃ b, qc = some b := by
     cases qc with
     | none => have := (hqc rfl).1; omega
     | some b => exact ⟨b, rfl⟩
   refine GoH.addNone (ob I64 3 [] []) ?_
   refine GoH.loop (σ := Nat × Option Nat × Nat × List Value) (fun z => [(0, osv (some bc) c.length capc), (4, osv q gs.length cap), (6, osv z.2.1 ((List.range z.1).map (fun j => atK L (treeAt c j) L.length)).length z.2.2.1), (7, .int .i64 z.1)])
     (fun z => [(z.2.1, ob I64 3 ((List.range z.1).map (fun j => atK L (treeAt c j) L.length)) z.2.2.2), (some bc, obN 80 c spc), (q, ob FV.v 23 gs sp)] ++ H)
     (fun z => z.1 ≤ c.length ∧ (z.2.1 = none → z.1 = 0 ∧ z.2.2.1 = 0) ∧ (((List.range z.1).map (fun j => atK L (treeAt c j) L.length)).map I64 ++ z.2.2.2).length = z.2.2.1)
     (fun z => c.length - z.1) (0, none, 0, []) ⟨Nat.zero_le _, fun _ => ⟨rfl, rfl⟩, rfl⟩ ⟨rfl, rfl, rfl, rfl, trivial⟩ (List.Sublist.refl _) (fun z hI IH => ?_)
   obtain ⟨i, qa, capa, spa⟩ := z
   obtain ⟨hi, hqa, hcapa⟩ := hI
   dsimp only at hi hqa hcapa IH ⊢
   obtain ⟨an, has⟩ : ∃ an, an = (List.range i).map (fun j => atK L (treeAt c j) L.length) := ⟨_, rfl⟩
   have hal : an.length = i := by rw [has, mapR_len]
   rw [← has] at hcapa ⊢
   refine gS (gS (gR ?_))
   iterate 2 refine gMv ?_
   refine gBl underlying23 ?_; refine gBi bLt ?_; refine gE ?_
   refine gC (fun hc => ?_) fun hc => ?_
   ·
    have hm : i < c.length := by simpa using hc
    refine gK (gS (gB (gS (gR ?_)))); refine gAs ?_; refine gE (gS (gS (gR ?_))); refine gAs ?_; refine gE (gB ?_)
    refine GoH.loop (σ := Nat) (fun k => [(0, osv (some bc) c.length capc), (4, osv q gs.length cap), (6, osv qa an.length capa), (7, .int .i64 i), (8, .int .i64 (atK L (treeAt c i) k)), (9, .int .i64 k)])
      (fun k => [(qa, ob I64 3 an spa), (some bc, obN 80 c spc), (q, ob FV.v 23 gs sp)] ++ H)
      (fun k => k ≤ gs.length) (fun k => gs.length - k) 0 (Nat.zero_le _) ⟨rfl, rfl, rfl, rfl, rfl, rfl, trivial⟩ (List.Sublist.refl _) (fun k hk IH2 => ?_)
    refine gS (gS (gR ?_))
    iterate 2 refine gMv ?_
    refine gBl underlying111 ?_; refine gBi bLt ?_; refine gE ?_
    refine gC (fun hc => ?_) fun hc => ?_
    ·
     have hkm : k < gs.length := by simpa using hc
     have hkL : k < L.length := by omega
     obtain ⟨b, rfl⟩ : ∃ b, q = some b := by
       cases q with
       | none => have := (hq rfl).1; omega
       | some b => exact ⟨b, rfl⟩
     have hgk : gs.getD k FV.z = gs[k] := getD_lt hkm
     have hmm : gs[k] ∈ gs := List.getElem_mem hkm
     have hcf := hG.at hkm
     have hxc := hsub i hm
     have hin : FV.In 80 H gs[k] := hG.in_ _ hmm
     have hfl : gs[k].f.length ≤ maxLen := by have := hcf.le; unfold maxLen; omega
     refine gK (gS (gB (gS ?_)))
     refine GoH.drawCh 9 mixed ?_
     refine cV 0 (Vop.mv rfl rfl rfl rfl) ?_
     refine cV 1 (Vop.mv rfl rfl rfl rfl) ?_
     refine cV 2 (Vop.idxS rfl rfl rfl rfl rfl underlying111 sizeOf23 (k) ⟨rfl, hkm⟩) ?_
     skip
     refine cV 3 (Vop.ldE FV.v FV.z rfl rfl rfl rfl isAgg23 2 rfl hkm) ?_
     rw [hgk]
     refine cV 4 (Vop.mv rfl rfl rfl rfl) ?_
     refine cV 5 (Vop.mv rfl rfl rfl rfl) ?_
     refine RdC.call (i := 6) _ rfl rfl rfl rfl rfl rfl (fun _ _ => call95 _ _) (fun w _ hS => (by exact rsub_c (some ⟨bc, 0, none⟩) capc c (i : Int) w (faAt hS 1 rfl (fun e => by cases e)) (by unfold maxLen; omega))) ?_
     rintro v w1 w2 Y' hS he ho
     obtain ⟨qf, capf, spf, rfl, hqf, hcapf, hS'⟩ := gainN hS he ho
     refine ⟨_, hS', (by repeat (first | exact List.Sublist.refl _ | refine List.Sublist.cons _ ?_)), ?_⟩
     refine RdC.callP (i := 7) rfl rfl rfl rfl rfl rfl (fun _ _ => call67 _ _) (fun w _ hS => (by exact rEqual_c gs[k].a gs[k].c gs[k].f (qf.map (fun b => ⟨b, 0, none⟩)) capf (subF c i) w ((hin.mono (List.subset_append_right [_, _, _, _] H)).at hS) (faAt hS 0 rfl (fun e => (hqf e).1)) hfl)) (by repeat (first | exact List.Sublist.refl _ | exact List.nil_sublist _ | refine List.Sublist.cons_cons _ ?_ | refine List.Sublist.cons _ ?_)) ?_
     refine RdC.done rfl ?_
     refine gE ?_
     refine gC (fun hc => ?_) fun hc => ?_
     ·
      have he : L[k] = treeAt c i := (hcf.inj hxc).1 (by simpa using hc)
      refine gR ?_; refine gMv ?_; refine gAs ?_; refine gE (gIb (gR ?_)); refine gMv ?_; refine gBx rfl rfl rfl rfl (bAdd (by omega)) ?_; refine gAs ?_; refine gE ?_
      exact IH2 (k + 1) _ _ hkm (by omega) ⟨rfl, rfl, rfl, rfl, by rw [atK_yes hnd hkL he]; rfl, rfl, trivial⟩ (.cons _ (List.Sublist.refl _))
     ·
      have he : L[k] ≠ treeAt c i := fun e => absurd ((hcf.inj hxc).2 e) (by simpa using hc)
      refine gK (gIb (gR ?_)); refine gMv ?_; refine gBx rfl rfl rfl rfl (bAdd (by omega)) ?_; refine gAs ?_; refine gE ?_
      exact IH2 (k + 1) _ _ hkm (by omega) ⟨rfl, rfl, rfl, rfl, by rw [atK_no hkL he]; rfl, rfl, trivial⟩ (.cons _ (List.Sublist.refl _))
    ·
     have hge : ¬ k < gs.length := by simpa using hc
     obtain rfl : k = gs.length := by omega
     have hsn : (List.range (i + 1)).map (fun j => atK L (treeAt c j) L.length) = an ++ [atK L (treeAt c i) L.length] := by rw [has, mapR_snoc]
     rw [hll]
     refine GoH.exit rfl (gR ?_)
     iterate 2 refine gMv ?_
     refine GoH.bsN (c := [_]) rfl rfl rfl rfl underlying70 sizeOf3 zeroValue3 rfl rfl (fun b50 => ?_)
     refine GoH.appE I64 (xs := an) (sp := spa) (q := qa) (news := [atK L (treeAt c i) L.length]) (spn := []) rfl rfl rfl rfl rfl underlying70 hi2 hz2 hsz2 rfl (fun e => by rw [hal]; exact hqa e) 1 rfl 0 rfl hcapa rfl (by decide) (fun _ => rfl) (by unfold maxLen; omega) (by rw [hby2]; omega) (fun b' sp' cap' hlen2 => ?_)
     rw [← hsn] at hlen2 ⊢
     refine gAs ?_; refine gE (gIb (gR ?_)); refine gMv ?_; refine gBx rfl rfl rfl rfl (bAdd (by omega)) ?_; refine gAs ?_; refine gE ?_
     exact IH (i + 1, some b', cap', sp') _ _ ⟨hm, (fun e => by cases e), hlen2⟩ (by dsimp only; omega) ⟨rfl, by rw [hll]; rfl, rfl, rfl, trivial⟩ (.cons _ (List.Sublist.refl _))
   ·
    have hge : ¬ i < c.length := by simpa using hc
    obtain rfl : i = c.length := by omega
    refine GoH.exit rfl (gS (gS (gR ?_)))
    refine gAs ?_; refine gE (gB ?_)
    refine GoH.loop (σ := Nat) (fun v => [(0, osv (some bc) c.length capc), (4, osv q gs.length cap), (6, osv qa an.length capa), (10, .int .i64 v)])
      (fun _ => [(qa, ob I64 3 an spa), (some bc, obN 80 c spc)])
      (fun v => v ≤ 2 ^ gs.length ∧ ∀ u, u < v → evB (rLv L u) (topT f) = true) (fun v => 2 ^ gs.length - v) 0 ⟨Nat.zero_le _, fun u hu => absurd hu (Nat.not_lt_zero _)⟩ ⟨rfl, rfl, rfl, rfl, trivial⟩ (.cons_cons _ (.cons_cons _ (List.nil_sublist _))) (fun v hI IH => ?_)
    obtain ⟨hvl, hall⟩ := hI
    refine gS (gS (gR ?_))
    iterate 2 refine gMv ?_
    refine gBl underlying111 ?_
    refine GoH.v (Vop.conv rfl rfl rfl (cInt (k := .u64) underlying3 underlying96 (wrapN64 (by omega))) rfl) ?_
    refine gBx rfl rfl rfl rfl (bShlN (x := 1) (j := gs.length) rfl (by omega) (by omega)) ?_
    refine gBi bLt ?_; refine gE ?_
    refine gC (fun hc => ?_) fun hc => ?_
    ·
     have hv : v < 2 ^ gs.length := by
       have : (v : Int) < ((1 * 2 ^ gs.length : Nat) : Int) := by simpa using hc
       omega
     obtain ⟨VS, hVS⟩ : ∃ VS : Nat → Bool, VS = fun j => evB (rLv L v) (treeAt c j) := ⟨_, rfl⟩
     refine gK (gS (gB (gS (gR ?_)))); refine gAs ?_; refine gE (gS (gS (gR ?_))); refine gAs ?_; refine gE (gB ?_)
     refine GoH.addNone (ob Value.bool 4 [] []) ?_
     refine GoH.loop (σ := Nat × Option Nat × Nat × List Value) (fun z => [(0, osv (some bc) c.length capc), (4, osv q gs.length cap), (6, osv qa an.length capa), (10, .int .i64 v), (11, osv z.2.1 ((List.range z.1).map VS).length z.2.2.1), (12, .int .i64 z.1)])
       (fun z => [(z.2.1, ob Value.bool 4 ((List.range z.1).map VS) z.2.2.2), (qa, ob I64 3 an spa), (some bc, obN 80 c spc)])
       (fun z => z.1 ≤ c.length ∧ (z.2.1 = none → z.1 = 0 ∧ z.2.2.1 = 0) ∧ (((List.range z.1).map VS).map Value.bool ++ z.2.2.2).length = z.2.2.1)
       (fun z => c.length - z.1) (0, none, 0, []) ⟨Nat.zero_le _, fun _ => ⟨rfl, rfl⟩, rfl⟩ ⟨rfl, rfl, rfl, rfl, rfl, rfl, trivial⟩ (List.Sublist.refl _) (fun z hI IH2 => ?_)
     obtain ⟨i, qv, capv, spv⟩ := z
     obtain ⟨hi, hqv, hcapv⟩ := hI
     dsimp only at hi hqv hcapv IH2 ⊢
     obtain ⟨vs, hvs⟩ : ∃ vs, vs = (List.range i).map VS := ⟨_, rfl⟩
     have hvl2 : vs.length = i := by rw [hvs, mapR_len]
     have hsn : (List.range (i + 1)).map VS = vs ++ [VS i] := by rw [hvs, mapR_snoc]
     rw [← hvs] at hcapv ⊢
     refine gS (gS (gR ?_))
     iterate 2 refine gMv ?_
     refine gBl underlying23 ?_; refine gBi bLt ?_; refine gE ?_
     refine gC (fun hc => ?_) fun hc => ?_
     ·
      have hm : i < c.length := by simpa using hc
      have hma : i < an.length := by omega
      obtain ⟨ba, rfl⟩ : ∃ b, qa = some b := by
        cases qa with
        | none => have := (hqa rfl).1; omega
        | some b => exact ⟨b, rfl⟩
      have hga : an.getD i 0 = atK L (treeAt c i) L.length := by rw [has, mapR_get hm]
      have hop := (hO i hm).op
      refine gK (gS (gB (gS (gR ?_)))); refine gAs ?_; refine gE (gS (gS (gR ?_)))
      iterate 2 refine gMv ?_
      refine GoH.v (Vop.idxS rfl rfl rfl rfl rfl underlying70 sizeOf3 (i) ⟨rfl, hma⟩) ?_
      skip
      refine GoH.v (Vop.ldE I64 0 rfl rfl rfl rfl isAgg3 1 rfl hma) ?_
      rw [hga]
      refine gBi bGe ?_; refine gE ?_
      refine gC (fun hc => ?_) fun hc => ?_
      ·
       have hin : treeAt c i ∈ L := atK_ge.1 (by simpa using hc)
       have hix := atK_in hin
       have hixl := List.idxOf_lt_length_of_mem hin
       have hvi : VS i = v.testBit (L.idxOf (treeAt c i)) := by
         have hlf := atT_lf ((hmem _).1 hin)
         rw [treeAt_op hm hO] at hlf
         rw [hVS]
         exact (ev_leaf hm hO hlf).trans (rLv_bit hin)
       have hd : v / 2 ^ L.idxOf (treeAt c i) ≤ v := Nat.div_le_self _ _
       refine gR ?_
       iterate 3 refine gMv ?_
       refine GoH.v (Vop.idxS rfl rfl rfl rfl rfl underlying70 sizeOf3 (i) ⟨rfl, hma⟩) ?_
       skip
       refine GoH.v (Vop.ldE I64 0 rfl rfl rfl rfl isAgg3 1 rfl hma) ?_
       rw [hga, hix]
       refine GoH.v (Vop.conv rfl rfl rfl (cInt (k := .u64) underlying3 underlying96 (wrapN64 (by omega))) rfl) ?_
       refine gBx rfl rfl rfl rfl (bShrN (x := v) (j := L.idxOf (treeAt c i)) rfl (by omega) (by omega)) ?_
       refine gBx rfl rfl rfl rfl (bAnd1N (by omega)) ?_; refine gBi bEq ?_; refine gAs ?_; refine gE (gR ?_)
       iterate 2 refine gMv ?_
       refine GoH.bsN (c := [_]) rfl rfl rfl rfl underlying85 sizeOf4 zeroValue4 rfl rfl (fun b94 => ?_)
       refine GoH.appE Value.bool (xs := vs) (sp := spv) (q := qv) (news := [VS i]) (spn := []) rfl rfl rfl rfl rfl underlying85 hi1 hz1 hsz1 rfl (fun e => by rw [hvl2]; exact hqv e) 1 rfl 0 (by rw [hvi, ← bit_fin]; rfl) hcapv rfl (by decide) (fun _ => rfl) (by unfold maxLen; omega) (by rw [hby1]; omega) (fun b' sp' cap' hlen2 => ?_)
       rw [← hsn] at hlen2 ⊢
       refine gAs ?_; refine gE (gIb (gR ?_)); refine gMv ?_; refine gBx rfl rfl rfl rfl (bAdd (by omega)) ?_; refine gAs ?_; refine gE ?_
       exact IH2 (i + 1, some b', cap', sp') _ _ ⟨hm, (fun e => by cases e), hlen2⟩ (by dsimp only; omega) ⟨rfl, rfl, rfl, rfl, rfl, rfl, trivial⟩ (.cons _ (List.Sublist.refl _))
      ·
       have hout : treeAt c i ∉ L := fun h => absurd (atK_ge.2 h) (by simpa using hc)
       refine gS (gR ?_)
       iterate 2 refine gMv ?_
       refine GoH.v (Vop.idxS rfl rfl rfl rfl rfl underlying23 sizeOf80 (i) ⟨rfl, hm⟩) ?_
       refine GoH.v (Vop.fldA (a := some ⟨bc, 0, none⟩) (o := (i) * 6) rfl rfl rfl rfl underlying80 rfl sizeOf3 ((i) * 6 + 0) rfl) ?_
       refine GoH.v (Vop.ld rfl rfl rfl rfl isAgg3 (fun w _ hS => Sl.fld (enc := NV.cells) (sz := 6) (faAt hS 2 rfl (fun e => by cases e)).at_ (fun _ => rfl) hm rfl)) ?_
       refine gP rfl rfl rfl rfl rfl call110 (fun w _ hS => (by exact gprop_c c[i].op w)) ?_
       refine gE ?_
       refine gC (fun hc => ?_) fun hc => ?_
       ·
        have h8 : (1 ≤ c[i].op ∧ c[i].op ≤ 8) := by simpa using hc
        have hok := hO i hm
        have hx0 : 0 ≤ c[i].x := by
          cases h : usX c[i].op with
          | true => exact (hok.x h).1
          | false => rw [hok.x0 h]; decide
        have hy0 : 0 ≤ c[i].y := by
          cases h : usY c[i].op with
          | true => exact (hok.y h).1
          | false => rw [hok.y0 h]; decide
        obtain ⟨kx, ekx⟩ : ∃ kx : Nat, c[i].x = (kx : Int) := ⟨c[i].x.toNat, by omega⟩
        obtain ⟨ky, eky⟩ : ∃ ky : Nat, c[i].y = (ky : Int) := ⟨c[i].y.toNat, by omega⟩
        have hkx : usX c[i].op = true → kx < i := fun h => by have := (hok.x h).2; omega
        have hky : usY c[i].op = true → ky < i := fun h => by have := (hok.y h).2; omega
        have hvi : cmbB c[i].op (vs.getD kx false) (vs.getD ky false) = VS i := by
          by_cases h3 : c[i].op = 3
          · have hlf : lfB c[i].op = true := by rw [h3]; rfl
            have hz : evB (rLv L v) (treeAt c i) = false := (ev_leaf hm hO hlf).trans (rLv_out hout)
            rw [hVS]
            dsimp only
            rw [hz, h3]; rfl
          · have hlf : lfB c[i].op = false := (lfB_prop hop).2 ⟨h8, h3⟩
            rw [hVS]
            refine ev_node hm hO hlf (fun h => ?_) (fun h => ?_)
            · have h5 : c[i].x.toNat = kx := by omega
              rw [h5, hvs, mapR_get (hkx h), hVS]
            · have h5 : c[i].y.toNat = ky := by omega
              rw [h5, hvs, mapR_get (hky h), hVS]
        refine gR ?_
        iterate 2 refine gMv ?_
        refine GoH.v (Vop.idxS rfl rfl rfl rfl rfl underlying23 sizeOf80 (i) ⟨rfl, hm⟩) ?_
        refine GoH.v (Vop.ldN (cs := NV.cells c[i]) rfl rfl rfl rfl isAgg80 sizeOf80 (fun w _ hS => Sl.many (enc := NV.cells) (sz := 6) (a := some ⟨bc, 0, none⟩) (Sl.blk (hS.get (j := 2) rfl)) (fun _ => rfl) hm)) ?_
        refine gMv ?_
        refine gP rfl rfl rfl rfl rfl call111 (fun w _ hS => (by exact gval_c c[i] (qv.map (fun b => ⟨b, 0, none⟩)) capv vs kx ky w (boAt hS 0 rfl (fun e => by rw [hvl2]; exact (hqv e).1)) h8 (fun h => by have := (fldOk_of hok.fld).fact h; omega) ekx eky (fun h => by have := hkx h; omega) (fun h => by have := hky h; omega))) ?_
        refine gAs ?_; refine gE (gR ?_)
        iterate 2 refine gMv ?_
        refine GoH.bsN (c := [_]) rfl rfl rfl rfl underlying85 sizeOf4 zeroValue4 rfl rfl (fun b94 => ?_)
        refine GoH.appE Value.bool (xs := vs) (sp := spv) (q := qv) (news := [VS i]) (spn := []) rfl rfl rfl rfl rfl underlying85 hi1 hz1 hsz1 rfl (fun e => by rw [hvl2]; exact hqv e) 1 rfl 0 (by rw [← hvi]; rfl) hcapv rfl (by decide) (fun _ => rfl) (by unfold maxLen; omega) (by rw [hby1]; omega) (fun b' sp' cap' hlen2 => ?_)
        rw [← hsn] at hlen2 ⊢
        refine gAs ?_; refine gE (gIb (gR ?_)); refine gMv ?_; refine gBx rfl rfl rfl rfl (bAdd (by omega)) ?_; refine gAs ?_; refine gE ?_
        exact IH2 (i + 1, some b', cap', sp') _ _ ⟨hm, (fun e => by cases e), hlen2⟩ (by dsimp only; omega) ⟨rfl, rfl, rfl, rfl, rfl, rfl, trivial⟩ (.cons _ (List.Sublist.refl _))
       ·
        have h8 : ¬ (1 ≤ c[i].op ∧ c[i].op ≤ 8) := by simp at hc; omega
        have hvi : VS i = false := by
          have hlf : lfB c[i].op = true := by
            cases h : lfB c[i].op with
            | true => rfl
            | false => exact absurd ((lfB_prop hop).1 h).1 h8
          rw [hVS]
          exact (ev_leaf hm hO hlf).trans (rLv_out hout)
        refine gK (gR ?_)
        iterate 2 refine gMv ?_
        refine GoH.bsN (c := [_]) rfl rfl rfl rfl underlying85 sizeOf4 zeroValue4 rfl rfl (fun b94 => ?_)
        refine GoH.appE Value.bool (xs := vs) (sp := spv) (q := qv) (news := [VS i]) (spn := []) rfl rfl rfl rfl rfl underlying85 hi1 hz1 hsz1 rfl (fun e => by rw [hvl2]; exact hqv e) 1 rfl 0 (by rw [hvi]; rfl) hcapv rfl (by decide) (fun _ => rfl) (by unfold maxLen; omega) (by rw [hby1]; omega) (fun b' sp' cap' hlen2 => ?_)
        rw [← hsn] at hlen2 ⊢
        refine gAs ?_; refine gE (gIb (gR ?_)); refine gMv ?_; refine gBx rfl rfl rfl rfl (bAdd (by omega)) ?_; refine gAs ?_; refine gE ?_
        exact IH2 (i + 1, some b', cap', sp') _ _ ⟨hm, (fun e => by cases e), hlen2⟩ (by dsimp only; omega) ⟨rfl, rfl, rfl, rfl, rfl, rfl, trivial⟩ (.cons _ (List.Sublist.refl _))
     ·
      have hge : ¬ i < c.length := by simpa using hc
      obtain rfl : i = c.length := by omega
      obtain ⟨bv, rfl⟩ : ∃ b, qv = some b := by
        cases qv with
        | none => have := (hqv rfl).1; omega
        | some b => exact ⟨b, rfl⟩
      have hl1 : c.length - 1 < vs.length := by omega
      have hgl : vs.getD (c.length - 1) false = evB (rLv L v) (topT f) := by rw [hvs, mapR_get (by omega), hVS]; dsimp only; rw [hT0]
      refine GoH.exit rfl (gS (gR ?_))
      iterate 2 refine gMv ?_
      refine gBl underlying23 ?_
      refine gBx rfl rfl rfl rfl (bSubE (c := ((c.length - 1 : Nat) : Int)) (by omega) (by omega)) ?_
      refine GoH.v (Vop.idxS rfl rfl rfl rfl rfl underlying85 sizeOf4 (c.length - 1) ⟨rfl, hl1⟩) ?_
      skip
      refine GoH.v (Vop.ldE Value.bool false rfl rfl rfl rfl isAgg4 0 rfl hl1) ?_
      rw [hgl]
      refine gUn uNot ?_; refine gE ?_
      refine gC (fun hc => ?_) fun hc => ?_
      ·
       have hb : evB (rLv L v) (topT f) = false := by simpa using hc
       refine gS (gR ?_)
       iterate 2 refine gAs ?_
       refine gE ?_
       refine gT func80 fun w' hS => ?_
       exact ⟨hS.ext, false, 0, rfl, ⟨fun h => (by cases h.1), fun h => by have := hnums.1 (htau.1 h).2 v (by rw [← hll]; exact hv); rw [hb] at this; cases this⟩⟩
      ·
       have hb : evB (rLv L v) (topT f) = true := by simpa using hc
       refine gK (gIb (gR ?_)); refine gMv ?_; refine gBx rfl rfl rfl rfl (bAdd (by omega)) ?_; refine gAs ?_; refine gE ?_
       refine IH (v + 1) _ _ ⟨hv, fun u hu => ?_⟩ (by omega) ⟨rfl, rfl, rfl, rfl, trivial⟩ (.cons _ (List.Sublist.refl _))
       by_cases e : u = v
       · rw [e]; exact hb
       · exact hall u (by omega)
    ·
     have hge : ¬ v < 2 ^ gs.length := by
       have : ¬ (v : Int) < ((1 * 2 ^ gs.length : Nat) : Int) := by simpa using hc
       omega
     obtain rfl : v = 2 ^ gs.length := by omega
     refine GoH.exit rfl (gS (gR ?_))
     iterate 2 refine gAs ?_
     refine gE ?_
     refine gT func80 fun w' hS => ?_
     exact ⟨hS.ext, true, 0, rfl, ⟨fun _ => htau.2 ⟨by omega, hnums.2 (by rw [← hll]; exact hall)⟩, fun _ => ⟨rfl, rfl⟩⟩⟩
end Go.Proofs.YtlihcmknfdckdaaDoor
namespace Go.Proofs.YtlihcmknfdckdaaDoor
open Go.RowKit Go.Proofs.Wit Tryd
/-! Hilbert's axioms K, T, 4, 5, D and of possibility and common knowledge: the program -/
theorem fsame_c (a : Option Addr) (ca : Nat) (f : List NV) (b : Option Addr) (cb : Nat) (g : List NV) (w : World) (ha : FA w a f) (hb : FA w b g) (hl : f.length ≤ maxLen) (hl2 : g.length ≤ maxLen) : Cn Tryd.prog 41 [.slice a f.length ca, .slice b g.length cb] w (fun v _ => v = .bool (sameB f g)) := by
  refine Cn.of func41 rfl rfl ?_
  refine gS (gR ?_); refine gAs ?_; refine gE (gS (gR ?_)); refine gMv ?_
  refine gP rfl rfl rfl rfl rfl call75 (fun w _ hS => (by exact fcheck_c a ca f w (ha.ex0 hS.ext) hl)) ?_
  refine gBi bEq ?_; refine gMv ?_
  refine gCs 8 (fun hc => ?_) fun hc => ?_
  ·
   have h1 : chkF f = 0 := by simpa using hc
   refine gMv ?_
   refine gP rfl rfl rfl rfl rfl call75 (fun w _ hS => (by exact fcheck_c b cb g w (hb.ex0 hS.ext) hl2)) ?_
   refine gBi bEq ?_; refine gPt ?_; refine gMv ?_
   refine gCs 13 (fun hc => ?_) fun hc => ?_
   ·
    have h2 : chkF g = 0 := by simpa using hc
    refine gMv ?_
    refine gM rfl rfl rfl rfl rfl call44 (fun w _ hS => (by exact fcompact_c a ca f w (ha.ex0 hS.ext) hl)) ?_
    rintro v w1 w2 Y' hS he ho
    rw [subF_top] at ho
    obtain ⟨q1, cap1, sp1, rfl, hq1, hcap1, hS'⟩ := gainN hS he ho
    refine ⟨_, hS', ?_⟩
    refine gMv ?_
    refine gM rfl rfl rfl rfl rfl call44 (fun w _ hS => (by exact fcompact_c b cb g w (hb.ex0 hS.ext) hl2)) ?_
    rintro v w1 w2 Y' hS he ho
    rw [subF_top] at ho
    obtain ⟨q2, cap2, sp2, rfl, hq2, hcap2, hS'⟩ := gainN hS he ho
    refine ⟨_, hS', ?_⟩
    refine gP rfl rfl rfl rfl rfl call76 (fun w _ hS => (by exact sEqual_c (q1.map (fun b => ⟨b, 0, none⟩)) cap1 (compF f) (q2.map (fun b => ⟨b, 0, none⟩)) cap2 (compF g) w (faAt hS 1 rfl (fun e => (hq1 e).1)) (faAt hS 0 rfl (fun e => (hq2 e).1)) (by have := compF_le f; unfold maxLen; omega))) ?_
    refine gPt ?_; refine gAs ?_; refine gE ?_
    refine gT func41 fun w' hS => ?_
    refine ⟨hS.ext, ?_⟩
    unfold sameB
    rw [decide_eq_decide.2 (show (compF f = compF g) ↔ (chkF f = 0 ∧ chkF g = 0 ∧ compF f = compF g) from ⟨fun h => ⟨h1, h2, h⟩, fun h => h.2.2⟩)]; rfl
   ·
    have h2 : chkF g ≠ 0 := by simpa using hc
    iterate 5 refine gNo ?_
    refine gPf ?_; refine gAs ?_; refine gE ?_
    refine gT func41 fun w' hS => ?_
    exact ⟨hS.ext, by rw [show sameB f g = false from decide_eq_false (fun e => h2 e.2.1)]; rfl⟩
  ·
   have h1 : chkF f ≠ 0 := by simpa using hc
   iterate 3 refine gNo ?_
   refine gPf ?_; refine gMv ?_
   iterate 5 refine gNo ?_
   refine gPf ?_; refine gAs ?_; refine gE ?_
   refine gT func41 fun w' hS => ?_
   exact ⟨hS.ext, by rw [show sameB f g = false from decide_eq_false (fun e => h1 e.1)]; rfl⟩
theorem hnot_c (x : FV) (t : Tr) (w : World) (ha : FA w x.a x.f) (hf : x.f = bT t) (ht : t.ok) : Cn Tryd.prog 173 [x.v] w (fun v w' => OwnN 80 w w' v (bT (ntT t))) := by
 have := not_c x.a x.c x.f w ha (bT_max hf)
 rw [show bldF ⟨4, 0, 0, 0, 0, 0⟩ [x.f] = bT (ntT t) from by rw [hf]; exact bld_un ht (by decide) rfl rfl rfl] at this
 exact this
theorem hknow_c (i : Int) (hi : 0 ≤ i ∧ i < 4) (x : FV) (t : Tr) (w : World) (ha : FA w x.a x.f) (hf : x.f = bT t) (ht : t.ok) : Cn Tryd.prog 102 [.int .i64 i, x.v] w (fun v w' => OwnN 80 w w' v (bT (kwT i t))) := by
 have := know_c i x.a x.c x.f w ha (bT_max hf)
 rw [show bldF ⟨9, i, 0, 0, 0, 0⟩ [x.f] = bT (kwT i t) from by rw [hf]; exact bld_un ht (by decide) rfl rfl (fld_kw hi)] at this
 exact this
theorem hevery_c (g : Int) (hg : 1 ≤ g ∧ g < 16) (x : FV) (t : Tr) (w : World) (ha : FA w x.a x.f) (hf : x.f = bT t) (ht : t.ok) : Cn Tryd.prog 127 [.int .i64 g, x.v] w (fun v w' => OwnN 80 w w' v (bT (evT g t))) := by
 have := every_c g x.a x.c x.f w ha (bT_max hf)
 rw [show bldF ⟨11, 0, 0, g, 0, 0⟩ [x.f] = bT (evT g t) from by rw [hf]; exact bld_un ht (by decide) rfl rfl (fld_ev hg)] at this
 exact this
theorem hand_c (x y : FV) (t u : Tr) (w : World) (ha : FA w x.a x.f) (hf : x.f = bT t) (ht : t.ok) (hb : FA w y.a y.f) (hg : y.f = bT u) (hu : u.ok) : Cn Tryd.prog 128 [x.v, y.v] w (fun v w' => OwnN 80 w w' v (bT (adT t u))) := by
 have := and_c x.a x.c x.f y.a y.c y.f w ha (bT_max hf) hb (bT_max hg)
 rw [show bldF ⟨5, 0, 0, 0, 0, 0⟩ [x.f, y.f] = bT (adT t u) from by rw [hf, hg]; exact bld_bin ht hu (by decide) rfl rfl] at this
 exact this
theorem himp_c (x y : FV) (t u : Tr) (w : World) (ha : FA w x.a x.f) (hf : x.f = bT t) (ht : t.ok) (hb : FA w y.a y.f) (hg : y.f = bT u) (hu : u.ok) : Cn Tryd.prog 60 [x.v, y.v] w (fun v w' => OwnN 80 w w' v (bT (imT t u))) := by
 have := imp_c x.a x.c x.f y.a y.c y.f w ha (bT_max hf) hb (bT_max hg)
 rw [show bldF ⟨7, 0, 0, 0, 0, 0⟩ [x.f, y.f] = bT (imT t u) from by rw [hf, hg]; exact bld_bin ht hu (by decide) rfl rfl] at this
 exact this
theorem hiff_c (x y : FV) (t u : Tr) (w : World) (ha : FA w x.a x.f) (hf : x.f = bT t) (ht : t.ok) (hb : FA w y.a y.f) (hg : y.f = bT u) (hu : u.ok) : Cn Tryd.prog 179 [x.v, y.v] w (fun v w' => OwnN 80 w w' v (bT (ifT t u))) := by
 have := iff_c x.a x.c x.f y.a y.c y.f w ha (bT_max hf) hb (bT_max hg)
 rw [show bldF ⟨8, 0, 0, 0, 0, 0⟩ [x.f, y.f] = bT (ifT t u) from by rw [hf, hg]; exact bld_bin ht hu (by decide) rfl rfl] at this
 exact this
def KnownP (w w' : World) (v : Value) (o : Option Tr) : Prop := ∃ (qa : Option Nat) (ca : Nat) (fa : List NV) (spa : List Value),
 v = .tuple #[.int .i64 (fldI o), osv qa fa.length ca, .bool (opP o == 9)] ∧ (qa = none → fa.length = 0 ∧ ca = 0) ∧ NewH w w' [(qa, obN 80 fa spa)] ∧ Bf fa (kdA o)
theorem known_c (a : Option Addr) (ca : Nat) (f : List NV) (o : Option Tr) (w : World) (ha : FA w a f) (hf : Bf f o) :
  Cn Tryd.prog 178 [.slice a f.length ca] w (fun v w' => KnownP w w' v o) := by
 refine Cn.of func178 rfl rfl ?_
 refine gS (gR ?_)
 iterate 3 refine gAs ?_
 refine gE (gS (gR ?_)); refine gMv ?_
 refine gM rfl rfl rfl rfl rfl call59 (fun w _ hS => (by exact part_c a ca f o w (ha.ex0 hS.ext) hf)) ?_
 rintro v w1 w2 Y' hS he ⟨nd, qa, ca, fa, spa, qb, cb, fb, spb, rfl, hqa, hqb, hnew, hBa, hBb, hop, hi, hg⟩
 refine ⟨_, hS.gainL he hnew, ?_⟩
 refine gMv ?_
 iterate 3 refine gEx ?_
 refine GoH.alc rfl rfl rfl (fun _ => zeroValue80 _) (fun b5 => ?_)
 refine GoH.stB rfl rfl rfl rfl sizeOf80 0 rfl rfl rfl rfl ?_
 iterate 2 refine gAs ?_
 refine gE (gS ?_)
 refine GoH.draw 9 mixed rfl ?_
 refine rFp underlying80 sizeOf3 1 ?_; refine rLo isAgg3 0 ?_; refine rMv ?_; refine rFp underlying80 sizeOf3 0 ?_; refine rLo isAgg3 0 ?_; refine rBi bEq ?_
 iterate 3 refine rAs ?_
 refine RdGo.nil ?_
 refine gE ?_
 refine gT func178 fun w' hS => ?_
 exact ⟨hS.ext, qa, ca, fa, spa, by rw [← hi, ← hop]; rfl, hqa, (NewH.of hS).sub (.cons _ (.cons_cons _ (List.nil_sublist _))), hBa⟩
end Go.Proofs.YtlihcmknfdckdaaDoor
namespace Go.Proofs.YtlihcmknfdckdaaDoor
open Go.RowKit Go.Proofs.Wit Tryd
/-! the axioms that the program looks for -/
set_option maxRecDepth 8000 in
theorem axKp_c (a : Option Addr) (ca : Nat) (f : List NV) (t : Tr) (w : World) (ha : FA w a f) (hf : Cf f t) :
    Cn Tryd.prog 164 [.slice a f.length ca] w (fun v _ => ∃ b, v = .bool b ∧ (b = true ↔ AxK t)) := by
  refine Cn.of func164 rfl rfl ?_
  refine gS (gR ?_); refine gAs ?_; refine gE (gS (gR ?_)); refine gMv ?_
  refine gM rfl rfl rfl rfl rfl call59 (fun w _ hS => (by exact part_c a ca f (some t) w (ha.ex0 hS.ext) hf)) ?_
  rintro v w1 w2 Y' hS he ⟨nd, qa, cA, fa, spa, qb, cb, fb, spb, rfl, hqa, hqb, hnew, hBa, hBb, hop, hi, hg⟩
  refine ⟨_, hS.gainL he hnew, ?_⟩
  refine gMv ?_
  iterate 3 refine gEx ?_
  refine GoH.alc rfl rfl rfl (fun _ => zeroValue80 _) (fun b3 => ?_)
  refine GoH.stB rfl rfl rfl rfl sizeOf80 0 rfl rfl rfl rfl ?_
  iterate 2 refine gAs ?_
  refine gE (gS (gR ?_)); refine gMv ?_
  refine gM rfl rfl rfl rfl rfl call178 (fun w _ hS => (by exact known_c (qa.map (fun b => ⟨b, 0, none⟩)) cA fa (kdA (some t)) w (faAt hS 1 rfl (fun e => (hqa e).1)) hBa)) ?_
  rintro v w1 w2 Y' hS he ⟨qk, ck, fk, spk, rfl, hqk, hnew, hBk⟩
  refine ⟨_, hS.gainL he hnew, ?_⟩
  refine gMv ?_
  iterate 3 refine gEx ?_
  iterate 3 refine gAs ?_
  refine gE (gS (gS (gR ?_))); refine gMv ?_; refine gUn uNot ?_; refine gE ?_
  refine gC (fun hc => ?_) fun hc => ?_
  ·
   have hno : ¬ opP (kdA (some t)) = 9 := by simpa using hc
   refine gS (gR ?_); refine gAs ?_; refine gE ?_
   refine gT func164 fun w' hS => ?_
   exact ⟨hS.ext, false, rfl, fun h => (by cases h), fun h => absurd h.gd.1 hno⟩
  ·
   have h9 : opP (kdA (some t)) = 9 := by simpa using hc
   obtain ⟨i, G, hA, hi0, hG⟩ := (OkP'.of hf.ok).a.kn h9 (.inl rfl)
   rw [hA] at hBk hBa ⊢
   have hBk' : Bf fk (some G) := hBk
   have hBa' : Cf fa (kwT i G) := hBa
   refine gK (gS (gR ?_)); refine gMv ?_
   refine gM rfl rfl rfl rfl rfl call59 (fun w _ hS => (by exact part_c (qk.map (fun b => ⟨b, 0, none⟩)) ck fk (some G) w (faAt hS 0 rfl (fun e => (hqk e).1)) hBk')) ?_
   rintro v w1 w2 Y' hS he ⟨nd2, qa2, cA2, fa2, spa2, qb2, cb2, fb2, spb2, rfl, hqa2, hqb2, hnew, hBa2, hBb2, hop2, hi2, hg2⟩
   refine ⟨_, hS.gainL he hnew, ?_⟩
   refine gMv ?_
   iterate 3 refine gEx ?_
   refine GoH.alc rfl rfl rfl (fun _ => zeroValue80 _) (fun b9 => ?_)
   refine GoH.stB rfl rfl rfl rfl sizeOf80 0 rfl rfl rfl rfl ?_
   iterate 2 refine gAs ?_
   refine gE (gS (gR ?_)); refine gFp underlying80 sizeOf3 0 ?_; refine gLo isAgg3 0 ?_; refine gBi bEq ?_; refine gMv ?_
   refine gCs 35 (fun hc => ?_) fun hc => ?_
   ·
    have h7 : opP (some G) = 7 := by rw [← hop2]; simpa using hc
    obtain ⟨p, q, hpq, hp, hq⟩ := (OkP'.of hG).bn h7 (.inr (.inr (.inl rfl)))
    obtain rfl := Option.some.inj hpq
    have hBp : Cf fa2 p := hBa2
    have hBq : Cf fb2 q := hBb2
    iterate 4 refine gMv ?_
    refine gM rfl rfl rfl rfl rfl call102 (fun w _ hS => (by exact hknow_c i hi0 ⟨(qa2.map (fun b => ⟨b, 0, none⟩)), cA2, fa2⟩ p w (faAt hS 1 rfl (fun e => (hqa2 e).1)) hBp.eq hp)) ?_
    rintro v w1 w2 Y' hS he ho
    obtain ⟨r1, cr1, spr1, rfl, hr1, hcr1, hS'⟩ := gainN hS he ho
    refine ⟨_, hS', ?_⟩
    iterate 2 refine gMv ?_
    refine gM rfl rfl rfl rfl rfl call102 (fun w _ hS => (by exact hknow_c i hi0 ⟨(qb2.map (fun b => ⟨b, 0, none⟩)), cb2, fb2⟩ q w (faAt hS 3 rfl (fun e => (hqb2 e).1)) hBq.eq hq)) ?_
    rintro v w1 w2 Y' hS he ho
    obtain ⟨r2, cr2, spr2, rfl, hr2, hcr2, hS'⟩ := gainN hS he ho
    refine ⟨_, hS', ?_⟩
    refine gM rfl rfl rfl rfl rfl call60 (fun w _ hS => (by exact himp_c ⟨(r1.map (fun b => ⟨b, 0, none⟩)), cr1, bT (kwT i p)⟩ ⟨(r2.map (fun b => ⟨b, 0, none⟩)), cr2, bT (kwT i q)⟩ (kwT i p) (kwT i q) w (faAt hS 1 rfl (fun e => (hr1 e).1)) rfl (kw_ok hi0 hp) (faAt hS 0 rfl (fun e => (hr2 e).1)) rfl (kw_ok hi0 hq))) ?_
    rintro v w1 w2 Y' hS he ho
    obtain ⟨r3, cr3, spr3, rfl, hr3, hcr3, hS'⟩ := gainN hS he ho
    refine ⟨_, hS', ?_⟩
    refine gM rfl rfl rfl rfl rfl call60 (fun w _ hS => (by exact himp_c ⟨(qa.map (fun b => ⟨b, 0, none⟩)), cA, fa⟩ ⟨(r3.map (fun b => ⟨b, 0, none⟩)), cr3, bT (imT (kwT i p) (kwT i q))⟩ (kwT i (imT p q)) (imT (kwT i p) (kwT i q)) w (faAt hS 8 rfl (fun e => (hqa e).1)) hBa'.eq (kw_ok hi0 hG) (faAt hS 0 rfl (fun e => (hr3 e).1)) rfl (im_ok (kw_ok hi0 hp) (kw_ok hi0 hq)))) ?_
    rintro v w1 w2 Y' hS he ho
    obtain ⟨r4, cr4, spr4, rfl, hr4, hcr4, hS'⟩ := gainN hS he ho
    refine ⟨_, hS', ?_⟩
    refine gP rfl rfl rfl rfl rfl call41 (fun w _ hS => (by exact fsame_c a ca f (r4.map (fun b => ⟨b, 0, none⟩)) cr4 _ w (ha.ex0 hS.ext) (faAt hS 0 rfl (fun e => (hr4 e).1)) (bT_max hf.eq) (bT_max rfl))) ?_
    refine gPt ?_; refine gAs ?_; refine gE ?_
    refine gT func164 fun w' hS => ?_
    exact ⟨hS.ext, _, rfl, by rw [sameB_cf hf (im_ok (kw_ok hi0 hG) (im_ok (kw_ok hi0 hp) (kw_ok hi0 hq))), decide_eq_true_eq]; exact AxK.iff hA⟩
   ·
    have hno : ¬ opP (some G) = 7 := by rw [← hop2]; simpa using hc
    iterate 11 refine gNo ?_
    refine gPf ?_; refine gAs ?_; refine gE ?_
    refine gT func164 fun w' hS => ?_
    exact ⟨hS.ext, false, rfl, fun h => (by cases h), fun h => absurd (by have := h.gd.2; rw [hA] at this; exact this) hno⟩
theorem toT_c (i : Int) (x : FV) (w : World) : Cn Tryd.prog 167 [.int .i64 i, x.v] w (fun v _ => v = x.v) := by
 refine Cn.of func167 rfl rfl ?_
 refine gS (gR ?_); refine gAs ?_; refine gE (gS (gR ?_)); refine gMv ?_; refine gAs ?_; refine gE ?_
 refine gT func167 fun w' hS => ?_
 exact ⟨hS.ext, rfl⟩
theorem to4_c (i : Int) (hi0 : 0 ≤ i ∧ i < 4) (x : FV) (t : Tr) (w : World) (ha : FA w x.a x.f) (hf : x.f = bT t) (ht : t.ok) : Cn Tryd.prog 169 [.int .i64 i, x.v] w (fun v w' => OwnN 80 w w' v (bT (kwT i (kwT i t)))) := by
 refine Cn.of func169 rfl rfl ?_
 refine gS (gR ?_); refine gAs ?_; refine gE (gS (gR ?_))
 iterate 3 refine gMv ?_
 refine gM rfl rfl rfl rfl rfl call102 (fun w _ hS => (by exact hknow_c i hi0 x t w (ha.ex0 hS.ext) hf ht)) ?_
 rintro v w1 w2 Y' hS he ho
 obtain ⟨r1, cr1, spr1, rfl, hr1, hcr1, hS'⟩ := gainN hS he ho
 refine ⟨_, hS', ?_⟩
 refine gM rfl rfl rfl rfl rfl call102 (fun w _ hS => (by exact hknow_c i hi0 ⟨(r1.map (fun b => ⟨b, 0, none⟩)), cr1, bT (kwT i t)⟩ (kwT i t) w (faAt hS 0 rfl (fun e => (hr1 e).1)) rfl (kw_ok hi0 ht))) ?_
 rintro v w1 w2 Y' hS he ho
 obtain ⟨r2, cr2, spr2, rfl, hr2, hcr2, hS'⟩ := gainN hS he ho
 refine ⟨_, hS', ?_⟩
 refine gAs ?_; refine gE ?_
 refine gT func169 fun w' hS => ?_
 exact ⟨hS.ext, OwnN.mk hS 0 rfl rfl hr2 hcr2⟩
theorem toD_c (i : Int) (hi0 : 0 ≤ i ∧ i < 4) (x : FV) (t : Tr) (w : World) (ha : FA w x.a x.f) (hf : x.f = bT t) (ht : t.ok) : Cn Tryd.prog 172 [.int .i64 i, x.v] w (fun v w' => OwnN 80 w w' v (bT (ntT (kwT i (ntT t))))) := by
 refine Cn.of func172 rfl rfl ?_
 refine gS (gR ?_); refine gAs ?_; refine gE (gS (gR ?_))
 iterate 2 refine gMv ?_
 refine gM rfl rfl rfl rfl rfl call173 (fun w _ hS => (by exact hnot_c x t w (ha.ex0 hS.ext) hf ht)) ?_
 rintro v w1 w2 Y' hS he ho
 obtain ⟨r1, cr1, spr1, rfl, hr1, hcr1, hS'⟩ := gainN hS he ho
 refine ⟨_, hS', ?_⟩
 refine gM rfl rfl rfl rfl rfl call102 (fun w _ hS => (by exact hknow_c i hi0 ⟨(r1.map (fun b => ⟨b, 0, none⟩)), cr1, bT (ntT t)⟩ (ntT t) w (faAt hS 0 rfl (fun e => (hr1 e).1)) rfl (nt_ok ht))) ?_
 rintro v w1 w2 Y' hS he ho
 obtain ⟨r2, cr2, spr2, rfl, hr2, hcr2, hS'⟩ := gainN hS he ho
 refine ⟨_, hS', ?_⟩
 refine gM rfl rfl rfl rfl rfl call173 (fun w _ hS => (by exact hnot_c ⟨(r2.map (fun b => ⟨b, 0, none⟩)), cr2, bT (kwT i (ntT t))⟩ (kwT i (ntT t)) w (faAt hS 0 rfl (fun e => (hr2 e).1)) rfl (kw_ok hi0 (nt_ok ht)))) ?_
 rintro v w1 w2 Y' hS he ho
 obtain ⟨r3, cr3, spr3, rfl, hr3, hcr3, hS'⟩ := gainN hS he ho
 refine ⟨_, hS', ?_⟩
 refine gAs ?_; refine gE ?_
 refine gT func172 fun w' hS => ?_
 exact ⟨hS.ext, OwnN.mk hS 0 rfl rfl hr3 hcr3⟩
set_option maxRecDepth 8000 in
theorem implT_c (a : Option Addr) (ca : Nat) (f : List NV) (t : Tr) (w : World) (ha : FA w a f) (hf : Cf f t) :
    Cn Tryd.prog 166 [.slice a f.length ca, .func (.func 167) #[] #[]] w (fun v _ => ∃ b, v = .bool b ∧ (b = true ↔ AxT t)) := by
  refine Cn.of func166 rfl rfl ?_
  refine gS (gR ?_); refine gAs ?_; refine gE (gS (gR ?_)); refine gMv ?_
  refine gM rfl rfl rfl rfl rfl call59 (fun w _ hS => (by exact part_c a ca f (some t) w (ha.ex0 hS.ext) hf)) ?_
  rintro v w1 w2 Y' hS he ⟨nd, qa, cA, fa, spa, qb, cb, fb, spb, rfl, hqa, hqb, hnew, hBa, hBb, hop, hi, hg⟩
  refine ⟨_, hS.gainL he hnew, ?_⟩
  refine gMv ?_
  iterate 3 refine gEx ?_
  refine GoH.alc rfl rfl rfl (fun _ => zeroValue80 _) (fun b5 => ?_)
  refine GoH.stB rfl rfl rfl rfl sizeOf80 0 rfl rfl rfl rfl ?_
  iterate 2 refine gAs ?_
  refine gE (gS (gR ?_)); refine gMv ?_
  refine gM rfl rfl rfl rfl rfl call178 (fun w _ hS => (by exact known_c (qa.map (fun b => ⟨b, 0, none⟩)) cA fa (kdA (some t)) w (faAt hS 1 rfl (fun e => (hqa e).1)) hBa)) ?_
  rintro v w1 w2 Y' hS he ⟨qk, ck, fk, spk, rfl, hqk, hnew, hBk⟩
  refine ⟨_, hS.gainL he hnew, ?_⟩
  refine gMv ?_
  iterate 3 refine gEx ?_
  iterate 3 refine gAs ?_
  refine gE (gS (gR ?_))
  iterate 2 refine gMv ?_
  refine gCs 24 (fun hc => ?_) fun hc => ?_
  ·
   have h9 : opP (kdA (some t)) = 9 := by simpa using hc
   obtain ⟨i, G, hA, hi0, hG⟩ := (OkP'.of hf.ok).a.kn h9 (.inl rfl)
   rw [hA] at hBk hBa ⊢
   have hBk' : Cf fk G := hBk
   have hBa' : Cf fa (kwT i G) := hBa
   iterate 5 refine gMv ?_
   refine gM rfl rfl rfl rfl rfl call167 (fun w _ hS => (by exact toT_c i ⟨(qk.map (fun b => ⟨b, 0, none⟩)), ck, fk⟩ w)) ?_
   rintro v w1 w2 Y' hS he rfl
   refine ⟨_, hS.later he, ?_⟩
   refine gM rfl rfl rfl rfl rfl call60 (fun w _ hS => (by exact himp_c ⟨(qa.map (fun b => ⟨b, 0, none⟩)), cA, fa⟩ ⟨(qk.map (fun b => ⟨b, 0, none⟩)), ck, fk⟩ (kwT i G) G w (faAt hS 2 rfl (fun e => (hqa e).1)) hBa'.eq (kw_ok hi0 hG) (faAt hS 0 rfl (fun e => (hqk e).1)) hBk'.eq hG)) ?_
   rintro v w1 w2 Y' hS he ho
   obtain ⟨r4, cr4, spr4, rfl, hr4, hcr4, hS'⟩ := gainN hS he ho
   refine ⟨_, hS', ?_⟩
   refine gP rfl rfl rfl rfl rfl call41 (fun w _ hS => (by exact fsame_c a ca f (r4.map (fun b => ⟨b, 0, none⟩)) cr4 _ w (ha.ex0 hS.ext) (faAt hS 0 rfl (fun e => (hr4 e).1)) (bT_max hf.eq) (bT_max rfl))) ?_
   refine gPt ?_; refine gAs ?_; refine gE ?_
   refine gT func166 fun w' hS => ?_
   exact ⟨hS.ext, _, rfl, by rw [sameB_cf hf (im_ok (kw_ok hi0 hG) hG), decide_eq_true_eq]; exact AxT.iff hA⟩
  ·
   have hno : ¬ opP (kdA (some t)) = 9 := by simpa using hc
   iterate 8 refine gNo ?_
   refine gPf ?_; refine gAs ?_; refine gE ?_
   refine gT func166 fun w' hS => ?_
   exact ⟨hS.ext, false, rfl, fun h => (by cases h), fun h => absurd h.gd hno⟩
theorem axTp_c (a : Option Addr) (ca : Nat) (f : List NV) (t : Tr) (w : World) (ha : FA w a f) (hf : Cf f t) :
  Cn Tryd.prog 165 [.slice a f.length ca] w (fun v _ => ∃ b, v = .bool b ∧ (b = true ↔ AxT t)) := by
 refine Cn.of func165 rfl rfl ?_
 refine gS (gR ?_); refine gAs ?_; refine gE (gS (gR ?_)); refine gMv ?_
 refine gM rfl rfl rfl rfl rfl call166 (fun w _ hS => (by exact implT_c a ca f t w (ha.ex0 hS.ext) hf)) ?_
 rintro v w1 w2 Y' hS he ⟨b, rfl, hb⟩
 refine ⟨_, hS.later he, ?_⟩
 refine gAs ?_; refine gE ?_
 refine gT func165 fun w' hS => ?_
 exact ⟨hS.ext, b, rfl, hb⟩
set_option maxRecDepth 8000 in
theorem impl4_c (a : Option Addr) (ca : Nat) (f : List NV) (t : Tr) (w : World) (ha : FA w a f) (hf : Cf f t) :
    Cn Tryd.prog 166 [.slice a f.length ca, .func (.func 169) #[] #[]] w (fun v _ => ∃ b, v = .bool b ∧ (b = true ↔ Ax4 t)) := by
  refine Cn.of func166 rfl rfl ?_
  refine gS (gR ?_); refine gAs ?_; refine gE (gS (gR ?_)); refine gMv ?_
  refine gM rfl rfl rfl rfl rfl call59 (fun w _ hS => (by exact part_c a ca f (some t) w (ha.ex0 hS.ext) hf)) ?_
  rintro v w1 w2 Y' hS he ⟨nd, qa, cA, fa, spa, qb, cb, fb, spb, rfl, hqa, hqb, hnew, hBa, hBb, hop, hi, hg⟩
  refine ⟨_, hS.gainL he hnew, ?_⟩
  refine gMv ?_
  iterate 3 refine gEx ?_
  refine GoH.alc rfl rfl rfl (fun _ => zeroValue80 _) (fun b5 => ?_)
  refine GoH.stB rfl rfl rfl rfl sizeOf80 0 rfl rfl rfl rfl ?_
  iterate 2 refine gAs ?_
  refine gE (gS (gR ?_)); refine gMv ?_
  refine gM rfl rfl rfl rfl rfl call178 (fun w _ hS => (by exact known_c (qa.map (fun b => ⟨b, 0, none⟩)) cA fa (kdA (some t)) w (faAt hS 1 rfl (fun e => (hqa e).1)) hBa)) ?_
  rintro v w1 w2 Y' hS he ⟨qk, ck, fk, spk, rfl, hqk, hnew, hBk⟩
  refine ⟨_, hS.gainL he hnew, ?_⟩
  refine gMv ?_
  iterate 3 refine gEx ?_
  iterate 3 refine gAs ?_
  refine gE (gS (gR ?_))
  iterate 2 refine gMv ?_
  refine gCs 24 (fun hc => ?_) fun hc => ?_
  ·
   have h9 : opP (kdA (some t)) = 9 := by simpa using hc
   obtain ⟨i, G, hA, hi0, hG⟩ := (OkP'.of hf.ok).a.kn h9 (.inl rfl)
   rw [hA] at hBk hBa ⊢
   have hBk' : Cf fk G := hBk
   have hBa' : Cf fa (kwT i G) := hBa
   iterate 5 refine gMv ?_
   refine gM rfl rfl rfl rfl rfl call169 (fun w _ hS => (by exact to4_c i hi0 ⟨(qk.map (fun b => ⟨b, 0, none⟩)), ck, fk⟩ G w (faAt hS 0 rfl (fun e => (hqk e).1)) hBk'.eq hG)) ?_
   rintro v w1 w2 Y' hS he ho
   obtain ⟨r3, cr3, spr3, rfl, hr3, hcr3, hS'⟩ := gainN hS he ho
   refine ⟨_, hS', ?_⟩
   refine gM rfl rfl rfl rfl rfl call60 (fun w _ hS => (by exact himp_c ⟨(qa.map (fun b => ⟨b, 0, none⟩)), cA, fa⟩ ⟨(r3.map (fun b => ⟨b, 0, none⟩)), cr3, bT (kwT i (kwT i G))⟩ (kwT i G) (kwT i (kwT i G)) w (faAt hS 3 rfl (fun e => (hqa e).1)) hBa'.eq (kw_ok hi0 hG) (faAt hS 0 rfl (fun e => (hr3 e).1)) rfl (kw_ok hi0 (kw_ok hi0 hG)))) ?_
   rintro v w1 w2 Y' hS he ho
   obtain ⟨r4, cr4, spr4, rfl, hr4, hcr4, hS'⟩ := gainN hS he ho
   refine ⟨_, hS', ?_⟩
   refine gP rfl rfl rfl rfl rfl call41 (fun w _ hS => (by exact fsame_c a ca f (r4.map (fun b => ⟨b, 0, none⟩)) cr4 _ w (ha.ex0 hS.ext) (faAt hS 0 rfl (fun e => (hr4 e).1)) (bT_max hf.eq) (bT_max rfl))) ?_
   refine gPt ?_; refine gAs ?_; refine gE ?_
   refine gT func166 fun w' hS => ?_
   exact ⟨hS.ext, _, rfl, by rw [sameB_cf hf (im_ok (kw_ok hi0 hG) (kw_ok hi0 (kw_ok hi0 hG))), decide_eq_true_eq]; exact Ax4.iff hA⟩
  ·
   have hno : ¬ opP (kdA (some t)) = 9 := by simpa using hc
   iterate 8 refine gNo ?_
   refine gPf ?_; refine gAs ?_; refine gE ?_
   refine gT func166 fun w' hS => ?_
   exact ⟨hS.ext, false, rfl, fun h => (by cases h), fun h => absurd h.gd hno⟩
theorem ax4p_c (a : Option Addr) (ca : Nat) (f : List NV) (t : Tr) (w : World) (ha : FA w a f) (hf : Cf f t) :
  Cn Tryd.prog 168 [.slice a f.length ca] w (fun v _ => ∃ b, v = .bool b ∧ (b = true ↔ Ax4 t)) := by
 refine Cn.of func168 rfl rfl ?_
 refine gS (gR ?_); refine gAs ?_; refine gE (gS (gR ?_)); refine gMv ?_
 refine gM rfl rfl rfl rfl rfl call166 (fun w _ hS => (by exact impl4_c a ca f t w (ha.ex0 hS.ext) hf)) ?_
 rintro v w1 w2 Y' hS he ⟨b, rfl, hb⟩
 refine ⟨_, hS.later he, ?_⟩
 refine gAs ?_; refine gE ?_
 refine gT func168 fun w' hS => ?_
 exact ⟨hS.ext, b, rfl, hb⟩
set_option maxRecDepth 8000 in
theorem implD_c (a : Option Addr) (ca : Nat) (f : List NV) (t : Tr) (w : World) (ha : FA w a f) (hf : Cf f t) :
    Cn Tryd.prog 166 [.slice a f.length ca, .func (.func 172) #[] #[]] w (fun v _ => ∃ b, v = .bool b ∧ (b = true ↔ AxD t)) := by
  refine Cn.of func166 rfl rfl ?_
  refine gS (gR ?_); refine gAs ?_; refine gE (gS (gR ?_)); refine gMv ?_
  refine gM rfl rfl rfl rfl rfl call59 (fun w _ hS => (by exact part_c a ca f (some t) w (ha.ex0 hS.ext) hf)) ?_
  rintro v w1 w2 Y' hS he ⟨nd, qa, cA, fa, spa, qb, cb, fb, spb, rfl, hqa, hqb, hnew, hBa, hBb, hop, hi, hg⟩
  refine ⟨_, hS.gainL he hnew, ?_⟩
  refine gMv ?_
  iterate 3 refine gEx ?_
  refine GoH.alc rfl rfl rfl (fun _ => zeroValue80 _) (fun b5 => ?_)
  refine GoH.stB rfl rfl rfl rfl sizeOf80 0 rfl rfl rfl rfl ?_
  iterate 2 refine gAs ?_
  refine gE (gS (gR ?_)); refine gMv ?_
  refine gM rfl rfl rfl rfl rfl call178 (fun w _ hS => (by exact known_c (qa.map (fun b => ⟨b, 0, none⟩)) cA fa (kdA (some t)) w (faAt hS 1 rfl (fun e => (hqa e).1)) hBa)) ?_
  rintro v w1 w2 Y' hS he ⟨qk, ck, fk, spk, rfl, hqk, hnew, hBk⟩
  refine ⟨_, hS.gainL he hnew, ?_⟩
  refine gMv ?_
  iterate 3 refine gEx ?_
  iterate 3 refine gAs ?_
  refine gE (gS (gR ?_))
  iterate 2 refine gMv ?_
  refine gCs 24 (fun hc => ?_) fun hc => ?_
  ·
   have h9 : opP (kdA (some t)) = 9 := by simpa using hc
   obtain ⟨i, G, hA, hi0, hG⟩ := (OkP'.of hf.ok).a.kn h9 (.inl rfl)
   rw [hA] at hBk hBa ⊢
   have hBk' : Cf fk G := hBk
   have hBa' : Cf fa (kwT i G) := hBa
   iterate 5 refine gMv ?_
   refine gM rfl rfl rfl rfl rfl call172 (fun w _ hS => (by exact toD_c i hi0 ⟨(qk.map (fun b => ⟨b, 0, none⟩)), ck, fk⟩ G w (faAt hS 0 rfl (fun e => (hqk e).1)) hBk'.eq hG)) ?_
   rintro v w1 w2 Y' hS he ho
   obtain ⟨r3, cr3, spr3, rfl, hr3, hcr3, hS'⟩ := gainN hS he ho
   refine ⟨_, hS', ?_⟩
   refine gM rfl rfl rfl rfl rfl call60 (fun w _ hS => (by exact himp_c ⟨(qa.map (fun b => ⟨b, 0, none⟩)), cA, fa⟩ ⟨(r3.map (fun b => ⟨b, 0, none⟩)), cr3, bT (ntT (kwT i (ntT G)))⟩ (kwT i G) (ntT (kwT i (ntT G))) w (faAt hS 3 rfl (fun e => (hqa e).1)) hBa'.eq (kw_ok hi0 hG) (faAt hS 0 rfl (fun e => (hr3 e).1)) rfl (nt_ok (kw_ok hi0 (nt_ok hG))))) ?_
   rintro v w1 w2 Y' hS he ho
   obtain ⟨r4, cr4, spr4, rfl, hr4, hcr4, hS'⟩ := gainN hS he ho
   refine ⟨_, hS', ?_⟩
   refine gP rfl rfl rfl rfl rfl call41 (fun w _ hS => (by exact fsame_c a ca f (r4.map (fun b => ⟨b, 0, none⟩)) cr4 _ w (ha.ex0 hS.ext) (faAt hS 0 rfl (fun e => (hr4 e).1)) (bT_max hf.eq) (bT_max rfl))) ?_
   refine gPt ?_; refine gAs ?_; refine gE ?_
   refine gT func166 fun w' hS => ?_
   exact ⟨hS.ext, _, rfl, by rw [sameB_cf hf (im_ok (kw_ok hi0 hG) (nt_ok (kw_ok hi0 (nt_ok hG)))), decide_eq_true_eq]; exact AxD.iff hA⟩
  ·
   have hno : ¬ opP (kdA (some t)) = 9 := by simpa using hc
   iterate 8 refine gNo ?_
   refine gPf ?_; refine gAs ?_; refine gE ?_
   refine gT func166 fun w' hS => ?_
   exact ⟨hS.ext, false, rfl, fun h => (by cases h), fun h => absurd h.gd hno⟩
theorem axDp_c (a : Option Addr) (ca : Nat) (f : List NV) (t : Tr) (w : World) (ha : FA w a f) (hf : Cf f t) :
  Cn Tryd.prog 171 [.slice a f.length ca] w (fun v _ => ∃ b, v = .bool b ∧ (b = true ↔ AxD t)) := by
 refine Cn.of func171 rfl rfl ?_
 refine gS (gR ?_); refine gAs ?_; refine gE (gS (gR ?_)); refine gMv ?_
 refine gM rfl rfl rfl rfl rfl call166 (fun w _ hS => (by exact implD_c a ca f t w (ha.ex0 hS.ext) hf)) ?_
 rintro v w1 w2 Y' hS he ⟨b, rfl, hb⟩
 refine ⟨_, hS.later he, ?_⟩
 refine gAs ?_; refine gE ?_
 refine gT func171 fun w' hS => ?_
 exact ⟨hS.ext, b, rfl, hb⟩
set_option maxRecDepth 8000 in
theorem ax5p_c (a : Option Addr) (ca : Nat) (f : List NV) (t : Tr) (w : World) (ha : FA w a f) (hf : Cf f t) :
    Cn Tryd.prog 170 [.slice a f.length ca] w (fun v _ => ∃ b, v = .bool b ∧ (b = true ↔ Ax5 t)) := by
  refine Cn.of func170 rfl rfl ?_
  refine gS (gR ?_); refine gAs ?_; refine gE (gS (gR ?_)); refine gMv ?_
  refine gM rfl rfl rfl rfl rfl call59 (fun w _ hS => (by exact part_c a ca f (some t) w (ha.ex0 hS.ext) hf)) ?_
  rintro v w1 w2 Y' hS he ⟨nd, qa, cA, fa, spa, qb, cb, fb, spb, rfl, hqa, hqb, hnew, hBa, hBb, hop, hi, hg⟩
  refine ⟨_, hS.gainL he hnew, ?_⟩
  refine gMv ?_
  iterate 3 refine gEx ?_
  refine GoH.alc rfl rfl rfl (fun _ => zeroValue80 _) (fun b3 => ?_)
  refine GoH.stB rfl rfl rfl rfl sizeOf80 0 rfl rfl rfl rfl ?_
  iterate 2 refine gAs ?_
  refine gE (gS (gR ?_)); refine gMv ?_
  refine gM rfl rfl rfl rfl rfl call59 (fun w _ hS => (by exact part_c (qa.map (fun b => ⟨b, 0, none⟩)) cA fa (kdA (some t)) w (faAt hS 1 rfl (fun e => (hqa e).1)) hBa)) ?_
  rintro v w1 w2 Y' hS he ⟨nd2, qa2, cA2, fa2, spa2, qb2, cb2, fb2, spb2, rfl, hqa2, hqb2, hnew, hBa2, hBb2, hop2, hi2, hg2⟩
  refine ⟨_, hS.gainL he hnew, ?_⟩
  refine gMv ?_
  iterate 3 refine gEx ?_
  refine GoH.alc rfl rfl rfl (fun _ => zeroValue80 _) (fun b6 => ?_)
  refine GoH.stB rfl rfl rfl rfl sizeOf80 0 rfl rfl rfl rfl ?_
  iterate 2 refine gAs ?_
  refine gE (gS (gR ?_)); refine gMv ?_
  refine gM rfl rfl rfl rfl rfl call178 (fun w _ hS => (by exact known_c (qa2.map (fun b => ⟨b, 0, none⟩)) cA2 fa2 (kdA (kdA (some t))) w (faAt hS 1 rfl (fun e => (hqa2 e).1)) hBa2)) ?_
  rintro v w1 w2 Y' hS he ⟨qk, ck, fk, spk, rfl, hqk, hnew, hBk⟩
  refine ⟨_, hS.gainL he hnew, ?_⟩
  refine gMv ?_
  iterate 3 refine gEx ?_
  iterate 3 refine gAs ?_
  refine gE (gS (gR ?_))
  iterate 2 refine gMv ?_
  refine gCs 31 (fun hc => ?_) fun hc => ?_
  ·
   have h9 : opP (kdA (kdA (some t))) = 9 := by simpa using hc
   obtain ⟨i, G, hA, hi0, hG⟩ := (OkP'.of hf.ok).a.a.kn h9 (.inl rfl)
   rw [hA] at hBa2 ⊢
   have hBa' : Cf fa2 (kwT i G) := hBa2
   iterate 2 refine gMv ?_
   refine gM rfl rfl rfl rfl rfl call173 (fun w _ hS => (by exact hnot_c ⟨(qa2.map (fun b => ⟨b, 0, none⟩)), cA2, fa2⟩ (kwT i G) w (faAt hS 2 rfl (fun e => (hqa2 e).1)) hBa'.eq (kw_ok hi0 hG))) ?_
   rintro v w1 w2 Y' hS he ho
   obtain ⟨r1, cr1, spr1, rfl, hr1, hcr1, hS'⟩ := gainN hS he ho
   refine ⟨_, hS', ?_⟩
   iterate 2 refine gMv ?_
   refine gM rfl rfl rfl rfl rfl call173 (fun w _ hS => (by exact hnot_c ⟨(qa2.map (fun b => ⟨b, 0, none⟩)), cA2, fa2⟩ (kwT i G) w (faAt hS 3 rfl (fun e => (hqa2 e).1)) hBa'.eq (kw_ok hi0 hG))) ?_
   rintro v w1 w2 Y' hS he ho
   obtain ⟨r2, cr2, spr2, rfl, hr2, hcr2, hS'⟩ := gainN hS he ho
   refine ⟨_, hS', ?_⟩
   refine gM rfl rfl rfl rfl rfl call102 (fun w _ hS => (by exact hknow_c i hi0 ⟨(r2.map (fun b => ⟨b, 0, none⟩)), cr2, bT (ntT (kwT i G))⟩ (ntT (kwT i G)) w (faAt hS 0 rfl (fun e => (hr2 e).1)) rfl (nt_ok (kw_ok hi0 hG)))) ?_
   rintro v w1 w2 Y' hS he ho
   obtain ⟨r3, cr3, spr3, rfl, hr3, hcr3, hS'⟩ := gainN hS he ho
   refine ⟨_, hS', ?_⟩
   refine gM rfl rfl rfl rfl rfl call60 (fun w _ hS => (by exact himp_c ⟨(r1.map (fun b => ⟨b, 0, none⟩)), cr1, bT (ntT (kwT i G))⟩ ⟨(r3.map (fun b => ⟨b, 0, none⟩)), cr3, bT (kwT i (ntT (kwT i G)))⟩ (ntT (kwT i G)) (kwT i (ntT (kwT i G))) w (faAt hS 2 rfl (fun e => (hr1 e).1)) rfl (nt_ok (kw_ok hi0 hG)) (faAt hS 0 rfl (fun e => (hr3 e).1)) rfl (kw_ok hi0 (nt_ok (kw_ok hi0 hG))))) ?_
   rintro v w1 w2 Y' hS he ho
   obtain ⟨r4, cr4, spr4, rfl, hr4, hcr4, hS'⟩ := gainN hS he ho
   refine ⟨_, hS', ?_⟩
   refine gP rfl rfl rfl rfl rfl call41 (fun w _ hS => (by exact fsame_c a ca f (r4.map (fun b => ⟨b, 0, none⟩)) cr4 _ w (ha.ex0 hS.ext) (faAt hS 0 rfl (fun e => (hr4 e).1)) (bT_max hf.eq) (bT_max rfl))) ?_
   refine gPt ?_; refine gAs ?_; refine gE ?_
   refine gT func170 fun w' hS => ?_
   exact ⟨hS.ext, _, rfl, by rw [sameB_cf hf (im_ok (nt_ok (kw_ok hi0 hG)) (kw_ok hi0 (nt_ok (kw_ok hi0 hG)))), decide_eq_true_eq]; exact Ax5.iff hA⟩
  ·
   have hno : ¬ opP (kdA (kdA (some t))) = 9 := by simpa using hc
   iterate 9 refine gNo ?_
   refine gPf ?_; refine gAs ?_; refine gE ?_
   refine gT func170 fun w' hS => ?_
   exact ⟨hS.ext, false, rfl, fun h => (by cases h), fun h => absurd h.gd hno⟩
set_option maxRecDepth 8000 in
theorem axPp_c (a : Option Addr) (ca : Nat) (f : List NV) (t : Tr) (w : World) (ha : FA w a f) (hf : Cf f t) :
    Cn Tryd.prog 174 [.slice a f.length ca] w (fun v _ => ∃ b, v = .bool b ∧ (b = true ↔ AxP t)) := by
  refine Cn.of func174 rfl rfl ?_
  refine gS (gR ?_); refine gAs ?_; refine gE (gS (gR ?_)); refine gMv ?_
  refine gM rfl rfl rfl rfl rfl call59 (fun w _ hS => (by exact part_c a ca f (some t) w (ha.ex0 hS.ext) hf)) ?_
  rintro v w1 w2 Y' hS he ⟨nd, qa, cA, fa, spa, qb, cb, fb, spb, rfl, hqa, hqb, hnew, hBa, hBb, hop, hi, hg⟩
  refine ⟨_, hS.gainL he hnew, ?_⟩
  refine gMv ?_
  iterate 3 refine gEx ?_
  refine GoH.alc rfl rfl rfl (fun _ => zeroValue80 _) (fun b3 => ?_)
  refine GoH.stB rfl rfl rfl rfl sizeOf80 0 rfl rfl rfl rfl ?_
  iterate 2 refine gAs ?_
  refine gE (gS (gR ?_)); refine gMv ?_
  refine gM rfl rfl rfl rfl rfl call59 (fun w _ hS => (by exact part_c (qa.map (fun b => ⟨b, 0, none⟩)) cA fa (kdA (some t)) w (faAt hS 1 rfl (fun e => (hqa e).1)) hBa)) ?_
  rintro v w1 w2 Y' hS he ⟨nd2, qa2, cA2, fa2, spa2, qb2, cb2, fb2, spb2, rfl, hqa2, hqb2, hnew, hBa2, hBb2, hop2, hi2, hg2⟩
  refine ⟨_, hS.gainL he hnew, ?_⟩
  refine gMv ?_
  iterate 3 refine gEx ?_
  refine GoH.alc rfl rfl rfl (fun _ => zeroValue80 _) (fun b6 => ?_)
  refine GoH.stB rfl rfl rfl rfl sizeOf80 0 rfl rfl rfl rfl ?_
  iterate 2 refine gAs ?_
  refine gE (gS ?_)
  refine GoH.drawCh 17 mixed ?_
  refine cV 0 (Vop.fldP rfl rfl rfl rfl underlying80 rfl (by exact sizeOf3) 0 rfl) ?_
  refine cV 1 (Vop.ldo rfl rfl rfl rfl isAgg3 0 rfl rfl) ?_
  refine cV 2 (Vop.bin rfl rfl rfl rfl bEq rfl) ?_
  refine cV 3 (Vop.mv rfl rfl rfl rfl) ?_
  refine RdC.cases (d := 24) rfl (fun hc => ?_) (fun hc => ?_)
  ·
   have h10 : opP (kdA (some t)) = 10 := by rw [← hop2]; simpa using hc
   obtain ⟨i, G, hA, hi0, hG⟩ := (OkP'.of hf.ok).a.kn h10 (.inr rfl)
   obtain rfl : nd2.i = i := by rw [hi2, hA]; rfl
   rw [hA] at hBa hBa2
   have hBa' : Cf fa (poT nd2.i G) := hBa
   have hB2' : Cf fa2 G := hBa2
   have hpo : (poT nd2.i G).ok := hBa'.ok
   refine cV 4 (Vop.mv rfl rfl rfl rfl) ?_
   refine cV 5 (Vop.mv rfl rfl rfl rfl) ?_
   refine cV 6 (Vop.fldP rfl rfl rfl rfl underlying80 rfl (by exact sizeOf3) 1 rfl) ?_
   refine cV 7 (Vop.ldo rfl rfl rfl rfl isAgg3 0 rfl rfl) ?_
   refine cV 8 (Vop.mv rfl rfl rfl rfl) ?_
   refine RdC.call (i := 9) _ rfl rfl rfl rfl rfl rfl (fun _ _ => call173 _ _) (fun w _ hS => (by exact hnot_c ⟨(qa2.map (fun b => ⟨b, 0, none⟩)), cA2, fa2⟩ G w (faAt hS 1 rfl (fun e => (hqa2 e).1)) hB2'.eq hG)) ?_
   rintro v w1 w2 Y' hS he ho
   obtain ⟨r1, cr1, spr1, rfl, hr1, hcr1, hS'⟩ := gainN hS he ho
   refine ⟨_, hS', (by repeat (first | exact List.Sublist.refl _ | refine List.Sublist.cons _ ?_)), ?_⟩
   refine RdC.call (i := 10) _ rfl rfl rfl rfl rfl rfl (fun _ _ => call102 _ _) (fun w _ hS => (by exact hknow_c nd2.i hi0 ⟨(r1.map (fun b => ⟨b, 0, none⟩)), cr1, bT (ntT G)⟩ (ntT G) w (faAt hS 0 rfl (fun e => (hr1 e).1)) rfl (nt_ok hG))) ?_
   rintro v w1 w2 Y' hS he ho
   obtain ⟨r2, cr2, spr2, rfl, hr2, hcr2, hS'⟩ := gainN hS he ho
   refine ⟨_, hS', (by repeat (first | exact List.Sublist.refl _ | refine List.Sublist.cons _ ?_)), ?_⟩
   refine RdC.call (i := 11) _ rfl rfl rfl rfl rfl rfl (fun _ _ => call173 _ _) (fun w _ hS => (by exact hnot_c ⟨(r2.map (fun b => ⟨b, 0, none⟩)), cr2, bT (kwT nd2.i (ntT G))⟩ (kwT nd2.i (ntT G)) w (faAt hS 0 rfl (fun e => (hr2 e).1)) rfl (kw_ok hi0 (nt_ok hG)))) ?_
   rintro v w1 w2 Y' hS he ho
   obtain ⟨r3, cr3, spr3, rfl, hr3, hcr3, hS'⟩ := gainN hS he ho
   refine ⟨_, hS', (by repeat (first | exact List.Sublist.refl _ | refine List.Sublist.cons _ ?_)), ?_⟩
   refine RdC.call (i := 12) _ rfl rfl rfl rfl rfl rfl (fun _ _ => call179 _ _) (fun w _ hS => (by exact hiff_c ⟨(qa.map (fun b => ⟨b, 0, none⟩)), cA, fa⟩ ⟨(r3.map (fun b => ⟨b, 0, none⟩)), cr3, bT (ntT (kwT nd2.i (ntT G)))⟩ (poT nd2.i G) (ntT (kwT nd2.i (ntT G))) w (faAt hS 7 rfl (fun e => (hqa e).1)) hBa'.eq hpo (faAt hS 0 rfl (fun e => (hr3 e).1)) rfl (nt_ok (kw_ok hi0 (nt_ok hG))))) ?_
   rintro v w1 w2 Y' hS he ho
   obtain ⟨r4, cr4, spr4, rfl, hr4, hcr4, hS'⟩ := gainN hS he ho
   refine ⟨_, hS', (by repeat (first | exact List.Sublist.refl _ | refine List.Sublist.cons _ ?_)), ?_⟩
   refine RdC.callP (i := 13) rfl rfl rfl rfl rfl rfl (fun _ _ => call41 _ _) (fun w _ hS => (by exact fsame_c a ca f (r4.map (fun b => ⟨b, 0, none⟩)) cr4 _ w (ha.ex0 hS.ext) (faAt hS 0 rfl (fun e => (hr4 e).1)) (bT_max hf.eq) (bT_max rfl))) (by repeat (first | exact List.Sublist.refl _ | exact List.nil_sublist _ | refine List.Sublist.cons_cons _ ?_ | refine List.Sublist.cons _ ?_)) ?_
   refine cV 14 (Vop.pickT rfl rfl rfl rfl rfl) ?_
   refine cV 15 (Vop.asg rfl rfl rfl rfl) ?_
   refine RdC.done rfl ?_
   refine gE ?_
   refine gT func174 fun w' hS => ?_
   exact ⟨hS.ext, _, rfl, by rw [sameB_cf hf (if_ok hpo (nt_ok (kw_ok hi0 (nt_ok hG)))), decide_eq_true_eq]; exact AxP.iff hA⟩
  ·
   have hno : ¬ opP (kdA (some t)) = 10 := by rw [← hop2]; simpa using hc
   refine cN 4 ?_
   refine cN 5 ?_
   refine cN 6 ?_
   refine cN 7 ?_
   refine cN 8 ?_
   refine cN 9 ?_
   refine cN 10 ?_
   refine cN 11 ?_
   refine cN 12 ?_
   refine cN 13 ?_
   refine cV 14 (Vop.pickF rfl rfl rfl rfl rfl) ?_
   refine cV 15 (Vop.asg rfl rfl rfl rfl) ?_
   refine RdC.done rfl ?_
   refine gE ?_
   refine gT func174 fun w' hS => ?_
   exact ⟨hS.ext, false, rfl, fun h => (by cases h), fun h => absurd h.gd hno⟩
set_option maxRecDepth 8000 in
theorem axCp_c (a : Option Addr) (ca : Nat) (f : List NV) (t : Tr) (w : World) (ha : FA w a f) (hf : Cf f t) :
    Cn Tryd.prog 176 [.slice a f.length ca] w (fun v _ => ∃ b, v = .bool b ∧ (b = true ↔ AxC t)) := by
  refine Cn.of func176 rfl rfl ?_
  refine gS (gR ?_); refine gAs ?_; refine gE (gS (gR ?_)); refine gMv ?_
  refine gM rfl rfl rfl rfl rfl call59 (fun w _ hS => (by exact part_c a ca f (some t) w (ha.ex0 hS.ext) hf)) ?_
  rintro v w1 w2 Y' hS he ⟨nd, qa, cA, fa, spa, qb, cb, fb, spb, rfl, hqa, hqb, hnew, hBa, hBb, hop, hi, hg⟩
  refine ⟨_, hS.gainL he hnew, ?_⟩
  refine gMv ?_
  iterate 3 refine gEx ?_
  refine GoH.alc rfl rfl rfl (fun _ => zeroValue80 _) (fun b3 => ?_)
  refine GoH.stB rfl rfl rfl rfl sizeOf80 0 rfl rfl rfl rfl ?_
  iterate 2 refine gAs ?_
  refine gE (gS (gR ?_)); refine gMv ?_
  refine gM rfl rfl rfl rfl rfl call59 (fun w _ hS => (by exact part_c (qa.map (fun b => ⟨b, 0, none⟩)) cA fa (kdA (some t)) w (faAt hS 1 rfl (fun e => (hqa e).1)) hBa)) ?_
  rintro v w1 w2 Y' hS he ⟨nd2, qa2, cA2, fa2, spa2, qb2, cb2, fb2, spb2, rfl, hqa2, hqb2, hnew, hBa2, hBb2, hop2, hi2, hg2⟩
  refine ⟨_, hS.gainL he hnew, ?_⟩
  refine gMv ?_
  iterate 3 refine gEx ?_
  refine GoH.alc rfl rfl rfl (fun _ => zeroValue80 _) (fun b6 => ?_)
  refine GoH.stB rfl rfl rfl rfl sizeOf80 0 rfl rfl rfl rfl ?_
  iterate 2 refine gAs ?_
  refine gE (gS ?_)
  refine GoH.drawCh 19 mixed ?_
  refine cV 0 (Vop.fldP rfl rfl rfl rfl underlying80 rfl (by exact sizeOf3) 0 rfl) ?_
  refine cV 1 (Vop.ldo rfl rfl rfl rfl isAgg3 0 rfl rfl) ?_
  refine cV 2 (Vop.bin rfl rfl rfl rfl bEq rfl) ?_
  refine cV 3 (Vop.mv rfl rfl rfl rfl) ?_
  refine RdC.cases (d := 24) rfl (fun hc => ?_) (fun hc => ?_)
  ·
   have h13 : opP (kdA (some t)) = 13 := by rw [← hop2]; simpa using hc
   obtain ⟨g, p, q, hA, hg0, hp, hq⟩ := (OkP'.of hf.ok).a.co h13
   obtain rfl : nd2.g = g := by rw [hg2, hA]; rfl
   rw [hA] at hBa hBa2 hBb2
   have hBa' : Cf fa (coT nd2.g p q) := hBa
   have hBp : Cf fa2 p := hBa2
   have hBq : Cf fb2 q := hBb2
   have hco : (coT nd2.g p q).ok := hBa'.ok
   refine cV 4 (Vop.mv rfl rfl rfl rfl) ?_
   refine cV 5 (Vop.mv rfl rfl rfl rfl) ?_
   refine cV 6 (Vop.fldP rfl rfl rfl rfl underlying80 rfl (by exact sizeOf3) 3 rfl) ?_
   refine cV 7 (Vop.ldo rfl rfl rfl rfl isAgg3 0 rfl rfl) ?_
   refine cV 8 (Vop.mv rfl rfl rfl rfl) ?_
   refine cV 9 (Vop.mv rfl rfl rfl rfl) ?_
   refine cV 10 (Vop.mv rfl rfl rfl rfl) ?_
   refine RdC.call (i := 11) _ rfl rfl rfl rfl rfl rfl (fun _ _ => call128 _ _) (fun w _ hS => (by exact hand_c ⟨(qb2.map (fun b => ⟨b, 0, none⟩)), cb2, fb2⟩ ⟨(qa.map (fun b => ⟨b, 0, none⟩)), cA, fa⟩ q (coT nd2.g p q) w (faAt hS 2 rfl (fun e => (hqb2 e).1)) hBq.eq hq (faAt hS 4 rfl (fun e => (hqa e).1)) hBa'.eq hco)) ?_
   rintro v w1 w2 Y' hS he ho
   obtain ⟨r1, cr1, spr1, rfl, hr1, hcr1, hS'⟩ := gainN hS he ho
   refine ⟨_, hS', (by repeat (first | exact List.Sublist.refl _ | refine List.Sublist.cons _ ?_)), ?_⟩
   refine RdC.call (i := 12) _ rfl rfl rfl rfl rfl rfl (fun _ _ => call60 _ _) (fun w _ hS => (by exact himp_c ⟨(qa2.map (fun b => ⟨b, 0, none⟩)), cA2, fa2⟩ ⟨(r1.map (fun b => ⟨b, 0, none⟩)), cr1, bT (adT q (coT nd2.g p q))⟩ p (adT q (coT nd2.g p q)) w (faAt hS 2 rfl (fun e => (hqa2 e).1)) hBp.eq hp (faAt hS 0 rfl (fun e => (hr1 e).1)) rfl (ad_ok hq hco))) ?_
   rintro v w1 w2 Y' hS he ho
   obtain ⟨r2, cr2, spr2, rfl, hr2, hcr2, hS'⟩ := gainN hS he ho
   refine ⟨_, hS', (by repeat (first | exact List.Sublist.refl _ | refine List.Sublist.cons _ ?_)), ?_⟩
   refine RdC.call (i := 13) _ rfl rfl rfl rfl rfl rfl (fun _ _ => call127 _ _) (fun w _ hS => (by exact hevery_c nd2.g hg0 ⟨(r2.map (fun b => ⟨b, 0, none⟩)), cr2, bT (imT p (adT q (coT nd2.g p q)))⟩ (imT p (adT q (coT nd2.g p q))) w (faAt hS 0 rfl (fun e => (hr2 e).1)) rfl (im_ok hp (ad_ok hq hco)))) ?_
   rintro v w1 w2 Y' hS he ho
   obtain ⟨r3, cr3, spr3, rfl, hr3, hcr3, hS'⟩ := gainN hS he ho
   refine ⟨_, hS', (by repeat (first | exact List.Sublist.refl _ | refine List.Sublist.cons _ ?_)), ?_⟩
   refine RdC.call (i := 14) _ rfl rfl rfl rfl rfl rfl (fun _ _ => call179 _ _) (fun w _ hS => (by exact hiff_c ⟨(qa.map (fun b => ⟨b, 0, none⟩)), cA, fa⟩ ⟨(r3.map (fun b => ⟨b, 0, none⟩)), cr3, bT (evT nd2.g (imT p (adT q (coT nd2.g p q))))⟩ (coT nd2.g p q) (evT nd2.g (imT p (adT q (coT nd2.g p q)))) w (faAt hS 7 rfl (fun e => (hqa e).1)) hBa'.eq hco (faAt hS 0 rfl (fun e => (hr3 e).1)) rfl (ev_ok hg0 (im_ok hp (ad_ok hq hco))))) ?_
   rintro v w1 w2 Y' hS he ho
   obtain ⟨r4, cr4, spr4, rfl, hr4, hcr4, hS'⟩ := gainN hS he ho
   refine ⟨_, hS', (by repeat (first | exact List.Sublist.refl _ | refine List.Sublist.cons _ ?_)), ?_⟩
   refine RdC.callP (i := 15) rfl rfl rfl rfl rfl rfl (fun _ _ => call41 _ _) (fun w _ hS => (by exact fsame_c a ca f (r4.map (fun b => ⟨b, 0, none⟩)) cr4 _ w (ha.ex0 hS.ext) (faAt hS 0 rfl (fun e => (hr4 e).1)) (bT_max hf.eq) (bT_max rfl))) (by repeat (first | exact List.Sublist.refl _ | exact List.nil_sublist _ | refine List.Sublist.cons_cons _ ?_ | refine List.Sublist.cons _ ?_)) ?_
   refine cV 16 (Vop.pickT rfl rfl rfl rfl rfl) ?_
   refine cV 17 (Vop.asg rfl rfl rfl rfl) ?_
   refine RdC.done rfl ?_
   refine gE ?_
   refine gT func176 fun w' hS => ?_
   exact ⟨hS.ext, _, rfl, by rw [sameB_cf hf (if_ok hco (ev_ok hg0 (im_ok hp (ad_ok hq hco)))), decide_eq_true_eq]; exact AxC.iff hA⟩
  ·
   have hno : ¬ opP (kdA (some t)) = 13 := by rw [← hop2]; simpa using hc
   refine cN 4 ?_
   refine cN 5 ?_
   refine cN 6 ?_
   refine cN 7 ?_
   refine cN 8 ?_
   refine cN 9 ?_
   refine cN 10 ?_
   refine cN 11 ?_
   refine cN 12 ?_
   refine cN 13 ?_
   refine cN 14 ?_
   refine cN 15 ?_
   refine cV 16 (Vop.pickF rfl rfl rfl rfl rfl) ?_
   refine cV 17 (Vop.asg rfl rfl rfl rfl) ?_
   refine RdC.done rfl ?_
   refine gE ?_
   refine gT func176 fun w' hS => ?_
   exact ⟨hS.ext, false, rfl, fun h => (by cases h), fun h => absurd h.gd hno⟩
end Go.Proofs.YtlihcmknfdckdaaDoor
