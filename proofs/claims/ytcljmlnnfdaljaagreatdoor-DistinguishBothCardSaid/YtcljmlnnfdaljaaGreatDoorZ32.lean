/- What calls of the program return, under the conditions that each theorem states. -/
import Derived.Test.YtcljmlnnfdaljaaGreatDoorZ15
import Derived.Test.YtcljmlnnfdaljaaGreatDoorZ18
import Derived.Test.YtcljmlnnfdaljaaGreatDoorZ30
import Derived.Test.YtcljmlnnfdaljaaGreatDoorZ31
import Derived.Test.YtcljmlnnfdaljaaGreatDoorZ04
namespace Go.Proofs.YtcljmlnnfdaljaaGreatDoor
open Go.RowKit Go.Proofs.Wit
/-! a maker's methods that only read -/
abbrev zI (l : List Nat) : List Int := l.map (fun i : Nat => (i : Int))
theorem members_c21 (s0 : W64) (w : World) (hT : Tab w) : Cn Tryz.prog 63 [U s0] w (fun v w' => OwnS I64 3 w w' v (zI (pts s0))) := by
  obtain ⟨i0, hi, hz, hsz, hby⟩ := info_parts infoI
  have hpl : (pts s0).length ≤ 64 := by
    have := List.length_filter_le (fun i => s0.getLsbD i) (List.range 64)
    simpa [pts] using this
  refine Cn.of Tryz.func63 rfl rfl ?_
  refine gS (gR ?_)
  refine gAs ?_
  refine gE (gS (gR ?_))
  refine gAs ?_
  refine gE (gS (gB ?_))
  refine GoH.addNone (ob I64 3 [] []) ?_
  refine GoH.loop (σ := W64 × List Nat × Option Nat × Nat × List Value) (fun z => [(0, U z.1), (3, osv z.2.2.1 (zI z.2.1).length z.2.2.2.1)]) (fun z => [(z.2.2.1, ob I64 3 (zI z.2.1) z.2.2.2.2)])
    (fun z => z.2.1 ++ pts z.1 = pts s0 ∧ (z.2.2.1 = none → (zI z.2.1).length = 0 ∧ z.2.2.2.1 = 0) ∧ ((zI z.2.1).map I64 ++ z.2.2.2.2).length = z.2.2.2.1) (fun z => z.1.toNat) (s0, [], none, 0, [])
    ⟨rfl, fun _ => ⟨rfl, rfl⟩, rfl⟩ ⟨rfl, rfl, trivial⟩ (List.Sublist.refl _) (fun z hI IH => ?_)
  obtain ⟨s, xs, q, cap, sp⟩ := z
  obtain ⟨hx, hq, hcap⟩ := hI
  dsimp only at hx hq hcap IH ⊢
  refine gS (gS (gR ?_))
  refine gMv ?_
  refine GoH.v (Vop.bin (b := U 0#64) rfl rfl rfl rfl bNeU rfl) ?_
  refine gE ?_
  refine GoH.cond rfl (fun hc => ?_) (fun hc => ?_)
  ·
   have hs : s ≠ 0#64 := by simpa using hc
   have hxl : xs.length ≤ 64 := by rw [← hx] at hpl; simp at hpl; omega
   have hzl : (zI xs).length = xs.length := by simp
   refine gK (gS (gB (gR ?_)))
   iterate 2 refine gMv ?_
   refine GoH.callP rfl rfl rfl rfl rfl (fun _ _ => Tryz.call92 _ _) (fun w _ hS => tz_c s w (hT.ex hS.ext) hs) ?_
   refine GoH.bsN (c := [_]) rfl rfl rfl rfl Tryz.underlying49 Tryz.sizeOf3 Tryz.zeroValue3 rfl rfl (fun b13 => ?_)
   refine GoH.appE I64 (xs := zI xs) (sp := sp) (q := q) (news := [((tz s : Nat) : Int)]) (spn := []) rfl rfl rfl rfl rfl Tryz.underlying49 hi hz hsz rfl hq 1 rfl 0 rfl hcap rfl (by decide) (fun _ => rfl) (by unfold maxLen; omega) (by rw [hby]; omega) (fun b' sp' cap' hlen2 => ?_)
   rw [show zI xs ++ [((tz s : Nat) : Int)] = zI (xs ++ [tz s]) from by simp] at hlen2 ⊢
   refine gAs ?_
   refine gE (gIb (gR ?_))
   iterate 2 refine gMv ?_
   refine GoH.v (Vop.bin (b := U 1#64) rfl rfl rfl rfl bSubU rfl) ?_
   refine gBi bAnd ?_
   refine gAs ?_
   refine gE ?_
   exact IH (s &&& (s - 1#64), xs ++ [tz s], some b', cap', sp') _ _ ⟨by rw [← hx, pts_cons hs]; simp, (fun e => by cases e), hlen2⟩ (and_sub_lt hs) ⟨rfl, rfl, trivial⟩ (.cons _ (List.Sublist.refl _))
  ·
   have hs : s = 0#64 := by simpa using hc
   subst hs
   rw [pts_zero, List.append_nil] at hx
   rw [hx] at hq hcap ⊢
   refine GoH.exit rfl (gS (gR ?_))
   refine gMv ?_
   refine gAs ?_
   refine gE ?_
   refine GoH.ret Tryz.f63 Tryz.func63 rfl (fun w' hS => ?_)
   exact ⟨hS.ext, OwnS.mk hS 0 rfl rfl hq hcap⟩
abbrev Mk (w : World) := MkAt 65 w
theorem pre_row {n : Nat} {val : List W64} {rel : List (List W64)} {ps : List IV} (h : PsIs n val rel ps) {k v : Nat} (hk : k < ps.length) (hv : v < n) : ∃ hl : v < ps[k].xs.length, ps[k].xs[v] = (psq n val rel k).getD v 0 := by
  have e := h.2 k hk
  have hl : v < ps[k].xs.length := by rw [e, psq_len]; exact hv
  refine ⟨hl, ?_⟩
  rw [← e]; simp [List.getD_eq_getElem?_getD, hl]
set_option maxRecDepth 4000 in
theorem mkdepth_c (m : MV) (n : Nat) (mD bk : Nat) (pa : Option Addr) (pc : Nat) (ps : List IV) (v x : Nat) (w : World) (hk : Mk w mD bk m pa pc ps) (hP : PsIs n m.val m.rel ps) (hv : v < n) (hx : x < n) (h64 : n ≤ 64) (hn1 : 1 ≤ n) :
    Cn Tryz.prog 23 [.pointer (some ⟨bk, 0, none⟩), .int .i64 v, .int .i64 x] w (fun u _ => u = .int .i64 (optI (dst n m.val m.rel v x))) := by
  have hpl := hP.1
  have hdl := (dep_spec (val := m.val) (rels := m.rel) hn1 h64).1
  have HB : ∀ {w' : World} {j : Nat} {v : Value}, Ex [] w w' → (mkrCs m mD pa ps.length pc)[j]? = some v → w'.cell? ⟨bk, j, none⟩ = some v := fun e h => Ex.cell e hk.blk h
  refine Cn.of Tryz.func23 rfl rfl ?_
  refine gS (gR ?_)
  refine gAs ?_
  refine gE (gS (gS (gR ?_)))
  refine gMv ?_
  refine gNk ?_
  refine gFp Tryz.underlying65 Tryz.sizeOf63 4 ?_
  refine GoH.v (Vop.ld (p := ⟨bk, 4, none⟩) rfl rfl rfl rfl Tryz.isAgg63 (fun w _ hS => HB hS.ext rfl)) ?_
  refine gBl Tryz.underlying63 ?_
  refine gMv ?_
  refine gE (gB ?_)
  refine GoH.loop (σ := Nat) (fun k => [(0, .pointer (some ⟨bk, 0, none⟩)), (1, .int .i64 v), (2, .int .i64 x), (12, .slice pa ps.length pc), (13, .int .i64 ps.length), (14, .int .i64 k)]) (fun _ => []) (fun k => k ≤ ps.length ∧ ∀ i, i < k → apB n m.val m.rel v x i = false) (fun k => ps.length - k) 0 ⟨Nat.zero_le _, fun i h => absurd h (Nat.not_lt_zero _)⟩ ⟨rfl, rfl, rfl, rfl, rfl, rfl, trivial⟩ .slnil (fun k hI IH => ?_)
  obtain ⟨hkl, hno⟩ := hI
  refine gS (gR ?_)
  refine gBi bLt ?_
  refine gE (gS ?_)
  refine GoH.cond rfl (fun hc => ?_) (fun hc => ?_)
  ·
   have hlt : k < ps.length := by simpa using hc
   obtain ⟨hl1, he1⟩ := pre_row hP hlt hv
   obtain ⟨hl2, he2⟩ := pre_row hP hlt hx
   refine gK (gS (gB (gS (gR ?_))))
   refine gMv ?_
   refine GoH.v (Vop.idx (xs := ps.map IV.v) rfl rfl rfl rfl rfl Tryz.underlying63 Tryz.sizeOf49 ⟨_, hk.pre⟩ (by simp) k ⟨rfl, by simpa using hlt⟩) ?_
   refine GoH.v (Vop.ld rfl rfl rfl rfl Tryz.isAgg49 (fun w _ hS => (Sl.at (Sl.ex0 hk.pre hS.ext) k hlt))) ?_
   iterate 2 refine gAs ?_
   refine gE (gS ?_)
   refine GoH.draw 9 mixed rfl ?_
   iterate 2 refine rMv ?_
   refine RdGo.v (Vop.idx rfl rfl rfl rfl rfl Tryz.underlying49 Tryz.sizeOf3 ⟨_, (hk.row ps[k] (List.getElem_mem hlt))⟩ (by simp) (v) ⟨rfl, by simpa using hl1⟩) ?_
   refine RdGo.v (Vop.ld rfl rfl rfl rfl Tryz.isAgg3 (fun w _ hS => (SlI.ex0 (hk.row ps[k] (List.getElem_mem hlt)) hS.ext).at (v) hl1)) ?_
   iterate 2 refine rMv ?_
   refine RdGo.v (Vop.idx rfl rfl rfl rfl rfl Tryz.underlying49 Tryz.sizeOf3 ⟨_, (hk.row ps[k] (List.getElem_mem hlt))⟩ (by simp) (x) ⟨rfl, by simpa using hl2⟩) ?_
   refine RdGo.v (Vop.ld rfl rfl rfl rfl Tryz.isAgg3 (fun w _ hS => (SlI.ex0 (hk.row ps[k] (List.getElem_mem hlt)) hS.ext).at (x) hl2)) ?_
   refine rBi bNe ?_
   refine RdGo.nil ?_
   refine gE ?_
   refine GoH.cond rfl (fun hc => ?_) (fun hc => ?_)
   ·
    have hap : apB n m.val m.rel v x k = true := by rw [apB, ← he1, ← he2]; exact hc
    refine gS (gR ?_)
    refine gMv ?_
    refine gAs ?_
    refine gE ?_
    refine GoH.ret Tryz.f23 Tryz.func23 rfl (fun w' hS => ?_)
    exact ⟨hS.ext, by rw [show dst n m.val m.rel v x = some k from fst_some.2 ⟨by omega, hap, hno⟩]; rfl⟩
   ·
    have hap : apB n m.val m.rel v x k = false := by rw [apB, ← he1, ← he2]; exact hc
    refine gK (gIb (gR ?_))
    refine GoH.v (Vop.bin rfl rfl rfl rfl (bAdd (by omega)) rfl) ?_
    refine gMv ?_
    refine gE ?_
    exact IH (k + 1) _ _ ⟨hlt, fun i hi => by rcases Nat.lt_succ_iff_lt_or_eq.1 hi with h | rfl; exact hno i h; exact hap⟩ (by omega) ⟨rfl, rfl, rfl, rfl, rfl, rfl, trivial⟩ .slnil
  ·
   have hge : ¬ k < ps.length := by simpa using hc
   obtain rfl : k = ps.length := by omega
   refine GoH.exit rfl (gS (gR ?_))
   refine gAs ?_
   refine gE ?_
   refine GoH.ret Tryz.f23 Tryz.func23 rfl (fun w' hS => ?_)
   exact ⟨hS.ext, by rw [show dst n m.val m.rel v x = none from fst_none.2 (fun i hi => hno i (by omega))]; rfl⟩
def aloneB (n : Nat) (val : List W64) (rel : List (List W64)) (x k : Nat) (ys : List Nat) : Bool := ys.all (fun y => apB n val rel x y k)
set_option maxRecDepth 4000 in
theorem alone_c (m : MV) (n : Nat) (mD bk : Nat) (pa : Option Addr) (pc : Nat) (ps : List IV) (x : Nat) (la : Option Addr) (lc : Nat) (ys : List Nat) (k : Nat) (w : World) (hk : Mk w mD bk m pa pc ps) (hP : PsIs n m.val m.rel ps) (hx : x < n) (hl : SlI w la (zI ys)) (hys : ∀ y ∈ ys, y < n) (hyl : ys.length ≤ maxLen) (hkl : k < ps.length) :
    Cn Tryz.prog 64 [.pointer (some ⟨bk, 0, none⟩), .int .i64 x, .slice la (zI ys).length lc, .int .i64 k] w (fun u _ => u = .bool (aloneB n m.val m.rel x k ys)) := by
  unfold maxLen at hyl
  have hzl : (zI ys).length = ys.length := by simp
  have HB : ∀ {w' : World} {j : Nat} {v : Value}, Ex [] w w' → (mkrCs m mD pa ps.length pc)[j]? = some v → w'.cell? ⟨bk, j, none⟩ = some v := fun e h => Ex.cell e hk.blk h
  obtain ⟨hl1, he1⟩ := pre_row hP hkl hx
  refine Cn.of Tryz.func64 rfl rfl ?_
  refine gS (gR ?_)
  refine gAs ?_
  refine gE (gS (gS (gR ?_)))
  refine gMv ?_
  refine gBl Tryz.underlying49 ?_
  refine gMv ?_
  refine gE (gB ?_)
  refine GoH.loop (σ := Nat) (fun i => [(0, .pointer (some ⟨bk, 0, none⟩)), (1, .int .i64 x), (3, .int .i64 k), (11, .slice la (zI ys).length lc), (12, .int .i64 (zI ys).length), (13, .int .i64 i)]) (fun _ => []) (fun i => i ≤ ys.length ∧ aloneB n m.val m.rel x k (ys.take i) = true) (fun i => ys.length - i) 0 ⟨Nat.zero_le _, rfl⟩ ⟨rfl, rfl, rfl, rfl, rfl, rfl, trivial⟩ .slnil (fun i hI IH => ?_)
  obtain ⟨hil, hall⟩ := hI
  refine gS (gR ?_)
  refine gBi bLt ?_
  refine gE (gS ?_)
  refine GoH.cond rfl (fun hc => ?_) (fun hc => ?_)
  ·
   have hlt : i < (zI ys).length := by simpa using hc
   have hlt2 : i < ys.length := by omega
   obtain ⟨hl2, he2⟩ := pre_row hP hkl (hys ys[i] (List.getElem_mem hlt2))
   have hzi : (zI ys)[i] = ((ys[i] : Nat) : Int) := by simp
   have htk : aloneB n m.val m.rel x k (ys.take (i + 1)) = apB n m.val m.rel x ys[i] k := by
     rw [List.take_succ_eq_append_getElem hlt2]
     unfold aloneB at hall ⊢
     rw [List.all_append, hall]; simp
   refine gK (gS (gB (gS (gR ?_))))
   refine GoH.v (Vop.idx rfl rfl rfl rfl rfl Tryz.underlying49 Tryz.sizeOf3 ⟨_, hl⟩ (by simp) (i) ⟨rfl, by simpa using hlt⟩) ?_
   refine GoH.v (Vop.ld rfl rfl rfl rfl Tryz.isAgg3 (fun w _ hS => (SlI.ex0 hl hS.ext).at (i) hlt)) ?_
   refine gAs ?_
   refine gE (gS ?_)
   refine GoH.draw 21 mixed rfl ?_
   refine rMv ?_
   refine rNk ?_
   refine rFp Tryz.underlying65 Tryz.sizeOf63 4 ?_
   refine RdGo.v (Vop.ld (p := ⟨bk, 4, none⟩) rfl rfl rfl rfl Tryz.isAgg63 (fun w _ hS => HB hS.ext rfl)) ?_
   refine rMv ?_
   refine RdGo.v (Vop.idx (xs := ps.map IV.v) rfl rfl rfl rfl rfl Tryz.underlying63 Tryz.sizeOf49 ⟨_, hk.pre⟩ (by simp) k ⟨rfl, by simpa using hkl⟩) ?_
   refine RdGo.v (Vop.ld rfl rfl rfl rfl Tryz.isAgg49 (fun w _ hS => (Sl.at (Sl.ex0 hk.pre hS.ext) k hkl))) ?_
   refine rMv ?_
   refine RdGo.v (Vop.idx rfl rfl rfl rfl rfl Tryz.underlying49 Tryz.sizeOf3 ⟨_, (hk.row ps[k] (List.getElem_mem hkl))⟩ (by simp) (x) ⟨rfl, by simpa using hl1⟩) ?_
   refine RdGo.v (Vop.ld rfl rfl rfl rfl Tryz.isAgg3 (fun w _ hS => (SlI.ex0 (hk.row ps[k] (List.getElem_mem hkl)) hS.ext).at (x) hl1)) ?_
   refine rMv ?_
   refine rNk ?_
   refine rFp Tryz.underlying65 Tryz.sizeOf63 4 ?_
   refine RdGo.v (Vop.ld (p := ⟨bk, 4, none⟩) rfl rfl rfl rfl Tryz.isAgg63 (fun w _ hS => HB hS.ext rfl)) ?_
   refine rMv ?_
   refine RdGo.v (Vop.idx (xs := ps.map IV.v) rfl rfl rfl rfl rfl Tryz.underlying63 Tryz.sizeOf49 ⟨_, hk.pre⟩ (by simp) k ⟨rfl, by simpa using hkl⟩) ?_
   refine RdGo.v (Vop.ld rfl rfl rfl rfl Tryz.isAgg49 (fun w _ hS => (Sl.at (Sl.ex0 hk.pre hS.ext) k hkl))) ?_
   refine rMv ?_
   refine RdGo.v (Vop.idx rfl rfl rfl rfl rfl Tryz.underlying49 Tryz.sizeOf3 ⟨_, hk.row ps[k] (List.getElem_mem hkl)⟩ (by simp) ys[i] ⟨hzi, by simpa using hl2⟩) ?_
   refine RdGo.v (Vop.ld rfl rfl rfl rfl Tryz.isAgg3 (fun w _ hS => (SlI.at (SlI.ex0 (hk.row ps[k] (List.getElem_mem hkl)) hS.ext) ys[i] hl2))) ?_
   refine rBi bEq ?_
   refine RdGo.nil ?_
   refine gE ?_
   refine GoH.cond rfl (fun hc => ?_) (fun hc => ?_)
   ·
    have hap : apB n m.val m.rel x ys[i] k = false := by rw [apB, ← he1, ← he2]; simpa using hc
    refine gS (gR ?_)
    refine gAs ?_
    refine gE ?_
    refine GoH.ret Tryz.f64 Tryz.func64 rfl (fun w' hS => ?_)
    exact ⟨hS.ext, by
    have : aloneB n m.val m.rel x k ys = false := by
      unfold aloneB
      rw [Bool.eq_false_iff, ne_eq, List.all_eq_true]
      intro h
      rw [h _ (List.getElem_mem hlt2)] at hap; cases hap
    rw [this]; rfl⟩
   ·
    have hap : apB n m.val m.rel x ys[i] k = true := by rw [apB, ← he1, ← he2]; simpa using hc
    refine gK (gIb (gR ?_))
    refine GoH.v (Vop.bin rfl rfl rfl rfl (bAdd (by omega)) rfl) ?_
    refine gMv ?_
    refine gE ?_
    exact IH (i + 1) _ _ ⟨hlt2, by rw [htk]; exact hap⟩ (by omega) ⟨rfl, rfl, rfl, rfl, rfl, rfl, trivial⟩ .slnil
  ·
   have hge : ¬ i < (zI ys).length := by simpa using hc
   obtain rfl : i = ys.length := by omega
   rw [List.take_length] at hall
   refine GoH.exit rfl (gS (gR ?_))
   refine gAs ?_
   refine gE ?_
   refine GoH.ret Tryz.f64 Tryz.func64 rfl (fun w' hS => ?_)
   exact ⟨hS.ext, by rw [hall]; rfl⟩
end Go.Proofs.YtcljmlnnfdaljaaGreatDoor
namespace Go.Proofs.YtcljmlnnfdaljaaGreatDoor
open Go.RowKit Go.Proofs.Wit
/-! a maker's literals, and how it is made -/
set_option maxRecDepth 4000 in
theorem literal_c (m : MV) (n : Nat) (mD bk : Nat) (pa : Option Addr) (pc : Nat) (ps : List IV) (v x : Nat) (w : World) (hk : Mk w mD bk m pa pc ps) (hn : m.n = (n : Int)) (hvM : ValM m.n m.val m.rel) (hv : v < n) (hx : x < n) (hd : dst n m.val m.rel v x = some 0) :
    Cn Tryz.prog 62 [.pointer (some ⟨bk, 0, none⟩), .int .i64 v, .int .i64 x] w (fun u w' => ∃ i y, i < m.val.length ∧ TellT n m.val m.rel v x 0 (litT i y) ∧ OwnN 58 w w' u (bT (litT i y))) := by
  have h64 := hvM.n64
  have hn1 := hvM.n1
  have h8 := hvM.facts
  have hvN : ValM (n : Int) m.val m.rel := by rw [← hn]; exact hvM
  have hval := hk.mod.val
  have HB : ∀ {w' : World} {j : Nat} {v : Value}, Ex [] w w' → (mkrCs m mD pa ps.length pc)[j]? = some v → w'.cell? ⟨bk, j, none⟩ = some v := fun e h => Ex.cell e hk.blk h
  refine Cn.of Tryz.func62 rfl rfl ?_
  refine gS (gR ?_)
  refine gAs ?_
  refine gE (gS (gS (gR ?_)))
  refine gMv ?_
  refine gNk ?_
  refine gFp Tryz.underlying65 Tryz.sizeOf25 0 ?_
  refine gFp Tryz.underlying25 Tryz.sizeOf22 1 ?_
  refine GoH.v (Vop.ld (p := ⟨bk, 1, none⟩) rfl rfl rfl rfl Tryz.isAgg22 (fun w _ hS => HB hS.ext rfl)) ?_
  refine gBl Tryz.underlying22 ?_
  refine gMv ?_
  refine gE (gB ?_)
  refine GoH.loop (σ := Nat) (fun i => [(0, .pointer (some ⟨bk, 0, none⟩)), (1, .int .i64 v), (2, .int .i64 x), (15, .slice m.va m.val.length m.vc), (16, .int .i64 m.val.length), (17, .int .i64 i)]) (fun _ => []) (fun i => i ≤ m.val.length ∧ ∀ j, j < i → (m.val.getD j 0#64).getLsbD v = (m.val.getD j 0#64).getLsbD x) (fun i => m.val.length - i) 0 ⟨Nat.zero_le _, fun _ h => absurd h (Nat.not_lt_zero _)⟩ ⟨rfl, rfl, rfl, rfl, rfl, rfl, trivial⟩ .slnil (fun i hI IH => ?_)
  obtain ⟨hil, hall⟩ := hI
  refine gS (gR ?_)
  refine gBi bLt ?_
  refine gE (gS ?_)
  refine GoH.cond rfl (fun hc => ?_) (fun hc => ?_)
  ·
   have hlt : i < m.val.length := by simpa using hc
   obtain ⟨hb1, hb2⟩ := lit_bld (by omega : i < 8)
   refine gK (gS (gB (gS (gR ?_))))
   refine gMv ?_
   refine GoH.v (Vop.idx rfl rfl rfl rfl rfl Tryz.underlying22 Tryz.sizeOf36 ⟨_, hval⟩ (by simp) (i) ⟨rfl, by simpa using hlt⟩) ?_
   refine GoH.v (Vop.ld rfl rfl rfl rfl Tryz.isAgg36 (fun w _ hS => (SlU.ex0 hval hS.ext).at (i) hlt)) ?_
   iterate 2 refine gAs ?_
   refine gE (gS ?_)
   refine GoH.draw 10 mixed rfl ?_
   iterate 2 refine rMv ?_
   refine RdGo.v (Vop.bin rfl rfl rfl rfl (bShr v rfl) rfl) ?_
   refine RdGo.v (Vop.bin (b := U 1#64) rfl rfl rfl rfl bAnd rfl) ?_
   iterate 2 refine rMv ?_
   refine RdGo.v (Vop.bin rfl rfl rfl rfl (bShr x rfl) rfl) ?_
   refine RdGo.v (Vop.bin (b := U 1#64) rfl rfl rfl rfl bAnd rfl) ?_
   iterate 2 refine rAs ?_
   refine RdGo.nil ?_
   refine gE (gB (gS (gR ?_)))
   iterate 2 refine gMv ?_
   refine GoH.v (Vop.bin rfl rfl rfl rfl (bGtUV rfl) rfl) ?_
   refine gAs ?_
   refine gE ?_
   refine GoH.cond rfl (fun hc => ?_) (fun hc => ?_)
   ·
    obtain ⟨hy, hno⟩ := bit_gt hc
    have hT := lit_told (rel := m.rel) hvN hv hx hlt (by rw [hy, hno]; simp)
    rw [hy] at hT
    refine gS (gR ?_)
    refine gMv ?_
    refine GoH.callM _ rfl rfl rfl rfl rfl (fun _ _ => Tryz.call91 _ _) (fun w _ hS => fact_c i w) ?_
    rintro u w1 w2 Y' hS he ho
    rw [hb1] at ho
    obtain ⟨q, cap, sp, rfl, hq, hcap, hS'⟩ := gainN hS he ho
    refine ⟨_, hS', ?_⟩
    refine gAs ?_
    refine gE ?_
    refine GoH.ret Tryz.f62 Tryz.func62 rfl (fun w' hS => ?_)
    exact ⟨hS.ext, i, true, hlt, hT, OwnN.mk hS 0 rfl rfl hq hcap⟩
   ·
    have hng := hc
    refine gS (gR ?_)
    iterate 2 refine gMv ?_
    refine GoH.v (Vop.bin rfl rfl rfl rfl (bLtUV rfl) rfl) ?_
    refine gAs ?_
    refine gE ?_
    refine GoH.cond rfl (fun hc => ?_) (fun hc => ?_)
    ·
     obtain ⟨hy, hno⟩ := bit_gt hc
     have hT := lit_told (rel := m.rel) hvN hv hx hlt (by rw [hy, hno]; simp)
     rw [hno] at hT
     refine gS (gR ?_)
     refine gMv ?_
     refine GoH.callM _ rfl rfl rfl rfl rfl (fun _ _ => Tryz.call91 _ _) (fun w _ hS => fact_c i w) ?_
     rintro u w1 w2 Y' hS he ho
     obtain ⟨q, cap, sp, rfl, hq, hcap, hS'⟩ := gainN hS he ho
     refine ⟨_, hS', ?_⟩
     refine GoH.callM _ rfl rfl rfl rfl rfl (fun _ _ => Tryz.call66 _ _) (fun w _ hS => (by exact not_c (q.map (fun b => ⟨b, 0, none⟩)) cap _ w (faAt hS 0 rfl (fun e => (hq e).1)) (by have := bldF_le ⟨3, (i : Int), 0, 0, 0, 0⟩ []; unfold maxLen; omega))) ?_
     rintro u w1 w2 Y' hS he ho
     rw [hb2] at ho
     obtain ⟨q2, cap2, sp2, rfl, hq2, hcap2, hS'⟩ := gainN hS he ho
     refine ⟨_, hS', ?_⟩
     refine gAs ?_
     refine gE ?_
     refine GoH.ret Tryz.f62 Tryz.func62 rfl (fun w' hS => ?_)
     exact ⟨hS.ext, i, false, hlt, hT, OwnN.mk hS 0 rfl rfl hq2 hcap2⟩
    ·
     have heq := bit_ng hng hc
     refine gK (gIb (gIb (gR ?_)))
     refine GoH.v (Vop.bin rfl rfl rfl rfl (bAdd (by omega)) rfl) ?_
     refine gMv ?_
     refine gE ?_
     exact IH (i + 1) _ _ ⟨hlt, fun j hj => by rcases Nat.lt_succ_iff_lt_or_eq.1 hj with h | rfl; exact hall j h; exact heq⟩ (by omega) ⟨rfl, rfl, rfl, rfl, rfl, rfl, trivial⟩ .slnil
  ·
   have hge : ¬ i < m.val.length := by simpa using hc
   obtain rfl : i = m.val.length := by omega
   exfalso
   obtain ⟨j, hj, hne⟩ := (dst_zero hv hx (by omega) (by omega)).1 hd
   exact hne (hall j hj)
end Go.Proofs.YtcljmlnnfdaljaaGreatDoor
namespace Go.Proofs.YtcljmlnnfdaljaaGreatDoor
open Go.RowKit Go.Proofs.Wit
/-! how a maker is made -/
theorem infoIs : (Tryz.prog.info? 49).map (fun i => (i.zero, i.size, i.bytes)) = some (some (Value.slice none 0 0), 1, 24) := by kernel_rfl
def MakerIs (w w' : World) (v : Value) (m : MV) (n : Nat) : Prop := ∃ (bk mD : Nat) (qA : Option Nat) (capA : Nat) (ps : List IV) (spA : List Value) (H : Hl), v = .pointer (some ⟨bk, 0, none⟩) ∧
  NewH w w' ([(some bk, Obj.cells (mkrCs m mD (qA.map (fun b => ⟨b, 0, none⟩)) ps.length capA) 65 (0, 0)), (qA, ob IV.v 49 ps spA), (some mD, mobj arr2 FV.v [])] ++ H) ∧
  (qA = none → ps.length = 0) ∧ (∀ p ∈ ps, InS I64 H p.a p.xs) ∧ PsIs n m.val m.rel ps
set_option maxRecDepth 8000 in
theorem newMaker_c (m : MV) (n : Nat) (w : World) (hT : Tab w) (hm : m.At w) (hn : m.n = (n : Int)) (hv : ValM m.n m.val m.rel) : Cn Tryz.prog 22 [m.v] w (fun v w' => MakerIs w w' v m n) := by
  obtain ⟨i1, hi1, hz1, hsz1, hby1⟩ := info_parts infoIs
  have hn1 := hv.n1
  have hn64 := hv.n64
  have hck := checkM_zero.2 hv
  have hdp := (dep_spec (val := m.val) (rels := m.rel) (n := n) (by omega) (by omega)).1
  have hdpt : dpt m.n m.val m.rel = (dep n m.val m.rel : Int) := by rw [dpt, if_neg (by simp [hck]), hn, Int.toNat_natCast]
  refine Cn.of Tryz.func22 rfl rfl ?_
  refine gS (gR ?_)
  refine GoH.bx rfl rfl rfl rfl (fun b1 => ?_)
  refine gAs ?_
  refine gE (gS (gR ?_))
  refine GoH.v (Vop.ldB rfl rfl rfl rfl Tryz.isAgg25 0 rfl Tryz.sizeOf25 rfl) ?_
  refine GoH.mkMap arr2 FV.v rfl rfl rfl (fun b10 => ?_)
  refine GoH.v (Vop.bld rfl rfl rfl rfl (bld (c := [_, _, _, _, _]) Tryz.underlying65 (Szs.cons Tryz.sizeOf25 (Szs.cons Tryz.sizeOf62 (Szs.cons Tryz.sizeOf63 Szs.nil))) Tryz.zeroValue65 rfl)) ?_
  refine GoH.bx rfl rfl rfl rfl (fun b12 => ?_)
  refine gAs ?_
  refine gE (gS (gR ?_))
  refine GoH.v (Vop.ldB rfl rfl rfl rfl Tryz.isAgg25 2 rfl Tryz.sizeOf25 rfl) ?_
  refine GoH.callP rfl rfl rfl rfl rfl (fun _ _ => Tryz.call39 _ _) (fun w _ hS => (by have := depth_c m w (hT.ex hS.ext) (hm.ex0 hS.ext); rw [hdpt, hck] at this; exact this)) ?_
  refine gMv ?_
  iterate 2 refine gEx ?_
  iterate 2 refine gAs ?_
  refine gE (gS (gS (gR ?_)))
  refine gMv ?_
  refine GoH.v (Vop.bin rfl rfl rfl rfl (bAddE (c := ((dep n m.val m.rel + 1 : Nat) : Int)) (by omega) (by omega)) rfl) ?_
  refine gMv ?_
  refine gE (gB ?_)
  refine GoH.addNone (ob IV.v 49 [] []) ?_
  refine GoH.pick (pre' := [(some b12, .cells (mkrCs m b10 none 0 0) 65 (0, 0)), (none, ob IV.v 49 [] []), (some b10, mobj arr2 FV.v []), (some b1, .cells m.v.cells 25 (0, 0))]) [1, 0, 2, 3] (by decide) rfl ?_
  refine GoH.loop (σ := Nat × Option Nat × Nat × List IV × List Value × Hl) (fun z => [(1, .pointer (some ⟨b1, 0, none⟩)), (3, .pointer (some ⟨b12, 0, none⟩)), (19, .int .i64 ((dep n m.val m.rel + 1 : Nat) : Int)), (20, .int .i64 z.1)])
    (fun z => [(some b12, .cells (mkrCs m b10 (z.2.1.map (fun b => ⟨b, 0, none⟩)) z.2.2.2.1.length z.2.2.1) 65 (0, 0)), (z.2.1, ob IV.v 49 z.2.2.2.1 z.2.2.2.2.1), (some b10, mobj arr2 FV.v []), (some b1, .cells m.v.cells 25 (0, 0))] ++ z.2.2.2.2.2)
    (fun z => z.1 ≤ dep n m.val m.rel + 1 ∧ z.2.2.2.1.length = z.1 ∧ (z.2.1 = none → z.2.2.2.1.length = 0 ∧ z.2.2.1 = 0) ∧ (z.2.2.2.1.map IV.v ++ z.2.2.2.2.1).length = z.2.2.1 ∧ (∀ p ∈ z.2.2.2.1, InS I64 z.2.2.2.2.2 p.a p.xs) ∧ ∀ (k : Nat) (h : k < z.2.2.2.1.length), z.2.2.2.1[k].xs = psq n m.val m.rel k)
    (fun z => dep n m.val m.rel + 1 - z.1) (0, none, 0, [], [], []) ⟨Nat.zero_le _, rfl, fun _ => ⟨rfl, rfl⟩, rfl, (fun _ h => by cases h), fun _ h => absurd h (Nat.not_lt_zero _)⟩ ⟨rfl, rfl, rfl, rfl, trivial⟩ (List.Sublist.refl _) (fun z hI IH => ?_)
  obtain ⟨k, q, cap, ps, sp, H⟩ := z
  obtain ⟨hk, hpl, hq, hcap, hps, hpk⟩ := hI
  dsimp only at hk hpl hq hcap hps hpk IH ⊢
  refine gS (gR ?_)
  refine gBi bLt ?_
  refine gE (gS ?_)
  refine GoH.cond rfl (fun hc => ?_) (fun hc => ?_)
  ·
   have hlt : k < dep n m.val m.rel + 1 := by simp at hc; omega
   have hrE : rndsE m.n m.val m.rel (k : Int) = 0 := by rw [rndsE, if_neg (by simp [hck]), if_neg (by omega)]
   have hrd : rnds m.n m.val m.rel (k : Int) = psq n m.val m.rel k := by rw [rnds_ok hrE, hn, Int.toNat_natCast, Int.toNat_natCast, Nat.min_eq_left (by omega)]
   refine gK (gS (gB (gS (gR ?_))))
   refine gMv ?_
   refine gAs ?_
   refine gE (gS (gR ?_))
   refine GoH.v (Vop.ldB rfl rfl rfl rfl Tryz.isAgg25 3 rfl Tryz.sizeOf25 rfl) ?_
   refine gMv ?_
   refine GoH.callM _ rfl rfl rfl rfl rfl (fun _ _ => Tryz.call40 _ _) (fun w _ hS => (by exact roundsX_c m (k : Int) w (hT.ex hS.ext) (hm.ex0 hS.ext))) ?_
   rintro v w1 w2 Y' hS he ⟨sv, rfl, ho⟩
   obtain ⟨q7, cap7, sp7, rfl, hq7, hcap7, hS'⟩ := gainS hS he ho
   refine ⟨_, hS', ?_⟩
   refine gMv ?_
   iterate 2 refine gEx ?_
   iterate 2 refine gAs ?_
   refine gE (gR ?_)
   iterate 2 refine gMv ?_
   refine gNk ?_
   refine gFp Tryz.underlying65 Tryz.sizeOf63 4 ?_
   refine gLo Tryz.isAgg63 1 ?_
   refine gMv ?_
   refine GoH.bsN (c := [_]) rfl rfl rfl rfl Tryz.underlying63 Tryz.sizeOf49 Tryz.zeroValue49 rfl rfl (fun b35 => ?_)
   refine GoH.appE IV.v (news := [⟨q7.map (fun b => ⟨b, 0, none⟩), cap7, rnds m.n m.val m.rel (k : Int)⟩]) (spn := []) (xs := ps) (sp := sp) (q := q) rfl rfl rfl rfl rfl Tryz.underlying63 hi1 hz1 hsz1 rfl hq 3 rfl 0 rfl hcap rfl (by decide) (fun _ => rfl) (by simp [maxLen]; omega) (by simp [hby1]; omega) (fun b' sp' cap' hlen => ?_)
   refine gNk ?_
   refine gFp Tryz.underlying65 Tryz.sizeOf63 4 ?_
   refine GoH.st rfl rfl rfl rfl Tryz.sizeOf63 rfl 2 rfl rfl ?_
   refine gE (gIb (gR ?_))
   refine GoH.v (Vop.bin rfl rfl rfl rfl (bAdd (by omega)) rfl) ?_
   refine gMv ?_
   refine gE ?_
   refine GoH.pickT (pre := [_, _, _, _, _, _]) (pre' := [_, _, _, _, _]) H [2, 3, 4, 5, 1] (by decide) rfl ?_
   exact IH (k + 1, some b', cap', ps ++ [⟨q7.map (fun b => ⟨b, 0, none⟩), cap7, rnds m.n m.val m.rel (k : Int)⟩], sp', (q7, ob I64 3 (rnds m.n m.val m.rel (k : Int)) sp7) :: H) _ _ ⟨by dsimp only; omega, by simp [hpl], (fun e => by cases e), hlen, fun p hp => by
     rcases List.mem_append.1 hp with hp | hp
     · exact (hps p hp).mono (List.subset_cons_self _ _)
     · obtain rfl := List.mem_singleton.1 hp
       exact InS.at (fun e => (hq7 e).1) (List.mem_cons_self ..), fun j hj => by
     by_cases hj2 : j < ps.length
     · rw [List.getElem_append_left hj2]; exact hpk j hj2
     · have e : j = ps.length := by simp at hj; omega
       subst e
       simp only [List.getElem_append_right (Nat.le_refl _), Nat.sub_self, List.getElem_cons_zero]
       rw [hrd, hpl]⟩ (by dsimp only; omega) ⟨rfl, rfl, rfl, rfl, trivial⟩ (List.Sublist.refl _)
  ·
   have hge : ¬ k < dep n m.val m.rel + 1 := by simp at hc; omega
   obtain rfl : k = dep n m.val m.rel + 1 := by omega
   refine GoH.exit rfl (gS (gR ?_))
   refine gMv ?_
   refine gAs ?_
   refine gE ?_
   refine GoH.ret Tryz.f22 Tryz.func22 rfl (fun w' hS => ?_)
   refine ⟨hS.ext, b12, b10, q, cap, ps, sp, H, rfl, ?_, fun e => (hq e).1, hps, hpl, hpk⟩
   exact (NewH.of hS).sub (.cons_cons _ (.cons_cons _ (.cons_cons _ (.cons _ (List.Sublist.refl _)))))
end Go.Proofs.YtcljmlnnfdaljaaGreatDoor
