/- What calls of the program return, under the conditions that each theorem states. -/
import Derived.Test.YtcljmlnnfdaljaaGreatDoorZ32
import Derived.Test.YtcljmlnnfdaljaaGreatDoorZ33
import Derived.Test.YtcljmlnnfdaljaaGreatDoorZ04
namespace Go.Proofs.YtcljmlnnfdaljaaGreatDoor
open Go.RowKit Go.Proofs.Wit
/-! a maker's formulas -/
abbrev mpt (bk : Nat) : Value := .pointer (some ⟨bk, 0, none⟩)
abbrev mpH (mD : Nat) (L : Mm) : Hl := [(some mD, mobj arr2 FV.v L)]
abbrev GrewN (n : Nat) (val : List W64) (rel : List (List W64)) (d : Nat) (L L' : Mm) (F : Hl) : Prop := Grew 58 n val rel d L L' F
structure MkPre (m : MV) (n mD bk : Nat) (pa : Option Addr) (pc : Nat) (ps : List IV) (w : World) (L : Mm) : Prop where
  has : HasH w (mpH mD L)
  mkr : Mk w mD bk m pa pc ps
  tab : Tab w
  fa : ∀ e ∈ L, FA w e.2.a e.2.f
  memo : Memo n m.val m.rel L
section
variable {m : MV} {n mD bk : Nat} {pa : Option Addr} {pc : Nat} {ps : List IV} {w : World} {L : Mm}
theorem MkPre.blk (h : MkPre m n mD bk pa pc ps w L) : w.heap[mD]? = some (mobj arr2 FV.v L) := (h.has.own _ (List.mem_singleton.2 rfl) mD rfl).1
theorem MkPre.tabD (h : MkPre m n mD bk pa pc ps w L) : gTab ∉ [mD] := fun hm => by
  have e := List.mem_singleton.1 hm
  have h1 := h.tab.2 0 (by decide)
  rw [e] at h1
  unfold World.cell? at h1
  rw [h.blk] at h1
  cases h1
theorem MkPre.tabE {w' : World} (h : MkPre m n mD bk pa pc ps w L) (e : Ex [mD] w w') : Tab w' := h.tab.ex e h.tabD
theorem MkPre.step {w' : World} {h : Hl} {Y : List (Nat × Obj)} {L' : Mm} {F : Hl} {d : Nat} (g : MkPre m n mD bk pa pc ps w L) (s : St w [mD] w' h Y) (hs : (mpH mD L').Sublist h) (hF : F ⊆ h) (gr : GrewN n m.val m.rel d L L' F) : MkPre m n mD bk pa pc ps w' L' :=
  ⟨(s.subH hs).has, g.mkr.ex g.blk s.ext, g.tabE s.ext, fun e he => (gr.fat g.fa e he).at g.blk s.ext s hF, gr.memo⟩
end
def ApPost (n : Nat) (val : List W64) (rel : List (List W64)) (mD v x k : Nat) (L : Mm) (u : Value) (h' : Hl) : Prop :=
  ∃ fv L' F, u = FV.v fv ∧ h' = mpH mD L' ++ F ∧ GrewN n val rel (k + 1) L L' F ∧ (((v : Int), (x : Int)), fv) ∈ L'
def AlPost (n : Nat) (val : List W64) (rel : List (List W64)) (mD x k : Nat) (ys : List Nat) (L : Mm) (u : Value) (h' : Hl) : Prop :=
  ∃ fv L' F, u = FV.v fv ∧ h' = mpH mD L' ++ F ∧ GrewN n val rel (k + 1) L L' F ∧ fv.In 58 F ∧ AllP n val rel x k ys L' fv.f ∧ fv.f.length ≤ 200
def MkPost (n : Nat) (val : List W64) (rel : List (List W64)) (mD v x k : Nat) (L : Mm) (u : Value) (h' : Hl) : Prop :=
  ∃ fv L' F, u = FV.v fv ∧ h' = mpH mD L' ++ F ∧ GrewN n val rel k L L' F ∧ fv.In 58 F ∧ MakeP n val rel v x k L' fv.f ∧ fv.f.length ≤ 200
def ApOk (m : MV) (n mD bk : Nat) (pa : Option Addr) (pc : Nat) (ps : List IV) (k : Nat) : Prop :=
  ∀ (v x : Nat) (w : World) (L : Mm), v < n → x < n → dst n m.val m.rel v x = some k → MkPre m n mD bk pa pc ps w L → CnS Tryz.prog 27 [mpt bk, .int .i64 v, .int .i64 x] w (mpH mD L) (ApPost n m.val m.rel mD v x k L)
def AlOk (m : MV) (n mD bk : Nat) (pa : Option Addr) (pc : Nat) (ps : List IV) (k : Nat) : Prop :=
  ∀ (x : Nat) (la : Option Addr) (lc : Nat) (ys : List Nat) (w : World) (L : Mm), x < n → SlI w la (zI ys) → ys.length ≤ 64 → (∀ y ∈ ys, y < n ∧ ∃ j, j ≤ k ∧ dst n m.val m.rel x y = some j) → MkPre m n mD bk pa pc ps w L → CnS Tryz.prog 36 [mpt bk, .int .i64 x, .slice la (zI ys).length lc] w (mpH mD L) (AlPost n m.val m.rel mD x k ys L)
def MkOk (m : MV) (n mD bk : Nat) (pa : Option Addr) (pc : Nat) (ps : List IV) (k : Nat) : Prop :=
  ∀ (v x : Nat) (w : World) (L : Mm), v < n → x < n → dst n m.val m.rel v x = some k → MkPre m n mD bk pa pc ps w L → CnS Tryz.prog 43 [mpt bk, .int .i64 v, .int .i64 x] w (mpH mD L) (MkPost n m.val m.rel mD v x k L)
theorem infoNs : (Tryz.prog.info? 31).map (fun i => (i.zero, i.size, i.bytes)) = some (some (Value.slice none 0 0), 1, 24) := by kernel_rfl
set_option maxRecDepth 8000 in
theorem all_of {m : MV} {n mD bk : Nat} {pa : Option Addr} {pc : Nat} {ps : List IV} {k : Nat} (hA : ∀ j, j ≤ k → ApOk m n mD bk pa pc ps j) : AlOk m n mD bk pa pc ps k := by
  intro x la lc ys w L hx hl hyl hys hp
  obtain ⟨i1, hi1, hz1, hsz1, hby1⟩ := info_parts infoNs
  have hzl : (zI ys).length = ys.length := by simp
  refine CnS.of hp.has Tryz.func36 rfl rfl ?_
  rw [show blks (mpH mD L) = [mD] from rfl]
  refine gS (gR ?_)
  refine gAs ?_
  refine gE (gS (gR ?_))
  refine gAs ?_
  refine gE (gS (gS (gR ?_)))
  refine gMv ?_
  refine gBl Tryz.underlying49 ?_
  refine gMv ?_
  refine gE (gB ?_)
  refine GoH.addNone (ob FV.v 31 [] []) ?_
  refine GoH.pick (pre' := [(some mD, mobj arr2 FV.v L), (none, ob FV.v 31 [] [])]) [1, 0] (by decide) rfl ?_
  refine GoH.loop (σ := Nat × Option Nat × Nat × List FV × List Value × Mm × Hl) (fun z => [(0, mpt bk), (1, .int .i64 x), (7, osv z.2.1 z.2.2.2.1.length z.2.2.1), (11, .slice la (zI ys).length lc), (12, .int .i64 (zI ys).length), (13, .int .i64 z.1)])
    (fun z => [(some mD, mobj arr2 FV.v z.2.2.2.2.2.1), (z.2.1, ob FV.v 31 z.2.2.2.1 z.2.2.2.2.1)] ++ z.2.2.2.2.2.2)
    (fun z => z.1 ≤ ys.length ∧ z.2.2.2.1.length = z.1 ∧ (z.2.1 = none → z.2.2.2.1.length = 0 ∧ z.2.2.1 = 0) ∧ (z.2.2.2.1.map FV.v ++ z.2.2.2.2.1).length = z.2.2.1 ∧ GrewN n m.val m.rel (k + 1) L z.2.2.2.2.2.1 z.2.2.2.2.2.2 ∧ (∃ ts, TellL n m.val m.rel x k (ys.take z.1) ts ∧ z.2.2.2.1.map FV.f = ts.map bT) ∧ ∀ p ∈ z.2.2.2.1, p.f ≠ [] ∧ ∃ e ∈ z.2.2.2.2.2.1, e.2 = p)
    (fun z => ys.length - z.1) (0, none, 0, [], [], L, []) ⟨Nat.zero_le _, rfl, fun _ => ⟨rfl, rfl⟩, rfl, Grew.refl hp.memo, ⟨[], TellL.nil, rfl⟩, (fun _ h => by cases h)⟩ ⟨rfl, rfl, rfl, rfl, rfl, rfl, trivial⟩ (List.Sublist.refl _) (fun z hI IH => ?_)
  obtain ⟨i, q, cap, parts, sp, L1, F1⟩ := z
  obtain ⟨hik, hpl, hq, hcap, hg, ⟨ts, hts, hpt⟩, hpm⟩ := hI
  dsimp only at hik hpl hq hcap hg hts hpt hpm IH ⊢
  refine gS (gR ?_)
  refine gBi bLt ?_
  refine gE (gS ?_)
  refine GoH.cond rfl (fun hc => ?_) (fun hc => ?_)
  ·
   have hlt : i < (zI ys).length := by simpa using hc
   have hlt2 : i < ys.length := by omega
   obtain ⟨hyn, j, hjk, hd⟩ := hys ys[i] (List.getElem_mem hlt2)
   have hzi : (zI ys)[i] = ((ys[i] : Nat) : Int) := by simp
   refine gK (gS (gB (gS (gR ?_))))
   refine GoH.v (Vop.idx (xs := (zI ys).map I64) rfl rfl rfl rfl rfl Tryz.underlying49 Tryz.sizeOf3 ⟨_, hl⟩ (by simp) i ⟨rfl, by simpa using hlt⟩) ?_
   refine GoH.v (Vop.ld rfl rfl rfl rfl Tryz.isAgg3 (fun w _ hS => (Sl.at (Sl.exM hp.blk hl hS.ext) i hlt))) ?_
   refine gAs ?_
   refine gE (gS (gR ?_))
   iterate 3 refine gMv ?_
   rw [hzi]
   refine GoH.subH (h' := mpH mD L1 ++ ((q, ob FV.v 31 parts sp) :: F1)) (List.Sublist.refl _) ?_
   refine GoH.callS (h := mpH mD L1) (hF := (q, ob FV.v 31 parts sp) :: F1) (fs := []) (cs := []) (fun _ u h' => ApPost n m.val m.rel mD x ys[i] j L1 u h') rfl rfl rfl rfl rfl (fun _ _ => Tryz.call27 _ _) (fun w1 Y' hS => ?_) (fun w1 u h1 hR => ?_)
   · exact hA j hjk x ys[i] w1 L1 hx hyn hd (hp.step hS (List.Sublist.cons_cons _ (List.nil_sublist _)) (fun _ h => List.mem_cons_of_mem _ (List.mem_cons_of_mem _ h)) hg)
   obtain ⟨fv, L2, F2, rfl, rfl, g2, hem⟩ := hR
   have hfo := g2.memo.get hd hem
   have hfl := hfo.le
   have hg2 := hg.seq g2 (by omega : j + 1 ≤ k + 1) (List.subset_append_right F2 F1) (List.subset_append_left F2 F1)
   refine GoH.permH (h' := [(some mD, mobj arr2 FV.v L2), (q, ob FV.v 31 parts sp)] ++ (F2 ++ F1)) perm_mid ?_
   refine gAs ?_
   refine gE (gS (gS (gR ?_)))
   refine gMv ?_
   refine gBl Tryz.underlying31 ?_
   refine gBi bEq ?_
   refine gE ?_
   refine GoH.cond rfl (fun hc => ?_) (fun hc => ?_)
   ·
    have h0 : fv.f = [] := List.eq_nil_of_length_eq_zero (by simpa using hc)
    have h5 : 5 < n := by
      rcases hfo with h | ⟨t, _, _, h⟩
      · exact h.2
      · exact absurd h0 h
    refine gS (gR ?_)
    refine gAs ?_
    refine gE ?_
    refine GoH.ret Tryz.f36 Tryz.func36 rfl (fun w' hS => ?_)
    refine ⟨_, ⟨⟨none, 0, []⟩, L2, (none, obN 58 [] []) :: (q, ob FV.v 31 parts sp) :: (F2 ++ F1), rfl, rfl, hg2.mono (fun _ h => List.mem_cons_of_mem _ (List.mem_cons_of_mem _ h)), ⟨none, [], by simp, rfl, fun _ => ⟨rfl, rfl⟩, rfl⟩, .inl ⟨rfl, h5⟩, by simp⟩, ?_⟩
    exact (hS.none (obN 58 [] [])).swap2
   ·
    have h0 : fv.f ≠ [] := fun e => by rw [e] at hc; simp at hc
    obtain ⟨t, ht, hft, _⟩ : ∃ t, TellT n m.val m.rel x ys[i] j t ∧ fv.f = bT t ∧ fv.f ≠ [] := by
      rcases hfo with h | h
      · exact absurd h.1 h0
      · exact h
    refine gK (gR ?_)
    iterate 2 refine gMv ?_
    refine GoH.bsN (c := [_]) rfl rfl rfl rfl Tryz.underlying77 Tryz.sizeOf31 Tryz.zeroValue31 rfl rfl (fun b26 => ?_)
    refine GoH.appE FV.v (news := [fv]) (spn := []) (xs := parts) (sp := sp) (q := q) rfl rfl rfl rfl rfl Tryz.underlying77 hi1 hz1 hsz1 rfl hq 2 rfl 0 rfl hcap rfl (by decide) (fun _ => rfl) (by simp [maxLen]; omega) (by simp [hby1]; omega) (fun b' sp' cap' hlen => ?_)
    refine gAs ?_
    refine gE (gIb (gR ?_))
    refine GoH.v (Vop.bin rfl rfl rfl rfl (bAdd (by omega)) rfl) ?_
    refine gMv ?_
    refine gE ?_
    refine GoH.pickT (pre := [_, _, _]) (pre' := [_, _]) (F2 ++ F1) [1, 2] (by decide) rfl ?_
    refine IH (i + 1, some b', cap', parts ++ [fv], sp', L2, F2 ++ F1) _ _ ⟨hlt2, by simp [hpl], (fun e => by cases e), hlen, hg2, ⟨ts ++ [t], ?_, by simp [hpt, hft]⟩, fun p hp' => ?_⟩ (by dsimp only; omega) ⟨rfl, rfl, rfl, rfl, rfl, rfl, trivial⟩ (List.Sublist.refl _)
    · rw [List.take_succ_eq_append_getElem hlt2]
      exact hts.snoc hjk hd ht
    · rcases List.mem_append.1 hp' with hp' | hp'
      · obtain ⟨h1, e, h2, h3⟩ := hpm p hp'
        exact ⟨h1, e, g2.sub h2, h3⟩
      · rw [List.mem_singleton.1 hp']
        exact ⟨h0, _, hem, rfl⟩
  ·
   have hge : ¬ i < (zI ys).length := by simpa using hc
   obtain rfl : i = ys.length := by omega
   rw [List.take_length] at hts
   have hfat : ∀ {w' : World} {Y' : List (Nat × Obj)}, St w [mD] w' ([(some mD, mobj arr2 FV.v L1), (q, ob FV.v 31 parts sp)] ++ F1) Y' → ∀ g ∈ parts, FA w' g.a g.f := fun s g hgm => by
     obtain ⟨_, e, h2, rfl⟩ := hpm g hgm
     exact (hg.fat hp.fa e h2).at hp.blk s.ext s (fun _ h => List.mem_cons_of_mem _ (List.mem_cons_of_mem _ h))
   have hfl : ∀ g ∈ parts, g.f.length ≤ maxLen := fun g hgm => by
     obtain ⟨_, e, h2, rfl⟩ := hpm g hgm
     obtain ⟨_, _, _, _, _, _, _, h3⟩ := hg.memo.ent e h2
     have := h3.le
     unfold maxLen; omega
   refine GoH.exit rfl (gS (gR ?_))
   refine gMv ?_
   refine GoH.callM _ rfl rfl rfl rfl rfl (fun _ _ => Tryz.call51 _ _) (fun w _ hS => (by exact allF_c (q.map (fun b => ⟨b, 0, none⟩)) cap parts w ((InS.at (fun e => (hq e).1) (List.mem_cons_of_mem _ (List.mem_cons_self ..))).sl hS) (hfat hS) hfl (by unfold maxLen; omega) (by rw [← hcap]; simp))) ?_
   rintro u w1 w2 Y' hS he ho
   rw [hpt] at ho
   obtain ⟨qf, capf, spf, rfl, hqf, hcapf, hS'⟩ := gainN hS he ho
   refine ⟨_, hS', ?_⟩
   refine gAs ?_
   refine gE ?_
   refine GoH.ret Tryz.f36 Tryz.func36 rfl (fun w' hS => ?_)
   refine ⟨_, ⟨⟨qf.map (fun b => ⟨b, 0, none⟩), capf, bldAll (ts.map bT)⟩, L1, (qf, obN 58 (bldAll (ts.map bT)) spf) :: (q, ob FV.v 31 parts sp) :: F1, rfl, rfl, hg.mono (fun _ h => List.mem_cons_of_mem _ (List.mem_cons_of_mem _ h)), ⟨qf, spf, List.mem_cons_self .., rfl, hqf, hcapf⟩, ?_, all_le hts⟩, hS.swap2⟩
   refine allP_of hts (fun t ht => ?_)
   have : bT t ∈ parts.map FV.f := by rw [hpt]; exact List.mem_map.2 ⟨t, ht, rfl⟩
   obtain ⟨p, hp', e1⟩ := List.mem_map.1 this
   obtain ⟨h1, e, h2, h3⟩ := hpm p hp'
   exact ⟨by rw [← e1]; exact h1, e, h2, by rw [h3, e1]⟩
end Go.Proofs.YtcljmlnnfdaljaaGreatDoor
