/- What calls of the program return, under the conditions that each theorem states. -/
import Derived.Test.YthojdcaojjmoaaaGreatDoorB35
import Derived.Test.YthojdcaojjmoaaaGreatDoorB28
import Derived.Test.YthojdcaojjmoaaaGreatDoorB04
import Derived.Test.YthojdcaojjmoaaaGreatDoorB34
import Derived.Test.YthojdcaojjmoaaaGreatDoorB27
namespace Go.Proofs.YthojdcaojjmoaaaGreatDoor
open Go.RowKit Go.Proofs.Wit
/-! a maker's formulas -/
abbrev mpt (bk : Nat) : Value := .pointer (some ⟨bk, 0, none⟩)
abbrev mpH (mD : Nat) (L : Mm) : Hl := [(some mD, mobj arr2 FV.v L)]
abbrev GrewN (n : Nat) (val : List W64) (rel : List (List W64)) (d : Nat) (L L' : Mm) (F : Hl) : Prop := Grew 54 n val rel d L L' F
structure MkPre (m : MV) (n mD bk : Nat) (pa : Option Addr) (pc : Nat) (ps : List IV) (w : World) (L : Mm) : Prop where
  has : HasH w (mpH mD L)
  mkr : Mk w mD bk m pa pc ps
  tab : Tab w
  fa : ∀ e ∈ L, FA w e.2.a e.2.f
  memo : Memo n m.val m.rel L
section
variable {m : MV} {n mD bk : Nat} {pa : Option Addr} {pc : Nat} {ps : List IV} {w : World} {L : Mm}
theorem MkPre.blk (h : MkPre m n mD bk pa pc ps w L) : w.heap[mD]? = some (mobj arr2 FV.v L) := (h.has.own _ (List.mem_singleton.2 rfl) mD rfl).1
theorem MkPre.tabD (h : MkPre m n mD bk pa pc ps w L) : gTab ∉ [mD] := fun hm => by
  have e := List.mem_singleton.1 hm
  have h1 := h.tab.2 0 (by decide)
  rw [e] at h1
  unfold World.cell? at h1
  rw [h.blk] at h1
  cases h1
theorem MkPre.tabE {w' : World} (h : MkPre m n mD bk pa pc ps w L) (e : Ex [mD] w w') : Tab w' := h.tab.ex e h.tabD
theorem MkPre.step {w' : World} {h : Hl} {Y : List (Nat × Obj)} {L' : Mm} {F : Hl} {d : Nat} (g : MkPre m n mD bk pa pc ps w L) (s : St w [mD] w' h Y) (hs : (mpH mD L').Sublist h) (hF : F ⊆ h) (gr : GrewN n m.val m.rel d L L' F) : MkPre m n mD bk pa pc ps w' L' :=
  ⟨(s.subH hs).has, g.mkr.ex g.blk s.ext, g.tabE s.ext, fun e he => (gr.fat g.fa e he).at g.blk s.ext s hF, gr.memo⟩
end
def ApPost (n : Nat) (val : List W64) (rel : List (List W64)) (mD v x k : Nat) (L : Mm) (u : Value) (h' : Hl) : Prop :=
  ∃ fv L' F, u = FV.v fv ∧ h' = mpH mD L' ++ F ∧ GrewN n val rel (k + 1) L L' F ∧ (((v : Int), (x : Int)), fv) ∈ L'
def AlPost (n : Nat) (val : List W64) (rel : List (List W64)) (mD x k : Nat) (ys : List Nat) (L : Mm) (u : Value) (h' : Hl) : Prop :=
  ∃ fv L' F, u = FV.v fv ∧ h' = mpH mD L' ++ F ∧ GrewN n val rel (k + 1) L L' F ∧ fv.In 54 F ∧ AllP n val rel x k ys L' fv.f ∧ fv.f.length ≤ 200
def MkPost (n : Nat) (val : List W64) (rel : List (List W64)) (mD v x k : Nat) (L : Mm) (u : Value) (h' : Hl) : Prop :=
  ∃ fv L' F, u = FV.v fv ∧ h' = mpH mD L' ++ F ∧ GrewN n val rel k L L' F ∧ fv.In 54 F ∧ MakeP n val rel v x k L' fv.f ∧ fv.f.length ≤ 200
def ApOk (m : MV) (n mD bk : Nat) (pa : Option Addr) (pc : Nat) (ps : List IV) (k : Nat) : Prop :=
  ∀ (v x : Nat) (w : World) (L : Mm), v < n → x < n → dst n m.val m.rel v x = some k → MkPre m n mD bk pa pc ps w L → CnS Tryz.prog 33 [mpt bk, .int .i64 v, .int .i64 x] w (mpH mD L) (ApPost n m.val m.rel mD v x k L)
def AlOk (m : MV) (n mD bk : Nat) (pa : Option Addr) (pc : Nat) (ps : List IV) (k : Nat) : Prop :=
  ∀ (x : Nat) (la : Option Addr) (lc : Nat) (ys : List Nat) (w : World) (L : Mm), x < n → SlI w la (zI ys) → ys.length ≤ 64 → (∀ y ∈ ys, y < n ∧ ∃ j, j ≤ k ∧ dst n m.val m.rel x y = some j) → MkPre m n mD bk pa pc ps w L → CnS Tryz.prog 79 [mpt bk, .int .i64 x, .slice la (zI ys).length lc] w (mpH mD L) (AlPost n m.val m.rel mD x k ys L)
def MkOk (m : MV) (n mD bk : Nat) (pa : Option Addr) (pc : Nat) (ps : List IV) (k : Nat) : Prop :=
  ∀ (v x : Nat) (w : World) (L : Mm), v < n → x < n → dst n m.val m.rel v x = some k → MkPre m n mD bk pa pc ps w L → CnS Tryz.prog 53 [mpt bk, .int .i64 v, .int .i64 x] w (mpH mD L) (MkPost n m.val m.rel mD v x k L)
theorem infoNs : (Tryz.prog.info? 26).map (fun i => (i.zero, i.size, i.bytes)) = some (some (Value.slice none 0 0), 1, 24) := by kernel_rfl
set_option maxRecDepth 8000 in
theorem all_of {m : MV} {n mD bk : Nat} {pa : Option Addr} {pc : Nat} {ps : List IV} {k : Nat} (hA : ∀ j, j ≤ k → ApOk m n mD bk pa pc ps j) : AlOk m n mD bk pa pc ps k := by
  intro x la lc ys w L hx hl hyl hys hp
  obtain ⟨i1, hi1, hz1, hsz1, hby1⟩ := info_parts infoNs
  have hzl : (zI ys).length = ys.length := by simp
  refine CnS.of hp.has Tryz.func79 rfl rfl ?_
  rw [show blks (mpH mD L) = [mD] from rfl]
  refine gS (gR ?_)
  refine gAs ?_
  refine gE (gS (gR ?_))
  refine gAs ?_
  refine gE (gS (gS (gR ?_)))
  refine gMv ?_
  refine gBl Tryz.underlying36 ?_
  refine gMv ?_
  refine gE (gB ?_)
  refine GoH.addNone (ob FV.v 26 [] []) ?_
  refine GoH.pick (pre' := [(some mD, mobj arr2 FV.v L), (none, ob FV.v 26 [] [])]) [1, 0] (by decide) rfl ?_
  refine GoH.loop (σ := Nat × Option Nat × Nat × List FV × List Value × Mm × Hl) (fun z => [(0, mpt bk), (1, .int .i64 x), (7, osv z.2.1 z.2.2.2.1.length z.2.2.1), (11, .slice la (zI ys).length lc), (12, .int .i64 (zI ys).length), (13, .int .i64 z.1)])
    (fun z => [(some mD, mobj arr2 FV.v z.2.2.2.2.2.1), (z.2.1, ob FV.v 26 z.2.2.2.1 z.2.2.2.2.1)] ++ z.2.2.2.2.2.2)
    (fun z => z.1 ≤ ys.length ∧ z.2.2.2.1.length = z.1 ∧ (z.2.1 = none → z.2.2.2.1.length = 0 ∧ z.2.2.1 = 0) ∧ (z.2.2.2.1.map FV.v ++ z.2.2.2.2.1).length = z.2.2.1 ∧ GrewN n m.val m.rel (k + 1) L z.2.2.2.2.2.1 z.2.2.2.2.2.2 ∧ (∃ ts, TellL n m.val m.rel x k (ys.take z.1) ts ∧ z.2.2.2.1.map FV.f = ts.map bT) ∧ ∀ p ∈ z.2.2.2.1, p.f ≠ [] ∧ ∃ e ∈ z.2.2.2.2.2.1, e.2 = p)
    (fun z => ys.length - z.1) (0, none, 0, [], [], L, []) ⟨Nat.zero_le _, rfl, fun _ => ⟨rfl, rfl⟩, rfl, Grew.refl hp.memo, ⟨[], TellL.nil, rfl⟩, (fun _ h => by cases h)⟩ ⟨rfl, rfl, rfl, rfl, rfl, rfl, trivial⟩ (List.Sublist.refl _) (fun z hI IH => ?_)
  obtain ⟨i, q, cap, parts, sp, L1, F1⟩ := z
  obtain ⟨hik, hpl, hq, hcap, hg, ⟨ts, hts, hpt⟩, hpm⟩ := hI
  dsimp only at hik hpl hq hcap hg hts hpt hpm IH ⊢
  refine gS (gR ?_)
  refine gBi bLt ?_
  refine gE (gS ?_)
  refine GoH.cond rfl (fun hc => ?_) (fun hc => ?_)
  ·
   have hlt : i < (zI ys).length := by simpa using hc
   have hlt2 : i < ys.length := by omega
   obtain ⟨hyn, j, hjk, hd⟩ := hys ys[i] (List.getElem_mem hlt2)
   have hzi : (zI ys)[i] = ((ys[i] : Nat) : Int) := by simp
   refine gK (gS (gB (gS (gR ?_))))
   refine GoH.v (Vop.idx (xs := (zI ys).map I64) rfl rfl rfl rfl rfl Tryz.underlying36 Tryz.sizeOf3 ⟨_, hl⟩ (by simp) i ⟨rfl, by simpa using hlt⟩) ?_
   refine GoH.v (Vop.ld rfl rfl rfl rfl Tryz.isAgg3 (fun w _ hS => (Sl.at (Sl.exM hp.blk hl hS.ext) i hlt))) ?_
   refine gAs ?_
   refine gE (gS (gR ?_))
   iterate 3 refine gMv ?_
   rw [hzi]
   refine GoH.subH (h' := mpH mD L1 ++ ((q, ob FV.v 26 parts sp) :: F1)) (List.Sublist.refl _) ?_
   refine GoH.callS (h := mpH mD L1) (hF := (q, ob FV.v 26 parts sp) :: F1) (fs := []) (cs := []) (fun _ u h' => ApPost n m.val m.rel mD x ys[i] j L1 u h') rfl rfl rfl rfl rfl (fun _ _ => Tryz.call33 _ _) (fun w1 Y' hS => ?_) (fun w1 u h1 hR => ?_)
   · exact hA j hjk x ys[i] w1 L1 hx hyn hd (hp.step hS (List.Sublist.cons_cons _ (List.nil_sublist _)) (fun _ h => List.mem_cons_of_mem _ (List.mem_cons_of_mem _ h)) hg)
   obtain ⟨fv, L2, F2, rfl, rfl, g2, hem⟩ := hR
   have hfo := g2.memo.get hd hem
   have hfl := hfo.le
   have hg2 := hg.seq g2 (by omega : j + 1 ≤ k + 1) (List.subset_append_right F2 F1) (List.subset_append_left F2 F1)
   refine GoH.permH (h' := [(some mD, mobj arr2 FV.v L2), (q, ob FV.v 26 parts sp)] ++ (F2 ++ F1)) perm_mid ?_
   refine gAs ?_
   refine gE (gS (gS (gR ?_)))
   refine gMv ?_
   refine gBl Tryz.underlying26 ?_
   refine gBi bEq ?_
   refine gE ?_
   refine GoH.cond rfl (fun hc => ?_) (fun hc => ?_)
   ·
    have h0 : fv.f = [] := List.eq_nil_of_length_eq_zero (by simpa using hc)
    have h5 : 5 < n := by
      rcases hfo with h | ⟨t, _, _, h⟩
      · exact h.2
      · exact absurd h0 h
    refine gS (gR ?_)
    refine gAs ?_
    refine gE ?_
    refine GoH.ret Tryz.f79 Tryz.func79 rfl (fun w' hS => ?_)
    refine ⟨_, ⟨⟨none, 0, []⟩, L2, (none, obN 54 [] []) :: (q, ob FV.v 26 parts sp) :: (F2 ++ F1), rfl, rfl, hg2.mono (fun _ h => List.mem_cons_of_mem _ (List.mem_cons_of_mem _ h)), ⟨none, [], by simp, rfl, fun _ => ⟨rfl, rfl⟩, rfl⟩, .inl ⟨rfl, h5⟩, by simp⟩, ?_⟩
    exact (hS.none (obN 54 [] [])).swap2
   ·
    have h0 : fv.f ≠ [] := fun e => by rw [e] at hc; simp at hc
    obtain ⟨t, ht, hft, _⟩ : ∃ t, TellT n m.val m.rel x ys[i] j t ∧ fv.f = bT t ∧ fv.f ≠ [] := by
      rcases hfo with h | h
      · exact absurd h.1 h0
      · exact h
    refine gK (gR ?_)
    iterate 2 refine gMv ?_
    refine GoH.bsN (c := [_]) rfl rfl rfl rfl Tryz.underlying138 Tryz.sizeOf26 Tryz.zeroValue26 rfl rfl (fun b26 => ?_)
    refine GoH.appE FV.v (news := [fv]) (spn := []) (xs := parts) (sp := sp) (q := q) rfl rfl rfl rfl rfl Tryz.underlying138 hi1 hz1 hsz1 rfl hq 2 rfl 0 rfl hcap rfl (by decide) (fun _ => rfl) (by simp [maxLen]; omega) (by simp [hby1]; omega) (fun b' sp' cap' hlen => ?_)
    refine gAs ?_
    refine gE (gIb (gR ?_))
    refine GoH.v (Vop.bin rfl rfl rfl rfl (bAdd (by omega)) rfl) ?_
    refine gMv ?_
    refine gE ?_
    refine GoH.pickT (pre := [_, _, _]) (pre' := [_, _]) (F2 ++ F1) [1, 2] (by decide) rfl ?_
    refine IH (i + 1, some b', cap', parts ++ [fv], sp', L2, F2 ++ F1) _ _ ⟨hlt2, by simp [hpl], (fun e => by cases e), hlen, hg2, ⟨ts ++ [t], ?_, by simp [hpt, hft]⟩, fun p hp' => ?_⟩ (by dsimp only; omega) ⟨rfl, rfl, rfl, rfl, rfl, rfl, trivial⟩ (List.Sublist.refl _)
    · rw [List.take_succ_eq_append_getElem hlt2]
      exact hts.snoc hjk hd ht
    · rcases List.mem_append.1 hp' with hp' | hp'
      · obtain ⟨h1, e, h2, h3⟩ := hpm p hp'
        exact ⟨h1, e, g2.sub h2, h3⟩
      · rw [List.mem_singleton.1 hp']
        exact ⟨h0, _, hem, rfl⟩
  ·
   have hge : ¬ i < (zI ys).length := by simpa using hc
   obtain rfl : i = ys.length := by omega
   rw [List.take_length] at hts
   have hfat : ∀ {w' : World} {Y' : List (Nat × Obj)}, St w [mD] w' ([(some mD, mobj arr2 FV.v L1), (q, ob FV.v 26 parts sp)] ++ F1) Y' → ∀ g ∈ parts, FA w' g.a g.f := fun s g hgm => by
     obtain ⟨_, e, h2, rfl⟩ := hpm g hgm
     exact (hg.fat hp.fa e h2).at hp.blk s.ext s (fun _ h => List.mem_cons_of_mem _ (List.mem_cons_of_mem _ h))
   have hfl : ∀ g ∈ parts, g.f.length ≤ maxLen := fun g hgm => by
     obtain ⟨_, e, h2, rfl⟩ := hpm g hgm
     obtain ⟨_, _, _, _, _, _, _, h3⟩ := hg.memo.ent e h2
     have := h3.le
     unfold maxLen; omega
   refine GoH.exit rfl (gS (gR ?_))
   refine gMv ?_
   refine GoH.callM _ rfl rfl rfl rfl rfl (fun _ _ => Tryz.call103 _ _) (fun w _ hS => (by exact allF_c (q.map (fun b => ⟨b, 0, none⟩)) cap parts w ((InS.at (fun e => (hq e).1) (List.mem_cons_of_mem _ (List.mem_cons_self ..))).sl hS) (hfat hS) hfl (by unfold maxLen; omega) (by rw [← hcap]; simp))) ?_
   rintro u w1 w2 Y' hS he ho
   rw [hpt] at ho
   obtain ⟨qf, capf, spf, rfl, hqf, hcapf, hS'⟩ := gainN hS he ho
   refine ⟨_, hS', ?_⟩
   refine gAs ?_
   refine gE ?_
   refine GoH.ret Tryz.f79 Tryz.func79 rfl (fun w' hS => ?_)
   refine ⟨_, ⟨⟨qf.map (fun b => ⟨b, 0, none⟩), capf, bldAll (ts.map bT)⟩, L1, (qf, obN 54 (bldAll (ts.map bT)) spf) :: (q, ob FV.v 26 parts sp) :: F1, rfl, rfl, hg.mono (fun _ h => List.mem_cons_of_mem _ (List.mem_cons_of_mem _ h)), ⟨qf, spf, List.mem_cons_self .., rfl, hqf, hcapf⟩, ?_, all_le hts⟩, hS.swap2⟩
   refine allP_of hts (fun t ht => ?_)
   have : bT t ∈ parts.map FV.f := by rw [hpt]; exact List.mem_map.2 ⟨t, ht, rfl⟩
   obtain ⟨p, hp', e1⟩ := List.mem_map.1 this
   obtain ⟨h1, e, h2, h3⟩ := hpm p hp'
   exact ⟨by rw [← e1]; exact h1, e, h2, by rw [h3, e1]⟩
end Go.Proofs.YthojdcaojjmoaaaGreatDoor
namespace Go.Proofs.YthojdcaojjmoaaaGreatDoor
open Go.RowKit Go.Proofs.Wit
/-! a maker's formula for a pair -/
theorem alone_iff {n : Nat} {val : List W64} {rel : List (List W64)} {x k : Nat} {ys : List Nat} : aloneB n val rel x k ys = true ↔ ∀ y ∈ ys, ¬ PEq (psq n val rel k) x y := by
  unfold aloneB
  rw [List.all_eq_true]
  refine forall_congr' fun y => forall_congr' fun _ => ?_
  rw [← Bool.not_eq_false, apB_false]
theorem alone_dst {n : Nat} {val : List W64} {rel : List (List W64)} (hn : 1 ≤ n) (h64 : n ≤ 64) {x k : Nat} {ys : List Nat} (h : aloneB n val rel x k ys = true) (hl : ∀ y ∈ ys, y < n) : ∀ y ∈ ys, y < n ∧ ∃ j, j ≤ k ∧ dst n val rel x y = some j := fun y hy => by
  obtain ⟨j, h1, h2⟩ := dst_le (rel := rel) hn h64 (alone_iff.1 h y hy)
  exact ⟨hl y hy, j, h2, h1⟩
theorem pts_le {s : W64} {n : Nat} (h : ∀ i, s.getLsbD i = true → i < n) : (pts s).length ≤ n := by
  have := (pts_nodup s).length_le_of_subset (l₂ := List.range n) (fun i hi => List.mem_range.2 (h i (mem_pts.1 hi).2))
  simpa using this
/-- no pair of successors is apart a round before -/
def NoP (n : Nat) (val : List W64) (rel : List (List W64)) (k v x b : Nat) : Prop :=
  (∀ u ∈ pts ((rel.getD b []).getD v 0#64), aloneB n val rel u k (pts ((rel.getD b []).getD x 0#64)) = false) ∧ ∀ u ∈ pts ((rel.getD b []).getD x 0#64), aloneB n val rel u k (pts ((rel.getD b []).getD v 0#64)) = false
theorem noP_end {n : Nat} {val : List W64} {rel : List (List W64)} {v x k : Nat} (hv : v < n) (hx : x < n) (hn : 1 ≤ n) (h64 : n ≤ 64) (hlt : ∀ r ∈ rel, ∀ a b, Rl r a b → b < n) (h : dst n val rel v x = some (k + 1)) (hno : ∀ b, b < rel.length → NoP n val rel k v x b) : False := by
  obtain ⟨a, ha, h1⟩ := dst_succ hv hx hn h64 hlt h
  have hm : rel.getD a [] ∈ rel := by rw [List.getD_eq_getElem?_getD, List.getElem?_eq_getElem ha]; exact List.getElem_mem ha
  have key : ∀ {p q u : Nat}, Rl (rel.getD a []) p u → (∀ y, Rl (rel.getD a []) q y → ¬ PEq (psq n val rel k) u y) → u ∈ pts ((rel.getD a []).getD p 0#64) ∧ aloneB n val rel u k (pts ((rel.getD a []).getD q 0#64)) = true := fun hu hy => by
    have := hlt _ hm _ _ hu
    exact ⟨mem_pts.2 ⟨by omega, hu⟩, alone_iff.2 (fun y hy2 => hy y (mem_pts.1 hy2).2)⟩
  rcases h1 with ⟨u, hu, hy⟩ | ⟨u, hu, hy⟩
  · obtain ⟨k1, k2⟩ := key hu hy
    rw [(hno a ha).1 u k1] at k2; cases k2
  · obtain ⟨k1, k2⟩ := key hu hy
    rw [(hno a ha).2 u k1] at k2; cases k2
set_option maxRecDepth 8000 in
theorem make_of {m : MV} {n mD bk : Nat} {pa : Option Addr} {pc : Nat} {ps : List IV} {k : Nat} (hn : m.n = (n : Int)) (hvM : ValM m.n m.val m.rel) (hP : PsIs n m.val m.rel ps) (hA : ∀ j, k = j + 1 → AlOk m n mD bk pa pc ps j) : MkOk m n mD bk pa pc ps k := by
  intro v x w L hv hx hd hp
  have h64 := hvM.n64
  have hn1 := hvM.n1
  have hvN : ValM (n : Int) m.val m.rel := by rw [← hn]; exact hvM
  have hlt := val_lt hvN rfl
  have hrl : m.rel.length = m.rows.length := by simp [MV.rel]
  have hrg : ∀ a (h : a < m.rows.length), m.rel.getD a [] = m.rows[a].xs := fun a h => by simp [MV.rel, List.getD_eq_getElem?_getD, h]
  have hpl := hP.1
  have hag := hvM.agents
  have HB : ∀ {w' : World} {j : Nat} {v : Value}, Ex [mD] w w' → (mkrCs m mD pa ps.length pc)[j]? = some v → w'.cell? ⟨bk, j, none⟩ = some v := fun e h => Ex.cellS e (hp.mkr.ne hp.blk) hp.mkr.blk h
  have hkd : k ≤ dep n m.val m.rel := dst_lt (by omega) (by omega) hd
  have hdn := (dep_spec (val := m.val) (rels := m.rel) (n := n) (by omega) (by omega)).1
  refine CnS.of hp.has Tryz.func53 rfl rfl ?_
  rw [show blks (mpH mD L) = [mD] from rfl]
  refine gS (gR ?_)
  refine gAs ?_
  refine gE (gS (gR ?_))
  iterate 3 refine gMv ?_
  refine GoH.callP rfl rfl rfl rfl rfl (fun _ _ => Tryz.call41 _ _) (fun w _ hS => (by have := mkdepth_c m n mD bk pa pc ps v x w (hp.mkr.ex hp.blk hS.ext) hP hv hx (by omega) (by omega); rw [hd] at this; exact this)) ?_
  refine gAs ?_
  refine gE (gS (gS (gR ?_)))
  refine gMv ?_
  refine gBi bEq ?_
  refine gE ?_
  refine GoH.cond rfl (fun hc => ?_) (fun hc => ?_)
  ·
   have h0 : k = 0 := by simpa [optI] using hc
   subst h0
   refine gS (gR ?_)
   iterate 3 refine gMv ?_
   refine GoH.callM _ rfl rfl rfl rfl rfl (fun _ _ => Tryz.call75 _ _) (fun w _ hS => (by exact literal_c m n mD bk pa pc ps v x w (hp.mkr.ex hp.blk hS.ext) hn hvM hv hx hd)) ?_
   rintro u w1 w2 Y' hS he ⟨i, y, hi, hT, ho⟩
   obtain ⟨qf, capf, spf, rfl, hqf, hcapf, hS'⟩ := gainN hS he ho
   refine ⟨_, hS', ?_⟩
   refine gAs ?_
   refine gE ?_
   refine GoH.ret Tryz.f53 Tryz.func53 rfl (fun w' hS => ?_)
   exact ⟨_, ⟨⟨qf.map (fun b => ⟨b, 0, none⟩), capf, bT (litT i y)⟩, L, [(qf, obN 54 (bT (litT i y)) spf)], rfl, rfl, (Grew.refl hp.memo).mono (fun _ h => by cases h), ⟨qf, spf, List.mem_cons_self .., rfl, hqf, hcapf⟩, make_lit hT, bT_le _⟩, hS.swap2⟩
  ·
   have h0 : k ≠ 0 := by rintro rfl; simp [optI] at hc
   obtain ⟨k', rfl⟩ : ∃ k', k = k' + 1 := ⟨k - 1, by omega⟩
   have hAl := hA k' rfl
   refine gK (gS (gS (gR ?_)))
   refine gMv ?_
   refine gNk ?_
   refine gFp Tryz.underlying91 Tryz.sizeOf25 0 ?_
   refine gFp Tryz.underlying25 Tryz.sizeOf23 2 ?_
   refine GoH.v (Vop.ld (p := ⟨bk, 2, none⟩) rfl rfl rfl rfl Tryz.isAgg23 (fun w _ hS => HB hS.ext rfl)) ?_
   refine gBl Tryz.underlying23 ?_
   refine gMv ?_
   refine gE (gB ?_)
   refine GoH.loop (σ := Nat) (fun a => [(0, mpt bk), (1, .int .i64 v), (2, .int .i64 x), (7, .int .i64 ((k' + 1 : Nat) : Int)), (30, .slice m.ra m.rows.length m.rc), (31, .int .i64 m.rows.length), (32, .int .i64 a)]) (fun _ => [(some mD, mobj arr2 FV.v L)]) (fun a => a ≤ m.rows.length ∧ ∀ b, b < a → NoP n m.val m.rel k' v x b) (fun a => m.rows.length - a) 0 ⟨Nat.zero_le _, fun _ h => absurd h (Nat.not_lt_zero _)⟩ ⟨rfl, rfl, rfl, rfl, rfl, rfl, rfl, trivial⟩ (List.Sublist.refl _) (fun a hI IH => ?_)
   obtain ⟨hal, hno⟩ := hI
   refine gS (gR ?_)
   refine gBi bLt ?_
   refine gE (gS ?_)
   refine GoH.cond rfl (fun hc => ?_) (fun hc => ?_)
   ·
    have hla : a < m.rows.length := by simpa using hc
    have hrow := hp.mkr.mod.row m.rows[a] (List.getElem_mem hla)
    have hrm : m.rows[a].xs ∈ m.rel := List.mem_map.2 ⟨m.rows[a], List.getElem_mem hla, rfl⟩
    have hrlen := hvM.len _ hrm
    have hvl : v < m.rows[a].xs.length := by omega
    have hxl : x < m.rows[a].xs.length := by omega
    have hga := hrg a hla
    have hpv : ∀ i, (m.rows[a].xs.getD v 0#64).getLsbD i = true → i < n := fun i hi => hlt _ hrm v i hi
    have hpx : ∀ i, (m.rows[a].xs.getD x 0#64).getLsbD i = true → i < n := fun i hi => hlt _ hrm x i hi
    obtain ⟨rv, hrv⟩ : ∃ rv, rv = m.rows[a].xs.getD v 0#64 := ⟨_, rfl⟩
    obtain ⟨rx, hrx⟩ : ∃ rx, rx = m.rows[a].xs.getD x 0#64 := ⟨_, rfl⟩
    rw [← hrv] at hpv
    rw [← hrx] at hpx
    refine gK (gS (gB (gS (gR ?_))))
    refine gMv ?_
    refine GoH.v (Vop.idx (xs := m.rows.map Row.v) rfl rfl rfl rfl rfl Tryz.underlying23 Tryz.sizeOf22 ⟨_, hp.mkr.mod.rel⟩ (by simp) a ⟨rfl, by simpa using hla⟩) ?_
    refine GoH.v (Vop.ld rfl rfl rfl rfl Tryz.isAgg22 (fun w _ hS => (Sl.at (Sl.exM hp.blk hp.mkr.mod.rel hS.ext) a hla))) ?_
    iterate 2 refine gAs ?_
    refine gE (gS ?_)
    refine GoH.drawXR [0, 1, 2, 3, 5, 6, 7, 8] 4 [9, 10, 11] mixed rfl ?_
    iterate 2 refine RdXR.v (fun _ => (Vop.mv rfl rfl rfl rfl)) ?_
    refine RdXR.v (fun _ => (by exact Vop.idx (xs := m.rows[a].xs.map U) rfl rfl rfl rfl rfl Tryz.underlying22 Tryz.sizeOf33 ⟨_, hrow.at_⟩ (by simp) v ⟨rfl, by simpa using hvl⟩)) ?_
    refine RdXR.v (fun _ => (Vop.ld rfl rfl rfl rfl Tryz.isAgg33 (fun w _ hS => (by have := SlU.at (Sl.exM hp.blk hrow.at_ hS.ext) v hvl; rw [← hrv] at this; exact this)))) ?_
    iterate 2 refine RdXR.v (fun _ => (Vop.mv rfl rfl rfl rfl)) ?_
    refine RdXR.v (fun _ => (by exact Vop.idx (xs := m.rows[a].xs.map U) rfl rfl rfl rfl rfl Tryz.underlying22 Tryz.sizeOf33 ⟨_, hrow.at_⟩ (by simp) x ⟨rfl, by simpa using hxl⟩)) ?_
    refine RdXR.v (fun _ => (Vop.ld rfl rfl rfl rfl Tryz.isAgg33 (fun w _ hS => (by have := SlU.at (Sl.exM hp.blk hrow.at_ hS.ext) x hxl; rw [← hrx] at this; exact this)))) ?_
    refine RdXR.call _ rfl rfl rfl rfl rfl (fun _ _ => Tryz.call76 _ _) (fun w _ hS => (by exact members_c21 rv w (hp.tabE hS.ext))) ?_
    rintro u w1 w2 Y' hS he ho
    obtain ⟨qx, capx, spx, rfl, hqx, hcapx, hS'⟩ := gainS hS he ho
    refine ⟨_, hS'.atEnd, ?_⟩
    refine GoH.callM _ rfl rfl rfl rfl rfl (fun _ _ => Tryz.call76 _ _) (fun w _ hS => (by exact members_c21 rx w (hp.tabE hS.ext))) ?_
    rintro u w1 w2 Y' hS he ho
    obtain ⟨qy, capy, spy, rfl, hqy, hcapy, hS'⟩ := gainS hS he ho
    refine ⟨_, hS', ?_⟩
    iterate 2 refine gAs ?_
    refine gE (gS (gS (gR ?_)))
    refine gMv ?_
    refine gBl Tryz.underlying36 ?_
    refine gMv ?_
    refine gE (gB ?_)
    have hlx := pts_le hpv
    have hly := pts_le hpx
    obtain ⟨xs, hxs⟩ : ∃ xs, xs = pts rv := ⟨_, rfl⟩
    obtain ⟨ys, hys⟩ : ∃ ys, ys = pts rx := ⟨_, rfl⟩
    have hxn : ∀ u ∈ xs, u < n := fun u hu => hpv u (by rw [hxs] at hu; exact (mem_pts.1 hu).2)
    have hyn : ∀ u ∈ ys, u < n := fun u hu => hpx u (by rw [hys] at hu; exact (mem_pts.1 hu).2)
    rw [← hxs] at hqx hcapx hlx ⊢
    rw [← hys] at hqy hcapy hly ⊢
    have hzx : (zI xs).length = xs.length := by simp
    have hzy : (zI ys).length = ys.length := by simp
    have hRv : ∀ u, Rl (m.rel.getD a []) v u → u ∈ xs := fun u hu => by
      rw [hga] at hu
      have := hlt _ hrm _ _ hu
      rw [hxs, hrv]; exact mem_pts.2 ⟨by omega, hu⟩
    have hRx : ∀ u, Rl (m.rel.getD a []) x u → u ∈ ys := fun u hu => by
      rw [hga] at hu
      have := hlt _ hrm _ _ hu
      rw [hys, hrx]; exact mem_pts.2 ⟨by omega, hu⟩
    have hVr : ∀ u ∈ xs, Rl (m.rel.getD a []) v u := fun u hu => by rw [hga]; rw [hxs, hrv] at hu; exact (mem_pts.1 hu).2
    have hXr : ∀ u ∈ ys, Rl (m.rel.getD a []) x u := fun u hu => by rw [hga]; rw [hys, hrx] at hu; exact (mem_pts.1 hu).2
    refine GoH.pick (pre' := [(some mD, mobj arr2 FV.v L), (qx, ob I64 3 (zI xs) spx), (qy, ob I64 3 (zI ys) spy)]) [1, 2, 0] (by decide) rfl ?_
    refine GoH.loop (σ := Nat) (fun i => [(0, mpt bk), (1, .int .i64 v), (2, .int .i64 x), (7, .int .i64 ((k' + 1 : Nat) : Int)), (8, .int .i64 a), (10, osv qx (zI xs).length capx), (11, osv qy (zI ys).length capy), (30, .slice m.ra m.rows.length m.rc), (31, .int .i64 m.rows.length), (32, .int .i64 a), (47, osv qx (zI xs).length capx), (48, .int .i64 (zI xs).length), (49, .int .i64 i)]) (fun _ => [(some mD, mobj arr2 FV.v L), (qx, ob I64 3 (zI xs) spx), (qy, ob I64 3 (zI ys) spy)]) (fun i => i ≤ xs.length ∧ ∀ j (h : j < xs.length), j < i → aloneB n m.val m.rel xs[j] k' ys = false) (fun i => xs.length - i) 0 ⟨Nat.zero_le _, fun _ _ h => absurd h (Nat.not_lt_zero _)⟩ ⟨rfl, rfl, rfl, rfl, rfl, rfl, rfl, rfl, rfl, rfl, rfl, rfl, rfl, trivial⟩ (List.Sublist.refl _) (fun i hI IH1 => ?_)
    obtain ⟨hil, hnx⟩ := hI
    refine gS (gR ?_)
    refine gBi bLt ?_
    refine gE (gS ?_)
    refine GoH.cond rfl (fun hc => ?_) (fun hc => ?_)
    ·
     have hlti : i < (zI xs).length := by simpa using hc
     have hlti2 : i < xs.length := by omega
     have hzi : (zI xs).getD i 0 = ((xs[i] : Nat) : Int) := by simp [List.getD_eq_getElem?_getD, hlti2]
     have hun := hxn xs[i] (List.getElem_mem hlti2)
     obtain ⟨bx, rfl⟩ : ∃ b, qx = some b := by
       cases qx with
       | none => have := (hqx rfl).1; omega
       | some b => exact ⟨b, rfl⟩
     refine gK (gS (gB (gS (gR ?_))))
     refine GoH.v (Vop.idxS rfl rfl rfl rfl rfl Tryz.underlying36 Tryz.sizeOf3 (i) ⟨rfl, hlti⟩) ?_
     refine GoH.v (Vop.ldE I64 0 rfl rfl rfl rfl Tryz.isAgg3 1 rfl hlti) ?_
     refine gAs ?_
     refine gE (gS (gR ?_))
     iterate 4 refine gMv ?_
     refine GoH.v (Vop.bin rfl rfl rfl rfl (bSubE (c := (k' : Int)) (by omega) (by omega)) rfl) ?_
     refine GoH.callP rfl rfl rfl rfl rfl (fun _ _ => Tryz.call77 _ _) (fun w _ hS => (by have := alone_c m n mD bk pa pc ps xs[i] (qy.map (fun b => ⟨b, 0, none⟩)) capy ys k' w (hp.mkr.ex hp.blk hS.ext) hP hun (sliAt hS 2 rfl (fun e => (hqy e).1)) hyn (by unfold maxLen; omega) (by omega); rw [← hzi] at this; exact this)) ?_
     refine gE ?_
     refine GoH.cond rfl (fun hc => ?_) (fun hc => ?_)
     ·
      have hdl := alone_dst (by omega) (by omega) hc hyn
      refine gS (gR ?_)
      iterate 4 refine gMv ?_
      rw [hzi]
      refine GoH.subH (h' := mpH mD L ++ [(some bx, ob I64 3 (zI xs) spx), (qy, ob I64 3 (zI ys) spy)]) (List.Sublist.refl _) ?_
      refine GoH.callS (h := mpH mD L) (hF := [(some bx, ob I64 3 (zI xs) spx), (qy, ob I64 3 (zI ys) spy)]) (fs := []) (cs := []) (fun _ u h' => AlPost n m.val m.rel mD xs[i] k' ys L u h') rfl rfl rfl rfl rfl (fun _ _ => Tryz.call79 _ _) (fun w1 Y' hS => ?_) (fun w1 u h1 hR => ?_)
      · exact hAl xs[i] (qy.map (fun b => ⟨b, 0, none⟩)) capy ys w1 L hun (sliAt hS 2 rfl (fun e => (hqy e).1)) (by omega) hdl (hp.step hS (List.Sublist.cons_cons _ (List.nil_sublist _)) (fun _ h => by cases h) (Grew.refl (d := 0) hp.memo))
      obtain ⟨fv, L2, F2, rfl, rfl, g2, hin, hall, hfl⟩ := hR
      have hmk := make_poss hvN hv hx (by omega) (hVr _ (List.getElem_mem hlti2)) hRx hly hall
      refine GoH.permH (h' := [(some mD, mobj arr2 FV.v L2), (some bx, ob I64 3 (zI xs) spx), (qy, ob I64 3 (zI ys) spy)] ++ F2) perm_mid2 ?_
      refine GoH.callM _ rfl rfl rfl rfl rfl (fun _ _ => Tryz.call78 _ _) (fun w _ hS => (by exact poss_c (a : Int) fv.a fv.c fv.f w ((hin.mono (fun _ h => List.mem_cons_of_mem _ (List.mem_cons_of_mem _ (List.mem_cons_of_mem _ h)))).at hS) (by unfold maxLen; omega))) ?_
      rintro u w1 w2 Y' hS he ho
      obtain ⟨qf, capf, spf, rfl, hqf, hcapf, hS'⟩ := gainN hS he ho
      refine ⟨_, hS', ?_⟩
      refine gAs ?_
      refine gE ?_
      refine GoH.ret Tryz.f53 Tryz.func53 rfl (fun w' hS => ?_)
      exact ⟨_, ⟨⟨qf.map (fun b => ⟨b, 0, none⟩), capf, bldF ⟨10, (a : Int), 0, 0, 0, 0⟩ [fv.f]⟩, L2, (qf, obN 54 (bldF ⟨10, (a : Int), 0, 0, 0, 0⟩ [fv.f]) spf) :: (some bx, ob I64 3 (zI xs) spx) :: (qy, ob I64 3 (zI ys) spy) :: F2, rfl, rfl, g2.mono (fun _ h => List.mem_cons_of_mem _ (List.mem_cons_of_mem _ (List.mem_cons_of_mem _ h))), ⟨qf, spf, List.mem_cons_self .., rfl, hqf, hcapf⟩, hmk, bldF_le _ _⟩, hS.swap2⟩
     ·
      have hna : aloneB n m.val m.rel xs[i] k' ys = false := hc
      refine gK (gIb (gR ?_))
      refine GoH.v (Vop.bin rfl rfl rfl rfl (bAdd (by omega)) rfl) ?_
      refine gMv ?_
      refine gE ?_
      exact IH1 (i + 1) _ _ ⟨hlti2, fun j hj hji => by rcases Nat.lt_succ_iff_lt_or_eq.1 hji with h | rfl; exact hnx j hj h; exact hna⟩ (by omega) ⟨rfl, rfl, rfl, rfl, rfl, rfl, rfl, rfl, rfl, rfl, rfl, rfl, rfl, trivial⟩ (List.Sublist.refl _)
    ·
     have hge : ¬ i < (zI xs).length := by simpa using hc
     obtain rfl : i = xs.length := by omega
     refine GoH.exit rfl (gS (gR ?_))
     refine gMv ?_
     refine gBl Tryz.underlying36 ?_
     refine gMv ?_
     refine gE (gB ?_)
     refine GoH.loop (σ := Nat) (fun i => [(0, mpt bk), (1, .int .i64 v), (2, .int .i64 x), (7, .int .i64 ((k' + 1 : Nat) : Int)), (8, .int .i64 a), (10, osv qx (zI xs).length capx), (11, osv qy (zI ys).length capy), (30, .slice m.ra m.rows.length m.rc), (31, .int .i64 m.rows.length), (32, .int .i64 a), (66, osv qy (zI ys).length capy), (67, .int .i64 (zI ys).length), (68, .int .i64 i)]) (fun _ => [(some mD, mobj arr2 FV.v L), (qx, ob I64 3 (zI xs) spx), (qy, ob I64 3 (zI ys) spy)]) (fun i => i ≤ ys.length ∧ ∀ j (h : j < ys.length), j < i → aloneB n m.val m.rel ys[j] k' xs = false) (fun i => ys.length - i) 0 ⟨Nat.zero_le _, fun _ _ h => absurd h (Nat.not_lt_zero _)⟩ ⟨rfl, rfl, rfl, rfl, rfl, rfl, rfl, rfl, rfl, rfl, rfl, rfl, rfl, trivial⟩ (List.Sublist.refl _) (fun i hI IH2 => ?_)
     obtain ⟨hil2, hny⟩ := hI
     refine gS (gR ?_)
     refine gBi bLt ?_
     refine gE (gS ?_)
     refine GoH.cond rfl (fun hc => ?_) (fun hc => ?_)
     ·
      have hlti : i < (zI ys).length := by simpa using hc
      have hlti2 : i < ys.length := by omega
      have hzi : (zI ys).getD i 0 = ((ys[i] : Nat) : Int) := by simp [List.getD_eq_getElem?_getD, hlti2]
      have hun := hyn ys[i] (List.getElem_mem hlti2)
      obtain ⟨bY, rfl⟩ : ∃ b, qy = some b := by
        cases qy with
        | none => have := (hqy rfl).1; omega
        | some b => exact ⟨b, rfl⟩
      refine gK (gS (gB (gS (gR ?_))))
      refine GoH.v (Vop.idxS rfl rfl rfl rfl rfl Tryz.underlying36 Tryz.sizeOf3 (i) ⟨rfl, hlti⟩) ?_
      refine GoH.v (Vop.ldE I64 0 rfl rfl rfl rfl Tryz.isAgg3 2 rfl hlti) ?_
      refine gAs ?_
      refine gE (gS (gR ?_))
      iterate 4 refine gMv ?_
      refine GoH.v (Vop.bin rfl rfl rfl rfl (bSubE (c := (k' : Int)) (by omega) (by omega)) rfl) ?_
      refine GoH.callP rfl rfl rfl rfl rfl (fun _ _ => Tryz.call77 _ _) (fun w _ hS => (by have := alone_c m n mD bk pa pc ps ys[i] (qx.map (fun b => ⟨b, 0, none⟩)) capx xs k' w (hp.mkr.ex hp.blk hS.ext) hP hun (sliAt hS 1 rfl (fun e => (hqx e).1)) hxn (by unfold maxLen; omega) (by omega); rw [← hzi] at this; exact this)) ?_
      refine gE ?_
      refine GoH.cond rfl (fun hc => ?_) (fun hc => ?_)
      ·
       have hdl := alone_dst (by omega) (by omega) hc hxn
       refine gS (gR ?_)
       iterate 4 refine gMv ?_
       rw [hzi]
       refine GoH.subH (h' := mpH mD L ++ [(qx, ob I64 3 (zI xs) spx), (some bY, ob I64 3 (zI ys) spy)]) (List.Sublist.refl _) ?_
       refine GoH.callS (h := mpH mD L) (hF := [(qx, ob I64 3 (zI xs) spx), (some bY, ob I64 3 (zI ys) spy)]) (fs := []) (cs := []) (fun _ u h' => AlPost n m.val m.rel mD ys[i] k' xs L u h') rfl rfl rfl rfl rfl (fun _ _ => Tryz.call79 _ _) (fun w1 Y' hS => ?_) (fun w1 u h1 hR => ?_)
       · exact hAl ys[i] (qx.map (fun b => ⟨b, 0, none⟩)) capx xs w1 L hun (sliAt hS 1 rfl (fun e => (hqx e).1)) (by omega) hdl (hp.step hS (List.Sublist.cons_cons _ (List.nil_sublist _)) (fun _ h => by cases h) (Grew.refl (d := 0) hp.memo))
       obtain ⟨fv, L2, F2, rfl, rfl, g2, hin, hall, hfl⟩ := hR
       have hmk := make_dual hvN hv hx (by omega) (hXr _ (List.getElem_mem hlti2)) hRv hlx hall
       refine GoH.permH (h' := [(some mD, mobj arr2 FV.v L2), (qx, ob I64 3 (zI xs) spx), (some bY, ob I64 3 (zI ys) spy)] ++ F2) perm_mid2 ?_
       refine GoH.callM _ rfl rfl rfl rfl rfl (fun _ _ => Tryz.call78 _ _) (fun w _ hS => (by exact poss_c (a : Int) fv.a fv.c fv.f w ((hin.mono (fun _ h => List.mem_cons_of_mem _ (List.mem_cons_of_mem _ (List.mem_cons_of_mem _ h)))).at hS) (by unfold maxLen; omega))) ?_
       rintro u w1 w2 Y' hS he ho
       obtain ⟨qf, capf, spf, rfl, hqf, hcapf, hS'⟩ := gainN hS he ho
       refine ⟨_, hS', ?_⟩
       refine GoH.callM _ rfl rfl rfl rfl rfl (fun _ _ => Tryz.call80 _ _) (fun w _ hS => (by exact not_c (qf.map (fun b => ⟨b, 0, none⟩)) capf _ w (faAt hS 0 rfl (fun e => (hqf e).1)) (by have := bldF_le ⟨10, (a : Int), 0, 0, 0, 0⟩ [fv.f]; unfold maxLen; omega))) ?_
       rintro u w1 w2 Y' hS he ho
       obtain ⟨qg, capg, spg, rfl, hqg, hcapg, hS'⟩ := gainN hS he ho
       refine ⟨_, hS', ?_⟩
       refine gAs ?_
       refine gE ?_
       refine GoH.ret Tryz.f53 Tryz.func53 rfl (fun w' hS => ?_)
       refine ⟨_, ⟨⟨qg.map (fun b => ⟨b, 0, none⟩), capg, bldF ⟨4, 0, 0, 0, 0, 0⟩ [bldF ⟨10, (a : Int), 0, 0, 0, 0⟩ [fv.f]]⟩, L2, (qg, obN 54 (bldF ⟨4, 0, 0, 0, 0, 0⟩ [bldF ⟨10, (a : Int), 0, 0, 0, 0⟩ [fv.f]]) spg) :: (qx, ob I64 3 (zI xs) spx) :: (some bY, ob I64 3 (zI ys) spy) :: F2, rfl, rfl, g2.mono (fun _ h => List.mem_cons_of_mem _ (List.mem_cons_of_mem _ (List.mem_cons_of_mem _ h))), ⟨qg, spg, List.mem_cons_self .., rfl, hqg, hcapg⟩, hmk, bldF_le _ _⟩, ?_⟩
       exact (hS.subH (.cons_cons _ (.cons _ (List.Sublist.refl _)))).swap2
      ·
       have hna : aloneB n m.val m.rel ys[i] k' xs = false := hc
       refine gK (gIb (gR ?_))
       refine GoH.v (Vop.bin rfl rfl rfl rfl (bAdd (by omega)) rfl) ?_
       refine gMv ?_
       refine gE ?_
       exact IH2 (i + 1) _ _ ⟨hlti2, fun j hj hji => by rcases Nat.lt_succ_iff_lt_or_eq.1 hji with h | rfl; exact hny j hj h; exact hna⟩ (by omega) ⟨rfl, rfl, rfl, rfl, rfl, rfl, rfl, rfl, rfl, rfl, rfl, rfl, rfl, trivial⟩ (List.Sublist.refl _)
     ·
      have hge : ¬ i < (zI ys).length := by simpa using hc
      obtain rfl : i = ys.length := by omega
      refine GoH.exit rfl (gIb (gR ?_))
      refine GoH.v (Vop.bin rfl rfl rfl rfl (bAdd (by omega)) rfl) ?_
      refine gMv ?_
      refine gE ?_
      refine IH (a + 1) _ _ ⟨hla, fun b hb => ?_⟩ (by omega) ⟨rfl, rfl, rfl, rfl, rfl, rfl, rfl, trivial⟩ (.cons_cons _ (List.nil_sublist _))
      rcases Nat.lt_succ_iff_lt_or_eq.1 hb with h | rfl
      · exact hno b h
      · unfold NoP
        rw [hga, ← hrv, ← hrx, ← hxs, ← hys]
        refine ⟨fun u hu => ?_, fun u hu => ?_⟩
        · obtain ⟨j, hj, rfl⟩ := List.mem_iff_getElem.1 hu
          exact hnx j hj hj
        · obtain ⟨j, hj, rfl⟩ := List.mem_iff_getElem.1 hu
          exact hny j hj hj
   ·
    have hge : ¬ a < m.rows.length := by simpa using hc
    obtain rfl : a = m.rows.length := by omega
    exact (noP_end hv hx (by omega) (by omega) hlt hd (fun b hb => hno b (by omega))).elim
end Go.Proofs.YthojdcaojjmoaaaGreatDoor
namespace Go.Proofs.YthojdcaojjmoaaaGreatDoor
open Go.RowKit Go.Proofs.Wit
/-! a maker's memo -/
set_option maxRecDepth 8000 in
theorem apart_of {m : MV} {n mD bk : Nat} {pa : Option Addr} {pc : Nat} {ps : List IV} {k : Nat} (hM : MkOk m n mD bk pa pc ps k) : ApOk m n mD bk pa pc ps k := by
  intro v x w L hv hx hd hp
  have hK : KeyOk Tryz.prog 93 arr2 mq := KeyOk.arr2 Tryz.underlying93 Tryz.underlying3 Tryz.sizeOf3 Tryz.isAgg3
  have HB : ∀ {w' : World} {j : Nat} {v : Value}, Ex [mD] w w' → (mkrCs m mD pa ps.length pc)[j]? = some v → w'.cell? ⟨bk, j, none⟩ = some v := fun e h => Ex.cellS e (hp.mkr.ne hp.blk) hp.mkr.blk h
  refine CnS.of hp.has Tryz.func33 rfl rfl ?_
  rw [show blks (mpH mD L) = [mD] from rfl]
  refine gS (gR ?_)
  refine gAs ?_
  refine gE (gS (gR ?_))
  iterate 2 refine gMv ?_
  refine GoH.v (Vop.bld (ps := [(0, .int .i64 v), (1, .int .i64 x)]) rfl rfl rfl rfl (bldA (c := [_, _]) Tryz.underlying93 Tryz.sizeOf3 Tryz.zeroValue93 rfl)) ?_
  refine GoH.alc rfl rfl rfl (fun _ => Tryz.zeroValue93 _) (fun b7 => ?_)
  refine GoH.stB rfl rfl rfl rfl Tryz.sizeOf93 0 rfl rfl rfl rfl ?_
  refine gE (gS (gS ?_))
  refine GoH.draw 11 mixed rfl ?_
  refine rMv ?_
  refine rNk ?_
  refine rFp Tryz.underlying91 Tryz.sizeOf88 3 ?_
  refine RdGo.v (Vop.ld (p := ⟨bk, 3, none⟩) rfl rfl rfl rfl Tryz.isAgg88 (fun w _ hS => HB hS.ext rfl)) ?_
  refine RdGo.v (Vop.ldB rfl rfl rfl rfl Tryz.isAgg93 0 rfl Tryz.sizeOf93 rfl) ?_
  refine RdGo.v (Vop.lkup (ev := FV.v) (a := ((v : Int), (x : Int))) (z := .slice none 0 0) (L := L) hK rfl rfl rfl rfl rfl Tryz.underlying88 (fun _ => Tryz.zeroValue26 _) 1 rfl) ?_
  refine rMv ?_
  iterate 2 refine rEx ?_
  iterate 2 refine rAs ?_
  refine RdGo.nil ?_
  refine gE (gS (gR ?_))
  refine gMv ?_
  refine gE ?_
  refine GoH.cond rfl (fun hc => ?_) (fun hc => ?_)
  ·
   obtain ⟨fv, hfv⟩ : ∃ fv, mget mq L ((v : Int), (x : Int)) = some fv := by
     cases h : mget mq L ((v : Int), (x : Int)) with
     | none => rw [h] at hc; simp at hc
     | some fv => exact ⟨fv, rfl⟩
   refine gS (gR ?_)
   refine gMv ?_
   refine gAs ?_
   refine gE ?_
   refine GoH.ret Tryz.f33 Tryz.func33 rfl (fun w' hS => ?_)
   exact ⟨_, ⟨fv, L, [(some b7, .cells #[.int .i64 v, .int .i64 x] 93 (0, 0))], by rw [hfv]; rfl, rfl, (Grew.refl hp.memo).mono (fun _ h => by cases h), mget_mem hfv⟩, hS.swap2⟩
  ·
   have hno : mget mq L ((v : Int), (x : Int)) = none := by
     cases h : mget mq L ((v : Int), (x : Int)) with
     | none => rfl
     | some fv => rw [h] at hc; simp at hc
   refine gK (gS (gR ?_))
   iterate 3 refine gMv ?_
   refine GoH.pick (pre' := mpH mD L ++ [(some b7, .cells #[.int .i64 v, .int .i64 x] 93 (0, 0))]) [1, 0] (by decide) rfl ?_
   refine GoH.callS (h := mpH mD L) (hF := [(some b7, .cells #[.int .i64 v, .int .i64 x] 93 (0, 0))]) (fs := []) (cs := []) (fun _ u h' => MkPost n m.val m.rel mD v x k L u h') rfl rfl rfl rfl rfl (fun _ _ => Tryz.call53 _ _) (fun w1 Y' hS => ?_) (fun w1 u h1 hR => ?_)
   · exact hM v x w1 L hv hx hd (hp.step hS (List.Sublist.cons_cons _ (List.nil_sublist _)) (fun _ h => by cases h) (Grew.refl (d := 0) hp.memo))
   obtain ⟨fv, L2, F2, rfl, rfl, g2, hin, hmk, hfl⟩ := hR
   have hkey := g2.key hd (Nat.le_refl _) (mget_nomem.1 hno)
   have hno2 := mget_nomem.2 hkey
   obtain ⟨hadd, hfo⟩ := g2.memo.add hv hx hd hkey hmk
   refine GoH.permH (h' := [(some mD, mobj arr2 FV.v L2), (some b7, .cells #[.int .i64 v, .int .i64 x] 93 (0, 0))] ++ (F2 ++ [])) (by have := perm_mid (a := (some mD, mobj arr2 FV.v L2)) (c := (some b7, .cells #[.int .i64 v, .int .i64 x] 93 (0, 0))) (F := F2) (G := []); exact this) ?_
   rw [List.append_nil]
   refine gAs ?_
   refine gE (gS ?_)
   refine GoH.draw 6 mixed rfl ?_
   refine rMv ?_
   refine rNk ?_
   refine rFp Tryz.underlying91 Tryz.sizeOf88 3 ?_
   refine RdGo.v (Vop.ld (p := ⟨bk, 3, none⟩) rfl rfl rfl rfl Tryz.isAgg88 (fun w _ hS => HB hS.ext rfl)) ?_
   refine RdGo.v (Vop.ldB rfl rfl rfl rfl Tryz.isAgg93 1 rfl Tryz.sizeOf93 rfl) ?_
   refine rMv ?_
   refine RdGo.nil ?_
   refine GoH.mapIns hK rfl (.inl rfl) rfl rfl rfl (a := ((v : Int), (x : Int))) (v := fv) rfl rfl Tryz.underlying88 0 rfl hno2 ?_
   refine gE (gS (gR ?_))
   refine gMv ?_
   refine gAs ?_
   refine gE ?_
   refine GoH.ret Tryz.f33 Tryz.func33 rfl (fun w' hS => ?_)
   refine ⟨_, ⟨fv, L2 ++ [(((v : Int), (x : Int)), fv)], (some b7, .cells #[.int .i64 v, .int .i64 x] 93 (0, 0)) :: F2, rfl, rfl, ⟨hadd, fun _ h => List.mem_append_left _ (g2.sub h), fun e he => ?_, fun e he => ?_⟩, by simp⟩, hS⟩
   · rcases List.mem_append.1 he with he | he
     · rcases g2.nw e he with h | ⟨a, b, i, h1, h2, h3⟩
       · exact .inl h
       · exact .inr ⟨a, b, i, h1, h2, by omega⟩
     · rw [List.mem_singleton.1 he]; exact .inr ⟨v, x, k, rfl, hd, by omega⟩
   · rcases List.mem_append.1 he with he | he
     · exact (g2.at_ e he).imp id (fun h => h.mono (fun _ h => List.mem_cons_of_mem _ h))
     · rw [List.mem_singleton.1 he]; exact .inr (hin.mono (fun _ h => List.mem_cons_of_mem _ h))
section
variable {m : MV} {n mD bk : Nat} {pa : Option Addr} {pc : Nat} {ps : List IV}
theorem ap_ok (hn : m.n = (n : Int)) (hvM : ValM m.n m.val m.rel) (hP : PsIs n m.val m.rel ps) : ∀ k, ApOk m n mD bk pa pc ps k := by
  intro k
  induction k using Nat.strongRecOn with
  | _ k ih => exact apart_of (make_of hn hvM hP (fun j hj => all_of (fun i hi => ih i (by omega))))
end
end Go.Proofs.YthojdcaojjmoaaaGreatDoor
namespace Go.Proofs.YthojdcaojjmoaaaGreatDoor
open Go.RowKit Go.Proofs.Wit
/-! Depth, Formula, Characteristic -/
def chkD (m : MV) (ys : List Int) : Int := if checkM m.n m.val m.rel ≠ 0 then checkM m.n m.val m.rel else if ys.any (fun y => decide (y < 0) || decide (m.n ≤ y)) then 2 else 0
theorem chkD_zero {m : MV} {ys : List Int} : chkD m ys = 0 ↔ ValM m.n m.val m.rel ∧ ∀ y ∈ ys, 0 ≤ y ∧ y < m.n := by
  unfold chkD
  by_cases h : checkM m.n m.val m.rel = 0
  · rw [if_neg (by simp [h])]
    have hv := checkM_zero.1 h
    by_cases h2 : ys.any (fun y => decide (y < 0) || decide (m.n ≤ y)) = true
    · rw [if_pos h2]
      simp only [List.any_eq_true, Bool.or_eq_true, decide_eq_true_eq] at h2
      obtain ⟨y, hy, h3⟩ := h2
      exact ⟨fun e => absurd e (by decide), fun e => absurd (e.2 y hy) (by omega)⟩
    · rw [if_neg h2]
      simp only [List.any_eq_true, Bool.or_eq_true, decide_eq_true_eq, not_exists, not_and] at h2
      exact ⟨fun _ => ⟨hv, fun y hy => by have := h2 y hy; omega⟩, fun _ => rfl⟩
  · rw [if_pos h]
    exact ⟨fun e => absurd e h, fun e => absurd (checkM_zero.2 e.1) h⟩
set_option maxRecDepth 4000 in
theorem dcheck_c (m : MV) (la : Option Addr) (lc : Nat) (ys : List Int) (w : World) (hm : m.At w) (hl : SlI w la ys) (hyl : ys.length ≤ maxLen) : Cn Tryz.prog 40 [m.v, .slice la ys.length lc] w (fun v _ => v = .int .i64 (chkD m ys)) := by
  unfold maxLen at hyl
  refine Cn.of Tryz.func40 rfl rfl ?_
  refine gS (gR ?_)
  refine GoH.bx rfl rfl rfl rfl (fun b2 => ?_)
  refine gAs ?_
  refine gE (gS (gS (gR ?_)))
  refine GoH.v (Vop.ldB rfl rfl rfl rfl Tryz.isAgg25 0 rfl Tryz.sizeOf25 rfl) ?_
  refine GoH.callP rfl rfl rfl rfl rfl (fun _ _ => Tryz.call27 _ _) (fun w _ hS => (by exact mcheck_c m w (hm.ex0 hS.ext))) ?_
  refine gAs ?_
  refine gE (gS (gR ?_))
  refine gMv ?_
  refine gBi bNe ?_
  refine gE ?_
  refine GoH.cond rfl (fun hc => ?_) (fun hc => ?_)
  ·
   have h1 : checkM m.n m.val m.rel ≠ 0 := by simpa using hc
   refine gS (gR ?_)
   refine gMv ?_
   refine gAs ?_
   refine gE ?_
   refine GoH.ret Tryz.f40 Tryz.func40 rfl (fun w' hS => ?_)
   exact ⟨hS.ext, by rw [chkD, if_pos h1]; rfl⟩
  ·
   have h1 : checkM m.n m.val m.rel = 0 := by simpa using hc
   refine gK (gS (gS (gR ?_)))
   refine gMv ?_
   refine gBl Tryz.underlying36 ?_
   refine gMv ?_
   refine gE (gB ?_)
   refine GoH.loop (σ := Nat) (fun i => [(2, .pointer (some ⟨b2, 0, none⟩)), (13, .slice la ys.length lc), (14, .int .i64 ys.length), (15, .int .i64 i)]) (fun _ => [(some b2, .cells m.v.cells 25 (0, 0))]) (fun i => i ≤ ys.length ∧ (ys.take i).any (fun y => decide (y < 0) || decide (m.n ≤ y)) = false) (fun i => ys.length - i) 0 ⟨Nat.zero_le _, rfl⟩ ⟨rfl, rfl, rfl, rfl, trivial⟩ (List.Sublist.refl _) (fun i hI IH => ?_)
   obtain ⟨hil, hno⟩ := hI
   refine gS (gR ?_)
   refine gBi bLt ?_
   refine gE (gS ?_)
   refine GoH.cond rfl (fun hc => ?_) (fun hc => ?_)
   ·
    have hlt : i < ys.length := by simpa using hc
    have htk : (ys.take (i + 1)).any (fun y => decide (y < 0) || decide (m.n ≤ y)) = (decide (ys[i] < 0) || decide (m.n ≤ ys[i])) := by
      rw [List.take_succ_eq_append_getElem hlt, List.any_append, hno]; simp
    have hall : (decide (ys[i] < 0) || decide (m.n ≤ ys[i])) = true → ys.any (fun y => decide (y < 0) || decide (m.n ≤ y)) = true := fun h => List.any_eq_true.2 ⟨_, List.getElem_mem hlt, h⟩
    refine gK (gS (gB (gS (gR ?_))))
    refine GoH.v (Vop.idx rfl rfl rfl rfl rfl Tryz.underlying36 Tryz.sizeOf3 ⟨_, hl⟩ (by simp) (i) ⟨rfl, by simpa using hlt⟩) ?_
    refine GoH.v (Vop.ld rfl rfl rfl rfl Tryz.isAgg3 (fun w _ hS => (SlI.ex0 hl hS.ext).at (i) hlt)) ?_
    refine gAs ?_
    refine gE (gS (gR ?_))
    refine gMv ?_
    refine gBi bLt ?_
    refine gMv ?_
    refine GoH.cases (d := 21) rfl (fun hc => ?_) (fun hc => ?_)
    ·
     have hneg : ys[i] < 0 := by simpa using hc
     iterate 4 refine gNo ?_
     refine gPt ?_
     refine gE (GoH.condT rfl (gS (gR ?_)))
     refine gAs ?_
     refine gE ?_
     refine GoH.ret Tryz.f40 Tryz.func40 rfl (fun w' hS => ?_)
     exact ⟨hS.ext, by rw [chkD, if_neg (by simp [h1]), if_pos (hall (by simp [hneg]))]; rfl⟩
    ·
     have hneg : ¬ ys[i] < 0 := by simpa using hc
     refine gMv ?_
     refine gFp Tryz.underlying25 Tryz.sizeOf3 0 ?_
     refine GoH.v (Vop.ldo (v := .int .i64 m.n) rfl rfl rfl rfl Tryz.isAgg3 0 rfl rfl) ?_
     refine gBi bGe ?_
     refine gPf ?_
     refine gE ?_
     refine GoH.cond rfl (fun hc => ?_) (fun hc => ?_)
     ·
      have hge : m.n ≤ ys[i] := by simpa using hc
      refine gS (gR ?_)
      refine gAs ?_
      refine gE ?_
      refine GoH.ret Tryz.f40 Tryz.func40 rfl (fun w' hS => ?_)
      exact ⟨hS.ext, by rw [chkD, if_neg (by simp [h1]), if_pos (hall (by simp [hge]))]; rfl⟩
     ·
      have hge : ¬ m.n ≤ ys[i] := by simpa using hc
      refine gK (gIb (gR ?_))
      refine GoH.v (Vop.bin rfl rfl rfl rfl (bAdd (by omega)) rfl) ?_
      refine gMv ?_
      refine gE ?_
      exact IH (i + 1) _ _ ⟨hlt, by rw [htk]; simp only [hneg, hge, decide_false, Bool.or_self]⟩ (by omega) ⟨rfl, rfl, rfl, rfl, trivial⟩ (List.Sublist.refl _)
   ·
    have hge : ¬ i < ys.length := by simpa using hc
    obtain rfl : i = ys.length := by omega
    rw [List.take_length] at hno
    refine GoH.exit rfl (gS (gR ?_))
    refine gAs ?_
    refine gE ?_
    refine GoH.ret Tryz.f40 Tryz.func40 rfl (fun w' hS => ?_)
    exact ⟨hS.ext, by rw [chkD, if_neg (by simp [h1]), if_neg (by rw [hno]; simp)]; rfl⟩
def dpD (m : MV) (v x : Int) : Int × Int := if chkD m [v, x] ≠ 0 then (0, chkD m [v, x]) else match dst m.n.toNat m.val m.rel v.toNat x.toNat with
  | none => (0, 6)
  | some k => (k, 0)
theorem mkr_st {m : MV} {bk mD : Nat} {qA : Option Nat} {capA : Nat} {ps : List IV} {spA : List Value} {w0 w : World} {S : List Nat} {h H : Hl} {Y : List (Nat × Obj)} (s : St w0 S w h Y) (hb : (some bk, Obj.cells (mkrCs m mD (qA.map (fun b => ⟨b, 0, none⟩)) ps.length capA) 91 (0, 0)) ∈ h) (hA : (qA, ob IV.v 36 ps spA) ∈ h) (hH : H ⊆ h) (hq : qA = none → ps.length = 0) (hps : ∀ p ∈ ps, InS I64 H p.a p.xs) (hm : m.At w) : Mk w mD bk m (qA.map (fun b => ⟨b, 0, none⟩)) capA ps :=
  MkAt.of s hb hA hq (fun p hp => (hps p hp).mono hH) hm
set_option maxRecDepth 4000 in
theorem dDepth_c (m : MV) (v x : Int) (w : World) (hT : Tab w) (hm : m.At w) : Cn Tryz.prog 25 [m.v, .int .i64 v, .int .i64 x] w (fun u _ => u = .tuple #[.int .i64 (dpD m v x).1, .int .i64 (dpD m v x).2]) := by
  refine Cn.of Tryz.func25 rfl rfl ?_
  refine gS (gR ?_)
  refine GoH.bx rfl rfl rfl rfl (fun b3 => ?_)
  iterate 2 refine gAs ?_
  refine gE (gS (gS (gR ?_)))
  refine GoH.v (Vop.ldB rfl rfl rfl rfl Tryz.isAgg25 0 rfl Tryz.sizeOf25 rfl) ?_
  iterate 2 refine gMv ?_
  refine GoH.bsN (c := [_, _]) rfl rfl rfl rfl Tryz.underlying36 Tryz.sizeOf3 Tryz.zeroValue3 rfl rfl (fun b13 => ?_)
  refine GoH.callP rfl rfl rfl rfl rfl (fun _ _ => Tryz.call40 _ _) (fun w _ hS => (by exact dcheck_c m (some ⟨b13, 0, none⟩) 2 [v, x] w (hm.ex0 hS.ext) (Sl.blk (sp := []) (hS.get (j := 0) rfl)) (by unfold maxLen; simp))) ?_
  refine gAs ?_
  refine gE (gS (gR ?_))
  refine gMv ?_
  refine gBi bNe ?_
  refine gE ?_
  refine GoH.cond rfl (fun hc => ?_) (fun hc => ?_)
  ·
   have h1 : chkD m [v, x] ≠ 0 := by simpa using hc
   refine gS (gR ?_)
   refine gMv ?_
   iterate 2 refine gAs ?_
   refine gE ?_
   refine GoH.ret Tryz.f25 Tryz.func25 rfl (fun w' hS => ?_)
   exact ⟨hS.ext, by rw [dpD, if_pos h1]; rfl⟩
  ·
   have h1 : chkD m [v, x] = 0 := by simpa using hc
   obtain ⟨hv, hys⟩ := chkD_zero.1 h1
   have hn1 := hv.n1
   have hn64 := hv.n64
   have hv0 := hys v (by simp)
   have hx0 := hys x (by simp)
   obtain ⟨n, hn⟩ : ∃ n : Nat, m.n = (n : Int) := ⟨m.n.toNat, by omega⟩
   obtain ⟨v, rfl⟩ : ∃ n : Nat, v = (n : Int) := ⟨v.toNat, by omega⟩
   obtain ⟨x, rfl⟩ : ∃ n : Nat, x = (n : Int) := ⟨x.toNat, by omega⟩
   have hD : dpD m (v : Int) (x : Int) = match dst n m.val m.rel v x with | none => (0, 6) | some k => ((k : Int), 0) := by rw [dpD, if_neg (by simp [h1]), hn]; rfl
   refine gK (gS (gR ?_))
   refine GoH.v (Vop.ldB rfl rfl rfl rfl Tryz.isAgg25 1 rfl Tryz.sizeOf25 rfl) ?_
   refine GoH.callM _ rfl rfl rfl rfl rfl (fun _ _ => Tryz.call32 _ _) (fun w _ hS => (by exact newMaker_c m n w (hT.ex hS.ext) (hm.ex0 hS.ext) hn hv)) ?_
   rintro u w1 w2 Y' hS he ⟨bk, mD, qA, capA, ps, spA, H, rfl, hnew, hqA, hpsI, hPs⟩
   refine ⟨_, hS.gainPre (pre := [_, _, _]) he hnew, ?_⟩
   iterate 2 refine gMv ?_
   refine GoH.callP rfl rfl rfl rfl rfl (fun _ _ => Tryz.call41 _ _) (fun w _ hS => (by exact mkdepth_c m n mD bk (qA.map (fun b => ⟨b, 0, none⟩)) capA ps v x w (mkr_st (H := H) hS (List.mem_cons_self ..) (List.mem_cons_of_mem _ (List.mem_cons_self ..)) (fun _ h => List.mem_append_right _ (List.mem_append_right _ h)) hqA hpsI (hm.ex0 hS.ext)) hPs (by omega) (by omega) (by omega) (by omega))) ?_
   refine gAs ?_
   refine gE (gS (gS (gR ?_)))
   refine gMv ?_
   refine gBi bLt ?_
   refine gE ?_
   refine GoH.cond rfl (fun hc => ?_) (fun hc => ?_)
   ·
    have h2 : dst n m.val m.rel v x = none := by
      cases h : dst n m.val m.rel v x with
      | none => rfl
      | some k => rw [h] at hc; have h3 := of_decide_eq_true hc; simp only [optI] at h3; omega
    refine gS (gR ?_)
    iterate 2 refine gAs ?_
    refine gE ?_
    refine GoH.ret Tryz.f25 Tryz.func25 rfl (fun w' hS => ?_)
    exact ⟨hS.ext, by rw [hD, h2]; rfl⟩
   ·
    obtain ⟨k, h2⟩ : ∃ k, dst n m.val m.rel v x = some k := by
      cases h : dst n m.val m.rel v x with
      | none => rw [h] at hc; simp [optI] at hc
      | some k => exact ⟨k, rfl⟩
    refine gK (gS (gR ?_))
    refine gMv ?_
    iterate 2 refine gAs ?_
    refine gE ?_
    refine GoH.ret Tryz.f25 Tryz.func25 rfl (fun w' hS => ?_)
    exact ⟨hS.ext, by rw [hD, h2]; rfl⟩
theorem limited_c (a : Option Addr) (ca : Nat) (f : List NV) (w : World) : Cn Tryz.prog 31 [.slice a f.length ca] w (fun v _ => v = .tuple #[if f = [] then .slice none 0 0 else .slice a f.length ca, .int .i64 (if f = [] then 8 else 0)]) := by
  refine Cn.of Tryz.func31 rfl rfl ?_
  refine gS (gR ?_)
  iterate 2 refine gAs ?_
  refine gE (gS (gS (gR ?_)))
  refine gMv ?_
  refine gBl Tryz.underlying26 ?_
  refine gBi bEq ?_
  refine gE ?_
  refine GoH.cond rfl (fun hc => ?_) (fun hc => ?_)
  ·
   have h0 : f = [] := List.eq_nil_of_length_eq_zero (by simpa using hc)
   refine gS (gR ?_)
   iterate 2 refine gAs ?_
   refine gE ?_
   refine GoH.ret Tryz.f31 Tryz.func31 rfl (fun w' hS => ?_)
   exact ⟨hS.ext, by rw [if_pos h0, if_pos h0]; rfl⟩
  ·
   have h0 : f ≠ [] := fun e => by rw [e] at hc; simp at hc
   refine gK (gS (gR ?_))
   refine gMv ?_
   iterate 2 refine gAs ?_
   refine gE ?_
   refine GoH.ret Tryz.f31 Tryz.func31 rfl (fun w' hS => ?_)
   exact ⟨hS.ext, by rw [if_neg h0, if_neg h0]; rfl⟩
/-- what Formula returns -/
def FormP (m : MV) (v x : Int) (f : List NV) (e : Int) : Prop :=
  ((dpD m v x).2 ≠ 0 ∧ f = [] ∧ e = (dpD m v x).2) ∨ ((dpD m v x).2 = 0 ∧ f = [] ∧ e = 8 ∧ 5 < m.n) ∨
    ((dpD m v x).2 = 0 ∧ e = 0 ∧ f ≠ [] ∧ ∃ (k : Nat) (t : Tr), dst m.n.toNat m.val m.rel v.toNat x.toNat = some k ∧ TellT m.n.toNat m.val m.rel v.toNat x.toNat k t ∧ f = bT t)
set_option maxRecDepth 4000 in
theorem dFormula_c (m : MV) (v x : Int) (w : World) (hT : Tab w) (hm : m.At w) : Cn Tryz.prog 14 [m.v, .int .i64 v, .int .i64 x] w (fun u w' => ∃ sv f e, u = .tuple #[sv, .int .i64 e] ∧ OwnN 54 w w' sv f ∧ FormP m v x f e) := by
  refine Cn.of Tryz.func14 rfl rfl ?_
  refine gS (gR ?_)
  refine GoH.bx rfl rfl rfl rfl (fun b3 => ?_)
  iterate 2 refine gAs ?_
  refine gE (gS (gS (gR ?_)))
  refine GoH.v (Vop.ldB rfl rfl rfl rfl Tryz.isAgg25 0 rfl Tryz.sizeOf25 rfl) ?_
  iterate 2 refine gMv ?_
  refine GoH.callP rfl rfl rfl rfl rfl (fun _ _ => Tryz.call25 _ _) (fun w _ hS => (by exact dDepth_c m v x w (hT.ex hS.ext) (hm.ex0 hS.ext))) ?_
  refine gMv ?_
  iterate 2 refine gEx ?_
  iterate 2 refine gAs ?_
  refine gE (gS (gR ?_))
  refine gMv ?_
  refine gBi bNe ?_
  refine gE ?_
  refine GoH.cond rfl (fun hc => ?_) (fun hc => ?_)
  ·
   have h1 : (dpD m v x).2 ≠ 0 := by simpa using hc
   refine gS (gR ?_)
   refine gMv ?_
   iterate 2 refine gAs ?_
   refine gE ?_
   refine GoH.ret Tryz.f14 Tryz.func14 rfl (fun w' hS => ?_)
   exact ⟨hS.ext, _, [], _, rfl, OwnN.nil0, .inl ⟨h1, rfl, rfl⟩⟩
  ·
   have h0 : (dpD m v x).2 = 0 := by simpa using hc
   have h1 : chkD m [v, x] = 0 := Classical.byContradiction (fun h => by rw [dpD, if_pos h] at h0; exact h h0)
   obtain ⟨hv, hys⟩ := chkD_zero.1 h1
   have hn1 := hv.n1
   have hn64 := hv.n64
   have hv0 := hys v (by simp)
   have hx0 := hys x (by simp)
   obtain ⟨n, hn⟩ : ∃ n : Nat, m.n = (n : Int) := ⟨m.n.toNat, by omega⟩
   obtain ⟨v, rfl⟩ : ∃ n : Nat, v = (n : Int) := ⟨v.toNat, by omega⟩
   obtain ⟨x, rfl⟩ : ∃ n : Nat, x = (n : Int) := ⟨x.toNat, by omega⟩
   obtain ⟨k, hd⟩ : ∃ k, dst n m.val m.rel v x = some k := by
     rw [dpD, if_neg (by simp [h1]), hn] at h0
     simp only [Int.toNat_natCast] at h0
     cases h : dst n m.val m.rel v x with
     | none => rw [h] at h0; exact absurd h0 (by decide)
     | some k => exact ⟨k, rfl⟩
   refine gK (gS (gR ?_))
   refine GoH.v (Vop.ldB rfl rfl rfl rfl Tryz.isAgg25 0 rfl Tryz.sizeOf25 rfl) ?_
   refine GoH.callM _ rfl rfl rfl rfl rfl (fun _ _ => Tryz.call32 _ _) (fun w _ hS => (by exact newMaker_c m n w (hT.ex hS.ext) (hm.ex0 hS.ext) hn hv)) ?_
   rintro u w1 w2 Y' hS he ⟨bk, mD, qA, capA, ps, spA, H, rfl, hnew, hqA, hpsI, hPs⟩
   refine ⟨_, hS.gainPre (pre := [_, _, _]) he hnew, ?_⟩
   iterate 2 refine gMv ?_
   refine GoH.pickT (pre := [_, _, _, _]) (pre' := [_, _, _, _]) H [2, 0, 1, 3] (by decide) rfl ?_
   refine GoH.subH (h' := mpH mD [] ++ ([(some bk, Obj.cells (mkrCs m mD (qA.map (fun b => ⟨b, 0, none⟩)) ps.length capA) 91 (0, 0)), (qA, ob IV.v 36 ps spA), (some b3, .cells m.v.cells 25 (0, 0))] ++ H)) (List.Sublist.refl _) ?_
   refine GoH.callS (h := mpH mD []) (fs := []) (cs := []) (fun _ u h' => ApPost n m.val m.rel mD v x k [] u h') rfl rfl rfl rfl rfl (fun _ _ => Tryz.call33 _ _) (fun w1 Y' hS => ?_) (fun w1 u h1 hR => ?_)
   · exact ap_ok hn hv hPs k v x w1 [] (by omega) (by omega) hd ⟨(hS.subH (List.Sublist.cons_cons _ (List.nil_sublist _))).has, mkr_st (H := H) hS (List.mem_cons_of_mem _ (List.mem_cons_self ..)) (List.mem_cons_of_mem _ (List.mem_cons_of_mem _ (List.mem_cons_self ..))) (fun _ h => List.mem_append_right _ (List.mem_append_right _ h)) hqA hpsI (hm.ex0 hS.ext), hT.ex hS.ext, (fun _ h => by cases h), Memo.nil⟩
   obtain ⟨fv, L2, F2, rfl, rfl, g2, hem⟩ := hR
   have hfo := g2.memo.get hd hem
   have hin := (g2.at_ _ hem).resolve_left (by simp)
   refine GoH.callP rfl rfl rfl rfl rfl (fun _ _ => Tryz.call31 _ _) (fun w _ hS => (by exact limited_c fv.a fv.c fv.f w)) ?_
   iterate 2 refine gEx ?_
   iterate 2 refine gAs ?_
   refine gE ?_
   refine GoH.ret Tryz.f14 Tryz.func14 rfl (fun w' hS => ?_)
   refine ⟨hS.ext, ?_⟩
   by_cases h5 : fv.f = []
   · rw [if_pos h5, if_pos h5]
     refine ⟨_, [], _, rfl, OwnN.nil0, .inr (.inl ⟨h0, rfl, rfl, ?_⟩)⟩
     rcases hfo with h | ⟨t, _, _, h⟩
     · have := h.2; omega
     · exact absurd h5 h
   · rw [if_neg h5, if_neg h5]
     refine ⟨_, fv.f, _, rfl, (hin.mono (fun _ h => List.mem_append_left _ (List.mem_append_right _ h))).own hS, .inr (.inr ⟨h0, rfl, h5, ?_⟩)⟩
     rcases hfo with h | ⟨t, ht, e, h⟩
     · exact absurd h.1 h5
     · rw [hn, Int.toNat_natCast, Int.toNat_natCast, Int.toNat_natCast]
       exact ⟨k, t, hd, ht, e⟩
end Go.Proofs.YthojdcaojjmoaaaGreatDoor
