/- What calls of the program return, under the conditions that each theorem states. -/
import Derived.Test.YtcljmlnnfdaljaaGreatDoorZ34
import Derived.Test.YtcljmlnnfdaljaaGreatDoorZ35
import Derived.Test.YtcljmlnnfdaljaaGreatDoorZ04
import Derived.Test.YtcljmlnnfdaljaaGreatDoorZ31
import Derived.Test.YtcljmlnnfdaljaaGreatDoorZ15
import Derived.Test.YtcljmlnnfdaljaaGreatDoorZ18
namespace Go.Proofs.YtcljmlnnfdaljaaGreatDoor
open Go.RowKit Go.Proofs.Wit
/-! a maker's formula for a pair -/
theorem alone_iff {n : Nat} {val : List W64} {rel : List (List W64)} {x k : Nat} {ys : List Nat} : aloneB n val rel x k ys = true ↔ ∀ y ∈ ys, ¬ PEq (psq n val rel k) x y := by
  unfold aloneB
  rw [List.all_eq_true]
  refine forall_congr' fun y => forall_congr' fun _ => ?_
  rw [← Bool.not_eq_false, apB_false]
theorem alone_dst {n : Nat} {val : List W64} {rel : List (List W64)} (hn : 1 ≤ n) (h64 : n ≤ 64) {x k : Nat} {ys : List Nat} (h : aloneB n val rel x k ys = true) (hl : ∀ y ∈ ys, y < n) : ∀ y ∈ ys, y < n ∧ ∃ j, j ≤ k ∧ dst n val rel x y = some j := fun y hy => by
  obtain ⟨j, h1, h2⟩ := dst_le (rel := rel) hn h64 (alone_iff.1 h y hy)
  exact ⟨hl y hy, j, h2, h1⟩
theorem pts_le {s : W64} {n : Nat} (h : ∀ i, s.getLsbD i = true → i < n) : (pts s).length ≤ n := by
  have := (pts_nodup s).length_le_of_subset (l₂ := List.range n) (fun i hi => List.mem_range.2 (h i (mem_pts.1 hi).2))
  simpa using this
/-- no pair of successors is apart a round before -/
def NoP (n : Nat) (val : List W64) (rel : List (List W64)) (k v x b : Nat) : Prop :=
  (∀ u ∈ pts ((rel.getD b []).getD v 0#64), aloneB n val rel u k (pts ((rel.getD b []).getD x 0#64)) = false) ∧ ∀ u ∈ pts ((rel.getD b []).getD x 0#64), aloneB n val rel u k (pts ((rel.getD b []).getD v 0#64)) = false
theorem noP_end {n : Nat} {val : List W64} {rel : List (List W64)} {v x k : Nat} (hv : v < n) (hx : x < n) (hn : 1 ≤ n) (h64 : n ≤ 64) (hlt : ∀ r ∈ rel, ∀ a b, Rl r a b → b < n) (h : dst n val rel v x = some (k + 1)) (hno : ∀ b, b < rel.length → NoP n val rel k v x b) : False := by
  obtain ⟨a, ha, h1⟩ := dst_succ hv hx hn h64 hlt h
  have hm : rel.getD a [] ∈ rel := by rw [List.getD_eq_getElem?_getD, List.getElem?_eq_getElem ha]; exact List.getElem_mem ha
  have key : ∀ {p q u : Nat}, Rl (rel.getD a []) p u → (∀ y, Rl (rel.getD a []) q y → ¬ PEq (psq n val rel k) u y) → u ∈ pts ((rel.getD a []).getD p 0#64) ∧ aloneB n val rel u k (pts ((rel.getD a []).getD q 0#64)) = true := fun hu hy => by
    have := hlt _ hm _ _ hu
    exact ⟨mem_pts.2 ⟨by omega, hu⟩, alone_iff.2 (fun y hy2 => hy y (mem_pts.1 hy2).2)⟩
  rcases h1 with ⟨u, hu, hy⟩ | ⟨u, hu, hy⟩
  · obtain ⟨k1, k2⟩ := key hu hy
    rw [(hno a ha).1 u k1] at k2; cases k2
  · obtain ⟨k1, k2⟩ := key hu hy
    rw [(hno a ha).2 u k1] at k2; cases k2
set_option maxRecDepth 8000 in
theorem make_of {m : MV} {n mD bk : Nat} {pa : Option Addr} {pc : Nat} {ps : List IV} {k : Nat} (hn : m.n = (n : Int)) (hvM : ValM m.n m.val m.rel) (hP : PsIs n m.val m.rel ps) (hA : ∀ j, k = j + 1 → AlOk m n mD bk pa pc ps j) : MkOk m n mD bk pa pc ps k := by
  intro v x w L hv hx hd hp
  have h64 := hvM.n64
  have hn1 := hvM.n1
  have hvN : ValM (n : Int) m.val m.rel := by rw [← hn]; exact hvM
  have hlt := val_lt hvN rfl
  have hrl : m.rel.length = m.rows.length := by simp [MV.rel]
  have hrg : ∀ a (h : a < m.rows.length), m.rel.getD a [] = m.rows[a].xs := fun a h => by simp [MV.rel, List.getD_eq_getElem?_getD, h]
  have hpl := hP.1
  have hag := hvM.agents
  have HB : ∀ {w' : World} {j : Nat} {v : Value}, Ex [mD] w w' → (mkrCs m mD pa ps.length pc)[j]? = some v → w'.cell? ⟨bk, j, none⟩ = some v := fun e h => Ex.cellS e (hp.mkr.ne hp.blk) hp.mkr.blk h
  have hkd : k ≤ dep n m.val m.rel := dst_lt (by omega) (by omega) hd
  have hdn := (dep_spec (val := m.val) (rels := m.rel) (n := n) (by omega) (by omega)).1
  refine CnS.of hp.has Tryz.func43 rfl rfl ?_
  rw [show blks (mpH mD L) = [mD] from rfl]
  refine gS (gR ?_)
  refine gAs ?_
  refine gE (gS (gR ?_))
  iterate 3 refine gMv ?_
  refine GoH.callP rfl rfl rfl rfl rfl (fun _ _ => Tryz.call23 _ _) (fun w _ hS => (by have := mkdepth_c m n mD bk pa pc ps v x w (hp.mkr.ex hp.blk hS.ext) hP hv hx (by omega) (by omega); rw [hd] at this; exact this)) ?_
  refine gAs ?_
  refine gE (gS (gS (gR ?_)))
  refine gMv ?_
  refine gBi bEq ?_
  refine gE ?_
  refine GoH.cond rfl (fun hc => ?_) (fun hc => ?_)
  ·
   have h0 : k = 0 := by simpa [optI] using hc
   subst h0
   refine gS (gR ?_)
   iterate 3 refine gMv ?_
   refine GoH.callM _ rfl rfl rfl rfl rfl (fun _ _ => Tryz.call62 _ _) (fun w _ hS => (by exact literal_c m n mD bk pa pc ps v x w (hp.mkr.ex hp.blk hS.ext) hn hvM hv hx hd)) ?_
   rintro u w1 w2 Y' hS he ⟨i, y, hi, hT, ho⟩
   obtain ⟨qf, capf, spf, rfl, hqf, hcapf, hS'⟩ := gainN hS he ho
   refine ⟨_, hS', ?_⟩
   refine gAs ?_
   refine gE ?_
   refine GoH.ret Tryz.f43 Tryz.func43 rfl (fun w' hS => ?_)
   exact ⟨_, ⟨⟨qf.map (fun b => ⟨b, 0, none⟩), capf, bT (litT i y)⟩, L, [(qf, obN 58 (bT (litT i y)) spf)], rfl, rfl, (Grew.refl hp.memo).mono (fun _ h => by cases h), ⟨qf, spf, List.mem_cons_self .., rfl, hqf, hcapf⟩, make_lit hT, bT_le _⟩, hS.swap2⟩
  ·
   have h0 : k ≠ 0 := by rintro rfl; simp [optI] at hc
   obtain ⟨k', rfl⟩ : ∃ k', k = k' + 1 := ⟨k - 1, by omega⟩
   have hAl := hA k' rfl
   refine gK (gS (gS (gR ?_)))
   refine gMv ?_
   refine gNk ?_
   refine gFp Tryz.underlying65 Tryz.sizeOf25 0 ?_
   refine gFp Tryz.underlying25 Tryz.sizeOf23 2 ?_
   refine GoH.v (Vop.ld (p := ⟨bk, 2, none⟩) rfl rfl rfl rfl Tryz.isAgg23 (fun w _ hS => HB hS.ext rfl)) ?_
   refine gBl Tryz.underlying23 ?_
   refine gMv ?_
   refine gE (gB ?_)
   refine GoH.loop (σ := Nat) (fun a => [(0, mpt bk), (1, .int .i64 v), (2, .int .i64 x), (7, .int .i64 ((k' + 1 : Nat) : Int)), (30, .slice m.ra m.rows.length m.rc), (31, .int .i64 m.rows.length), (32, .int .i64 a)]) (fun _ => [(some mD, mobj arr2 FV.v L)]) (fun a => a ≤ m.rows.length ∧ ∀ b, b < a → NoP n m.val m.rel k' v x b) (fun a => m.rows.length - a) 0 ⟨Nat.zero_le _, fun _ h => absurd h (Nat.not_lt_zero _)⟩ ⟨rfl, rfl, rfl, rfl, rfl, rfl, rfl, trivial⟩ (List.Sublist.refl _) (fun a hI IH => ?_)
   obtain ⟨hal, hno⟩ := hI
   refine gS (gR ?_)
   refine gBi bLt ?_
   refine gE (gS ?_)
   refine GoH.cond rfl (fun hc => ?_) (fun hc => ?_)
   ·
    have hla : a < m.rows.length := by simpa using hc
    have hrow := hp.mkr.mod.row m.rows[a] (List.getElem_mem hla)
    have hrm : m.rows[a].xs ∈ m.rel := List.mem_map.2 ⟨m.rows[a], List.getElem_mem hla, rfl⟩
    have hrlen := hvM.len _ hrm
    have hvl : v < m.rows[a].xs.length := by omega
    have hxl : x < m.rows[a].xs.length := by omega
    have hga := hrg a hla
    have hpv : ∀ i, (m.rows[a].xs.getD v 0#64).getLsbD i = true → i < n := fun i hi => hlt _ hrm v i hi
    have hpx : ∀ i, (m.rows[a].xs.getD x 0#64).getLsbD i = true → i < n := fun i hi => hlt _ hrm x i hi
    obtain ⟨rv, hrv⟩ : ∃ rv, rv = m.rows[a].xs.getD v 0#64 := ⟨_, rfl⟩
    obtain ⟨rx, hrx⟩ : ∃ rx, rx = m.rows[a].xs.getD x 0#64 := ⟨_, rfl⟩
    rw [← hrv] at hpv
    rw [← hrx] at hpx
    refine gK (gS (gB (gS (gR ?_))))
    refine gMv ?_
    refine GoH.v (Vop.idx (xs := m.rows.map Row.v) rfl rfl rfl rfl rfl Tryz.underlying23 Tryz.sizeOf22 ⟨_, hp.mkr.mod.rel⟩ (by simp) a ⟨rfl, by simpa using hla⟩) ?_
    refine GoH.v (Vop.ld rfl rfl rfl rfl Tryz.isAgg22 (fun w _ hS => (Sl.at (Sl.exM hp.blk hp.mkr.mod.rel hS.ext) a hla))) ?_
    iterate 2 refine gAs ?_
    refine gE (gS ?_)
    refine GoH.drawXR [0, 1, 2, 3, 5, 6, 7, 8] 4 [9, 10, 11] mixed rfl ?_
    iterate 2 refine RdXR.v (fun _ => (Vop.mv rfl rfl rfl rfl)) ?_
    refine RdXR.v (fun _ => (by exact Vop.idx (xs := m.rows[a].xs.map U) rfl rfl rfl rfl rfl Tryz.underlying22 Tryz.sizeOf36 ⟨_, hrow.at_⟩ (by simp) v ⟨rfl, by simpa using hvl⟩)) ?_
    refine RdXR.v (fun _ => (Vop.ld rfl rfl rfl rfl Tryz.isAgg36 (fun w _ hS => (by have := SlU.at (Sl.exM hp.blk hrow.at_ hS.ext) v hvl; rw [← hrv] at this; exact this)))) ?_
    iterate 2 refine RdXR.v (fun _ => (Vop.mv rfl rfl rfl rfl)) ?_
    refine RdXR.v (fun _ => (by exact Vop.idx (xs := m.rows[a].xs.map U) rfl rfl rfl rfl rfl Tryz.underlying22 Tryz.sizeOf36 ⟨_, hrow.at_⟩ (by simp) x ⟨rfl, by simpa using hxl⟩)) ?_
    refine RdXR.v (fun _ => (Vop.ld rfl rfl rfl rfl Tryz.isAgg36 (fun w _ hS => (by have := SlU.at (Sl.exM hp.blk hrow.at_ hS.ext) x hxl; rw [← hrx] at this; exact this)))) ?_
    refine RdXR.call _ rfl rfl rfl rfl rfl (fun _ _ => Tryz.call63 _ _) (fun w _ hS => (by exact members_c21 rv w (hp.tabE hS.ext))) ?_
    rintro u w1 w2 Y' hS he ho
    obtain ⟨qx, capx, spx, rfl, hqx, hcapx, hS'⟩ := gainS hS he ho
    refine ⟨_, hS'.atEnd, ?_⟩
    refine GoH.callM _ rfl rfl rfl rfl rfl (fun _ _ => Tryz.call63 _ _) (fun w _ hS => (by exact members_c21 rx w (hp.tabE hS.ext))) ?_
    rintro u w1 w2 Y' hS he ho
    obtain ⟨qy, capy, spy, rfl, hqy, hcapy, hS'⟩ := gainS hS he ho
    refine ⟨_, hS', ?_⟩
    iterate 2 refine gAs ?_
    refine gE (gS (gS (gR ?_)))
    refine gMv ?_
    refine gBl Tryz.underlying49 ?_
    refine gMv ?_
    refine gE (gB ?_)
    have hlx := pts_le hpv
    have hly := pts_le hpx
    obtain ⟨xs, hxs⟩ : ∃ xs, xs = pts rv := ⟨_, rfl⟩
    obtain ⟨ys, hys⟩ : ∃ ys, ys = pts rx := ⟨_, rfl⟩
    have hxn : ∀ u ∈ xs, u < n := fun u hu => hpv u (by rw [hxs] at hu; exact (mem_pts.1 hu).2)
    have hyn : ∀ u ∈ ys, u < n := fun u hu => hpx u (by rw [hys] at hu; exact (mem_pts.1 hu).2)
    rw [← hxs] at hqx hcapx hlx ⊢
    rw [← hys] at hqy hcapy hly ⊢
    have hzx : (zI xs).length = xs.length := by simp
    have hzy : (zI ys).length = ys.length := by simp
    have hRv : ∀ u, Rl (m.rel.getD a []) v u → u ∈ xs := fun u hu => by
      rw [hga] at hu
      have := hlt _ hrm _ _ hu
      rw [hxs, hrv]; exact mem_pts.2 ⟨by omega, hu⟩
    have hRx : ∀ u, Rl (m.rel.getD a []) x u → u ∈ ys := fun u hu => by
      rw [hga] at hu
      have := hlt _ hrm _ _ hu
      rw [hys, hrx]; exact mem_pts.2 ⟨by omega, hu⟩
    have hVr : ∀ u ∈ xs, Rl (m.rel.getD a []) v u := fun u hu => by rw [hga]; rw [hxs, hrv] at hu; exact (mem_pts.1 hu).2
    have hXr : ∀ u ∈ ys, Rl (m.rel.getD a []) x u := fun u hu => by rw [hga]; rw [hys, hrx] at hu; exact (mem_pts.1 hu).2
    refine GoH.pick (pre' := [(some mD, mobj arr2 FV.v L), (qx, ob I64 3 (zI xs) spx), (qy, ob I64 3 (zI ys) spy)]) [1, 2, 0] (by decide) rfl ?_
    refine GoH.loop (σ := Nat) (fun i => [(0, mpt bk), (1, .int .i64 v), (2, .int .i64 x), (7, .int .i64 ((k' + 1 : Nat) : Int)), (8, .int .i64 a), (10, osv qx (zI xs).length capx), (11, osv qy (zI ys).length capy), (30, .slice m.ra m.rows.length m.rc), (31, .int .i64 m.rows.length), (32, .int .i64 a), (47, osv qx (zI xs).length capx), (48, .int .i64 (zI xs).length), (49, .int .i64 i)]) (fun _ => [(some mD, mobj arr2 FV.v L), (qx, ob I64 3 (zI xs) spx), (qy, ob I64 3 (zI ys) spy)]) (fun i => i ≤ xs.length ∧ ∀ j (h : j < xs.length), j < i → aloneB n m.val m.rel xs[j] k' ys = false) (fun i => xs.length - i) 0 ⟨Nat.zero_le _, fun _ _ h => absurd h (Nat.not_lt_zero _)⟩ ⟨rfl, rfl, rfl, rfl, rfl, rfl, rfl, rfl, rfl, rfl, rfl, rfl, rfl, trivial⟩ (List.Sublist.refl _) (fun i hI IH1 => ?_)
    obtain ⟨hil, hnx⟩ := hI
    refine gS (gR ?_)
    refine gBi bLt ?_
    refine gE (gS ?_)
    refine GoH.cond rfl (fun hc => ?_) (fun hc => ?_)
    ·
     have hlti : i < (zI xs).length := by simpa using hc
     have hlti2 : i < xs.length := by omega
     have hzi : (zI xs).getD i 0 = ((xs[i] : Nat) : Int) := by simp [List.getD_eq_getElem?_getD, hlti2]
     have hun := hxn xs[i] (List.getElem_mem hlti2)
     obtain ⟨bx, rfl⟩ : ∃ b, qx = some b := by
       cases qx with
       | none => have := (hqx rfl).1; omega
       | some b => exact ⟨b, rfl⟩
     refine gK (gS (gB (gS (gR ?_))))
     refine GoH.v (Vop.idxS rfl rfl rfl rfl rfl Tryz.underlying49 Tryz.sizeOf3 (i) ⟨rfl, hlti⟩) ?_
     refine GoH.v (Vop.ldE I64 0 rfl rfl rfl rfl Tryz.isAgg3 1 rfl hlti) ?_
     refine gAs ?_
     refine gE (gS (gR ?_))
     iterate 4 refine gMv ?_
     refine GoH.v (Vop.bin rfl rfl rfl rfl (bSubE (c := (k' : Int)) (by omega) (by omega)) rfl) ?_
     refine GoH.callP rfl rfl rfl rfl rfl (fun _ _ => Tryz.call64 _ _) (fun w _ hS => (by have := alone_c m n mD bk pa pc ps xs[i] (qy.map (fun b => ⟨b, 0, none⟩)) capy ys k' w (hp.mkr.ex hp.blk hS.ext) hP hun (sliAt hS 2 rfl (fun e => (hqy e).1)) hyn (by unfold maxLen; omega) (by omega); rw [← hzi] at this; exact this)) ?_
     refine gE ?_
     refine GoH.cond rfl (fun hc => ?_) (fun hc => ?_)
     ·
      have hdl := alone_dst (by omega) (by omega) hc hyn
      refine gS (gR ?_)
      iterate 4 refine gMv ?_
      rw [hzi]
      refine GoH.subH (h' := mpH mD L ++ [(some bx, ob I64 3 (zI xs) spx), (qy, ob I64 3 (zI ys) spy)]) (List.Sublist.refl _) ?_
      refine GoH.callS (h := mpH mD L) (hF := [(some bx, ob I64 3 (zI xs) spx), (qy, ob I64 3 (zI ys) spy)]) (fs := []) (cs := []) (fun _ u h' => AlPost n m.val m.rel mD xs[i] k' ys L u h') rfl rfl rfl rfl rfl (fun _ _ => Tryz.call36 _ _) (fun w1 Y' hS => ?_) (fun w1 u h1 hR => ?_)
      · exact hAl xs[i] (qy.map (fun b => ⟨b, 0, none⟩)) capy ys w1 L hun (sliAt hS 2 rfl (fun e => (hqy e).1)) (by omega) hdl (hp.step hS (List.Sublist.cons_cons _ (List.nil_sublist _)) (fun _ h => by cases h) (Grew.refl (d := 0) hp.memo))
      obtain ⟨fv, L2, F2, rfl, rfl, g2, hin, hall, hfl⟩ := hR
      have hmk := make_poss hvN hv hx (by omega) (hVr _ (List.getElem_mem hlti2)) hRx hly hall
      refine GoH.permH (h' := [(some mD, mobj arr2 FV.v L2), (some bx, ob I64 3 (zI xs) spx), (qy, ob I64 3 (zI ys) spy)] ++ F2) perm_mid2 ?_
      refine GoH.callM _ rfl rfl rfl rfl rfl (fun _ _ => Tryz.call65 _ _) (fun w _ hS => (by exact poss_c (a : Int) fv.a fv.c fv.f w ((hin.mono (fun _ h => List.mem_cons_of_mem _ (List.mem_cons_of_mem _ (List.mem_cons_of_mem _ h)))).at hS) (by unfold maxLen; omega))) ?_
      rintro u w1 w2 Y' hS he ho
      obtain ⟨qf, capf, spf, rfl, hqf, hcapf, hS'⟩ := gainN hS he ho
      refine ⟨_, hS', ?_⟩
      refine gAs ?_
      refine gE ?_
      refine GoH.ret Tryz.f43 Tryz.func43 rfl (fun w' hS => ?_)
      exact ⟨_, ⟨⟨qf.map (fun b => ⟨b, 0, none⟩), capf, bldF ⟨10, (a : Int), 0, 0, 0, 0⟩ [fv.f]⟩, L2, (qf, obN 58 (bldF ⟨10, (a : Int), 0, 0, 0, 0⟩ [fv.f]) spf) :: (some bx, ob I64 3 (zI xs) spx) :: (qy, ob I64 3 (zI ys) spy) :: F2, rfl, rfl, g2.mono (fun _ h => List.mem_cons_of_mem _ (List.mem_cons_of_mem _ (List.mem_cons_of_mem _ h))), ⟨qf, spf, List.mem_cons_self .., rfl, hqf, hcapf⟩, hmk, bldF_le _ _⟩, hS.swap2⟩
     ·
      have hna : aloneB n m.val m.rel xs[i] k' ys = false := hc
      refine gK (gIb (gR ?_))
      refine GoH.v (Vop.bin rfl rfl rfl rfl (bAdd (by omega)) rfl) ?_
      refine gMv ?_
      refine gE ?_
      exact IH1 (i + 1) _ _ ⟨hlti2, fun j hj hji => by rcases Nat.lt_succ_iff_lt_or_eq.1 hji with h | rfl; exact hnx j hj h; exact hna⟩ (by omega) ⟨rfl, rfl, rfl, rfl, rfl, rfl, rfl, rfl, rfl, rfl, rfl, rfl, rfl, trivial⟩ (List.Sublist.refl _)
    ·
     have hge : ¬ i < (zI xs).length := by simpa using hc
     obtain rfl : i = xs.length := by omega
     refine GoH.exit rfl (gS (gR ?_))
     refine gMv ?_
     refine gBl Tryz.underlying49 ?_
     refine gMv ?_
     refine gE (gB ?_)
     refine GoH.loop (σ := Nat) (fun i => [(0, mpt bk), (1, .int .i64 v), (2, .int .i64 x), (7, .int .i64 ((k' + 1 : Nat) : Int)), (8, .int .i64 a), (10, osv qx (zI xs).length capx), (11, osv qy (zI ys).length capy), (30, .slice m.ra m.rows.length m.rc), (31, .int .i64 m.rows.length), (32, .int .i64 a), (66, osv qy (zI ys).length capy), (67, .int .i64 (zI ys).length), (68, .int .i64 i)]) (fun _ => [(some mD, mobj arr2 FV.v L), (qx, ob I64 3 (zI xs) spx), (qy, ob I64 3 (zI ys) spy)]) (fun i => i ≤ ys.length ∧ ∀ j (h : j < ys.length), j < i → aloneB n m.val m.rel ys[j] k' xs = false) (fun i => ys.length - i) 0 ⟨Nat.zero_le _, fun _ _ h => absurd h (Nat.not_lt_zero _)⟩ ⟨rfl, rfl, rfl, rfl, rfl, rfl, rfl, rfl, rfl, rfl, rfl, rfl, rfl, trivial⟩ (List.Sublist.refl _) (fun i hI IH2 => ?_)
     obtain ⟨hil2, hny⟩ := hI
     refine gS (gR ?_)
     refine gBi bLt ?_
     refine gE (gS ?_)
     refine GoH.cond rfl (fun hc => ?_) (fun hc => ?_)
     ·
      have hlti : i < (zI ys).length := by simpa using hc
      have hlti2 : i < ys.length := by omega
      have hzi : (zI ys).getD i 0 = ((ys[i] : Nat) : Int) := by simp [List.getD_eq_getElem?_getD, hlti2]
      have hun := hyn ys[i] (List.getElem_mem hlti2)
      obtain ⟨bY, rfl⟩ : ∃ b, qy = some b := by
        cases qy with
        | none => have := (hqy rfl).1; omega
        | some b => exact ⟨b, rfl⟩
      refine gK (gS (gB (gS (gR ?_))))
      refine GoH.v (Vop.idxS rfl rfl rfl rfl rfl Tryz.underlying49 Tryz.sizeOf3 (i) ⟨rfl, hlti⟩) ?_
      refine GoH.v (Vop.ldE I64 0 rfl rfl rfl rfl Tryz.isAgg3 2 rfl hlti) ?_
      refine gAs ?_
      refine gE (gS (gR ?_))
      iterate 4 refine gMv ?_
      refine GoH.v (Vop.bin rfl rfl rfl rfl (bSubE (c := (k' : Int)) (by omega) (by omega)) rfl) ?_
      refine GoH.callP rfl rfl rfl rfl rfl (fun _ _ => Tryz.call64 _ _) (fun w _ hS => (by have := alone_c m n mD bk pa pc ps ys[i] (qx.map (fun b => ⟨b, 0, none⟩)) capx xs k' w (hp.mkr.ex hp.blk hS.ext) hP hun (sliAt hS 1 rfl (fun e => (hqx e).1)) hxn (by unfold maxLen; omega) (by omega); rw [← hzi] at this; exact this)) ?_
      refine gE ?_
      refine GoH.cond rfl (fun hc => ?_) (fun hc => ?_)
      ·
       have hdl := alone_dst (by omega) (by omega) hc hxn
       refine gS (gR ?_)
       iterate 4 refine gMv ?_
       rw [hzi]
       refine GoH.subH (h' := mpH mD L ++ [(qx, ob I64 3 (zI xs) spx), (some bY, ob I64 3 (zI ys) spy)]) (List.Sublist.refl _) ?_
       refine GoH.callS (h := mpH mD L) (hF := [(qx, ob I64 3 (zI xs) spx), (some bY, ob I64 3 (zI ys) spy)]) (fs := []) (cs := []) (fun _ u h' => AlPost n m.val m.rel mD ys[i] k' xs L u h') rfl rfl rfl rfl rfl (fun _ _ => Tryz.call36 _ _) (fun w1 Y' hS => ?_) (fun w1 u h1 hR => ?_)
       · exact hAl ys[i] (qx.map (fun b => ⟨b, 0, none⟩)) capx xs w1 L hun (sliAt hS 1 rfl (fun e => (hqx e).1)) (by omega) hdl (hp.step hS (List.Sublist.cons_cons _ (List.nil_sublist _)) (fun _ h => by cases h) (Grew.refl (d := 0) hp.memo))
       obtain ⟨fv, L2, F2, rfl, rfl, g2, hin, hall, hfl⟩ := hR
       have hmk := make_dual hvN hv hx (by omega) (hXr _ (List.getElem_mem hlti2)) hRv hlx hall
       refine GoH.permH (h' := [(some mD, mobj arr2 FV.v L2), (qx, ob I64 3 (zI xs) spx), (some bY, ob I64 3 (zI ys) spy)] ++ F2) perm_mid2 ?_
       refine GoH.callM _ rfl rfl rfl rfl rfl (fun _ _ => Tryz.call65 _ _) (fun w _ hS => (by exact poss_c (a : Int) fv.a fv.c fv.f w ((hin.mono (fun _ h => List.mem_cons_of_mem _ (List.mem_cons_of_mem _ (List.mem_cons_of_mem _ h)))).at hS) (by unfold maxLen; omega))) ?_
       rintro u w1 w2 Y' hS he ho
       obtain ⟨qf, capf, spf, rfl, hqf, hcapf, hS'⟩ := gainN hS he ho
       refine ⟨_, hS', ?_⟩
       refine GoH.callM _ rfl rfl rfl rfl rfl (fun _ _ => Tryz.call66 _ _) (fun w _ hS => (by exact not_c (qf.map (fun b => ⟨b, 0, none⟩)) capf _ w (faAt hS 0 rfl (fun e => (hqf e).1)) (by have := bldF_le ⟨10, (a : Int), 0, 0, 0, 0⟩ [fv.f]; unfold maxLen; omega))) ?_
       rintro u w1 w2 Y' hS he ho
       obtain ⟨qg, capg, spg, rfl, hqg, hcapg, hS'⟩ := gainN hS he ho
       refine ⟨_, hS', ?_⟩
       refine gAs ?_
       refine gE ?_
       refine GoH.ret Tryz.f43 Tryz.func43 rfl (fun w' hS => ?_)
       refine ⟨_, ⟨⟨qg.map (fun b => ⟨b, 0, none⟩), capg, bldF ⟨4, 0, 0, 0, 0, 0⟩ [bldF ⟨10, (a : Int), 0, 0, 0, 0⟩ [fv.f]]⟩, L2, (qg, obN 58 (bldF ⟨4, 0, 0, 0, 0, 0⟩ [bldF ⟨10, (a : Int), 0, 0, 0, 0⟩ [fv.f]]) spg) :: (qx, ob I64 3 (zI xs) spx) :: (some bY, ob I64 3 (zI ys) spy) :: F2, rfl, rfl, g2.mono (fun _ h => List.mem_cons_of_mem _ (List.mem_cons_of_mem _ (List.mem_cons_of_mem _ h))), ⟨qg, spg, List.mem_cons_self .., rfl, hqg, hcapg⟩, hmk, bldF_le _ _⟩, ?_⟩
       exact (hS.subH (.cons_cons _ (.cons _ (List.Sublist.refl _)))).swap2
      ·
       have hna : aloneB n m.val m.rel ys[i] k' xs = false := hc
       refine gK (gIb (gR ?_))
       refine GoH.v (Vop.bin rfl rfl rfl rfl (bAdd (by omega)) rfl) ?_
       refine gMv ?_
       refine gE ?_
       exact IH2 (i + 1) _ _ ⟨hlti2, fun j hj hji => by rcases Nat.lt_succ_iff_lt_or_eq.1 hji with h | rfl; exact hny j hj h; exact hna⟩ (by omega) ⟨rfl, rfl, rfl, rfl, rfl, rfl, rfl, rfl, rfl, rfl, rfl, rfl, rfl, trivial⟩ (List.Sublist.refl _)
     ·
      have hge : ¬ i < (zI ys).length := by simpa using hc
      obtain rfl : i = ys.length := by omega
      refine GoH.exit rfl (gIb (gR ?_))
      refine GoH.v (Vop.bin rfl rfl rfl rfl (bAdd (by omega)) rfl) ?_
      refine gMv ?_
      refine gE ?_
      refine IH (a + 1) _ _ ⟨hla, fun b hb => ?_⟩ (by omega) ⟨rfl, rfl, rfl, rfl, rfl, rfl, rfl, trivial⟩ (.cons_cons _ (List.nil_sublist _))
      rcases Nat.lt_succ_iff_lt_or_eq.1 hb with h | rfl
      · exact hno b h
      · unfold NoP
        rw [hga, ← hrv, ← hrx, ← hxs, ← hys]
        refine ⟨fun u hu => ?_, fun u hu => ?_⟩
        · obtain ⟨j, hj, rfl⟩ := List.mem_iff_getElem.1 hu
          exact hnx j hj hj
        · obtain ⟨j, hj, rfl⟩ := List.mem_iff_getElem.1 hu
          exact hny j hj hj
   ·
    have hge : ¬ a < m.rows.length := by simpa using hc
    obtain rfl : a = m.rows.length := by omega
    exact (noP_end hv hx (by omega) (by omega) hlt hd (fun b hb => hno b (by omega))).elim
end Go.Proofs.YtcljmlnnfdaljaaGreatDoor
namespace Go.Proofs.YtcljmlnnfdaljaaGreatDoor
open Go.RowKit Go.Proofs.Wit
/-! a maker's memo -/
set_option maxRecDepth 8000 in
theorem apart_of {m : MV} {n mD bk : Nat} {pa : Option Addr} {pc : Nat} {ps : List IV} {k : Nat} (hM : MkOk m n mD bk pa pc ps k) : ApOk m n mD bk pa pc ps k := by
  intro v x w L hv hx hd hp
  have hK : KeyOk Tryz.prog 71 arr2 mq := KeyOk.arr2 Tryz.underlying71 Tryz.underlying3 Tryz.sizeOf3 Tryz.isAgg3
  have HB : ∀ {w' : World} {j : Nat} {v : Value}, Ex [mD] w w' → (mkrCs m mD pa ps.length pc)[j]? = some v → w'.cell? ⟨bk, j, none⟩ = some v := fun e h => Ex.cellS e (hp.mkr.ne hp.blk) hp.mkr.blk h
  refine CnS.of hp.has Tryz.func27 rfl rfl ?_
  rw [show blks (mpH mD L) = [mD] from rfl]
  refine gS (gR ?_)
  refine gAs ?_
  refine gE (gS (gR ?_))
  iterate 2 refine gMv ?_
  refine GoH.v (Vop.bld (ps := [(0, .int .i64 v), (1, .int .i64 x)]) rfl rfl rfl rfl (bldA (c := [_, _]) Tryz.underlying71 Tryz.sizeOf3 Tryz.zeroValue71 rfl)) ?_
  refine GoH.alc rfl rfl rfl (fun _ => Tryz.zeroValue71 _) (fun b7 => ?_)
  refine GoH.stB rfl rfl rfl rfl Tryz.sizeOf71 0 rfl rfl rfl rfl ?_
  refine gE (gS (gS ?_))
  refine GoH.draw 11 mixed rfl ?_
  refine rMv ?_
  refine rNk ?_
  refine rFp Tryz.underlying65 Tryz.sizeOf62 3 ?_
  refine RdGo.v (Vop.ld (p := ⟨bk, 3, none⟩) rfl rfl rfl rfl Tryz.isAgg62 (fun w _ hS => HB hS.ext rfl)) ?_
  refine RdGo.v (Vop.ldB rfl rfl rfl rfl Tryz.isAgg71 0 rfl Tryz.sizeOf71 rfl) ?_
  refine RdGo.v (Vop.lkup (ev := FV.v) (a := ((v : Int), (x : Int))) (z := .slice none 0 0) (L := L) hK rfl rfl rfl rfl rfl Tryz.underlying62 (fun _ => Tryz.zeroValue31 _) 1 rfl) ?_
  refine rMv ?_
  iterate 2 refine rEx ?_
  iterate 2 refine rAs ?_
  refine RdGo.nil ?_
  refine gE (gS (gR ?_))
  refine gMv ?_
  refine gE ?_
  refine GoH.cond rfl (fun hc => ?_) (fun hc => ?_)
  ·
   obtain ⟨fv, hfv⟩ : ∃ fv, mget mq L ((v : Int), (x : Int)) = some fv := by
     cases h : mget mq L ((v : Int), (x : Int)) with
     | none => rw [h] at hc; simp at hc
     | some fv => exact ⟨fv, rfl⟩
   refine gS (gR ?_)
   refine gMv ?_
   refine gAs ?_
   refine gE ?_
   refine GoH.ret Tryz.f27 Tryz.func27 rfl (fun w' hS => ?_)
   exact ⟨_, ⟨fv, L, [(some b7, .cells #[.int .i64 v, .int .i64 x] 71 (0, 0))], by rw [hfv]; rfl, rfl, (Grew.refl hp.memo).mono (fun _ h => by cases h), mget_mem hfv⟩, hS.swap2⟩
  ·
   have hno : mget mq L ((v : Int), (x : Int)) = none := by
     cases h : mget mq L ((v : Int), (x : Int)) with
     | none => rfl
     | some fv => rw [h] at hc; simp at hc
   refine gK (gS (gR ?_))
   iterate 3 refine gMv ?_
   refine GoH.pick (pre' := mpH mD L ++ [(some b7, .cells #[.int .i64 v, .int .i64 x] 71 (0, 0))]) [1, 0] (by decide) rfl ?_
   refine GoH.callS (h := mpH mD L) (hF := [(some b7, .cells #[.int .i64 v, .int .i64 x] 71 (0, 0))]) (fs := []) (cs := []) (fun _ u h' => MkPost n m.val m.rel mD v x k L u h') rfl rfl rfl rfl rfl (fun _ _ => Tryz.call43 _ _) (fun w1 Y' hS => ?_) (fun w1 u h1 hR => ?_)
   · exact hM v x w1 L hv hx hd (hp.step hS (List.Sublist.cons_cons _ (List.nil_sublist _)) (fun _ h => by cases h) (Grew.refl (d := 0) hp.memo))
   obtain ⟨fv, L2, F2, rfl, rfl, g2, hin, hmk, hfl⟩ := hR
   have hkey := g2.key hd (Nat.le_refl _) (mget_nomem.1 hno)
   have hno2 := mget_nomem.2 hkey
   obtain ⟨hadd, hfo⟩ := g2.memo.add hv hx hd hkey hmk
   refine GoH.permH (h' := [(some mD, mobj arr2 FV.v L2), (some b7, .cells #[.int .i64 v, .int .i64 x] 71 (0, 0))] ++ (F2 ++ [])) (by have := perm_mid (a := (some mD, mobj arr2 FV.v L2)) (c := (some b7, .cells #[.int .i64 v, .int .i64 x] 71 (0, 0))) (F := F2) (G := []); exact this) ?_
   rw [List.append_nil]
   refine gAs ?_
   refine gE (gS ?_)
   refine GoH.draw 6 mixed rfl ?_
   refine rMv ?_
   refine rNk ?_
   refine rFp Tryz.underlying65 Tryz.sizeOf62 3 ?_
   refine RdGo.v (Vop.ld (p := ⟨bk, 3, none⟩) rfl rfl rfl rfl Tryz.isAgg62 (fun w _ hS => HB hS.ext rfl)) ?_
   refine RdGo.v (Vop.ldB rfl rfl rfl rfl Tryz.isAgg71 1 rfl Tryz.sizeOf71 rfl) ?_
   refine rMv ?_
   refine RdGo.nil ?_
   refine GoH.mapIns hK rfl (.inl rfl) rfl rfl rfl (a := ((v : Int), (x : Int))) (v := fv) rfl rfl Tryz.underlying62 0 rfl hno2 ?_
   refine gE (gS (gR ?_))
   refine gMv ?_
   refine gAs ?_
   refine gE ?_
   refine GoH.ret Tryz.f27 Tryz.func27 rfl (fun w' hS => ?_)
   refine ⟨_, ⟨fv, L2 ++ [(((v : Int), (x : Int)), fv)], (some b7, .cells #[.int .i64 v, .int .i64 x] 71 (0, 0)) :: F2, rfl, rfl, ⟨hadd, fun _ h => List.mem_append_left _ (g2.sub h), fun e he => ?_, fun e he => ?_⟩, by simp⟩, hS⟩
   · rcases List.mem_append.1 he with he | he
     · rcases g2.nw e he with h | ⟨a, b, i, h1, h2, h3⟩
       · exact .inl h
       · exact .inr ⟨a, b, i, h1, h2, by omega⟩
     · rw [List.mem_singleton.1 he]; exact .inr ⟨v, x, k, rfl, hd, by omega⟩
   · rcases List.mem_append.1 he with he | he
     · exact (g2.at_ e he).imp id (fun h => h.mono (fun _ h => List.mem_cons_of_mem _ h))
     · rw [List.mem_singleton.1 he]; exact .inr (hin.mono (fun _ h => List.mem_cons_of_mem _ h))
section
variable {m : MV} {n mD bk : Nat} {pa : Option Addr} {pc : Nat} {ps : List IV}
theorem ap_ok (hn : m.n = (n : Int)) (hvM : ValM m.n m.val m.rel) (hP : PsIs n m.val m.rel ps) : ∀ k, ApOk m n mD bk pa pc ps k := by
  intro k
  induction k using Nat.strongRecOn with
  | _ k ih => exact apart_of (make_of hn hvM hP (fun j hj => all_of (fun i hi => ih i (by omega))))
theorem al_ok (hn : m.n = (n : Int)) (hvM : ValM m.n m.val m.rel) (hP : PsIs n m.val m.rel ps) (k : Nat) : AlOk m n mD bk pa pc ps k := all_of (fun j _ => ap_ok hn hvM hP j)
end
end Go.Proofs.YtcljmlnnfdaljaaGreatDoor
namespace Go.Proofs.YtcljmlnnfdaljaaGreatDoor
open Go.RowKit Go.Proofs.Wit
/-! Depth, Formula, Characteristic -/
def chkD (m : MV) (ys : List Int) : Int := if checkM m.n m.val m.rel ≠ 0 then checkM m.n m.val m.rel else if ys.any (fun y => decide (y < 0) || decide (m.n ≤ y)) then 2 else 0
theorem chkD_zero {m : MV} {ys : List Int} : chkD m ys = 0 ↔ ValM m.n m.val m.rel ∧ ∀ y ∈ ys, 0 ≤ y ∧ y < m.n := by
  unfold chkD
  by_cases h : checkM m.n m.val m.rel = 0
  · rw [if_neg (by simp [h])]
    have hv := checkM_zero.1 h
    by_cases h2 : ys.any (fun y => decide (y < 0) || decide (m.n ≤ y)) = true
    · rw [if_pos h2]
      simp only [List.any_eq_true, Bool.or_eq_true, decide_eq_true_eq] at h2
      obtain ⟨y, hy, h3⟩ := h2
      exact ⟨fun e => absurd e (by decide), fun e => absurd (e.2 y hy) (by omega)⟩
    · rw [if_neg h2]
      simp only [List.any_eq_true, Bool.or_eq_true, decide_eq_true_eq, not_exists, not_and] at h2
      exact ⟨fun _ => ⟨hv, fun y hy => by have := h2 y hy; omega⟩, fun _ => rfl⟩
  · rw [if_pos h]
    exact ⟨fun e => absurd e h, fun e => absurd (checkM_zero.2 e.1) h⟩
set_option maxRecDepth 4000 in
theorem dcheck_c (m : MV) (la : Option Addr) (lc : Nat) (ys : List Int) (w : World) (hm : m.At w) (hl : SlI w la ys) (hyl : ys.length ≤ maxLen) : Cn Tryz.prog 21 [m.v, .slice la ys.length lc] w (fun v _ => v = .int .i64 (chkD m ys)) := by
  unfold maxLen at hyl
  refine Cn.of Tryz.func21 rfl rfl ?_
  refine gS (gR ?_)
  refine GoH.bx rfl rfl rfl rfl (fun b2 => ?_)
  refine gAs ?_
  refine gE (gS (gS (gR ?_)))
  refine GoH.v (Vop.ldB rfl rfl rfl rfl Tryz.isAgg25 0 rfl Tryz.sizeOf25 rfl) ?_
  refine GoH.callP rfl rfl rfl rfl rfl (fun _ _ => Tryz.call38 _ _) (fun w _ hS => (by exact mcheck_c m w (hm.ex0 hS.ext))) ?_
  refine gAs ?_
  refine gE (gS (gR ?_))
  refine gMv ?_
  refine gBi bNe ?_
  refine gE ?_
  refine GoH.cond rfl (fun hc => ?_) (fun hc => ?_)
  ·
   have h1 : checkM m.n m.val m.rel ≠ 0 := by simpa using hc
   refine gS (gR ?_)
   refine gMv ?_
   refine gAs ?_
   refine gE ?_
   refine GoH.ret Tryz.f21 Tryz.func21 rfl (fun w' hS => ?_)
   exact ⟨hS.ext, by rw [chkD, if_pos h1]; rfl⟩
  ·
   have h1 : checkM m.n m.val m.rel = 0 := by simpa using hc
   refine gK (gS (gS (gR ?_)))
   refine gMv ?_
   refine gBl Tryz.underlying49 ?_
   refine gMv ?_
   refine gE (gB ?_)
   refine GoH.loop (σ := Nat) (fun i => [(2, .pointer (some ⟨b2, 0, none⟩)), (13, .slice la ys.length lc), (14, .int .i64 ys.length), (15, .int .i64 i)]) (fun _ => [(some b2, .cells m.v.cells 25 (0, 0))]) (fun i => i ≤ ys.length ∧ (ys.take i).any (fun y => decide (y < 0) || decide (m.n ≤ y)) = false) (fun i => ys.length - i) 0 ⟨Nat.zero_le _, rfl⟩ ⟨rfl, rfl, rfl, rfl, trivial⟩ (List.Sublist.refl _) (fun i hI IH => ?_)
   obtain ⟨hil, hno⟩ := hI
   refine gS (gR ?_)
   refine gBi bLt ?_
   refine gE (gS ?_)
   refine GoH.cond rfl (fun hc => ?_) (fun hc => ?_)
   ·
    have hlt : i < ys.length := by simpa using hc
    have htk : (ys.take (i + 1)).any (fun y => decide (y < 0) || decide (m.n ≤ y)) = (decide (ys[i] < 0) || decide (m.n ≤ ys[i])) := by
      rw [List.take_succ_eq_append_getElem hlt, List.any_append, hno]; simp
    have hall : (decide (ys[i] < 0) || decide (m.n ≤ ys[i])) = true → ys.any (fun y => decide (y < 0) || decide (m.n ≤ y)) = true := fun h => List.any_eq_true.2 ⟨_, List.getElem_mem hlt, h⟩
    refine gK (gS (gB (gS (gR ?_))))
    refine GoH.v (Vop.idx rfl rfl rfl rfl rfl Tryz.underlying49 Tryz.sizeOf3 ⟨_, hl⟩ (by simp) (i) ⟨rfl, by simpa using hlt⟩) ?_
    refine GoH.v (Vop.ld rfl rfl rfl rfl Tryz.isAgg3 (fun w _ hS => (SlI.ex0 hl hS.ext).at (i) hlt)) ?_
    refine gAs ?_
    refine gE (gS (gR ?_))
    refine gMv ?_
    refine gBi bLt ?_
    refine gMv ?_
    refine GoH.cases (d := 21) rfl (fun hc => ?_) (fun hc => ?_)
    ·
     have hneg : ys[i] < 0 := by simpa using hc
     iterate 4 refine gNo ?_
     refine gPt ?_
     refine gE (GoH.condT rfl (gS (gR ?_)))
     refine gAs ?_
     refine gE ?_
     refine GoH.ret Tryz.f21 Tryz.func21 rfl (fun w' hS => ?_)
     exact ⟨hS.ext, by rw [chkD, if_neg (by simp [h1]), if_pos (hall (by simp [hneg]))]; rfl⟩
    ·
     have hneg : ¬ ys[i] < 0 := by simpa using hc
     refine gMv ?_
     refine gFp Tryz.underlying25 Tryz.sizeOf3 0 ?_
     refine GoH.v (Vop.ldo (v := .int .i64 m.n) rfl rfl rfl rfl Tryz.isAgg3 0 rfl rfl) ?_
     refine gBi bGe ?_
     refine gPf ?_
     refine gE ?_
     refine GoH.cond rfl (fun hc => ?_) (fun hc => ?_)
     ·
      have hge : m.n ≤ ys[i] := by simpa using hc
      refine gS (gR ?_)
      refine gAs ?_
      refine gE ?_
      refine GoH.ret Tryz.f21 Tryz.func21 rfl (fun w' hS => ?_)
      exact ⟨hS.ext, by rw [chkD, if_neg (by simp [h1]), if_pos (hall (by simp [hge]))]; rfl⟩
     ·
      have hge : ¬ m.n ≤ ys[i] := by simpa using hc
      refine gK (gIb (gR ?_))
      refine GoH.v (Vop.bin rfl rfl rfl rfl (bAdd (by omega)) rfl) ?_
      refine gMv ?_
      refine gE ?_
      exact IH (i + 1) _ _ ⟨hlt, by rw [htk]; simp only [hneg, hge, decide_false, Bool.or_self]⟩ (by omega) ⟨rfl, rfl, rfl, rfl, trivial⟩ (List.Sublist.refl _)
   ·
    have hge : ¬ i < ys.length := by simpa using hc
    obtain rfl : i = ys.length := by omega
    rw [List.take_length] at hno
    refine GoH.exit rfl (gS (gR ?_))
    refine gAs ?_
    refine gE ?_
    refine GoH.ret Tryz.f21 Tryz.func21 rfl (fun w' hS => ?_)
    exact ⟨hS.ext, by rw [chkD, if_neg (by simp [h1]), if_neg (by rw [hno]; simp)]; rfl⟩
def dpD (m : MV) (v x : Int) : Int × Int := if chkD m [v, x] ≠ 0 then (0, chkD m [v, x]) else match dst m.n.toNat m.val m.rel v.toNat x.toNat with
  | none => (0, 6)
  | some k => (k, 0)
theorem mkr_st {m : MV} {bk mD : Nat} {qA : Option Nat} {capA : Nat} {ps : List IV} {spA : List Value} {w0 w : World} {S : List Nat} {h H : Hl} {Y : List (Nat × Obj)} (s : St w0 S w h Y) (hb : (some bk, Obj.cells (mkrCs m mD (qA.map (fun b => ⟨b, 0, none⟩)) ps.length capA) 65 (0, 0)) ∈ h) (hA : (qA, ob IV.v 49 ps spA) ∈ h) (hH : H ⊆ h) (hq : qA = none → ps.length = 0) (hps : ∀ p ∈ ps, InS I64 H p.a p.xs) (hm : m.At w) : Mk w mD bk m (qA.map (fun b => ⟨b, 0, none⟩)) capA ps :=
  MkAt.of s hb hA hq (fun p hp => (hps p hp).mono hH) hm
set_option maxRecDepth 4000 in
theorem dDepth_c (m : MV) (v x : Int) (w : World) (hT : Tab w) (hm : m.At w) : Cn Tryz.prog 10 [m.v, .int .i64 v, .int .i64 x] w (fun u _ => u = .tuple #[.int .i64 (dpD m v x).1, .int .i64 (dpD m v x).2]) := by
  refine Cn.of Tryz.func10 rfl rfl ?_
  refine gS (gR ?_)
  refine GoH.bx rfl rfl rfl rfl (fun b3 => ?_)
  iterate 2 refine gAs ?_
  refine gE (gS (gS (gR ?_)))
  refine GoH.v (Vop.ldB rfl rfl rfl rfl Tryz.isAgg25 0 rfl Tryz.sizeOf25 rfl) ?_
  iterate 2 refine gMv ?_
  refine GoH.bsN (c := [_, _]) rfl rfl rfl rfl Tryz.underlying49 Tryz.sizeOf3 Tryz.zeroValue3 rfl rfl (fun b13 => ?_)
  refine GoH.callP rfl rfl rfl rfl rfl (fun _ _ => Tryz.call21 _ _) (fun w _ hS => (by exact dcheck_c m (some ⟨b13, 0, none⟩) 2 [v, x] w (hm.ex0 hS.ext) (Sl.blk (sp := []) (hS.get (j := 0) rfl)) (by unfold maxLen; simp))) ?_
  refine gAs ?_
  refine gE (gS (gR ?_))
  refine gMv ?_
  refine gBi bNe ?_
  refine gE ?_
  refine GoH.cond rfl (fun hc => ?_) (fun hc => ?_)
  ·
   have h1 : chkD m [v, x] ≠ 0 := by simpa using hc
   refine gS (gR ?_)
   refine gMv ?_
   iterate 2 refine gAs ?_
   refine gE ?_
   refine GoH.ret Tryz.f10 Tryz.func10 rfl (fun w' hS => ?_)
   exact ⟨hS.ext, by rw [dpD, if_pos h1]; rfl⟩
  ·
   have h1 : chkD m [v, x] = 0 := by simpa using hc
   obtain ⟨hv, hys⟩ := chkD_zero.1 h1
   have hn1 := hv.n1
   have hn64 := hv.n64
   have hv0 := hys v (by simp)
   have hx0 := hys x (by simp)
   obtain ⟨n, hn⟩ : ∃ n : Nat, m.n = (n : Int) := ⟨m.n.toNat, by omega⟩
   obtain ⟨v, rfl⟩ : ∃ n : Nat, v = (n : Int) := ⟨v.toNat, by omega⟩
   obtain ⟨x, rfl⟩ : ∃ n : Nat, x = (n : Int) := ⟨x.toNat, by omega⟩
   have hD : dpD m (v : Int) (x : Int) = match dst n m.val m.rel v x with | none => (0, 6) | some k => ((k : Int), 0) := by rw [dpD, if_neg (by simp [h1]), hn]; rfl
   refine gK (gS (gR ?_))
   refine GoH.v (Vop.ldB rfl rfl rfl rfl Tryz.isAgg25 1 rfl Tryz.sizeOf25 rfl) ?_
   refine GoH.callM _ rfl rfl rfl rfl rfl (fun _ _ => Tryz.call22 _ _) (fun w _ hS => (by exact newMaker_c m n w (hT.ex hS.ext) (hm.ex0 hS.ext) hn hv)) ?_
   rintro u w1 w2 Y' hS he ⟨bk, mD, qA, capA, ps, spA, H, rfl, hnew, hqA, hpsI, hPs⟩
   refine ⟨_, hS.gainPre (pre := [_, _, _]) he hnew, ?_⟩
   iterate 2 refine gMv ?_
   refine GoH.callP rfl rfl rfl rfl rfl (fun _ _ => Tryz.call23 _ _) (fun w _ hS => (by exact mkdepth_c m n mD bk (qA.map (fun b => ⟨b, 0, none⟩)) capA ps v x w (mkr_st (H := H) hS (List.mem_cons_self ..) (List.mem_cons_of_mem _ (List.mem_cons_self ..)) (fun _ h => List.mem_append_right _ (List.mem_append_right _ h)) hqA hpsI (hm.ex0 hS.ext)) hPs (by omega) (by omega) (by omega) (by omega))) ?_
   refine gAs ?_
   refine gE (gS (gS (gR ?_)))
   refine gMv ?_
   refine gBi bLt ?_
   refine gE ?_
   refine GoH.cond rfl (fun hc => ?_) (fun hc => ?_)
   ·
    have h2 : dst n m.val m.rel v x = none := by
      cases h : dst n m.val m.rel v x with
      | none => rfl
      | some k => rw [h] at hc; have h3 := of_decide_eq_true hc; simp only [optI] at h3; omega
    refine gS (gR ?_)
    iterate 2 refine gAs ?_
    refine gE ?_
    refine GoH.ret Tryz.f10 Tryz.func10 rfl (fun w' hS => ?_)
    exact ⟨hS.ext, by rw [hD, h2]; rfl⟩
   ·
    obtain ⟨k, h2⟩ : ∃ k, dst n m.val m.rel v x = some k := by
      cases h : dst n m.val m.rel v x with
      | none => rw [h] at hc; simp [optI] at hc
      | some k => exact ⟨k, rfl⟩
    refine gK (gS (gR ?_))
    refine gMv ?_
    iterate 2 refine gAs ?_
    refine gE ?_
    refine GoH.ret Tryz.f10 Tryz.func10 rfl (fun w' hS => ?_)
    exact ⟨hS.ext, by rw [hD, h2]; rfl⟩
theorem limited_c (a : Option Addr) (ca : Nat) (f : List NV) (w : World) : Cn Tryz.prog 26 [.slice a f.length ca] w (fun v _ => v = .tuple #[if f = [] then .slice none 0 0 else .slice a f.length ca, .int .i64 (if f = [] then 8 else 0)]) := by
  refine Cn.of Tryz.func26 rfl rfl ?_
  refine gS (gR ?_)
  iterate 2 refine gAs ?_
  refine gE (gS (gS (gR ?_)))
  refine gMv ?_
  refine gBl Tryz.underlying31 ?_
  refine gBi bEq ?_
  refine gE ?_
  refine GoH.cond rfl (fun hc => ?_) (fun hc => ?_)
  ·
   have h0 : f = [] := List.eq_nil_of_length_eq_zero (by simpa using hc)
   refine gS (gR ?_)
   iterate 2 refine gAs ?_
   refine gE ?_
   refine GoH.ret Tryz.f26 Tryz.func26 rfl (fun w' hS => ?_)
   exact ⟨hS.ext, by rw [if_pos h0, if_pos h0]; rfl⟩
  ·
   have h0 : f ≠ [] := fun e => by rw [e] at hc; simp at hc
   refine gK (gS (gR ?_))
   refine gMv ?_
   iterate 2 refine gAs ?_
   refine gE ?_
   refine GoH.ret Tryz.f26 Tryz.func26 rfl (fun w' hS => ?_)
   exact ⟨hS.ext, by rw [if_neg h0, if_neg h0]; rfl⟩
/-- what Formula returns -/
def FormP (m : MV) (v x : Int) (f : List NV) (e : Int) : Prop :=
  ((dpD m v x).2 ≠ 0 ∧ f = [] ∧ e = (dpD m v x).2) ∨ ((dpD m v x).2 = 0 ∧ f = [] ∧ e = 8 ∧ 5 < m.n) ∨
    ((dpD m v x).2 = 0 ∧ e = 0 ∧ f ≠ [] ∧ ∃ (k : Nat) (t : Tr), dst m.n.toNat m.val m.rel v.toNat x.toNat = some k ∧ TellT m.n.toNat m.val m.rel v.toNat x.toNat k t ∧ f = bT t)
set_option maxRecDepth 4000 in
theorem dFormula_c (m : MV) (v x : Int) (w : World) (hT : Tab w) (hm : m.At w) : Cn Tryz.prog 12 [m.v, .int .i64 v, .int .i64 x] w (fun u w' => ∃ sv f e, u = .tuple #[sv, .int .i64 e] ∧ OwnN 58 w w' sv f ∧ FormP m v x f e) := by
  refine Cn.of Tryz.func12 rfl rfl ?_
  refine gS (gR ?_)
  refine GoH.bx rfl rfl rfl rfl (fun b3 => ?_)
  iterate 2 refine gAs ?_
  refine gE (gS (gS (gR ?_)))
  refine GoH.v (Vop.ldB rfl rfl rfl rfl Tryz.isAgg25 0 rfl Tryz.sizeOf25 rfl) ?_
  iterate 2 refine gMv ?_
  refine GoH.callP rfl rfl rfl rfl rfl (fun _ _ => Tryz.call10 _ _) (fun w _ hS => (by exact dDepth_c m v x w (hT.ex hS.ext) (hm.ex0 hS.ext))) ?_
  refine gMv ?_
  iterate 2 refine gEx ?_
  iterate 2 refine gAs ?_
  refine gE (gS (gR ?_))
  refine gMv ?_
  refine gBi bNe ?_
  refine gE ?_
  refine GoH.cond rfl (fun hc => ?_) (fun hc => ?_)
  ·
   have h1 : (dpD m v x).2 ≠ 0 := by simpa using hc
   refine gS (gR ?_)
   refine gMv ?_
   iterate 2 refine gAs ?_
   refine gE ?_
   refine GoH.ret Tryz.f12 Tryz.func12 rfl (fun w' hS => ?_)
   exact ⟨hS.ext, _, [], _, rfl, OwnN.nil0, .inl ⟨h1, rfl, rfl⟩⟩
  ·
   have h0 : (dpD m v x).2 = 0 := by simpa using hc
   have h1 : chkD m [v, x] = 0 := Classical.byContradiction (fun h => by rw [dpD, if_pos h] at h0; exact h h0)
   obtain ⟨hv, hys⟩ := chkD_zero.1 h1
   have hn1 := hv.n1
   have hn64 := hv.n64
   have hv0 := hys v (by simp)
   have hx0 := hys x (by simp)
   obtain ⟨n, hn⟩ : ∃ n : Nat, m.n = (n : Int) := ⟨m.n.toNat, by omega⟩
   obtain ⟨v, rfl⟩ : ∃ n : Nat, v = (n : Int) := ⟨v.toNat, by omega⟩
   obtain ⟨x, rfl⟩ : ∃ n : Nat, x = (n : Int) := ⟨x.toNat, by omega⟩
   obtain ⟨k, hd⟩ : ∃ k, dst n m.val m.rel v x = some k := by
     rw [dpD, if_neg (by simp [h1]), hn] at h0
     simp only [Int.toNat_natCast] at h0
     cases h : dst n m.val m.rel v x with
     | none => rw [h] at h0; exact absurd h0 (by decide)
     | some k => exact ⟨k, rfl⟩
   refine gK (gS (gR ?_))
   refine GoH.v (Vop.ldB rfl rfl rfl rfl Tryz.isAgg25 0 rfl Tryz.sizeOf25 rfl) ?_
   refine GoH.callM _ rfl rfl rfl rfl rfl (fun _ _ => Tryz.call22 _ _) (fun w _ hS => (by exact newMaker_c m n w (hT.ex hS.ext) (hm.ex0 hS.ext) hn hv)) ?_
   rintro u w1 w2 Y' hS he ⟨bk, mD, qA, capA, ps, spA, H, rfl, hnew, hqA, hpsI, hPs⟩
   refine ⟨_, hS.gainPre (pre := [_, _, _]) he hnew, ?_⟩
   iterate 2 refine gMv ?_
   refine GoH.pickT (pre := [_, _, _, _]) (pre' := [_, _, _, _]) H [2, 0, 1, 3] (by decide) rfl ?_
   refine GoH.subH (h' := mpH mD [] ++ ([(some bk, Obj.cells (mkrCs m mD (qA.map (fun b => ⟨b, 0, none⟩)) ps.length capA) 65 (0, 0)), (qA, ob IV.v 49 ps spA), (some b3, .cells m.v.cells 25 (0, 0))] ++ H)) (List.Sublist.refl _) ?_
   refine GoH.callS (h := mpH mD []) (fs := []) (cs := []) (fun _ u h' => ApPost n m.val m.rel mD v x k [] u h') rfl rfl rfl rfl rfl (fun _ _ => Tryz.call27 _ _) (fun w1 Y' hS => ?_) (fun w1 u h1 hR => ?_)
   · exact ap_ok hn hv hPs k v x w1 [] (by omega) (by omega) hd ⟨(hS.subH (List.Sublist.cons_cons _ (List.nil_sublist _))).has, mkr_st (H := H) hS (List.mem_cons_of_mem _ (List.mem_cons_self ..)) (List.mem_cons_of_mem _ (List.mem_cons_of_mem _ (List.mem_cons_self ..))) (fun _ h => List.mem_append_right _ (List.mem_append_right _ h)) hqA hpsI (hm.ex0 hS.ext), hT.ex hS.ext, (fun _ h => by cases h), Memo.nil⟩
   obtain ⟨fv, L2, F2, rfl, rfl, g2, hem⟩ := hR
   have hfo := g2.memo.get hd hem
   have hin := (g2.at_ _ hem).resolve_left (by simp)
   refine GoH.callP rfl rfl rfl rfl rfl (fun _ _ => Tryz.call26 _ _) (fun w _ hS => (by exact limited_c fv.a fv.c fv.f w)) ?_
   iterate 2 refine gEx ?_
   iterate 2 refine gAs ?_
   refine gE ?_
   refine GoH.ret Tryz.f12 Tryz.func12 rfl (fun w' hS => ?_)
   refine ⟨hS.ext, ?_⟩
   by_cases h5 : fv.f = []
   · rw [if_pos h5, if_pos h5]
     refine ⟨_, [], _, rfl, OwnN.nil0, .inr (.inl ⟨h0, rfl, rfl, ?_⟩)⟩
     rcases hfo with h | ⟨t, _, _, h⟩
     · have := h.2; omega
     · exact absurd h5 h
   · rw [if_neg h5, if_neg h5]
     refine ⟨_, fv.f, _, rfl, (hin.mono (fun _ h => List.mem_append_left _ (List.mem_append_right _ h))).own hS, .inr (.inr ⟨h0, rfl, h5, ?_⟩)⟩
     rcases hfo with h | ⟨t, ht, e, h⟩
     · exact absurd h.1 h5
     · rw [hn, Int.toNat_natCast, Int.toNat_natCast, Int.toNat_natCast]
       exact ⟨k, t, hd, ht, e⟩
end Go.Proofs.YtcljmlnnfdaljaaGreatDoor
namespace Go.Proofs.YtcljmlnnfdaljaaGreatDoor
open Go.RowKit Go.Proofs.Wit
/-! Characteristic -/
/-- what Characteristic returns -/
def CharP (m : MV) (x j : Int) (f : List NV) (e : Int) : Prop :=
  (chkD m [x] ≠ 0 ∧ f = [] ∧ e = chkD m [x]) ∨ (chkD m [x] = 0 ∧ j < 0 ∧ f = [] ∧ e = 2) ∨ (chkD m [x] = 0 ∧ 0 ≤ j ∧ f = [] ∧ e = 8 ∧ 5 < m.n) ∨
    (chkD m [x] = 0 ∧ 0 ≤ j ∧ e = 0 ∧ f ≠ [] ∧ ∃ (k : Nat) (ts : List Tr), k = min j.toNat (dep m.n.toNat m.val m.rel) ∧ TellL m.n.toNat m.val m.rel x.toNat k (othW (psq m.n.toNat m.val m.rel k) x.toNat m.n.toNat) ts ∧ f = bT (conjT ts))
set_option maxRecDepth 8000 in
theorem dChar_c (m : MV) (x j : Int) (w : World) (hT : Tab w) (hm : m.At w) : Cn Tryz.prog 16 [m.v, .int .i64 x, .int .i64 j] w (fun u w' => ∃ sv f e, u = .tuple #[sv, .int .i64 e] ∧ OwnN 58 w w' sv f ∧ CharP m x j f e) := by
  obtain ⟨i0, hi, hz, hsz, hby⟩ := info_parts infoI
  refine Cn.of Tryz.func16 rfl rfl ?_
  refine gS (gR ?_)
  refine GoH.bx rfl rfl rfl rfl (fun b3 => ?_)
  iterate 2 refine gAs ?_
  refine gE (gS (gS (gR ?_)))
  refine GoH.v (Vop.ldB rfl rfl rfl rfl Tryz.isAgg25 0 rfl Tryz.sizeOf25 rfl) ?_
  refine gMv ?_
  refine GoH.bsN (c := [_]) rfl rfl rfl rfl Tryz.underlying49 Tryz.sizeOf3 Tryz.zeroValue3 rfl rfl (fun b15 => ?_)
  refine GoH.callP rfl rfl rfl rfl rfl (fun _ _ => Tryz.call21 _ _) (fun w _ hS => (by exact dcheck_c m (some ⟨b15, 0, none⟩) 1 [x] w (hm.ex0 hS.ext) (Sl.blk (sp := []) (hS.get (j := 0) rfl)) (by unfold maxLen; simp))) ?_
  refine gAs ?_
  refine gE (gS (gR ?_))
  refine gMv ?_
  refine gBi bNe ?_
  refine gE ?_
  refine GoH.cond rfl (fun hc => ?_) (fun hc => ?_)
  ·
   have h1 : chkD m [x] ≠ 0 := by simpa using hc
   refine gS (gR ?_)
   refine gMv ?_
   iterate 2 refine gAs ?_
   refine gE ?_
   refine GoH.ret Tryz.f16 Tryz.func16 rfl (fun w' hS => ?_)
   exact ⟨hS.ext, _, [], _, rfl, OwnN.nil0, .inl ⟨h1, rfl, rfl⟩⟩
  ·
   have h1 : chkD m [x] = 0 := by simpa using hc
   refine gK (gS (gS (gR ?_)))
   refine gMv ?_
   refine gBi bLt ?_
   refine gE ?_
   refine GoH.cond rfl (fun hc => ?_) (fun hc => ?_)
   ·
    have hj : j < 0 := by simpa using hc
    refine gS (gR ?_)
    iterate 2 refine gAs ?_
    refine gE ?_
    refine GoH.ret Tryz.f16 Tryz.func16 rfl (fun w' hS => ?_)
    exact ⟨hS.ext, _, [], _, rfl, OwnN.nil0, .inr (.inl ⟨h1, hj, rfl, rfl⟩)⟩
   ·
    have hj : 0 ≤ j := by simpa using hc
    obtain ⟨hv, hys⟩ := chkD_zero.1 h1
    have hn1 := hv.n1
    have hn64 := hv.n64
    have hx0 := hys x (by simp)
    obtain ⟨n, hn⟩ : ∃ n : Nat, m.n = (n : Int) := ⟨m.n.toNat, by omega⟩
    obtain ⟨x, rfl⟩ : ∃ n : Nat, x = (n : Int) := ⟨x.toNat, by omega⟩
    have hdn := (dep_spec (val := m.val) (rels := m.rel) (n := n) (by omega) (by omega)).1
    refine gK (gS (gR ?_))
    refine GoH.v (Vop.ldB rfl rfl rfl rfl Tryz.isAgg25 1 rfl Tryz.sizeOf25 rfl) ?_
    refine GoH.callM _ rfl rfl rfl rfl rfl (fun _ _ => Tryz.call22 _ _) (fun w _ hS => (by exact newMaker_c m n w (hT.ex hS.ext) (hm.ex0 hS.ext) hn hv)) ?_
    rintro u w1 w2 Y' hS he ⟨bk, mD, qA, capA, ps, spA, H, rfl, hnew, hqA, hpsI, hPs⟩
    refine ⟨_, hS.gainPre (pre := [_, _, _]) he hnew, ?_⟩
    have hpl := hPs.1
    obtain ⟨k, hk⟩ : ∃ k, k = min j.toNat (dep n m.val m.rel) := ⟨_, rfl⟩
    have hkl : k < ps.length := by omega
    obtain ⟨bA, rfl⟩ : ∃ b, qA = some b := by
      cases qA with
      | none => have := hqA rfl; omega
      | some b => exact ⟨b, rfl⟩
    have hgp : ps.getD k ⟨none, 0, []⟩ = ps[k] := by simp [List.getD_eq_getElem?_getD, hkl]
    have hpx : ps[k].xs = psq n m.val m.rel k := hPs.2 k hkl
    have hpxl : ps[k].xs.length = n := by rw [hpx, psq_len]
    obtain ⟨pb, pe, psp, hpa, hpm⟩ := (hpsI ps[k] (List.getElem_mem hkl)).resolve_left (fun e => by rw [e] at hpxl; simp at hpxl; omega)
    refine gAs ?_
    refine gE (gS ?_)
    refine GoH.draw 15 mixed rfl ?_
    refine rMv ?_
    refine rNk ?_
    refine rFp Tryz.underlying65 Tryz.sizeOf63 4 ?_
    refine rLo Tryz.isAgg63 0 ?_
    iterate 2 refine rMv ?_
    refine rNk ?_
    refine rFp Tryz.underlying65 Tryz.sizeOf63 4 ?_
    refine rLo Tryz.isAgg63 0 ?_
    refine rBl Tryz.underlying63 ?_
    refine RdGo.v (Vop.bin rfl rfl rfl rfl (bSubE (c := ((dep n m.val m.rel : Nat) : Int)) (by omega) (by omega)) rfl) ?_
    refine RdGo.v (Vop.blt rfl rfl rfl (blt_min (c := (k : Int)) (by omega)) rfl) ?_
    refine RdGo.v (Vop.idxS rfl rfl rfl rfl rfl Tryz.underlying63 Tryz.sizeOf49 (k) ⟨rfl, hkl⟩) ?_
    refine RdGo.v (Vop.ldE IV.v ⟨none, 0, []⟩ rfl rfl rfl rfl Tryz.isAgg49 1 rfl hkl) ?_
    refine rAs ?_
    refine RdGo.nil ?_
    refine gE (gS (gR ?_))
    refine gAs ?_
    refine gE (gS (gS (gR ?_)))
    refine gFp Tryz.underlying25 Tryz.sizeOf3 0 ?_
    refine GoH.v (Vop.ldo (v := .int .i64 m.n) rfl rfl rfl rfl Tryz.isAgg3 4 rfl rfl) ?_
    refine gMv ?_
    refine gE (gB ?_)
    rw [hgp]
    refine GoH.addNone (ob I64 3 [] []) ?_
    refine GoH.loop (σ := Nat × Option Nat × Nat × List Value) (fun z => [(1, .int .i64 x), (3, .pointer (some ⟨b3, 0, none⟩)), (9, mpt bk), (10, .slice (some ⟨pb, 0, none⟩) ps[k].xs.length ps[k].c), (11, osv z.2.1 (zI (othW ps[k].xs x z.1)).length z.2.2.1), (39, .int .i64 n), (40, .int .i64 z.1)])
      (fun z => [(z.2.1, ob I64 3 (zI (othW ps[k].xs x z.1)) z.2.2.2), (some bk, Obj.cells (mkrCs m mD (some ⟨bA, 0, none⟩) ps.length capA) 65 (0, 0)), (some bA, ob IV.v 49 ps spA), (some mD, mobj arr2 FV.v []), (some b3, .cells m.v.cells 25 (0, 0))] ++ H)
      (fun z => z.1 ≤ n ∧ (z.2.1 = none → (zI (othW ps[k].xs x z.1)).length = 0 ∧ z.2.2.1 = 0) ∧ ((zI (othW ps[k].xs x z.1)).map I64 ++ z.2.2.2).length = z.2.2.1) (fun z => n - z.1) (0, none, 0, [])
      ⟨Nat.zero_le _, fun _ => ⟨rfl, rfl⟩, rfl⟩ ⟨rfl, rfl, rfl, by rw [IV.v, hpa]; rfl, rfl, by rw [hn]; rfl, rfl, trivial⟩ (.cons_cons _ (.cons_cons _ (.cons_cons _ (.cons_cons _ (.cons _ (List.Sublist.refl _)))))) (fun z hI IH => ?_)
    obtain ⟨i, q, cap, sp⟩ := z
    obtain ⟨hin, hq, hcap⟩ := hI
    dsimp only at hin hq hcap IH ⊢
    refine gS (gR ?_)
    refine gBi bLt ?_
    refine gE (gS ?_)
    refine GoH.cond rfl (fun hc => ?_) (fun hc => ?_)
    ·
     have hlt : i < n := by simpa using hc
     have hix : i < ps[k].xs.length := by omega
     have hxx : x < ps[k].xs.length := by omega
     have hol := oth_len (p := ps[k].xs) (w := x) (j := i)
     have hzl : (zI (othW ps[k].xs x i)).length = (othW ps[k].xs x i).length := by simp
     have e1 : ps[k].xs.getD i 0 = ps[k].xs[i] := by simp [List.getD_eq_getElem?_getD, hix]
     have e2 : ps[k].xs.getD x 0 = ps[k].xs[x] := by simp [List.getD_eq_getElem?_getD, hxx]
     have hsu := othW_succ (p := ps[k].xs) (w := x) (j := i)
     rw [e1, e2] at hsu
     have hpw : ∀ {w' : World} {Y' : List (Nat × Obj)} {h' : Hl}, St w [] w' (h' ++ H) Y' → Sl w' (some ⟨pb, 0, none⟩) (ps[k].xs.map I64) := fun s => Sl.blk (s.own _ (List.mem_append_right _ hpm) pb rfl).1
     refine gK (gS (gB (gS (gR ?_))))
     refine gMv ?_
     refine gAs ?_
     refine gE (gS ?_)
     refine GoH.draw 9 mixed rfl ?_
     iterate 2 refine rMv ?_
     refine RdGo.v (Vop.idxS rfl rfl rfl rfl rfl Tryz.underlying49 Tryz.sizeOf3 i ⟨rfl, hix⟩) ?_
     refine RdGo.v (Vop.ld rfl rfl rfl rfl Tryz.isAgg3 (fun w _ hS => (by have := Sl.at (hpw hS) i hix; rw [show adr (some ⟨pb, 0, none⟩) i = ⟨pb, 0 + i * 1, none⟩ from by simp [adr]] at this; exact this))) ?_
     iterate 2 refine rMv ?_
     refine RdGo.v (Vop.idxS rfl rfl rfl rfl rfl Tryz.underlying49 Tryz.sizeOf3 x ⟨rfl, hxx⟩) ?_
     refine RdGo.v (Vop.ld rfl rfl rfl rfl Tryz.isAgg3 (fun w _ hS => (by have := Sl.at (hpw hS) x hxx; rw [show adr (some ⟨pb, 0, none⟩) x = ⟨pb, 0 + x * 1, none⟩ from by simp [adr]] at this; exact this))) ?_
     refine rBi bNe ?_
     refine RdGo.nil ?_
     refine gE ?_
     refine GoH.cond rfl (fun hc => ?_) (fun hc => ?_)
     ·
      rw [if_pos hc] at hsu
      refine gR ?_
      iterate 2 refine gMv ?_
      refine GoH.bsN (c := [_]) rfl rfl rfl rfl Tryz.underlying49 Tryz.sizeOf3 Tryz.zeroValue3 rfl rfl (fun b54 => ?_)
      refine GoH.appE I64 (xs := zI (othW ps[k].xs x i)) (sp := sp) (q := q) (news := [(i : Int)]) (spn := []) rfl rfl rfl rfl rfl Tryz.underlying49 hi hz hsz rfl hq 1 rfl 0 rfl hcap rfl (by decide) (fun _ => rfl) (by unfold maxLen; omega) (by rw [hby]; omega) (fun b' sp' cap' hlen2 => ?_)
      rw [show zI (othW ps[k].xs x i) ++ [(i : Int)] = zI (othW ps[k].xs x (i + 1)) from by rw [hsu]; simp] at hlen2 ⊢
      refine gAs ?_
      refine gE (gIb (gR ?_))
      refine GoH.v (Vop.bin rfl rfl rfl rfl (bAdd (by omega)) rfl) ?_
      refine gMv ?_
      refine gE ?_
      exact IH (i + 1, some b', cap', sp') _ _ ⟨hlt, (fun e => by cases e), hlen2⟩ (by dsimp only; omega) ⟨rfl, rfl, rfl, rfl, rfl, rfl, rfl, trivial⟩ (.cons _ (List.Sublist.refl _))
     ·
      rw [if_neg (by rw [hc]; simp)] at hsu
      rw [← hsu] at hq hcap ⊢
      refine gK (gIb (gR ?_))
      refine GoH.v (Vop.bin rfl rfl rfl rfl (bAdd (by omega)) rfl) ?_
      refine gMv ?_
      refine gE ?_
      exact IH (i + 1, q, cap, sp) _ _ ⟨hlt, hq, hcap⟩ (by dsimp only; omega) ⟨rfl, rfl, rfl, rfl, rfl, rfl, rfl, trivial⟩ (List.Sublist.refl _)
    ·
     have hge : ¬ i < n := by simpa using hc
     obtain rfl : i = n := by omega
     have hol := oth_len (p := ps[k].xs) (w := x) (j := i)
     obtain ⟨ys, hys2⟩ : ∃ ys, ys = othW ps[k].xs x i := ⟨_, rfl⟩
     rw [← hys2] at hq hcap hol ⊢
     have hyd : ∀ y ∈ ys, y < i ∧ ∃ j, j ≤ k ∧ dst i m.val m.rel x y = some j := fun y hy => by
       rw [hys2] at hy
       obtain ⟨h2, h3⟩ := mem_oth.1 hy
       rw [hpx] at h3
       obtain ⟨j, h4, h5⟩ := dst_le (n := i) (val := m.val) (rel := m.rel) (v := x) (w := y) (k := k) (by omega) (by omega) (fun e => h3 e.symm)
       exact ⟨h2, j, h5, h4⟩
     refine GoH.exit rfl (gS (gR ?_))
     iterate 3 refine gMv ?_
     refine GoH.pickT (pre := [_, _, _, _, _]) (pre' := [_, _, _, _, _]) H [3, 0, 1, 2, 4] (by decide) rfl ?_
     refine GoH.subH (h' := mpH mD [] ++ ([(q, ob I64 3 (zI ys) sp), (some bk, Obj.cells (mkrCs m mD (some ⟨bA, 0, none⟩) ps.length capA) 65 (0, 0)), (some bA, ob IV.v 49 ps spA), (some b3, .cells m.v.cells 25 (0, 0))] ++ H)) (List.Sublist.refl _) ?_
     refine GoH.callS (h := mpH mD []) (fs := []) (cs := []) (fun _ u h' => AlPost i m.val m.rel mD x k ys [] u h') rfl rfl rfl rfl rfl (fun _ _ => Tryz.call36 _ _) (fun w1 Y' hS => ?_) (fun w1 u h1 hR => ?_)
     · exact al_ok hn hv hPs k x (q.map (fun b => ⟨b, 0, none⟩)) cap ys w1 [] (by omega) (sliAt hS 1 rfl (fun e => (hq e).1)) (by omega) hyd ⟨(hS.subH (List.Sublist.cons_cons _ (List.nil_sublist _))).has, mkr_st (qA := some bA) (H := H) hS (List.mem_cons_of_mem _ (List.mem_cons_of_mem _ (List.mem_cons_self ..))) (List.mem_cons_of_mem _ (List.mem_cons_of_mem _ (List.mem_cons_of_mem _ (List.mem_cons_self ..)))) (fun _ h => List.mem_append_right _ (List.mem_append_right _ h)) hqA hpsI (hm.ex0 hS.ext), hT.ex hS.ext, (fun _ h => by cases h), Memo.nil⟩
     obtain ⟨fv, L2, F2, rfl, rfl, g2, hin2, hall, hfl⟩ := hR
     refine GoH.callP rfl rfl rfl rfl rfl (fun _ _ => Tryz.call26 _ _) (fun w _ hS => (by exact limited_c fv.a fv.c fv.f w)) ?_
     iterate 2 refine gEx ?_
     iterate 2 refine gAs ?_
     refine gE ?_
     refine GoH.ret Tryz.f16 Tryz.func16 rfl (fun w' hS => ?_)
     refine ⟨hS.ext, ?_⟩
     by_cases h5 : fv.f = []
     · rw [if_pos h5, if_pos h5]
       refine ⟨_, [], _, rfl, OwnN.nil0, .inr (.inr (.inl ⟨h1, hj, rfl, rfl, ?_⟩))⟩
       rcases hall with h | ⟨ts, hts, e, hU⟩
       · have := h.2; omega
       · refine Classical.byContradiction (fun hc5 => ?_)
         obtain ⟨U, hU1, hU2⟩ := g2.memo.uni (by omega)
         obtain ⟨U', k1, k2, k3⟩ := hU U hU1 (by omega) (by omega)
         have k4 := k1.kc.len k3
         have k5 := g2.memo.many
         rw [e, bT_nil] at h5
         have hnn : i * i ≤ 5 * 5 := Nat.mul_le_mul (by omega) (by omega)
         omega
     · rw [if_neg h5, if_neg h5]
       refine ⟨_, fv.f, _, rfl, (hin2.mono (fun _ h => List.mem_append_left _ (List.mem_append_right _ h))).own hS, .inr (.inr (.inr ⟨h1, hj, rfl, h5, k, ?_⟩))⟩
       rcases hall with h | ⟨ts, hts, e, hU⟩
       · exact absurd h.1 h5
       · rw [hn, Int.toNat_natCast, Int.toNat_natCast]
         refine ⟨ts, hk, ?_, e⟩
         rw [← hpx, ← hys2]; exact hts
end Go.Proofs.YtcljmlnnfdaljaaGreatDoor
namespace Go.Proofs.YtcljmlnnfdaljaaGreatDoor
open Go.RowKit Go.Proofs.Wit
/-! the reference's partition with groups -/
set_option maxRecDepth 4000 in
theorem rgroup_c (m : MV) (n g : Nat) (w : World) (hm : m.At w) (hv : ValM m.n m.val m.rel) (hn : m.n = (n : Int)) (hg : 1 ≤ g ∧ g < 2 ^ m.rows.length) :
    Cn Tryz.prog 95 [m.v, .int .i64 g, .bool true] w (fun v w' => Own w w' v (meetL n m.rel g)) := by
  obtain ⟨i0, hi, hz, hsz, hby⟩ := info_parts infoU
  have hn64 := hv.n64
  have hn1 := hv.n1
  have hag := hv.agents
  have hrl : m.rel.length = m.rows.length := by simp [MV.rel]
  have hp4 : (2 : Nat) ^ m.rows.length ≤ 2 ^ 4 := Nat.pow_le_pow_right (by decide) (by omega)
  have h16 : (2 : Nat) ^ 4 = 16 := by decide
  refine Cn.of Tryz.func95 rfl rfl ?_
  refine gS (gR ?_)
  refine GoH.bx rfl rfl rfl rfl (fun b3 => ?_)
  refine gAs ?_
  refine gE (gS (gS (gR ?_)))
  refine GoH.v (Vop.ldB rfl rfl rfl rfl Tryz.isAgg25 0 rfl Tryz.sizeOf25 rfl) ?_
  refine GoH.callP rfl rfl rfl rfl rfl (fun _ _ => Tryz.call18 _ _) (fun w _ hS => (by exact (rmCheck_c m w (hm.ex0 hS.ext)).mono (fun v w' _ e => by rw [e, checkM_zero.2 hv]))) ?_
  refine GoH.v (Vop.bin rfl rfl rfl rfl (bNeV (v := false) rfl) rfl) ?_
  iterate 2 refine gMv ?_
  refine GoH.v (Vop.bin rfl rfl rfl rfl (bLtV (v := false) (decide_eq_false (by omega))) rfl) ?_
  refine gPf ?_
  iterate 2 refine gMv ?_
  refine gFp Tryz.underlying25 Tryz.sizeOf23 2 ?_
  refine GoH.v (Vop.ldo (v := .slice m.ra m.rows.length m.rc) rfl rfl rfl rfl Tryz.isAgg23 0 rfl rfl) ?_
  refine gBl Tryz.underlying23 ?_
  refine GoH.v (Vop.bin rfl rfl rfl rfl (bShlN (x := 1) (j := m.rows.length) rfl (by omega) (by omega)) rfl) ?_
  refine GoH.v (Vop.bin rfl rfl rfl rfl (bGeV (v := false) (decide_eq_false (by omega))) rfl) ?_
  refine gPf ?_
  refine gE (GoH.condF rfl (gK (gS (gR ?_))))
  refine gAs ?_
  refine gE (gS (gS (gR ?_)))
  refine gAs ?_
  refine gE (gB ?_)
  refine GoH.addNone (ob U 36 [] []) ?_
  refine GoH.loop (σ := Nat × Option Nat × Nat × List Value) (fun z => [(1, .int .i64 g), (2, .bool true), (3, .pointer (some ⟨b3, 0, none⟩)), (7, osv z.2.1 ((meetL n m.rel g).take z.1).length z.2.2.1), (8, .int .i64 z.1)]) (fun z => [(z.2.1, ob U 36 ((meetL n m.rel g).take z.1) z.2.2.2), (some b3, .cells m.v.cells 25 (0, 0))])
    (fun z => z.1 ≤ n ∧ (z.2.1 = none → ((meetL n m.rel g).take z.1).length = 0 ∧ z.2.2.1 = 0) ∧ (((meetL n m.rel g).take z.1).map U ++ z.2.2.2).length = z.2.2.1) (fun z => n - z.1) (0, none, 0, [])
    ⟨Nat.zero_le _, fun _ => ⟨rfl, rfl⟩, rfl⟩ ⟨rfl, rfl, rfl, rfl, rfl, trivial⟩ (List.Sublist.refl _) (fun z hI IH => ?_)
  obtain ⟨k, q, cap, sp⟩ := z
  obtain ⟨hk, hq, hcap⟩ := hI
  dsimp only at hk hq hcap IH ⊢
  refine gS (gS (gR ?_))
  refine gMv ?_
  refine gFp Tryz.underlying25 Tryz.sizeOf3 0 ?_
  refine GoH.v (Vop.ldo (v := .int .i64 m.n) rfl rfl rfl rfl Tryz.isAgg3 1 rfl rfl) ?_
  refine gBi bLt ?_
  refine gE ?_
  refine GoH.cond rfl (fun hc => ?_) (fun hc => ?_)
  ·
   have hlt : k < n := by have : (k : Int) < m.n := by simpa using hc
                          omega
   have hml : (meetL n m.rel g).length = n := meetTo_len
   have hlk : ((meetL n m.rel g).take k).length = k := by rw [List.length_take]; omega
   refine gK (gS (gB (gS (gR ?_))))
   refine GoH.v (Vop.asg (v := U 0#64) rfl rfl rfl rfl) ?_
   refine gE (gS (gS (gR ?_)))
   refine gMv ?_
   refine gE ?_
   refine GoH.cond rfl (fun hc => ?_) (fun hc => ?_)
   ·
    refine gR ?_
    refine gFp Tryz.underlying25 Tryz.sizeOf3 0 ?_
    refine GoH.v (Vop.ldo (v := .int .i64 m.n) rfl rfl rfl rfl Tryz.isAgg3 1 rfl rfl) ?_
    refine GoH.callP rfl rfl rfl rfl rfl (fun _ _ => Tryz.call52 _ _) (fun w _ hS => (by have := rmAll_c n w (by omega); rw [← hn] at this; exact this)) ?_
    refine gAs ?_
    refine gE (gS (gS (gR ?_)))
    refine gAs ?_
    refine gE (gB ?_)
    refine GoH.loop (σ := Nat) (fun j => [(1, .int .i64 g), (2, .bool true), (3, .pointer (some ⟨b3, 0, none⟩)), (7, osv q ((meetL n m.rel g).take k).length cap), (8, .int .i64 k), (9, U (meetW n m.rel g k j)), (10, .int .i64 j)]) (fun _ => [(q, ob U 36 ((meetL n m.rel g).take k) sp), (some b3, .cells m.v.cells 25 (0, 0))])
      (fun j => j ≤ m.rows.length) (fun j => m.rows.length - j) 0 (Nat.zero_le _) ⟨rfl, rfl, rfl, rfl, rfl, rfl, rfl, trivial⟩ (List.Sublist.refl _) (fun j hj IH2 => ?_)
    refine gS (gS (gR ?_))
    refine gMv ?_
    refine gFp Tryz.underlying25 Tryz.sizeOf23 2 ?_
    refine GoH.v (Vop.ldo (v := .slice m.ra m.rows.length m.rc) rfl rfl rfl rfl Tryz.isAgg23 1 rfl rfl) ?_
    refine gBl Tryz.underlying23 ?_
    refine gBi bLt ?_
    refine gE ?_
    refine GoH.cond rfl (fun hc => ?_) (fun hc => ?_)
    ·
     have hjl : j < m.rows.length := by simpa using hc
     have hrow := hm.row m.rows[j] (List.getElem_mem hjl)
     have hrn : m.rows[j].xs.length = n := by have := hv.len _ (List.mem_map.2 ⟨m.rows[j], List.getElem_mem hjl, rfl⟩ : m.rows[j].xs ∈ m.rel); omega
     have hkr : k < m.rows[j].xs.length := by omega
     have hsc := meetW_succ (n := n) (rel := m.rel) (g := g) (w := k) (k := j)
     rw [relD hjl] at hsc
     refine gK (gS (gB (gS (gS (gR ?_)))))
     iterate 2 refine gMv ?_
     refine GoH.v (Vop.bin rfl rfl rfl rfl (bShrN (j := j) rfl (by omega) (by omega)) rfl) ?_
     refine GoH.v (Vop.bin rfl rfl rfl rfl bRem2N rfl) ?_
     refine gBi bEq ?_
     refine gMv ?_
     refine GoH.cases (d := 48) rfl (fun hc => ?_) (fun hc => ?_)
     ·
      have hb1 : gb g j = 1 := Int.ofNat_inj.1 (show ((gb g j : Nat) : Int) = ((1 : Nat) : Int) from beq_iff_eq.1 hc)
      rw [if_pos hb1] at hsc
      refine gMv ?_
      refine gPt ?_
      refine gE ?_
      refine GoH.cond rfl (fun hc => ?_) (fun hc => ?_)
      ·
       refine gR ?_
       refine gMv ?_
       refine gFp Tryz.underlying25 Tryz.sizeOf23 2 ?_
       refine GoH.v (Vop.ldo (v := .slice m.ra m.rows.length m.rc) rfl rfl rfl rfl Tryz.isAgg23 1 rfl rfl) ?_
       refine gMv ?_
       refine GoH.v (Vop.idx rfl rfl rfl rfl rfl Tryz.underlying23 Tryz.sizeOf22 ⟨_, hm.rel⟩ (by simp) (j) ⟨rfl, by simpa using hjl⟩) ?_
       refine GoH.v (Vop.ld rfl rfl rfl rfl Tryz.isAgg22 (fun w _ hS => (SlR.ex0 hm.rel hS.ext).at (j) hjl)) ?_
       refine gMv ?_
       refine GoH.v (Vop.idx rfl rfl rfl rfl rfl Tryz.underlying22 Tryz.sizeOf36 ⟨_, hrow.at_⟩ (by simp) (k) ⟨rfl, by simpa using hkr⟩) ?_
       refine GoH.v (Vop.ld rfl rfl rfl rfl Tryz.isAgg36 (fun w _ hS => (SlU.ex0 hrow.at_ hS.ext).at (k) hkr)) ?_
       refine gBi bAnd ?_
       refine gAs ?_
       refine gE (gS (gR ?_))
       iterate 2 refine gMv ?_
       refine GoH.v (Vop.bin rfl rfl rfl rfl (bShrN (j := j) rfl (by omega) (by omega)) rfl) ?_
       refine GoH.v (Vop.bin rfl rfl rfl rfl bRem2N rfl) ?_
       refine GoH.v (Vop.bin rfl rfl rfl rfl (bEqV (v := true) (show ((((gb g j : Nat) : Int)) == 1) = true by rw [hb1]; rfl)) rfl) ?_
       iterate 2 refine gMv ?_
       refine gUn uNot ?_
       refine gPt ?_
       refine gE ?_
       refine GoH.cond rfl (fun hc => ?_) (fun hc => ?_)
       ·
        cases ‹(!true) = true›
       ·
        refine gK (gIb (gR ?_))
        refine gMv ?_
        refine GoH.v (Vop.bin rfl rfl rfl rfl (bAdd (by omega)) rfl) ?_
        refine gAs ?_
        refine gE ?_
        exact IH2 (j + 1) _ _ hjl (by omega) ⟨rfl, rfl, rfl, rfl, rfl, (by rw [hsc]; rfl), rfl, trivial⟩ (List.Sublist.refl _)
      ·
       cases ‹(true) = false›
     ·
      have hb0 : gb g j = 0 := by
        rcases gb_cases g j with h | h
        · exact h
        · exact absurd (show ((gb g j : Nat) : Int) = 1 by rw [h]; rfl) (beq_eq_false_iff_ne.1 hc)
      rw [if_neg (by rw [hb0]; decide)] at hsc
      refine gNo ?_
      refine gPf ?_
      refine gE (GoH.condF rfl (gK (gS (gR ?_))))
      iterate 2 refine gMv ?_
      refine GoH.v (Vop.bin rfl rfl rfl rfl (bShrN (j := j) rfl (by omega) (by omega)) rfl) ?_
      refine GoH.v (Vop.bin rfl rfl rfl rfl bRem2N rfl) ?_
      refine GoH.v (Vop.bin rfl rfl rfl rfl (bEqV (v := false) (show ((((gb g j : Nat) : Int)) == 1) = false by rw [hb0]; rfl)) rfl) ?_
      refine gMv ?_
      iterate 2 refine gNo ?_
      refine gPf ?_
      refine gE (GoH.condF rfl (gK (gIb (gR ?_))))
      refine gMv ?_
      refine GoH.v (Vop.bin rfl rfl rfl rfl (bAdd (by omega)) rfl) ?_
      refine gAs ?_
      refine gE ?_
      exact IH2 (j + 1) _ _ hjl (by omega) ⟨rfl, rfl, rfl, rfl, rfl, (by rw [hsc]; rfl), rfl, trivial⟩ (List.Sublist.refl _)
    ·
     have hge : ¬ j < m.rows.length := by simpa using hc
     obtain rfl : j = m.rows.length := by omega
     have hnx : meetW n m.rel g k m.rows.length = (meetL n m.rel g)[k]'(by omega) := by simp [meetL, meetTo, hrl]
     rw [hnx]
     refine GoH.exit rfl (gR ?_)
     iterate 2 refine gMv ?_
     refine GoH.bs1 (v := U ((meetL n m.rel g)[k]'(by omega))) rfl rfl rfl rfl Tryz.underlying22 hi hz hsz rfl rfl (fun b82 => ?_)
     refine GoH.appE U (xs := (meetL n m.rel g).take k) (sp := sp) (news := [(meetL n m.rel g)[k]'(by omega)]) (spn := []) rfl rfl rfl rfl rfl Tryz.underlying22 hi hz hsz rfl hq 1 rfl 0 rfl hcap rfl (by decide) (fun _ => rfl) (by unfold maxLen; rw [hlk]; omega) (by rw [hby, hlk]; omega) (fun b' sp' cap' hlen2 => ?_)
     rw [← List.take_succ_eq_append_getElem (by omega : k < (meetL n m.rel g).length)] at *
     refine gAs ?_
     refine gE (gIb (gR ?_))
     refine gMv ?_
     refine GoH.v (Vop.bin rfl rfl rfl rfl (bAdd (by omega)) rfl) ?_
     refine gAs ?_
     refine gE ?_
     exact IH (k + 1, some b', cap', sp') _ _ ⟨hlt, (fun e => by cases e), hlen2⟩ (by dsimp only; omega) ⟨rfl, rfl, rfl, rfl, rfl, trivial⟩ (.cons _ (List.Sublist.refl _))
   ·
    cases hc
  ·
   have hge : ¬ k < n := by have : ¬ (k : Int) < m.n := by simpa using hc
                            omega
   obtain rfl : k = n := by omega
   have htk : (meetL k m.rel g).take k = meetL k m.rel g := List.take_of_length_le (by rw [meetL, meetTo_len]; exact Nat.le_refl _)
   rw [htk] at hq hcap ⊢
   refine GoH.exit rfl (gS (gR ?_))
   refine gMv ?_
   refine gAs ?_
   refine gE ?_
   refine GoH.ret Tryz.f95 Tryz.func95 rfl (fun w' hS => ?_)
   exact ⟨hS.ext, q, cap, sp, rfl, hq, hcap, fun b' hb => by subst hb; exact ⟨hS.fresh (j := 0) rfl, hS.get (j := 0) rfl⟩⟩
theorem rmeetM_c (m : MV) (n g : Nat) (w : World) (hm : m.At w) (hv : ValM m.n m.val m.rel) (hn : m.n = (n : Int)) (hg : 1 ≤ g ∧ g < 2 ^ m.rows.length) :
    Cn Tryz.prog 73 [m.v, .int .i64 g] w (fun v w' => Own w w' v (meetL n m.rel g)) := by
  refine Cn.of Tryz.func73 rfl rfl ?_
  refine gS (gR ?_)
  refine GoH.bx rfl rfl rfl rfl (fun b2 => ?_)
  refine gAs ?_
  refine gE (gS (gR ?_))
  refine GoH.v (Vop.ldB rfl rfl rfl rfl Tryz.isAgg25 0 rfl Tryz.sizeOf25 rfl) ?_
  refine gMv ?_
  refine GoH.callM _ rfl rfl rfl rfl rfl (fun _ _ => Tryz.call95 _ _) (fun w _ hS => rgroup_c m n g w (hm.ex0 hS.ext) hv hn hg) ?_
  rintro v w1 w2 Y' hS he ho
  obtain ⟨q, cap, sp, rfl, hq, hcap, hS'⟩ := gainO hS he ho
  refine ⟨_, hS', ?_⟩
  refine gAs ?_
  refine gE ?_
  refine GoH.ret Tryz.f73 Tryz.func73 rfl (fun w' hS => ?_)
  exact ⟨hS.ext, q, cap, sp, rfl, hq, hcap, fun b' hb => by subst hb; exact ⟨hS.fresh (j := 0) rfl, hS.get (j := 0) rfl⟩⟩
end Go.Proofs.YtcljmlnnfdaljaaGreatDoor
