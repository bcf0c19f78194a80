/- Contracts of functions of the program: what each call returns and that nothing else of memory is turned, under the conditions that each theorem states. -/
import Derived.Test.YtoiafcoaeomnlaaDoorR3
namespace Go.Proofs.YtoiafcoaeomnlaaDoor
open Go.RowKit Go.Proofs.Wit
/-! the reference, 4 -/
theorem gainI {w0 w w' : World} {S : List Nat} {h : Hl} {Y : List (Nat × Obj)} (s : St w0 S w h Y) (e : Ex [] w w') {v : Value} {xs : List Nat} (ho : OwnI w w' v xs) :
    ∃ q cap sp, v = osv q xs.length cap ∧ (q = none → xs.length = 0 ∧ cap = 0) ∧ (xs.map N64 ++ sp).length = cap ∧ St w0 S w' ((q, ob N64 3 xs sp) :: h) Y := by
  obtain ⟨q, cap, sp, h1, h2, h3, h4⟩ := ho
  refine ⟨q, cap, sp, h1, h2, h3, ?_⟩
  cases q with
  | none => exact (s.later e).none _
  | some b => exact s.gain e (h4 b rfl).2 rfl (h4 b rfl).1
theorem rWalk_c (a : Option Addr) (ca : Nat) (r : List W64) (b : Option Addr) (cb : Nat) (K : Nat) (t s0 : W64) (w : World) (ha : SlU w a r) (hb : SlU w b (nearL r t K)) (hv : Val r) (hK : K ≤ 64)
    (ht : ∀ i, t.getLsbD i = true → i < r.length) (hok : WalkOk r t (K + 1) s0) :
    Cn Tryd.prog 54 [.slice a r.length ca, .slice b (nearL r t K).length cb, U s0] w (fun v w' => OwnI w w' v (walkR r t (K + 1) s0)) := by
  obtain ⟨i1, hi1, hz1, hsz1, hby1⟩ := info_parts infoI
  have hnl : (nearL r t K).length = K + 1 := nearL_length
  refine Cn.of Tryd.func54 rfl rfl ?_
  refine GoH.seq ?_
  refine GoH.region ?_
  refine GoH.v (Vop.asg rfl rfl rfl rfl) ?_
  refine GoH.regionEnd ?_
  refine GoH.seq ?_
  refine GoH.region ?_
  refine GoH.v (Vop.asg rfl rfl rfl rfl) ?_
  refine GoH.regionEnd ?_
  refine GoH.seq ?_
  refine GoH.seq ?_
  refine GoH.region ?_
  refine GoH.v (Vop.mv rfl rfl rfl rfl) ?_
  refine GoH.v (Vop.blt rfl rfl rfl (blt_len_slice Tryd.underlying22) rfl) ?_
  refine GoH.v (Vop.bin rfl rfl rfl rfl (bSubE (c := ((K + 1 : Nat) : Int) - 1) (by omega) (by omega)) rfl) ?_
  refine GoH.v (Vop.asg rfl rfl rfl rfl) ?_
  refine GoH.regionEnd ?_
  refine GoH.block ?_
  refine GoH.addNone (ob N64 3 [] []) ?_
  refine GoH.loop (σ := Nat × W64 × Option Nat × List Nat × Nat × List Value) (fun z => [(0, .slice a r.length ca), (1, .slice b (nearL r t K).length cb), (2, U z.2.1), (7, osv z.2.2.1 z.2.2.2.1.length z.2.2.2.2.1), (8, .int .i64 ((z.1 : Int) - 1))])
    (fun z => [(z.2.2.1, ob N64 3 z.2.2.2.1 z.2.2.2.2.2)])
    (fun z => z.1 ≤ K + 1 ∧ WalkOk r t z.1 z.2.1 ∧ z.2.2.2.1 ++ walkR r t z.1 z.2.1 = walkR r t (K + 1) s0 ∧ z.2.2.2.1.length + z.1 = K + 1 ∧ (z.2.2.1 = none → z.2.2.2.1.length = 0 ∧ z.2.2.2.2.1 = 0) ∧ (z.2.2.2.1.map N64 ++ z.2.2.2.2.2).length = z.2.2.2.2.1) (fun z => z.1) (K + 1, s0, none, [], 0, [])
    ⟨Nat.le_refl _, hok, rfl, Nat.zero_add _, fun _ => ⟨rfl, rfl⟩, rfl⟩ ⟨rfl, rfl, rfl, rfl, rfl, trivial⟩ (List.Sublist.refl _) (fun z hI IH => ?_)
  obtain ⟨c, s, q, out, cap, sp⟩ := z
  obtain ⟨hcK, hwo, hout, hol, hq, hcap⟩ := hI
  dsimp only at hcK hwo hout hol hq hcap
  -- heap: q
  refine GoH.seq ?_
  refine GoH.seq ?_
  refine GoH.region ?_
  refine GoH.v (Vop.mv rfl rfl rfl rfl) ?_
  refine GoH.v (Vop.bin rfl rfl rfl rfl bGe rfl) ?_
  refine GoH.regionEnd ?_
  refine GoH.cond rfl (fun hc => ?_) (fun hc => ?_)
  · -- yes
    have h2 : (c : Int) - 1 ≥ 0 := by simpa using hc
    obtain ⟨c, rfl⟩ : ∃ c', c = c' + 1 := ⟨c - 1, by omega⟩
    rw [show (((c + 1 : Nat) : Int) - 1) = ((c : Nat) : Int) from by omega]
    obtain ⟨hne, hat⟩ := hwo
    obtain ⟨z1, z2, z3⟩ := tz_spec hne
    have hcx : c < (nearL r t K).length := by omega
    have hget : (nearL r t K).getD c 0#64 = near r t c := nearL_get (by omega)
    have hwr : tz (s &&& near r t c) < r.length := by
      cases c with
      | zero => exact ht _ hat.1
      | succ c => exact near_lt hv hat.1
    refine GoH.skip ?_
    refine GoH.seq ?_
    refine GoH.block ?_
    refine GoH.seq ?_
    refine GoH.region ?_
    refine GoH.v (Vop.asg rfl rfl rfl rfl) ?_
    refine GoH.regionEnd ?_
    refine GoH.seq ?_
    refine GoH.block ?_
    refine GoH.loop (σ := Nat) (fun x => [(0, .slice a r.length ca), (1, .slice b (nearL r t K).length cb), (2, U s), (7, osv q out.length cap), (8, .int .i64 c), (9, .int .i64 x)])
      (fun _ => [(q, ob N64 3 out sp)]) (fun x => x ≤ tz (s &&& near r t c)) (fun x => tz (s &&& near r t c) - x) 0 (Nat.zero_le _) ⟨rfl, rfl, rfl, rfl, rfl, rfl, trivial⟩ (List.Sublist.refl _) (fun x hx IH2 => ?_)
    -- heap: q
    refine GoH.seq ?_
    refine GoH.seq ?_
    refine GoH.region ?_
    refine GoH.v (Vop.mv rfl rfl rfl rfl) ?_
    refine GoH.v (Vop.mv rfl rfl rfl rfl) ?_
    refine GoH.v (Vop.mv rfl rfl rfl rfl) ?_
    refine GoH.v (Vop.idx rfl rfl rfl rfl rfl Tryd.underlying22 Tryd.sizeOf27 ⟨_, hb⟩ (by simp) (c) ⟨rfl, by simpa using hcx⟩) ?_
    refine GoH.v (Vop.ld rfl rfl rfl rfl Tryd.isAgg27 (fun w _ hS => (SlU.ex0 hb hS.ext).at (c) hcx)) ?_
    refine GoH.v (Vop.bin rfl rfl rfl rfl bAnd rfl) ?_
    refine GoH.v (Vop.mv rfl rfl rfl rfl) ?_
    refine GoH.callP rfl rfl rfl rfl rfl (fun _ _ => Tryd.call59 _ _) (fun w _ hS => rIn_c _ x w (by omega)) ?_
    refine GoH.v (Vop.un rfl rfl rfl uNot rfl) ?_
    refine GoH.regionEnd ?_
    refine GoH.cond rfl (fun hc => ?_) (fun hc => ?_)
    · -- yes
      have hxb : (s &&& near r t c).getLsbD x = false := by rw [hget] at hc; simpa only [Bool.not_eq_true'] using hc
      have hxt : x < tz (s &&& near r t c) := by
        rcases Nat.lt_or_eq_of_le hx with h | h
        · exact h
        · rw [h, z2] at hxb; cases hxb
      refine GoH.skip ?_
      refine GoH.block ?_
      refine GoH.region ?_
      refine GoH.v (Vop.mv rfl rfl rfl rfl) ?_
      refine GoH.v (Vop.bin rfl rfl rfl rfl (bAdd (by omega)) rfl) ?_
      refine GoH.v (Vop.asg rfl rfl rfl rfl) ?_
      refine GoH.regionEnd ?_
      refine GoH.inBlock ?_
      exact IH2 (x + 1) _ _ hxt (by omega) ⟨rfl, rfl, rfl, rfl, rfl, rfl, trivial⟩ (List.Sublist.refl _)
    · -- no
      have hxb : (s &&& near r t c).getLsbD x = true := by rw [hget] at hc; simpa only [Bool.not_eq_false'] using hc
      obtain rfl : x = tz (s &&& near r t c) := by
        rcases Nat.lt_or_eq_of_le hx with h | h
        · rw [z3 x h] at hxb; cases hxb
        · exact h
      refine GoH.exit rfl ?_
      refine GoH.seq ?_
      refine GoH.region ?_
      refine GoH.v (Vop.mv rfl rfl rfl rfl) ?_
      refine GoH.v (Vop.mv rfl rfl rfl rfl) ?_
      refine GoH.bs1 (v := N64 (tz (s &&& near r t c))) rfl rfl rfl rfl Tryd.underlying30 hi1 hz1 hsz1 rfl rfl (fun b30 => ?_)
      -- heap: b30 q
      refine GoH.appE N64 (xs := out) (sp := sp) (news := [tz (s &&& near r t c)]) (spn := []) rfl rfl rfl rfl rfl Tryd.underlying30 hi1 hz1 hsz1 rfl hq 1 rfl 0 rfl hcap rfl (by decide) (fun _ => rfl) (by unfold maxLen; omega) (by rw [hby1]; omega) (fun b' sp' cap' hlen => ?_)
      refine GoH.v (Vop.asg rfl rfl rfl rfl) ?_
      refine GoH.regionEnd ?_
      refine GoH.region ?_
      refine GoH.v (Vop.mv rfl rfl rfl rfl) ?_
      refine GoH.v (Vop.mv rfl rfl rfl rfl) ?_
      refine GoH.v (Vop.idx rfl rfl rfl rfl rfl Tryd.underlying22 Tryd.sizeOf27 ⟨_, ha⟩ (by simp) (tz (s &&& near r t c)) ⟨rfl, by simpa using hwr⟩) ?_
      refine GoH.v (Vop.ld rfl rfl rfl rfl Tryd.isAgg27 (fun w _ hS => (SlU.ex0 ha hS.ext).at (tz (s &&& near r t c)) hwr)) ?_
      refine GoH.v (Vop.asg rfl rfl rfl rfl) ?_
      refine GoH.regionEnd ?_
      refine GoH.inBlock ?_
      refine GoH.region ?_
      refine GoH.v (Vop.mv rfl rfl rfl rfl) ?_
      refine GoH.v (Vop.bin rfl rfl rfl rfl (bSubE (c := (c : Int) - 1) rfl (by omega)) rfl) ?_
      refine GoH.v (Vop.asg rfl rfl rfl rfl) ?_
      refine GoH.regionEnd ?_
      exact IH (c, _, some b', _, cap', sp') _ _ ⟨by omega, WalkOk.next hv ⟨hne, hat⟩, by rw [← hout, walkR_next, List.append_assoc]; rfl, by simp; omega, fun h => (by cases h), hlen⟩ (Nat.lt_succ_self _) ⟨rfl, rfl, rfl, rfl, rfl, trivial⟩ (.cons _ (List.Sublist.refl _))
  · -- no
    have h2 : ¬ (c : Int) - 1 ≥ 0 := by simpa using hc
    obtain rfl : c = 0 := by omega
    refine GoH.exit rfl ?_
    refine GoH.seq ?_
    refine GoH.region ?_
    refine GoH.v (Vop.mv rfl rfl rfl rfl) ?_
    refine GoH.v (Vop.asg rfl rfl rfl rfl) ?_
    refine GoH.regionEnd ?_
    refine GoH.ret Tryd.f54 Tryd.func54 rfl (fun w' hS => ?_)
    exact ⟨hS.ext, by rw [← hout, show walkR r t 0 s = [] from rfl, List.append_nil]; exact ownIAt hS 0 rfl rfl hq hcap⟩
theorem rPath_c (a : Option Addr) (ca : Nat) (r : List W64) (f t : W64) (w : World) (ha : SlU w a r) (hl : r.length ≤ maxLen) :
    Cn Tryd.prog 24 [.slice a r.length ca, U f, U t] w (fun v w' => ∃ p, OwnI w w' v p ∧ PathIs r f t p) := by
  obtain ⟨i0, hi, hz, hsz, hby⟩ := info_parts infoU
  refine Cn.of Tryd.func24 rfl rfl ?_
  refine GoH.seq ?_
  refine GoH.region ?_
  refine GoH.v (Vop.asg rfl rfl rfl rfl) ?_
  refine GoH.regionEnd ?_
  refine GoH.seq ?_
  refine GoH.seq ?_
  refine GoH.region ?_
  refine GoH.v (Vop.mv rfl rfl rfl rfl) ?_
  refine GoH.callP rfl rfl rfl rfl rfl (fun _ _ => Tryd.call51 _ _) (fun w _ hS => rValid_c a ca r w (ha.ex0 hS.ext) hl) ?_
  refine GoH.v (Vop.un rfl rfl rfl uNot rfl) ?_
  refine GoH.regionEnd ?_
  refine GoH.cond rfl (fun hc => ?_) (fun hc => ?_)
  · -- yes
    have h1 : checkR r.length r ≠ 0 := by simpa using hc
    refine GoH.seq ?_
    refine GoH.region ?_
    refine GoH.v (Vop.asg rfl rfl rfl rfl) ?_
    refine GoH.regionEnd ?_
    refine GoH.ret Tryd.f24 Tryd.func24 rfl (fun w' hS => ?_)
    exact ⟨hS.ext, [], ownI_nil _ _, by rw [PathIs, if_pos h1]⟩
  · -- no
    have h1 : ¬ checkR r.length r ≠ 0 := by simpa using hc
    have hv := check_zero.1 (by simpa using h1)
    have hlen := hv.len
    refine GoH.skip ?_
    refine GoH.seq ?_
    refine GoH.region ?_
    refine GoH.v (Vop.mv rfl rfl rfl rfl) ?_
    refine GoH.v (Vop.mv rfl rfl rfl rfl) ?_
    refine GoH.v (Vop.blt rfl rfl rfl (blt_len_slice Tryd.underlying22) rfl) ?_
    refine GoH.callP rfl rfl rfl rfl rfl (fun _ _ => Tryd.call25 _ _) (fun w _ hS => rAll_c _ w hlen) ?_
    refine GoH.v (Vop.bin rfl rfl rfl rfl bAnd rfl) ?_
    have hpn : ∀ p, ((∃ k, Short r f (t &&& allW r.length) k ∧ p = pathK r (t &&& allW r.length) f k) ∨ ((∀ k, 1 ≤ k → f &&& near r (t &&& allW r.length) k = 0#64) ∧ p = [])) → PathIs r f t p := fun p h => by rw [PathIs, if_neg h1]; exact h
    have htb : ∀ i, (t &&& allW r.length).getLsbD i = true → i < r.length := fun i hi => by
      rw [BitVec.getLsbD_and, Bool.and_eq_true] at hi
      rw [allW_bit hlen (bit_lt hi.1)] at hi
      simpa using hi.2
    generalize t &&& allW r.length = tt at hpn htb ⊢
    refine GoH.bs1 (v := U tt) rfl rfl rfl rfl Tryd.underlying22 hi hz hsz rfl rfl (fun b17 => ?_)
    -- heap: b17
    refine GoH.v (Vop.asg rfl rfl rfl rfl) ?_
    refine GoH.regionEnd ?_
    refine GoH.seq ?_
    refine GoH.seq ?_
    refine GoH.region ?_
    refine GoH.v (Vop.asg rfl rfl rfl rfl) ?_
    refine GoH.regionEnd ?_
    refine GoH.block ?_
    refine GoH.loop (σ := Nat × Nat × Nat × List Value) (fun z => [(0, .slice a r.length ca), (1, U f), (7, osv (some z.2.1) (nearL r tt z.1).length z.2.2.1), (8, .int .i64 ((z.1 + 1 : Nat) : Int))]) (fun z => [(some z.2.1, ob U 27 (nearL r tt z.1) z.2.2.2)])
      (fun z => z.1 ≤ r.length ∧ (∀ j, 1 ≤ j → j ≤ z.1 → f &&& near r tt j = 0#64) ∧ ((nearL r tt z.1).map U ++ z.2.2.2).length = z.2.2.1) (fun z => r.length - z.1) (0, b17, 1, []) ⟨Nat.zero_le _, fun j h1 h2 => by omega, rfl⟩ ⟨rfl, rfl, rfl, rfl, trivial⟩ (List.Sublist.refl _) (fun z hI IH => ?_)
    obtain ⟨m, b7, cap7, sp7⟩ := z
    obtain ⟨hm, hno, hcap7⟩ := hI
    dsimp only at hm hno hcap7
    have hnl : (nearL r tt m).length = m + 1 := nearL_length
    have hmx : m < (nearL r tt m).length := by omega
    have hget : (nearL r tt m).getD m 0#64 = near r tt m := nearL_get (Nat.le_refl m)
    -- heap: b7
    refine GoH.seq ?_
    refine GoH.seq ?_
    refine GoH.region ?_
    refine GoH.v (Vop.mv rfl rfl rfl rfl) ?_
    refine GoH.v (Vop.mv rfl rfl rfl rfl) ?_
    refine GoH.v (Vop.blt rfl rfl rfl (blt_len_slice Tryd.underlying22) rfl) ?_
    refine GoH.v (Vop.bin rfl rfl rfl rfl bLe rfl) ?_
    refine GoH.regionEnd ?_
    refine GoH.cond rfl (fun hc => ?_) (fun hc => ?_)
    · -- yes
      have hlt : m < r.length := by have : ((m + 1 : Nat) : Int) ≤ r.length := by simpa using hc
                                    omega
      refine GoH.skip ?_
      refine GoH.seq ?_
      refine GoH.block ?_
      refine GoH.seq ?_
      refine GoH.region ?_
      refine GoH.v (Vop.mv rfl rfl rfl rfl) ?_
      refine GoH.v (Vop.mv rfl rfl rfl rfl) ?_
      refine GoH.v (Vop.mv rfl rfl rfl rfl) ?_
      refine GoH.v (Vop.mv rfl rfl rfl rfl) ?_
      refine GoH.v (Vop.bin rfl rfl rfl rfl (bSubE (c := ((m : Nat) : Int)) (by omega) (by omega)) rfl) ?_
      refine GoH.v (Vop.idxS rfl rfl rfl rfl rfl Tryd.underlying22 Tryd.sizeOf27 (m) ⟨rfl, hmx⟩) ?_
      refine GoH.v (Vop.ldE U 0#64 rfl rfl rfl rfl Tryd.isAgg27 0 rfl hmx) ?_
      refine GoH.callP rfl rfl rfl rfl rfl (fun _ _ => Tryd.call20 _ _) (fun w _ hS => (show Cn Tryd.prog 20 [.slice a r.length ca, U ((nearL r tt m).getD m 0#64)] w (fun v _ => v = U (near r tt (m + 1))) from by
      have h := rDiamond_c a ca r (near r tt m) w (ha.ex0 hS.ext) hl
      rw [hget]
      refine h.mono (fun v w' _ hv2 => ?_)
      rw [hv2, diaR, if_neg h1, boxR, if_neg h1]
      exact congrArg U ((dia_eq hv).trans (near_dia hv)))) ?_
      refine GoH.bs1 (v := U (near r tt (m + 1))) rfl rfl rfl rfl Tryd.underlying22 hi hz hsz rfl rfl (fun b32 => ?_)
      -- heap: b32 b7
      refine GoH.appE U (xs := nearL r tt m) (sp := sp7) (news := [near r tt (m + 1)]) (spn := []) rfl rfl rfl rfl rfl Tryd.underlying22 hi hz hsz rfl (fun h => by cases h) 1 rfl 0 rfl hcap7 rfl (by decide) (fun _ => rfl) (by unfold maxLen; omega) (by rw [hby]; omega) (fun b' sp' cap' hlen2 => ?_)
      rw [nearL_succ] at *
      have hmx2 : m + 1 < (nearL r tt (m + 1)).length := by rw [nearL_length]; omega
      have hget2 : (nearL r tt (m + 1)).getD (m + 1) 0#64 = near r tt (m + 1) := nearL_get (Nat.le_refl _)
      -- heap: b32 b'
      refine GoH.v (Vop.asg rfl rfl rfl rfl) ?_
      refine GoH.regionEnd ?_
      refine GoH.seq ?_
      refine GoH.region ?_
      refine GoH.v (Vop.mv rfl rfl rfl rfl) ?_
      refine GoH.v (Vop.mv rfl rfl rfl rfl) ?_
      refine GoH.v (Vop.idxS rfl rfl rfl rfl rfl Tryd.underlying22 Tryd.sizeOf27 (m + 1) ⟨rfl, hmx2⟩) ?_
      refine GoH.v (Vop.ldE U 0#64 rfl rfl rfl rfl Tryd.isAgg27 1 rfl hmx2) ?_
      refine GoH.v (Vop.mv rfl rfl rfl rfl) ?_
      refine GoH.v (Vop.bin rfl rfl rfl rfl bAnd rfl) ?_
      refine GoH.v (Vop.bin (b := U 0#64) rfl rfl rfl rfl bNeU rfl) ?_
      refine GoH.regionEnd ?_
      refine GoH.cond rfl (fun hc => ?_) (fun hc => ?_)
      · -- yes
        rw [hget2] at hc
        have hsh : Short r f tt (m + 1) := ⟨by omega, by rw [BitVec.and_comm]; simpa using hc, fun j h2 h3 => hno j h2 (by omega)⟩
        refine GoH.seq ?_
        refine GoH.region ?_
        refine GoH.v (Vop.mv rfl rfl rfl rfl) ?_
        refine GoH.v (Vop.mv rfl rfl rfl rfl) ?_
        refine GoH.v (Vop.mv rfl rfl rfl rfl) ?_
        refine GoH.v (Vop.mv rfl rfl rfl rfl) ?_
        refine GoH.v (Vop.idxS rfl rfl rfl rfl rfl Tryd.underlying22 Tryd.sizeOf27 (m + 1) ⟨rfl, hmx2⟩) ?_
        refine GoH.v (Vop.ldE U 0#64 rfl rfl rfl rfl Tryd.isAgg27 1 rfl hmx2) ?_
        refine GoH.v (Vop.mv rfl rfl rfl rfl) ?_
        refine GoH.v (Vop.bin rfl rfl rfl rfl bAnd rfl) ?_
        refine GoH.callM _ rfl rfl rfl rfl rfl (fun _ _ => Tryd.call54 _ _) (fun w _ hS => (show Cn Tryd.prog 54 [.slice a r.length ca, osv (some b') (nearL r tt (m + 1)).length cap', U ((nearL r tt (m + 1)).getD (m + 1) 0#64 &&& f)] w (fun v w' => OwnI w w' v (pathK r tt f (m + 1))) from by
          rw [hget2, ← walk_path]
          exact rWalk_c a ca r (some ⟨b', 0, none⟩) cap' (m + 1) tt _ w (ha.ex0 hS.ext) (sluAt (q := some b') (c := cap') hS 1 rfl (fun h => by cases h)) hv (by omega) htb (walk_ok hsh))) ?_
        rintro v w1 w2 Y' hS he ho
        obtain ⟨q, cap, sp, rfl, hq, hcap, hS'⟩ := gainI hS he ho
        refine ⟨_, hS', ?_⟩
        -- heap: q b32 b'
        refine GoH.v (Vop.asg rfl rfl rfl rfl) ?_
        refine GoH.regionEnd ?_
        refine GoH.ret Tryd.f24 Tryd.func24 rfl (fun w' hS => ?_)
        exact ⟨hS.ext, pathK r tt f (m + 1), ownIAt hS 0 rfl rfl hq hcap, hpn _ (.inl ⟨m + 1, hsh, rfl⟩)⟩
      · -- no
        rw [hget2] at hc
        refine GoH.skip ?_
        refine GoH.inBlock ?_
        refine GoH.region ?_
        refine GoH.v (Vop.mv rfl rfl rfl rfl) ?_
        refine GoH.v (Vop.bin rfl rfl rfl rfl (bAdd (by omega)) rfl) ?_
        refine GoH.v (Vop.asg rfl rfl rfl rfl) ?_
        refine GoH.regionEnd ?_
        exact IH (m + 1, b', cap', sp') _ _ ⟨hlt, fun j h2 h3 => by
        by_cases e : j = m + 1
        · subst e; rw [BitVec.and_comm]; simpa using hc
        · exact hno j h2 (by omega), hlen2⟩ (by omega) ⟨rfl, rfl, rfl, rfl, trivial⟩ (.cons _ (List.Sublist.refl _))
    · -- no
      have hge : ¬ ((m + 1 : Nat) : Int) ≤ r.length := by simpa using hc
      obtain rfl : m = r.length := by omega
      refine GoH.exit rfl ?_
      refine GoH.seq ?_
      refine GoH.region ?_
      refine GoH.v (Vop.asg rfl rfl rfl rfl) ?_
      refine GoH.regionEnd ?_
      refine GoH.ret Tryd.f24 Tryd.func24 rfl (fun w' hS => ?_)
      exact ⟨hS.ext, [], ownI_nil _ _, hpn _ (.inr ⟨none_le hv hno, rfl⟩)⟩
end Go.Proofs.YtoiafcoaeomnlaaDoor
