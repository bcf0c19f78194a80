/- Contracts of functions of the program: what each call returns and that nothing else of memory is turned, under the conditions that each theorem states. -/
import Derived.Test.YtoiafcoaeomnlaaDoorT9
import Derived.Test.YtoiafcoaeomnlaaDoorWpath
namespace Go.Proofs.YtoiafcoaeomnlaaDoor
open Go.RowKit Go.Proofs.Wit

/-- a list of numbers in a block of one's own, or nil -/
def OwnI (w w' : World) (v : Value) (xs : List Nat) : Prop :=
  ∃ q cap sp, v = osv q xs.length cap ∧ (q = none → xs.length = 0 ∧ cap = 0) ∧ (xs.map N64 ++ sp).length = cap ∧ ∀ b, q = some b → w.heap.size ≤ b ∧ w'.heap[b]? = some (ob N64 3 xs sp)
theorem ownI_nil (w w' : World) : OwnI w w' (.slice none 0 0) [] := ⟨none, 0, [], rfl, fun _ => ⟨rfl, rfl⟩, rfl, fun _ h => by cases h⟩
theorem ownIAt {w0 w : World} {h : Hl} {Y : List (Nat × Obj)} (s : St w0 [] w h Y) {q : Option Nat} {xs : List Nat} {sp : List Value} (j : Nat) (hj : h[j]? = some (q, ob N64 3 xs sp)) {m c : Nat} (hm : m = xs.length) (hq : q = none → xs.length = 0 ∧ c = 0) (hcap : (xs.map N64 ++ sp).length = c) : OwnI w0 w (osv q m c) xs := by
  subst hm
  exact ⟨q, c, sp, rfl, hq, hcap, fun b' hb => by subst hb; exact ⟨s.fresh hj, s.get hj⟩⟩

theorem path_c (a : Option Addr) (ca : Nat) (r : List W64) (f t : W64) (w : World) (hT : Tab w) (ha : SlU w a r) (hl : r.length ≤ maxLen) :
    Cn Tryd.prog 23 [.slice a r.length ca, U f, U t] w (fun v w' => ∃ p, OwnI w w' v p ∧ PathIs r f t p) := by
  obtain ⟨i0, hi, hz, hsz, hby⟩ := info_parts infoU
  obtain ⟨i1, hi1, hz1, hsz1, hby1⟩ := info_parts infoI
  refine Cn.of Tryd.func23 rfl rfl ?_
  refine GoH.seq ?_
  refine GoH.region ?_
  refine GoH.v (Vop.asg rfl rfl rfl rfl) ?_
  refine GoH.regionEnd ?_
  refine GoH.seq ?_
  refine GoH.seq ?_
  refine GoH.region ?_
  refine GoH.v (Vop.mv rfl rfl rfl rfl) ?_
  refine GoH.v (Vop.blt rfl rfl rfl (blt_len_slice Tryd.underlying22) rfl) ?_
  refine GoH.v (Vop.mv rfl rfl rfl rfl) ?_
  refine GoH.callP rfl rfl rfl rfl rfl (fun _ _ => Tryd.call13 _ _) (fun w _ hS => check_c _ a ca r w (ha.ex0 hS.ext) hl) ?_
  refine GoH.v (Vop.bin rfl rfl rfl rfl bNe rfl) ?_
  refine GoH.regionEnd ?_
  refine GoH.cond rfl (fun hc => ?_) (fun hc => ?_)
  · -- yes
    have h1 : checkR r.length r ≠ 0 := by simpa using hc
    refine GoH.seq ?_
    refine GoH.region ?_
    refine GoH.v (Vop.asg rfl rfl rfl rfl) ?_
    refine GoH.regionEnd ?_
    refine GoH.ret Tryd.f23 Tryd.func23 rfl (fun w' hS => ?_)
    exact ⟨hS.ext, [], ownI_nil _ _, by rw [PathIs, if_pos h1]⟩
  · -- no
    have h1 : ¬ checkR r.length r ≠ 0 := by simpa using hc
    have hv := check_zero.1 (by simpa using h1)
    have hlen := hv.len
    have pnil : (∀ k, 1 ≤ k → f &&& near r (t &&& allW r.length) k = 0#64) → PathIs r f t [] := fun h => by rw [PathIs, if_neg h1]; exact .inr ⟨h, rfl⟩
    refine GoH.skip ?_
    refine GoH.seq ?_
    refine GoH.region ?_
    refine GoH.v (Vop.mv rfl rfl rfl rfl) ?_
    refine GoH.callM _ rfl rfl rfl rfl rfl (fun _ _ => Tryd.call48 _ _) (fun w _ hS => reversed_c a ca r w (hT.ex hS.ext) (ha.ex0 hS.ext) hv) ?_
    rintro v w1 w2 Y' hS he ho
    obtain ⟨q, cap, sp, rfl, hq, hcap, hS'⟩ := gainO hS he ho
    refine ⟨_, hS', ?_⟩
    -- heap: q
    refine GoH.v (Vop.mv rfl rfl rfl rfl) ?_
    refine GoH.v (Vop.blt rfl rfl rfl (blt_len_slice Tryd.underlying22) rfl) ?_
    refine GoH.v (Vop.asg rfl rfl rfl rfl) ?_
    refine GoH.v (Vop.asg rfl rfl rfl rfl) ?_
    refine GoH.regionEnd ?_
    refine GoH.seq ?_
    refine GoH.region ?_
    refine GoH.v (Vop.mv rfl rfl rfl rfl) ?_
    refine GoH.v (Vop.mv rfl rfl rfl rfl) ?_
    refine GoH.callP rfl rfl rfl rfl rfl (fun _ _ => Tryd.call45 _ _) (fun w _ hS => all_c _ w hlen) ?_
    refine GoH.v (Vop.bin rfl rfl rfl rfl bAnd rfl) ?_
    refine GoH.v (Vop.asg rfl rfl rfl rfl) ?_
    refine GoH.regionEnd ?_
    refine GoH.seq ?_
    refine GoH.region ?_
    refine GoH.v (Vop.mv rfl rfl rfl rfl) ?_
    refine GoH.v (Vop.mv rfl rfl rfl rfl) ?_
    refine GoH.callP rfl rfl rfl rfl rfl (fun _ _ => Tryd.call49 _ _) (fun w _ hS => mapped_c (q.map (fun b => ⟨b, 0, none⟩)) cap (revR r) _ w (hT.ex hS.ext) (sluAt hS 0 rfl hq) (fun i hi => by have h := mem_pts.1 hi; have h2 := h.2; rw [BitVec.getLsbD_and, allW_bit hlen h.1, Bool.and_eq_true] at h2; rw [revR_length]; simpa using h2.2)) ?_
    refine GoH.v (Vop.asg rfl rfl rfl rfl) ?_
    refine GoH.regionEnd ?_
    refine GoH.seq ?_
    refine GoH.region ?_
    refine GoH.v (Vop.mv rfl rfl rfl rfl) ?_
    refine GoH.v (Vop.asg rfl rfl rfl rfl) ?_
    refine GoH.regionEnd ?_
    refine GoH.seq ?_
    refine GoH.region ?_
    refine GoH.v (Vop.mv rfl rfl rfl rfl) ?_
    generalize htt : t &&& allW r.length = tt at pnil ⊢
    refine GoH.bs1 (v := U (near r tt 1)) rfl rfl rfl rfl Tryd.underlying22 hi hz hsz rfl rfl (fun b37 => ?_)
    -- heap: b37 q
    refine GoH.v (Vop.asg rfl rfl rfl rfl) ?_
    refine GoH.regionEnd ?_
    refine GoH.seq ?_
    refine GoH.block ?_
    refine GoH.loop (σ := Nat × Nat × Nat × List Value) (fun s => [(0, .slice a r.length ca), (1, U f), (7, osv q (revR r).length cap), (8, .int .i64 r.length), (9, U tt), (10, U (near r tt 1)), (11, U (seenU r tt s.1)), (12, osv (some s.2.1) (layers r tt s.1).length s.2.2.1)]) (fun s => [(some s.2.1, ob U 27 (layers r tt s.1) s.2.2.2), (q, ob U 27 (revR r) sp)])
      (fun s => 1 ≤ s.1 ∧ s.1 ≤ card (seenU r tt s.1) + 1 ∧ (∀ d, d < s.1 - 1 → lay r tt d &&& f = 0#64) ∧ ((layers r tt s.1).map U ++ s.2.2.2).length = s.2.2.1) (fun s => 18446744073709551616 - (seenU r tt s.1).toNat) (1, b37, 1, [])
      ⟨Nat.le_refl _, by omega, fun d hd => by omega, rfl⟩ ⟨rfl, rfl, rfl, rfl, rfl, rfl, by rw [seen_one]; rfl, rfl, trivial⟩ (by rw [show layers r tt 1 = [near r tt 1] from by rw [← lay_zero]; rfl]; exact List.Sublist.refl _) (fun s hI IH => ?_)
    obtain ⟨m, b12, cap12, sp12⟩ := s
    obtain ⟨hm, hmc, hno, hcap12⟩ := hI
    dsimp only at hm hmc hno hcap12
    have hcard := card_le (seenU r tt m)
    have hlm : (layers r tt m).length = m := layers_length
    have hix : m - 1 < (layers r tt m).length := by omega
    have hlast : (layers r tt m).getD (m - 1) 0#64 = lay r tt (m - 1) := layers_get (by omega)
    have hsub : ((layers r tt m).length : Int) - 1 = ((m - 1 : Nat) : Int) := by omega
    -- heap: b12 q
    refine GoH.seq ?_
    refine GoH.seq ?_
    refine GoH.region ?_
    refine GoH.v (Vop.mv rfl rfl rfl rfl) ?_
    refine GoH.v (Vop.bin (b := U 0#64) rfl rfl rfl rfl bNeU rfl) ?_
    refine GoH.v (Vop.mv rfl rfl rfl rfl) ?_
    -- guard on slot 40 (relation.go:267)
    refine GoH.cases (d := 40) rfl (fun hc => ?_) (fun hc => ?_)
    · -- yes
      have hfirst : near r tt 1 ≠ 0#64 := by simpa using hc
      refine GoH.v (Vop.mv rfl rfl rfl rfl) ?_
      refine GoH.v (Vop.mv rfl rfl rfl rfl) ?_
      refine GoH.v (Vop.blt rfl rfl rfl (blt_len_slice Tryd.underlying22) rfl) ?_
      refine GoH.v (Vop.bin rfl rfl rfl rfl (bSubE (c := ((m - 1 : Nat) : Int)) (by omega) (by omega)) rfl) ?_
      refine GoH.v (Vop.idxS rfl rfl rfl rfl rfl Tryd.underlying22 Tryd.sizeOf27 (m - 1) ⟨rfl, hix⟩) ?_
      refine GoH.v (Vop.ldE U 0#64 rfl rfl rfl rfl Tryd.isAgg27 0 rfl hix) ?_
      refine GoH.v (Vop.mv rfl rfl rfl rfl) ?_
      refine GoH.v (Vop.bin rfl rfl rfl rfl bAnd rfl) ?_
      refine GoH.v (Vop.bin (b := U 0#64) rfl rfl rfl rfl bEqU rfl) ?_
      refine GoH.v (Vop.pickT rfl rfl rfl rfl rfl) ?_
      refine GoH.regionEnd ?_
      refine GoH.cond rfl (fun hc => ?_) (fun hc => ?_)
      · -- yes
        rw [hlast] at hc
        have hlf : lay r tt (m - 1) &&& f = 0#64 := by simpa using hc
        have hno2 : ∀ d, d < m → lay r tt d &&& f = 0#64 := fun d hd => by
          by_cases e : d = m - 1
          · subst e; exact hlf
          · exact hno d (by omega)
        refine GoH.skip ?_
        refine GoH.block ?_
        refine GoH.seq ?_
        refine GoH.region ?_
        refine GoH.v (Vop.mv rfl rfl rfl rfl) ?_
        refine GoH.v (Vop.mv rfl rfl rfl rfl) ?_
        refine GoH.v (Vop.mv rfl rfl rfl rfl) ?_
        refine GoH.v (Vop.blt rfl rfl rfl (blt_len_slice Tryd.underlying22) rfl) ?_
        refine GoH.v (Vop.bin rfl rfl rfl rfl (bSubE (c := ((m - 1 : Nat) : Int)) (by omega) (by omega)) rfl) ?_
        refine GoH.v (Vop.idxS rfl rfl rfl rfl rfl Tryd.underlying22 Tryd.sizeOf27 (m - 1) ⟨rfl, hix⟩) ?_
        refine GoH.v (Vop.ldE U 0#64 rfl rfl rfl rfl Tryd.isAgg27 0 rfl hix) ?_
        refine GoH.callP rfl rfl rfl rfl rfl (fun _ _ => Tryd.call49 _ _) (fun w _ hS => mapped_c (q.map (fun b => ⟨b, 0, none⟩)) cap (revR r) _ w (hT.ex hS.ext) (sluAt hS 1 rfl hq) (fun i hi => by have h := (mem_pts.1 hi).2; rw [hlast] at h; rw [revR_length]; obtain ⟨m', rfl⟩ : ∃ m', m = m' + 1 := ⟨m - 1, by omega⟩; exact near_lt hv (lay_bit.1 h).1)) ?_
        refine GoH.v (Vop.mv rfl rfl rfl rfl) ?_
        refine GoH.v (Vop.bin rfl rfl rfl rfl bAndNot rfl) ?_
        refine GoH.v (Vop.asg rfl rfl rfl rfl) ?_
        refine GoH.regionEnd ?_
        refine GoH.seq ?_
        refine GoH.seq ?_
        refine GoH.region ?_
        refine GoH.v (Vop.mv rfl rfl rfl rfl) ?_
        refine GoH.v (Vop.bin (b := U 0#64) rfl rfl rfl rfl bEqU rfl) ?_
        refine GoH.regionEnd ?_
        refine GoH.cond rfl (fun hc => ?_) (fun hc => ?_)
        · -- yes
          have hz2 : lay r tt m = 0#64 := by rw [← lay_next hv hm, ← hlast]; simpa using hc
          refine GoH.seq ?_
          refine GoH.region ?_
          refine GoH.v (Vop.asg rfl rfl rfl rfl) ?_
          refine GoH.regionEnd ?_
          refine GoH.ret Tryd.f23 Tryd.func23 rfl (fun w' hS => ?_)
          exact ⟨hS.ext, [], ownI_nil _ _, pnil (none_of hv hz2 hno2)⟩
        · -- no
          have hz2 : lay r tt m ≠ 0#64 := by rw [← lay_next hv hm, ← hlast]; simpa using hc
          rw [hlast, lay_next hv hm]
          refine GoH.skip ?_
          refine GoH.seq ?_
          refine GoH.region ?_
          refine GoH.v (Vop.mv rfl rfl rfl rfl) ?_
          refine GoH.v (Vop.mv rfl rfl rfl rfl) ?_
          refine GoH.v (Vop.bin rfl rfl rfl rfl bOr rfl) ?_
          refine GoH.v (Vop.asg rfl rfl rfl rfl) ?_
          refine GoH.regionEnd ?_
          refine GoH.region ?_
          refine GoH.v (Vop.mv rfl rfl rfl rfl) ?_
          refine GoH.v (Vop.mv rfl rfl rfl rfl) ?_
          refine GoH.bs1 (v := U (lay r tt m)) rfl rfl rfl rfl Tryd.underlying22 hi hz hsz rfl rfl (fun b68 => ?_)
          -- heap: b68 b12 q
          refine GoH.appE U (xs := layers r tt m) (sp := sp12) (news := [lay r tt m]) (spn := []) rfl rfl rfl rfl rfl Tryd.underlying22 hi hz hsz rfl (fun h => by cases h) 1 rfl 0 rfl hcap12 rfl (by decide) (fun _ => rfl) (by unfold maxLen; omega) (by rw [hby]; omega) (fun b' sp' cap' hlen => ?_)
          rw [layers_succ] at *
          refine GoH.v (Vop.asg rfl rfl rfl rfl) ?_
          refine GoH.regionEnd ?_
          refine GoH.inBlock ?_
          exact IH (m + 1, b', cap', sp') _ _ ⟨by omega, by have := card_lt (lay_grows hz2); rw [← seen_succ] at this; show m + 1 ≤ card (seenU r tt (m + 1)) + 1; omega, fun d hd => hno2 d (by omega), hlen⟩ (or_grows (lay_grows hz2)) ⟨rfl, rfl, rfl, rfl, rfl, rfl, rfl, rfl, trivial⟩ (.cons _ (List.Sublist.refl _))
      · -- no
        rw [hlast] at hc
        have hlf : lay r tt (m - 1) &&& f ≠ 0#64 := by simpa using hc
        have hsh : Short r f tt m := ⟨hm, by
          rw [← lay_start hv hm hno]
          intro e
          apply hlf
          rw [← e]
          refine eq_of_bits (fun i hi => ?_)
          rw [BitVec.getLsbD_and, BitVec.getLsbD_and, BitVec.getLsbD_and, allW_bit hlen hi]
          cases hb : (lay r tt (m - 1)).getLsbD i with
          | false => rfl
          | true =>
            obtain ⟨m', rfl⟩ : ∃ m', m = m' + 1 := ⟨m - 1, by omega⟩
            have := near_lt hv (lay_bit.1 hb).1
            simp [this], fun j h1 h2 => no_near hno j h1 (by omega)⟩
        refine GoH.exit rfl ?_
        refine GoH.seq ?_
        refine GoH.draw 12 mixed rfl ?_
        refine RdGo.v (Vop.mv rfl rfl rfl rfl) ?_
        refine RdGo.v (Vop.mv rfl rfl rfl rfl) ?_
        refine RdGo.v (Vop.blt rfl rfl rfl (blt_len_slice Tryd.underlying22) rfl) ?_
        refine RdGo.v (Vop.bin rfl rfl rfl rfl (bSubE (c := ((m - 1 : Nat) : Int)) (by omega) (by omega)) rfl) ?_
        refine RdGo.v (Vop.idxS rfl rfl rfl rfl rfl Tryd.underlying22 Tryd.sizeOf27 (m - 1) ⟨rfl, hix⟩) ?_
        refine RdGo.v (Vop.ldE U 0#64 rfl rfl rfl rfl Tryd.isAgg27 0 rfl hix) ?_
        refine RdGo.v (Vop.mv rfl rfl rfl rfl) ?_
        refine RdGo.v (Vop.bin rfl rfl rfl rfl bAnd rfl) ?_
        refine RdGo.v (Vop.mv rfl rfl rfl rfl) ?_
        refine RdGo.callP rfl rfl rfl rfl rfl (fun _ _ => Tryd.call45 _ _) (fun w _ hS => all_c _ w hlen) ?_
        refine RdGo.v (Vop.bin rfl rfl rfl rfl bAnd rfl) ?_
        refine RdGo.v (Vop.asg rfl rfl rfl rfl) ?_
        refine RdGo.nil ?_
        refine GoH.regionEnd ?_
        refine GoH.seq ?_
        refine GoH.seq ?_
        refine GoH.region ?_
        refine GoH.v (Vop.mv rfl rfl rfl rfl) ?_
        refine GoH.v (Vop.bin (b := U 0#64) rfl rfl rfl rfl bEqU rfl) ?_
        refine GoH.regionEnd ?_
        refine GoH.cond rfl (fun hc => ?_) (fun hc => ?_)
        · -- yes
          rw [hlast, lay_start hv hm hno] at hc
          exact absurd (by simpa using hc) hsh.ne
        · -- no
          rw [hlast, lay_start hv hm hno]
          refine GoH.skip ?_
          refine GoH.seq ?_
          refine GoH.region ?_
          refine GoH.v (Vop.mv rfl rfl rfl rfl) ?_
          refine GoH.callP rfl rfl rfl rfl rfl (fun _ _ => Tryd.call53 _ _) (fun w _ hS => tz_c (f &&& near r tt m) w (hT.ex hS.ext) hsh.ne) ?_
          refine GoH.v (Vop.asg rfl rfl rfl rfl) ?_
          refine GoH.regionEnd ?_
          refine GoH.seq ?_
          refine GoH.region ?_
          refine GoH.v (Vop.mv rfl rfl rfl rfl) ?_
          refine GoH.bs1 (v := N64 (tz (f &&& near r tt m))) rfl rfl rfl rfl Tryd.underlying30 hi1 hz1 hsz1 rfl rfl (fun b86 => ?_)
          -- heap: b86 b12 q
          refine GoH.v (Vop.asg rfl rfl rfl rfl) ?_
          refine GoH.regionEnd ?_
          refine GoH.seq ?_
          refine GoH.seq ?_
          refine GoH.region ?_
          refine GoH.v (Vop.mv rfl rfl rfl rfl) ?_
          refine GoH.v (Vop.blt rfl rfl rfl (blt_len_slice Tryd.underlying22) rfl) ?_
          refine GoH.v (Vop.bin rfl rfl rfl rfl (bSubE (c := (m : Int) - 2) (by show ((layers r tt m).length : Int) - 2 = _; omega) (by omega)) rfl) ?_
          refine GoH.v (Vop.asg rfl rfl rfl rfl) ?_
          refine GoH.regionEnd ?_
          refine GoH.block ?_
          refine GoH.loop (σ := Nat × Nat × List Nat × Nat × Nat × List Value) (fun s => [(0, .slice a r.length ca), (9, U tt), (12, osv (some b12) (layers r tt m).length cap12), (15, N64 s.2.1), (16, osv (some s.2.2.2.1) s.2.2.1.length s.2.2.2.2.1), (17, .int .i64 ((s.1 : Int) - 2))])
            (fun s => [(some s.2.2.2.1, ob N64 3 s.2.2.1 s.2.2.2.2.2), (some b12, ob U 27 (layers r tt m) sp12)])
            (fun s => s.1 ≤ m ∧ AtL r tt s.1 s.2.1 ∧ s.2.2.1 ++ tailP r tt s.1 s.2.1 = pathK r tt f m ∧ s.2.2.1.length + s.1 = m + 1 ∧ (s.2.2.1.map N64 ++ s.2.2.2.2.2).length = s.2.2.2.2.1) (fun s => s.1) (m, tz (f &&& near r tt m), [tz (f &&& near r tt m)], b86, 1, [])
            ⟨Nat.le_refl _, AtL.start hsh, rfl, Nat.add_comm 1 m, rfl⟩ ⟨rfl, rfl, rfl, rfl, rfl, rfl, trivial⟩ (List.sublist_append_left [_, _] [_]) (fun s hI IH => ?_)
          obtain ⟨c, wa, out, b16, cap16, sp16⟩ := s
          obtain ⟨hcm, hat, hout, hol, hcap16⟩ := hI
          dsimp only at hcm hat hout hol hcap16
          -- heap: b16 b12
          refine GoH.seq ?_
          refine GoH.seq ?_
          refine GoH.region ?_
          refine GoH.v (Vop.mv rfl rfl rfl rfl) ?_
          refine GoH.v (Vop.bin rfl rfl rfl rfl bGe rfl) ?_
          refine GoH.regionEnd ?_
          refine GoH.cond rfl (fun hc => ?_) (fun hc => ?_)
          · -- yes
            have h2 : (c : Int) - 2 ≥ -1 := by simpa using hc
            obtain ⟨c, rfl⟩ : ∃ c', c = c' + 1 := ⟨c - 1, by omega⟩
            have hwa : wa < r.length := near_lt hv hat.1
            have hnx := hat.next hv
            refine GoH.skip ?_
            refine GoH.seq ?_
            refine GoH.block ?_
            refine GoH.seq ?_
            refine GoH.region ?_
            refine GoH.v (Vop.mv rfl rfl rfl rfl) ?_
            refine GoH.v (Vop.asg rfl rfl rfl rfl) ?_
            refine GoH.regionEnd ?_
            refine GoH.seq ?_
            refine GoH.seq ?_
            refine GoH.region ?_
            refine GoH.v (Vop.mv rfl rfl rfl rfl) ?_
            refine GoH.v (Vop.bin rfl rfl rfl rfl bGe rfl) ?_
            refine GoH.regionEnd ?_
            refine GoH.cond rfl (fun hc => ?_) (fun hc => ?_)
            · -- yes
              have h3 : ((c + 1 : Nat) : Int) - 2 ≥ 0 := by simpa using hc
              obtain ⟨d, rfl⟩ : ∃ d, c = d + 1 := ⟨c - 1, by omega⟩
              rw [show (((d + 1 + 1 : Nat) : Int) - 2) = ((d : Nat) : Int) from by omega]
              have hdx : d < (layers r tt m).length := by omega
              refine GoH.region ?_
              refine GoH.v (Vop.mv rfl rfl rfl rfl) ?_
              refine GoH.v (Vop.mv rfl rfl rfl rfl) ?_
              refine GoH.v (Vop.idxS rfl rfl rfl rfl rfl Tryd.underlying22 Tryd.sizeOf27 (d) ⟨rfl, hdx⟩) ?_
              refine GoH.v (Vop.ldE U 0#64 rfl rfl rfl rfl Tryd.isAgg27 1 rfl hdx) ?_
              refine GoH.v (Vop.asg rfl rfl rfl rfl) ?_
              refine GoH.regionEnd ?_
              refine GoH.seq ?_
              refine GoH.region ?_
              refine GoH.v (Vop.mv rfl rfl rfl rfl) ?_
              refine GoH.v (Vop.mv rfl rfl rfl rfl) ?_
              refine GoH.v (Vop.idx rfl rfl rfl rfl rfl Tryd.underlying22 Tryd.sizeOf27 ⟨_, ha⟩ (by simp) (wa) ⟨rfl, by simpa using hwa⟩) ?_
              refine GoH.v (Vop.ld rfl rfl rfl rfl Tryd.isAgg27 (fun w _ hS => (SlU.ex0 ha hS.ext).at (wa) hwa)) ?_
              refine GoH.v (Vop.mv rfl rfl rfl rfl) ?_
              refine GoH.v (Vop.bin rfl rfl rfl rfl bAnd rfl) ?_
              refine GoH.callP rfl rfl rfl rfl rfl (fun _ _ => Tryd.call53 _ _) (fun w _ hS => (show Cn Tryd.prog 53 [U (r.getD wa 0#64 &&& (layers r tt m).getD d 0#64)] w (fun v _ => v = N64 (tz (r.getD wa 0#64 &&& near r tt (d + 1)))) from by rw [layers_get (by omega), hat.goal hv]; exact tz_c _ w (hT.ex hS.ext) hnx.1)) ?_
              refine GoH.v (Vop.asg rfl rfl rfl rfl) ?_
              refine GoH.regionEnd ?_
              refine GoH.region ?_
              refine GoH.v (Vop.mv rfl rfl rfl rfl) ?_
              refine GoH.v (Vop.mv rfl rfl rfl rfl) ?_
              refine GoH.bs1 (v := N64 (tz (r.getD wa 0#64 &&& near r tt (d + 1)))) rfl rfl rfl rfl Tryd.underlying30 hi1 hz1 hsz1 rfl rfl (fun b110 => ?_)
              -- heap: b110 b16 b12
              refine GoH.appE N64 (xs := out) (sp := sp16) (news := [tz (r.getD wa 0#64 &&& near r tt (d + 1))]) (spn := []) rfl rfl rfl rfl rfl Tryd.underlying30 hi1 hz1 hsz1 rfl (fun h => by cases h) 1 rfl 0 rfl hcap16 rfl (by decide) (fun _ => rfl) (by unfold maxLen; omega) (by rw [hby1]; omega) (fun b' sp' cap' hlen => ?_)
              refine GoH.v (Vop.asg rfl rfl rfl rfl) ?_
              refine GoH.regionEnd ?_
              refine GoH.inBlock ?_
              refine GoH.region ?_
              refine GoH.v (Vop.mv rfl rfl rfl rfl) ?_
              refine GoH.v (Vop.bin rfl rfl rfl rfl (bSubE (c := ((d + 1 : Nat) : Int) - 2) (by omega) (by omega)) rfl) ?_
              refine GoH.v (Vop.asg rfl rfl rfl rfl) ?_
              refine GoH.regionEnd ?_
              exact IH (d + 1, _, _, b', cap', sp') _ _ ⟨by omega, hnx.2.1, by rw [← hout, List.append_assoc]; rfl, by simp; omega, hlen⟩ (Nat.lt_succ_self _) ⟨rfl, rfl, rfl, rfl, rfl, rfl, trivial⟩ (.cons _ (List.Sublist.refl _))
            · -- no
              have h3 : ¬ ((c + 1 : Nat) : Int) - 2 ≥ 0 := by simpa using hc
              obtain rfl : c = 0 := by omega
              refine GoH.skip ?_
              refine GoH.seq ?_
              refine GoH.region ?_
              refine GoH.v (Vop.mv rfl rfl rfl rfl) ?_
              refine GoH.v (Vop.mv rfl rfl rfl rfl) ?_
              refine GoH.v (Vop.idx rfl rfl rfl rfl rfl Tryd.underlying22 Tryd.sizeOf27 ⟨_, ha⟩ (by simp) (wa) ⟨rfl, by simpa using hwa⟩) ?_
              refine GoH.v (Vop.ld rfl rfl rfl rfl Tryd.isAgg27 (fun w _ hS => (SlU.ex0 ha hS.ext).at (wa) hwa)) ?_
              refine GoH.v (Vop.mv rfl rfl rfl rfl) ?_
              refine GoH.v (Vop.bin rfl rfl rfl rfl bAnd rfl) ?_
              refine GoH.callP rfl rfl rfl rfl rfl (fun _ _ => Tryd.call53 _ _) (fun w _ hS => (tz_c (r.getD wa 0#64 &&& near r tt 0) w (hT.ex hS.ext) hnx.1)) ?_
              refine GoH.v (Vop.asg rfl rfl rfl rfl) ?_
              refine GoH.regionEnd ?_
              refine GoH.region ?_
              refine GoH.v (Vop.mv rfl rfl rfl rfl) ?_
              refine GoH.v (Vop.mv rfl rfl rfl rfl) ?_
              refine GoH.bs1 (v := N64 (tz (r.getD wa 0#64 &&& near r tt 0))) rfl rfl rfl rfl Tryd.underlying30 hi1 hz1 hsz1 rfl rfl (fun b110 => ?_)
              -- heap: b110 b16 b12
              refine GoH.appE N64 (xs := out) (sp := sp16) (news := [tz (r.getD wa 0#64 &&& near r tt 0)]) (spn := []) rfl rfl rfl rfl rfl Tryd.underlying30 hi1 hz1 hsz1 rfl (fun h => by cases h) 1 rfl 0 rfl hcap16 rfl (by decide) (fun _ => rfl) (by unfold maxLen; omega) (by rw [hby1]; omega) (fun b' sp' cap' hlen => ?_)
              refine GoH.v (Vop.asg rfl rfl rfl rfl) ?_
              refine GoH.regionEnd ?_
              refine GoH.inBlock ?_
              refine GoH.region ?_
              refine GoH.v (Vop.mv rfl rfl rfl rfl) ?_
              refine GoH.v (Vop.bin rfl rfl rfl rfl (bSubE (c := ((0 : Nat) : Int) - 2) (by omega) (by omega)) rfl) ?_
              refine GoH.v (Vop.asg rfl rfl rfl rfl) ?_
              refine GoH.regionEnd ?_
              exact IH (0, _, _, b', cap', sp') _ _ ⟨by omega, hnx.2.1, by rw [← hout, List.append_assoc]; rfl, by simp; omega, hlen⟩ (Nat.lt_succ_self _) ⟨rfl, rfl, rfl, rfl, rfl, rfl, trivial⟩ (.cons _ (List.Sublist.refl _))
          · -- no
            have h2 : ¬ (c : Int) - 2 ≥ -1 := by simpa using hc
            obtain rfl : c = 0 := by omega
            refine GoH.exit rfl ?_
            refine GoH.seq ?_
            refine GoH.region ?_
            refine GoH.v (Vop.mv rfl rfl rfl rfl) ?_
            refine GoH.v (Vop.asg rfl rfl rfl rfl) ?_
            refine GoH.regionEnd ?_
            refine GoH.ret Tryd.f23 Tryd.func23 rfl (fun w' hS => ?_)
            exact ⟨hS.ext, pathK r tt f m, by rw [← hout, show tailP r tt 0 wa = [] from rfl, List.append_nil]; exact ownIAt hS (q := some b16) 0 rfl rfl (fun h => by cases h) hcap16, by rw [PathIs, if_neg h1, htt]; exact .inl ⟨m, hsh, rfl⟩⟩
    · -- no
      have hfirst : near r tt 1 = 0#64 := by simpa using hc
      have hall0 : lay r tt (m - 1) = 0#64 := by
        refine eq_of_bits (fun i _ => ?_)
        cases hb : (lay r tt (m - 1)).getLsbD i with
        | false => simp
        | true =>
          obtain ⟨m', rfl⟩ : ∃ m', m = m' + 1 := ⟨m - 1, by omega⟩
          obtain ⟨j, h3, h4, _⟩ := no_more hv (m := 0) (by rw [lay_zero, hfirst]) _ i (by omega) (lay_bit.1 hb).1
          omega
      refine GoH.no rfl rfl rfl rfl ?_
      refine GoH.no rfl rfl rfl rfl ?_
      refine GoH.no rfl rfl rfl rfl ?_
      refine GoH.no rfl rfl rfl rfl ?_
      refine GoH.no rfl rfl rfl rfl ?_
      refine GoH.no rfl rfl rfl rfl ?_
      refine GoH.no rfl rfl rfl rfl ?_
      refine GoH.no rfl rfl rfl rfl ?_
      refine GoH.no rfl rfl rfl rfl ?_
      refine GoH.v (Vop.pickF rfl rfl rfl rfl rfl) ?_
      refine GoH.regionEnd ?_
      refine GoH.condF rfl ?_
      refine GoH.exit rfl ?_
      refine GoH.seq ?_
      refine GoH.draw 12 mixed rfl ?_
      refine RdGo.v (Vop.mv rfl rfl rfl rfl) ?_
      refine RdGo.v (Vop.mv rfl rfl rfl rfl) ?_
      refine RdGo.v (Vop.blt rfl rfl rfl (blt_len_slice Tryd.underlying22) rfl) ?_
      refine RdGo.v (Vop.bin rfl rfl rfl rfl (bSubE (c := ((m - 1 : Nat) : Int)) (by omega) (by omega)) rfl) ?_
      refine RdGo.v (Vop.idxS rfl rfl rfl rfl rfl Tryd.underlying22 Tryd.sizeOf27 (m - 1) ⟨rfl, hix⟩) ?_
      refine RdGo.v (Vop.ldE U 0#64 rfl rfl rfl rfl Tryd.isAgg27 0 rfl hix) ?_
      refine RdGo.v (Vop.mv rfl rfl rfl rfl) ?_
      refine RdGo.v (Vop.bin rfl rfl rfl rfl bAnd rfl) ?_
      refine RdGo.v (Vop.mv rfl rfl rfl rfl) ?_
      refine RdGo.callP rfl rfl rfl rfl rfl (fun _ _ => Tryd.call45 _ _) (fun w _ hS => all_c _ w hlen) ?_
      refine RdGo.v (Vop.bin rfl rfl rfl rfl bAnd rfl) ?_
      refine RdGo.v (Vop.asg rfl rfl rfl rfl) ?_
      refine RdGo.nil ?_
      refine GoH.regionEnd ?_
      refine GoH.seq ?_
      refine GoH.seq ?_
      refine GoH.region ?_
      refine GoH.v (Vop.mv rfl rfl rfl rfl) ?_
      refine GoH.v (Vop.bin (b := U 0#64) rfl rfl rfl rfl bEqU rfl) ?_
      refine GoH.regionEnd ?_
      refine GoH.cond rfl (fun hc => ?_) (fun hc => ?_)
      · -- yes
        refine GoH.seq ?_
        refine GoH.region ?_
        refine GoH.v (Vop.asg rfl rfl rfl rfl) ?_
        refine GoH.regionEnd ?_
        refine GoH.ret Tryd.f23 Tryd.func23 rfl (fun w' hS => ?_)
        exact ⟨hS.ext, [], ownI_nil _ _, pnil (none_of hv (m := 0) (by rw [lay_zero, hfirst]) (fun d hd => by omega))⟩
      · -- no
        rw [hlast, hall0] at hc
        simp at hc
end Go.Proofs.YtoiafcoaeomnlaaDoor
