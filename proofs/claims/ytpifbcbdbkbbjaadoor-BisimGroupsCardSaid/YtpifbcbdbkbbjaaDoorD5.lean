/- Contracts of functions of the program: what each call returns and that nothing else of memory is turned, under the conditions that each theorem states. -/
import Derived.Test.YtpifbcbdbkbbjaaDoorD4
namespace Go.Proofs.YtpifbcbdbkbbjaaDoor
open Go.RowKit Go.Proofs.Wit
/-! the partition with groups -/
theorem infoS2 : (Tryd.prog.info? 22).map (fun i => (i.zero, i.size, i.bytes)) = some (some (Value.slice none 0 0), 1, 24) := by kernel_rfl
theorem cloneRows_c (a : Option Addr) (ca : Nat) (rows : List Row) (w : World) (ha : SlR w a rows) (hl : rows.length ≤ 1000) :
    Cn Tryd.prog 48 [.slice a rows.length ca] w (fun v w' => OwnS Row.v 22 w w' v rows) := by
  obtain ⟨i0, hi, hz, hsz, hby⟩ := info_parts infoS2
  refine Cn.of Tryd.func48 rfl rfl ?_
  refine GoH.seq ?_
  refine GoH.region ?_
  refine GoH.v (Vop.asg rfl rfl rfl rfl) ?_
  refine GoH.regionEnd ?_
  refine GoH.seq ?_
  refine GoH.seq ?_
  refine GoH.region ?_
  refine GoH.v (Vop.mv rfl rfl rfl rfl) ?_
  refine GoH.v (Vop.bin rfl rfl rfl rfl (bSlNil Tryd.underlying23) rfl) ?_
  refine GoH.regionEnd ?_
  refine GoH.cond rfl (fun hc => ?_) (fun hc => ?_)
  · -- yes
    obtain rfl : a = none := by simpa using hc
    have hx : rows = [] := by
      cases rows with
      | nil => rfl
      | cons r rs => obtain ⟨b, o, e, _⟩ := Sl.isSome ha (by simp); cases e
    subst hx
    refine GoH.seq ?_
    refine GoH.region ?_
    refine GoH.v (Vop.asg rfl rfl rfl rfl) ?_
    refine GoH.regionEnd ?_
    refine GoH.ret Tryd.f48 Tryd.func48 rfl (fun w' hS => ?_)
    exact ⟨hS.ext, OwnS.nil0⟩
  · -- no
    refine GoH.skip ?_
    refine GoH.seq ?_
    refine GoH.region ?_
    refine GoH.bs0 Row.v rfl rfl rfl Tryd.underlying23 hi (fun b => ?_)
    -- heap: b
    refine GoH.v (Vop.mv rfl rfl rfl rfl) ?_
    by_cases hx : rows.length = 0
    · obtain rfl : rows = [] := List.eq_nil_of_length_eq_zero hx
      refine GoH.v (Vop.blt rfl rfl rfl (blt_app0 Tryd.underlying23 hi (Nat.le_refl 0)) rfl) ?_
      refine GoH.v (Vop.asg rfl rfl rfl rfl) (GoH.regionEnd (GoH.ret Tryd.f48 Tryd.func48 rfl (fun w' hS => ?_)))
      exact ⟨hS.ext, OwnS.one hS 0 rfl rfl⟩
    refine GoH.appS Row.v rows rfl rfl rfl rfl rfl Tryd.underlying23 hi hz hsz rfl (fun h => by cases h) 0 rfl (fun w Y' hS => ha.ex0 hS.ext) rfl rfl (by omega) (fun _ => rfl) (by simp [maxLen]; omega) (by simp [hby]; omega) (fun b' sp' cap' hlen => ?_)
    rw [List.nil_append] at *
    refine GoH.v (Vop.asg rfl rfl rfl rfl) ?_
    refine GoH.regionEnd ?_
    refine GoH.ret Tryd.f48 Tryd.func48 rfl (fun w' hS => ?_)
    exact ⟨hS.ext, OwnS.mk hS 0 (q := some b') rfl rfl (fun e => by cases e) hlen⟩
set_option maxRecDepth 4000 in
theorem withGroups_c (m : MV) (a : Option Addr) (ca : Nat) (gs : List Int) (w : World) (hT : Tab w) (hm : m.At w) (ha : SlI w a gs) (hgl : gs.length ≤ maxLen) :
    Cn Tryd.prog 29 [m.v, .slice a gs.length ca] w (fun v w' => ∃ sv, v = .tuple #[sv, .int .i64 (grpE m.n m.val m.rel gs)] ∧ OwnS I64 3 w w' sv (grpP m.n m.val m.rel gs)) := by
  obtain ⟨i0, hi, hz, hsz, hby⟩ := info_parts infoS2
  unfold maxLen at hgl
  refine Cn.of Tryd.func29 rfl rfl ?_
  refine GoH.seq ?_
  refine GoH.region ?_
  refine GoH.bx rfl rfl rfl rfl (fun b2 => ?_)
  refine GoH.v (Vop.asg rfl rfl rfl rfl) ?_
  refine GoH.v (Vop.asg rfl rfl rfl rfl) ?_
  refine GoH.regionEnd ?_
  refine GoH.seq ?_
  refine GoH.seq ?_
  refine GoH.region ?_
  refine GoH.v (Vop.ldB rfl rfl rfl rfl Tryd.isAgg25 0 rfl Tryd.sizeOf25 rfl) ?_
  refine GoH.callP rfl rfl rfl rfl rfl (fun _ _ => Tryd.call31 _ _) (fun w _ hS => (by exact mcheck_c m w (hm.ex0 hS.ext))) ?_
  refine GoH.v (Vop.asg rfl rfl rfl rfl) ?_
  refine GoH.regionEnd ?_
  refine GoH.seq ?_
  refine GoH.region ?_
  refine GoH.v (Vop.mv rfl rfl rfl rfl) ?_
  refine GoH.v (Vop.bin rfl rfl rfl rfl bNe rfl) ?_
  refine GoH.regionEnd ?_
  refine GoH.cond rfl (fun hc => ?_) (fun hc => ?_)
  · -- yes
    have h1 : checkM m.n m.val m.rel ≠ 0 := by simpa using hc
    have h2 : grpE m.n m.val m.rel gs = checkM m.n m.val m.rel := if_pos h1
    refine GoH.seq ?_
    refine GoH.region ?_
    refine GoH.v (Vop.mv rfl rfl rfl rfl) ?_
    refine GoH.v (Vop.asg rfl rfl rfl rfl) ?_
    refine GoH.v (Vop.asg rfl rfl rfl rfl) ?_
    refine GoH.regionEnd ?_
    refine GoH.ret Tryd.f29 Tryd.func29 rfl (fun w' hS => ?_)
    exact ⟨hS.ext, _, by rw [h2]; rfl, by rw [grpP_bad (by rw [h2]; exact h1)]; exact OwnS.nil0⟩
  · -- no
    have h1 : checkM m.n m.val m.rel = 0 := by simpa using hc
    have hv := checkM_zero.1 h1
    obtain ⟨n, hn⟩ : ∃ n : Nat, m.n = n := ⟨m.n.toNat, by have := hv.n1; omega⟩
    have hn64 := hv.n64
    have hag := hv.agents
    have hrl : m.rel.length = m.rows.length := by simp [MV.rel]
    have hp4 : (2 : Nat) ^ m.rows.length ≤ 2 ^ 4 := Nat.pow_le_pow_right (by decide) (by omega)
    have h16 : (2 : Nat) ^ 4 = 16 := by decide
    refine GoH.skip ?_
    refine GoH.seq ?_
    refine GoH.seq ?_
    refine GoH.region ?_
    refine GoH.v (Vop.mv rfl rfl rfl rfl) ?_
    refine GoH.v (Vop.blt rfl rfl rfl (blt_len_slice Tryd.underlying28) rfl) ?_
    refine GoH.v (Vop.bin rfl rfl rfl rfl bGt rfl) ?_
    refine GoH.regionEnd ?_
    refine GoH.cond rfl (fun hc => ?_) (fun hc => ?_)
    · -- yes
      have h3 : 15 < gs.length := by simp at hc; omega
      have h2 : grpE m.n m.val m.rel gs = 8 := by rw [grpE, if_neg (by simp [h1]), if_pos h3]
      refine GoH.seq ?_
      refine GoH.region ?_
      refine GoH.v (Vop.asg rfl rfl rfl rfl) ?_
      refine GoH.v (Vop.asg rfl rfl rfl rfl) ?_
      refine GoH.regionEnd ?_
      refine GoH.ret Tryd.f29 Tryd.func29 rfl (fun w' hS => ?_)
      exact ⟨hS.ext, _, by rw [h2]; rfl, by rw [grpP_bad (by rw [h2]; decide)]; exact OwnS.nil0⟩
    · -- no
      have h3 : ¬ 15 < gs.length := by simp at hc; omega
      refine GoH.skip ?_
      refine GoH.seq ?_
      refine GoH.region ?_
      refine GoH.v (Vop.fldP rfl rfl rfl rfl Tryd.underlying25 rfl (by exact Tryd.sizeOf23) 2 rfl) ?_
      refine GoH.v (Vop.ldo (v := .slice m.ra m.rows.length m.rc) rfl rfl rfl rfl Tryd.isAgg23 0 rfl rfl) ?_
      refine GoH.callM _ rfl rfl rfl rfl rfl (fun _ _ => Tryd.call48 _ _) (fun w _ hS => cloneRows_c m.ra m.rc m.rows w (hm.rel.ex0 hS.ext) (by omega)) ?_
      rintro v w1 w2 Y' hS he ho
      obtain ⟨q0, cap0, sp0, rfl, hq0, hcap0, hS'⟩ := gainS hS he ho
      refine ⟨_, hS', ?_⟩
      -- heap: q0 b2
      refine GoH.v (Vop.asg rfl rfl rfl rfl) ?_
      refine GoH.regionEnd ?_
      refine GoH.seq ?_
      refine GoH.seq ?_
      refine GoH.region ?_
      refine GoH.v (Vop.mv rfl rfl rfl rfl) ?_
      refine GoH.v (Vop.blt rfl rfl rfl (blt_len_slice Tryd.underlying28) rfl) ?_
      refine GoH.v (Vop.mv rfl rfl rfl rfl) ?_
      refine GoH.regionEnd ?_
      refine GoH.block ?_
      refine GoH.loop (σ := Nat × List Row × Option Nat × Nat × List Value × Hl) (fun z => [(2, .pointer (some ⟨b2, 0, none⟩)), (7, osv z.2.2.1 (m.rows ++ z.2.1).length z.2.2.2.1), (23, .slice a gs.length ca), (24, .int .i64 gs.length), (25, .int .i64 z.1)])
        (fun z => [(z.2.2.1, ob Row.v 22 (m.rows ++ z.2.1) z.2.2.2.2.1), (some b2, .cells m.v.cells 25 (0, 0))] ++ z.2.2.2.2.2)
        (fun z => z.1 ≤ gs.length ∧ z.2.1.length = z.1 ∧ (z.2.2.1 = none → (m.rows ++ z.2.1).length = 0 ∧ z.2.2.2.1 = 0) ∧ ((m.rows ++ z.2.1).map Row.v ++ z.2.2.2.2.1).length = z.2.2.2.1 ∧ (∀ r ∈ z.2.1, InS U z.2.2.2.2.2 r.a r.xs ∧ r.xs.length ≤ maxLen ∧ r.xs.length ≤ r.cap) ∧
          z.2.1.map Row.xs = grpR n m.rel (gs.take z.1) ∧ ∀ (i : Nat) (hi : i < gs.length), i < z.1 → 1 ≤ gs[i] ∧ gs[i] < (2 ^ m.rel.length : Nat)) (fun z => gs.length - z.1) (0, [], q0, cap0, sp0, [])
        ⟨Nat.zero_le _, rfl, by rw [List.append_nil]; exact hq0, by rw [List.append_nil]; exact hcap0, by simp, rfl, fun i _ hi => absurd hi (Nat.not_lt_zero _)⟩ ⟨rfl, (by rw [List.append_nil]; rfl), rfl, rfl, rfl, trivial⟩ (by rw [List.append_nil, List.append_nil]; exact List.Sublist.refl _) (fun z hI IH => ?_)
      obtain ⟨k, ex, q, cap, sp, HR⟩ := z
      obtain ⟨hk, hel, hq, hcap, hex, hxs, hok⟩ := hI
      dsimp only at hk hel hq hcap hex hxs hok IH ⊢
      have hml : (m.rows ++ ex).length = m.rows.length + k := by rw [List.length_append, hel]
      -- heap: q b2
      -- ptr: 2=b2
      refine GoH.seq ?_
      refine GoH.region ?_
      refine GoH.v (Vop.bin rfl rfl rfl rfl bLt rfl) ?_
      refine GoH.regionEnd ?_
      refine GoH.seq ?_
      refine GoH.cond rfl (fun hc => ?_) (fun hc => ?_)
      · -- yes
        have hlt : k < gs.length := by simpa using hc
        refine GoH.skip ?_
        refine GoH.seq ?_
        refine GoH.block ?_
        refine GoH.seq ?_
        refine GoH.region ?_
        refine GoH.v (Vop.idx rfl rfl rfl rfl rfl Tryd.underlying28 Tryd.sizeOf3 ⟨_, ha⟩ (by simp) (k) ⟨rfl, by simpa using hlt⟩) ?_
        refine GoH.v (Vop.ld rfl rfl rfl rfl Tryd.isAgg3 (fun w _ hS => (SlI.ex0 ha hS.ext).at (k) hlt)) ?_
        refine GoH.v (Vop.asg rfl rfl rfl rfl) ?_
        refine GoH.regionEnd ?_
        refine GoH.seq ?_
        refine GoH.seq ?_
        refine GoH.region ?_
        refine GoH.v (Vop.mv rfl rfl rfl rfl) ?_
        refine GoH.v (Vop.bin rfl rfl rfl rfl bLt rfl) ?_
        refine GoH.v (Vop.mv rfl rfl rfl rfl) ?_
        -- guard on slot 31 (bisim.go:122)
        refine GoH.cases (d := 31) rfl (fun hc => ?_) (fun hc => ?_)
        · -- yes
          have hb : gs[k] < 1 := by simpa using hc
          have h2 : grpE m.n m.val m.rel gs = 2 := by rw [grpE, if_neg (by simp [h1]), if_neg h3, if_pos (gbad_hit hlt (.inl hb))]
          refine GoH.no rfl rfl rfl rfl ?_
          refine GoH.no rfl rfl rfl rfl ?_
          refine GoH.no rfl rfl rfl rfl ?_
          refine GoH.no rfl rfl rfl rfl ?_
          refine GoH.no rfl rfl rfl rfl ?_
          refine GoH.no rfl rfl rfl rfl ?_
          refine GoH.v (Vop.pickT rfl rfl rfl rfl rfl) ?_
          refine GoH.regionEnd ?_
          refine GoH.condT rfl ?_
          refine GoH.seq ?_
          refine GoH.region ?_
          refine GoH.v (Vop.asg rfl rfl rfl rfl) ?_
          refine GoH.v (Vop.asg rfl rfl rfl rfl) ?_
          refine GoH.regionEnd ?_
          refine GoH.ret Tryd.f29 Tryd.func29 rfl (fun w' hS => ?_)
          exact ⟨hS.ext, _, by rw [h2]; rfl, by rw [grpP_bad (by rw [h2]; decide)]; exact OwnS.nil0⟩
        · -- no
          have hb1 : ¬ gs[k] < 1 := by simpa using hc
          refine GoH.v (Vop.mv rfl rfl rfl rfl) ?_
          refine GoH.v (Vop.fldP rfl rfl rfl rfl Tryd.underlying25 rfl (by exact Tryd.sizeOf23) 2 rfl) ?_
          refine GoH.v (Vop.ldo (v := .slice m.ra m.rows.length m.rc) rfl rfl rfl rfl Tryd.isAgg23 1 rfl rfl) ?_
          refine GoH.v (Vop.blt rfl rfl rfl (blt_len_slice Tryd.underlying23) rfl) ?_
          refine GoH.v (Vop.bin rfl rfl rfl rfl (bShlN (x := 1) (j := m.rows.length) rfl (by omega) (by omega)) rfl) ?_
          refine GoH.v (Vop.bin rfl rfl rfl rfl bGe rfl) ?_
          refine GoH.v (Vop.pickF rfl rfl rfl rfl rfl) ?_
          refine GoH.regionEnd ?_
          refine GoH.cond rfl (fun hc => ?_) (fun hc => ?_)
          · -- yes
            have hb : ((1 * 2 ^ m.rows.length : Nat) : Int) ≤ gs[k] := of_decide_eq_true hc
            rw [Nat.one_mul, ← hrl] at hb
            have h2 : grpE m.n m.val m.rel gs = 2 := by rw [grpE, if_neg (by simp [h1]), if_neg h3, if_pos (gbad_hit hlt (.inr hb))]
            refine GoH.seq ?_
            refine GoH.region ?_
            refine GoH.v (Vop.asg rfl rfl rfl rfl) ?_
            refine GoH.v (Vop.asg rfl rfl rfl rfl) ?_
            refine GoH.regionEnd ?_
            refine GoH.ret Tryd.f29 Tryd.func29 rfl (fun w' hS => ?_)
            exact ⟨hS.ext, _, by rw [h2]; rfl, by rw [grpP_bad (by rw [h2]; decide)]; exact OwnS.nil0⟩
          · -- no
            have hb2 : ¬ ((1 * 2 ^ m.rows.length : Nat) : Int) ≤ gs[k] := of_decide_eq_false hc
            rw [Nat.one_mul] at hb2
            obtain ⟨g, hg⟩ : ∃ g : Nat, gs[k] = (g : Int) := ⟨gs[k].toNat, by omega⟩
            have hgt : gs[k].toNat = g := by rw [hg]; rfl
            have hgg : 1 ≤ g ∧ g < 2 ^ m.rows.length := by omega
            refine GoH.skip ?_
            refine GoH.region ?_
            refine GoH.v (Vop.mv rfl rfl rfl rfl) ?_
            refine GoH.v (Vop.ldB rfl rfl rfl rfl Tryd.isAgg25 1 rfl Tryd.sizeOf25 rfl) ?_
            refine GoH.v (Vop.mv rfl rfl rfl rfl) ?_
            refine GoH.callM _ rfl rfl rfl rfl rfl (fun _ _ => Tryd.call49 _ _) (fun w _ hS => (by
              have := meetM_c m n g w (hm.ex0 hS.ext) hv hn hgg
              rw [← hg] at this
              exact this)) ?_
            rintro v w1 w2 Y' hS he ho
            obtain ⟨q42, cap42, sp42, rfl, hq42, hcap42, hS'⟩ := gainO hS he ho
            have hml42 : (meetL n m.rel g).length = n := meetTo_len
            refine ⟨_, hS', ?_⟩
            -- heap: q42 q b2
            refine GoH.bsN (c := [_]) rfl rfl rfl rfl Tryd.underlying23 Tryd.sizeOf22 Tryd.zeroValue22 rfl rfl (fun b43 => ?_)
            refine GoH.appE Row.v (news := [⟨q42.map (fun b => ⟨b, 0, none⟩), cap42, meetL n m.rel g⟩]) (spn := []) (xs := m.rows ++ ex) (sp := sp) (q := q) rfl rfl rfl rfl rfl Tryd.underlying23 hi hz hsz rfl hq 2 rfl 0 rfl hcap rfl (by decide) (fun _ => rfl) (by rw [hml]; simp [maxLen]; omega) (by rw [hml]; simp [hby]; omega) (fun b' sp' cap' hlen => ?_)
            -- heap: b43 q42 b' b2
            refine GoH.v (Vop.asg rfl rfl rfl rfl) ?_
            refine GoH.regionEnd ?_
            refine GoH.inBlock ?_
            refine GoH.region ?_
            refine GoH.v (Vop.bin rfl rfl rfl rfl (bAdd (by omega)) rfl) ?_
            refine GoH.v (Vop.mv rfl rfl rfl rfl) ?_
            refine GoH.regionEnd ?_
            rw [List.append_assoc] at hlen ⊢
            refine GoH.pickT (pre := [_, _, _, _]) (pre' := [_, _, _]) HR [2, 3, 1] (by decide) rfl ?_
            exact IH (k + 1, ex ++ [⟨q42.map (fun b => ⟨b, 0, none⟩), cap42, meetL n m.rel g⟩], some b', cap', sp', (q42, ob U 44 (meetL n m.rel g) sp42) :: HR) _ _ ⟨hlt, by simp [hel], (fun e => by cases e), hlen, fun r hr => by
              rcases List.mem_append.1 hr with hr | hr
              · obtain ⟨a1, a2⟩ := hex r hr
                exact ⟨a1.mono (List.subset_cons_self _ _), a2⟩
              · obtain rfl := List.mem_singleton.1 hr
                exact ⟨InS.at (fun e => (hq42 e).1) (List.mem_cons_self ..), by show (meetL n m.rel g).length ≤ _; exact le_mx (by omega), by rw [← hcap42]; simp⟩, by
              rw [List.map_append, hxs, grpR_snoc hlt, hgt]; rfl, fun i hi hik => by
              by_cases e : i = k
              · subst e; rw [hrl]; omega
              · exact hok i hi (by omega)⟩ (by dsimp only; omega) ⟨rfl, rfl, rfl, rfl, rfl, trivial⟩ (List.Sublist.refl _)
      · -- no
        have hge : ¬ k < gs.length := by simpa using hc
        obtain rfl : k = gs.length := by omega
        rw [List.take_length] at hxs
        have h2 : grpE m.n m.val m.rel gs = 0 := by rw [grpE, if_neg (by simp [h1]), if_neg h3, if_neg (by rw [gbad_none (fun i hi => hok i hi hi)]; simp)]
        have hall : (m.rows ++ ex).map Row.xs = m.rel ++ grpR n m.rel gs := by rw [List.map_append, hxs]; rfl
        have hexv : ∀ r ∈ ex, Val r.xs ∧ r.xs.length = n := fun r hr => by
          have h4 : r.xs ∈ grpR n m.rel gs := by rw [← hxs]; exact List.mem_map.2 ⟨r, hr, rfl⟩
          obtain ⟨g, _, e⟩ := List.mem_map.1 h4
          rw [← e]
          exact ⟨meetTo_val (by omega), meetTo_len⟩
        refine GoH.exit rfl ?_
        refine GoH.seq ?_
        refine GoH.region ?_
        refine GoH.v (Vop.ldB rfl rfl rfl rfl Tryd.isAgg25 1 rfl Tryd.sizeOf25 rfl) ?_
        refine GoH.v (Vop.mv rfl rfl rfl rfl) ?_
        refine GoH.callM _ rfl rfl rfl rfl rfl (fun _ _ => Tryd.call35 _ _) (fun w _ hS => (by
          refine stable_c m n (q.map (fun b => ⟨b, 0, none⟩)) cap (m.rows ++ ex) w (hT.ex hS.ext) (hm.ex0 hS.ext) hv hn ⟨?_, fun r hr => ?_, by rw [hml]; omega⟩
          · exact slrAt hS 0 rfl (fun e => (hq e).1)
          · refine (List.mem_append.1 hr).elim (fun hr => (ValM.relAt hv (hm.ex0 hS.ext) hn).row r hr) (fun hr => ?_)
            obtain ⟨a1, a2, a3⟩ := hex r hr
            exact ⟨⟨InS.sl (a1.mono (fun x hx => List.mem_append_right [_, _] hx)) hS, a2, a3⟩, hexv r hr⟩)) ?_
        rintro v w1 w2 Y' hS he ⟨q2, rfl, hq2, hh⟩
        refine ⟨_, hS.gain he hh rfl hq2, ?_⟩
        -- heap: q2 q b2
        refine GoH.v (Vop.mv rfl rfl rfl rfl) ?_
        refine GoH.v (Vop.ext rfl rfl rfl rfl rfl) ?_
        refine GoH.v (Vop.ext rfl rfl rfl rfl rfl) ?_
        refine GoH.v (Vop.asg rfl rfl rfl rfl) ?_
        refine GoH.v (Vop.asg rfl rfl rfl rfl) ?_
        refine GoH.regionEnd ?_
        refine GoH.seq ?_
        refine GoH.region ?_
        refine GoH.v (Vop.mv rfl rfl rfl rfl) ?_
        refine GoH.v (Vop.asg rfl rfl rfl rfl) ?_
        refine GoH.v (Vop.asg rfl rfl rfl rfl) ?_
        refine GoH.regionEnd ?_
        refine GoH.ret Tryd.f29 Tryd.func29 rfl (fun w' hS => ?_)
        refine ⟨hS.ext, _, by rw [h2]; rfl, ?_⟩
        rw [grpP_ok h2, hn]
        have := OwnS.one (w0 := w) (enc := I64) (t := 3) (m := n) (xs := psM n m (m.rows ++ ex) (dep n m.val ((m.rows ++ ex).map Row.xs))) hS 0 rfl (psq_len _).symm
        unfold psM at this
        rw [hall] at this
        exact this
end Go.Proofs.YtpifbcbdbkbbjaaDoor
