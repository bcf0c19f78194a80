/- Contracts of functions of the program: what each call returns and that nothing else of memory is turned, under the conditions that each theorem states. -/
import Derived.Test.YtbjopkllkoomkaaDoorT5
namespace Go.Proofs.YtbjopkllkoomkaaDoor
open Go.RowKit Go.Proofs.Wit

/-- an owned list and a code -/
def OwnE (w w' : World) (v : Value) (p : List W64 × Int) : Prop := ∃ sv, v = .tuple #[sv, .int .i64 p.2] ∧ Own w w' sv p.1
theorem own_nil (w w' : World) : Own w w' (.slice none 0 0) [] := ⟨none, 0, [], rfl, fun _ => ⟨rfl, rfl⟩, rfl, fun _ h => by cases h⟩
theorem ownAt {w0 w : World} {h : Hl} {Y : List (Nat × Obj)} (s : St w0 [] w h Y) {q : Option Nat} {xs : List W64} {sp : List Value} (j : Nat) (hj : h[j]? = some (q, ob U 28 xs sp)) {m c : Nat} (hm : m = xs.length) (hq : q = none → xs.length = 0 ∧ c = 0) (hcap : (xs.map U ++ sp).length = c) : Own w0 w (osv q m c) xs := by
  subst hm
  exact ⟨q, c, sp, rfl, hq, hcap, fun b' hb => by subst hb; exact ⟨s.fresh hj, s.get hj⟩⟩
theorem gainO {w0 w w' : World} {S : List Nat} {h : Hl} {Y : List (Nat × Obj)} (s : St w0 S w h Y) (e : Ex [] w w') {v : Value} {xs : List W64} (ho : Own w w' v xs) :
    ∃ q cap sp, v = osv q xs.length cap ∧ (q = none → xs.length = 0 ∧ cap = 0) ∧ (xs.map U ++ sp).length = cap ∧ St w0 S w' ((q, ob U 28 xs sp) :: h) Y := by
  obtain ⟨q, cap, sp, h1, h2, h3, h4⟩ := ho
  refine ⟨q, cap, sp, h1, h2, h3, ?_⟩
  cases q with
  | none => exact (s.later e).none _
  | some b => exact s.gain e (h4 b rfl).2 rfl (h4 b rfl).1
theorem sluAt {w0 w : World} {S : List Nat} {h : Hl} {Y : List (Nat × Obj)} (s : St w0 S w h Y) {q : Option Nat} {xs : List W64} {sp : List Value} (j : Nat) (hj : h[j]? = some (q, ob U 28 xs sp)) {c : Nat} (hq : q = none → xs.length = 0 ∧ c = 0) : SlU w (q.map (fun b => ⟨b, 0, none⟩)) xs :=
  .blk (fun e => List.eq_nil_of_length_eq_zero (hq e).1) (fun b e => by subst e; exact s.get hj)

theorem reversed_c (a : Option Addr) (ca : Nat) (r : List W64) (w : World) (hT : Tab w) (ha : SlU w a r) (hv : Val r) :
    Cn Tryd.prog 44 [.slice a r.length ca] w (fun v w' => Own w w' v (revR r)) := by
  obtain ⟨i0, hi, hz, hsz, hby⟩ := info_parts infoU
  have hlen := hv.len
  refine Cn.of Tryd.func44 rfl rfl ?_
  refine GoH.seq ?_
  refine GoH.region ?_
  refine GoH.v (Vop.asg rfl rfl rfl rfl) ?_
  refine GoH.regionEnd ?_
  refine GoH.seq ?_
  refine GoH.region ?_
  refine GoH.v (Vop.mv rfl rfl rfl rfl) ?_
  refine GoH.v (Vop.blt rfl rfl rfl (blt_len_slice Tryd.underlying22) rfl) ?_
  refine GoH.mkE U 0#64 rfl rfl rfl rfl rfl Tryd.underlying22 hi hz rfl hsz (by rw [hby]; omega) (by unfold maxLen; omega) (fun b9 => ?_)
  -- heap: b9
  refine GoH.alc rfl rfl rfl (fun _ => Tryd.zeroValue22 _) (fun b3 => ?_)
  refine GoH.st rfl rfl rfl rfl Tryd.sizeOf22 rfl 0 rfl rfl ?_
  refine GoH.regionEnd ?_
  refine GoH.seq ?_
  refine GoH.seq ?_
  refine GoH.region ?_
  refine GoH.v (Vop.mv rfl rfl rfl rfl) ?_
  refine GoH.v (Vop.blt rfl rfl rfl (blt_len_slice Tryd.underlying22) rfl) ?_
  refine GoH.v (Vop.mv rfl rfl rfl rfl) ?_
  refine GoH.regionEnd ?_
  refine GoH.block ?_
  refine GoH.loop (σ := Nat × List W64) (fun s => [(0, .slice a r.length ca), (3, .pointer (some ⟨b3, 0, none⟩)), (10, .slice a r.length ca), (11, .int .i64 r.length), (12, .int .i64 s.1)]) (fun s => [(some b3, .cells #[.slice (some ⟨b9, 0, none⟩) r.length r.length] 22 (0, 0)), (some b9, ob U 28 s.2 [])])
    (fun s => s.1 ≤ r.length ∧ s.2 = upTo (fun w out => revS w (r.getD w 0#64) out) (List.replicate r.length 0#64) s.1) (fun s => r.length - s.1) (0, List.replicate r.length 0#64) ⟨Nat.zero_le _, rfl⟩ ⟨rfl, rfl, rfl, rfl, rfl, trivial⟩ (List.Sublist.refl _) (fun s hs IH => ?_)
  obtain ⟨k, out⟩ := s
  obtain ⟨hk, hout⟩ := hs
  dsimp only at hk hout
  have hol : out.length = r.length := by rw [hout]; exact upTo_rev_length r k
  -- heap: b3 b9
  -- ptr: 3=b3
  refine GoH.seq ?_
  refine GoH.region ?_
  refine GoH.v (Vop.bin rfl rfl rfl rfl bLt rfl) ?_
  refine GoH.regionEnd ?_
  refine GoH.seq ?_
  refine GoH.cond rfl (fun hc => ?_) (fun hc => ?_)
  · -- yes
    have hlt : k < r.length := by simpa using hc
    refine GoH.skip ?_
    refine GoH.seq ?_
    refine GoH.block ?_
    refine GoH.seq ?_
    refine GoH.region ?_
    refine GoH.v (Vop.mv rfl rfl rfl rfl) ?_
    refine GoH.v (Vop.idx rfl rfl rfl rfl rfl Tryd.underlying22 Tryd.sizeOf28 ⟨_, ha⟩ (by simp) (k) ⟨rfl, by simpa using hlt⟩) ?_
    refine GoH.v (Vop.ld rfl rfl rfl rfl Tryd.isAgg28 (fun w _ hS => (SlU.ex0 ha hS.ext).at (k) hlt)) ?_
    refine GoH.alc rfl rfl rfl (fun _ => Tryd.zeroValue3 _) (fun b4 => ?_)
    refine GoH.st rfl rfl rfl rfl Tryd.sizeOf3 rfl 0 rfl rfl ?_
    refine GoH.v (Vop.asg rfl rfl rfl rfl) ?_
    refine GoH.regionEnd ?_
    refine GoH.seq ?_
    refine GoH.region ?_
    refine GoH.v (Vop.mv rfl rfl rfl rfl) ?_
    refine GoH.callM _ rfl rfl rfl rfl rfl (fun _ _ => Tryd.call46 _ _) (fun w _ hS => points_c _ w) ?_
    rintro v w1 w2 Y' hS he ⟨bp, rfl, hb, hh⟩
    refine ⟨_, hS.gain he hh rfl hb, ?_⟩
    -- heap: bp b4 b3 b9
    refine GoH.regionEnd ?_
    refine GoH.block ?_
    refine GoH.rangeF (σ := List W64) (cap := [(some bp, .cells #[U (r.getD k 0#64)] 28 (0, 0))]) (fun o => [(some b4, .cells #[.int .i64 k] 3 (0, 0)), (some b3, .cells #[.slice (some ⟨b9, 0, none⟩) r.length r.length] 22 (0, 0)), (some b9, ob U 28 o [])])
      (fun i o => o = ((pts (r.getD k 0#64)).take i).foldl (fun out v => out.set v (out.getD v 0#64 ||| 1#64 <<< k)) out) (fun _ _ => False) out
      rfl (fun _ _ => Tryd.call70 _ _) (points1_it w [] hT (by simp) _ bp) (args1 rfl) rfl rfl (List.Sublist.refl _) ?_ ?_ ?_
    -- heap: b4 b3 b9
    · -- a round
      intro L Y' rec hi' i az o haz hI hrec
      rw [List.getElem?_map] at haz
      obtain ⟨x, hx, rfl⟩ := Option.map_eq_some_iff.1 haz
      have hxr : x < r.length := hv.pts k x (List.mem_of_getElem? hx)
      have hol2 : o.length = r.length := by rw [hI, foldl_set_length]; exact hol
      have hxo : x < o.length := by omega
      refine GoH.region ?_
      refine GoH.v (Vop.asg rfl rfl rfl rfl) ?_
      refine GoH.regionEnd ?_
      refine GoH.beginRound hrec ?_
      refine GoH.block ?_
      refine GoH.draw 8 mixed rfl ?_
      refine RdGo.v (Vop.ldo rfl rfl rfl rfl Tryd.isAgg22 1 rfl rfl) ?_
      refine RdGo.v (Vop.mv rfl rfl rfl rfl) ?_
      refine RdGo.v (Vop.idxS rfl rfl rfl rfl rfl Tryd.underlying22 Tryd.sizeOf28 (x) ⟨rfl, hxr⟩) ?_
      refine RdGo.v (Vop.ldE U 0#64 rfl rfl rfl rfl Tryd.isAgg28 2 rfl hxo) ?_
      refine RdGo.v (Vop.ldo rfl rfl rfl rfl Tryd.isAgg3 0 rfl rfl) ?_
      refine RdGo.v (Vop.bin (a := U 1#64) rfl rfl rfl rfl (bShl _ rfl) rfl) ?_
      refine RdGo.v (Vop.bin rfl rfl rfl rfl bOr rfl) ?_
      refine RdGo.v (Vop.idxS rfl rfl rfl rfl rfl Tryd.underlying22 Tryd.sizeOf28 (x) ⟨rfl, hxr⟩) ?_
      refine RdGo.nil ?_
      refine GoH.stE U _ rfl rfl rfl rfl Tryd.sizeOf28 rfl 2 rfl hxo ?_
      refine GoH.regionEnd ?_
      refine GoH.inBlock ?_
      exact GoH.rEnd (o.set x (o.getD x 0#64 ||| 1#64 <<< k)) (by obtain ⟨h1, h2⟩ := List.getElem?_eq_some_iff.1 hx; rw [List.take_succ_eq_append_getElem h1, List.foldl_append, ← hI, h2]; rfl) (List.Sublist.refl _)
    · -- all have come
      intro o hI
      refine GoH.inBlock ?_
      refine GoH.inBlock ?_
      refine GoH.region ?_
      refine GoH.v (Vop.bin rfl rfl rfl rfl (bAdd (by omega)) rfl) ?_
      refine GoH.v (Vop.mv rfl rfl rfl rfl) ?_
      refine GoH.regionEnd ?_
      exact IH (k + 1, o) _ _ ⟨hlt, by rw [hI, List.length_map, List.take_length, upTo, ← hout]; rfl⟩ (by omega) ⟨rfl, rfl, rfl, rfl, rfl, trivial⟩ (.cons _ (List.Sublist.refl _))
    · -- stopped
      intro c s h; exact h.elim
  · -- no
    have hge : ¬ k < r.length := by simpa using hc
    obtain rfl : k = r.length := by omega
    refine GoH.exit rfl ?_
    refine GoH.seq ?_
    refine GoH.region ?_
    refine GoH.v (Vop.ldo rfl rfl rfl rfl Tryd.isAgg22 0 rfl rfl) ?_
    refine GoH.v (Vop.asg rfl rfl rfl rfl) ?_
    refine GoH.regionEnd ?_
    refine GoH.ret Tryd.f44 Tryd.func44 rfl (fun w' hS => ?_)
    exact ⟨hS.ext, by rw [show revR r = out from hout.symm]; exact ownAt hS (q := some b9) 1 rfl hol.symm (fun h => by cases h) (by simp [hol])⟩

def convR (r : List W64) : List W64 × Int := if checkR r.length r ≠ 0 then ([], checkR r.length r) else (revR r, 0)
def compR (r s : List W64) : List W64 × Int := if twoR r s ≠ 0 then ([], twoR r s) else (flm (fun w _ => mapR s (r.getD w 0#64)) (List.replicate r.length 0#64) r.length, 0)
def unionR (r s : List W64) : List W64 × Int := if twoR r s ≠ 0 then ([], twoR r s) else (flm (fun w x => x ||| s.getD w 0#64) r r.length, 0)
def meetR (r s : List W64) : List W64 × Int := if twoR r s ≠ 0 then ([], twoR r s) else (flm (fun w x => x &&& s.getD w 0#64) r r.length, 0)
end Go.Proofs.YtbjopkllkoomkaaDoor
