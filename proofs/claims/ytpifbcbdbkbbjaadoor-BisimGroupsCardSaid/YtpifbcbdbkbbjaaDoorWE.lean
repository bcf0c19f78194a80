/- Laws of a calculus of walks, proved for any program: no condition beyond those that each theorem states. -/
import Derived.Test.YtpifbcbdbkbbjaaDoorWD
namespace Go.Proofs.Wit
/-! a partition as a relation; the greatest bisimulation of a model with itself -/
def grp (p : List Int) (k : Nat) (x : Int) : W64 := upTo (fun j (o : W64) => if (p.getD j 0 == x) = true then o ||| 1#64 <<< j else o) 0#64 k
theorem grp_succ {p : List Int} {k : Nat} {x : Int} : grp p (k + 1) x = if (p.getD k 0 == x) = true then grp p k x ||| 1#64 <<< k else grp p k x := rfl
theorem grp_bit {p : List Int} {k v : Nat} {x : Int} (hk : k ≤ 64) : (grp p k x).getLsbD v = true ↔ v < k ∧ p.getD v 0 = x := by
  rw [grp, upTo_ones hk, beq_iff_eq]
def grps (p : List Int) (k : Nat) : List W64 := (List.range p.length).map (fun x : Nat => grp p k (x : Int))
theorem grps_len {p : List Int} {k : Nat} : (grps p k).length = p.length := by simp [grps]
theorem grps_get {p : List Int} {k x : Nat} (hx : x < p.length) : (grps p k).getD x 0#64 = grp p k (x : Int) := by simp [grps, List.getD_eq_getElem?_getD, hx]
theorem grps_zero {p : List Int} : List.replicate p.length 0#64 = grps p 0 := by
  apply List.ext_getElem (by simp [grps])
  intro i h1 h2
  simp [grps, grp, upTo]
theorem grps_succ {p : List Int} {k x : Nat} (hx : p.getD k 0 = (x : Int)) : (grps p k).set x ((grps p k).getD x 0#64 ||| 1#64 <<< k) = grps p (k + 1) := by
  apply List.ext_getElem (by simp [grps])
  intro i h1 h2
  have hi : i < p.length := by simpa [grps] using h2
  rw [List.getElem_set]
  have e2 : (grps p (k + 1))[i] = grp p (k + 1) (i : Int) := by simp [grps]
  have e3 : (grps p k)[i]'(by rw [grps_len]; exact hi) = grp p k (i : Int) := by simp [grps]
  rw [e2, grp_succ, hx]
  split
  · rename_i e
    subst e
    rw [grps_get hi]; simp
  · rename_i e
    rw [e3, if_neg]
    rw [beq_iff_eq]
    intro h; apply e; omega
def relP (p : List Int) : List W64 := (List.range p.length).map (fun i => grp p p.length (p.getD i 0))
theorem relP_len {p : List Int} : (relP p).length = p.length := by simp [relP]
theorem relP_bit {p : List Int} (hp : p.length ≤ 64) {v w : Nat} : Rl (relP p) v w ↔ v < p.length ∧ w < p.length ∧ p.getD w 0 = p.getD v 0 := by
  constructor
  · intro h
    have hv := h.dom
    rw [relP_len] at hv
    unfold Rl at h
    rw [show (relP p).getD v 0#64 = grp p p.length (p.getD v 0) from by simp [relP, List.getD_eq_getElem?_getD, hv], grp_bit hp] at h
    exact ⟨hv, h.1, h.2⟩
  · rintro ⟨hv, hw, e⟩
    unfold Rl
    rw [show (relP p).getD v 0#64 = grp p p.length (p.getD v 0) from by simp [relP, List.getD_eq_getElem?_getD, hv], grp_bit hp]
    exact ⟨hw, e⟩
theorem flm_relP {p : List Int} : flm (fun i _ => grp p p.length (p.getD i 0)) (List.replicate p.length 0#64) p.length = relP p := by
  apply List.ext_getElem (by simp [flm, relP])
  intro i h1 h2
  have hi : i < p.length := by simpa [relP] using h2
  simp [flm, relP, hi]
theorem rch_bit {p : List Int} (hp : OkP p) {s : W64} {b : Nat} : (rch p s).getLsbD b = true ↔ ∃ x, x < p.length ∧ s.getLsbD x = true ∧ p.getD x 0 = (b : Int) := by
  have hl := hp.len
  have hbit : ∀ x, Rl (bitsP p) x b ↔ x < p.length ∧ p.getD x 0 = (b : Int) := fun x => by
    constructor
    · intro h
      have hx := h.dom
      rw [show (bitsP p).length = p.length from by simp [bitsP]] at hx
      obtain ⟨h1, h2, h3⟩ := hp.low x hx
      unfold Rl at h
      rw [show (bitsP p).getD x 0#64 = 1#64 <<< (p.getD x 0).toNat from by simp [bitsP, List.getD_eq_getElem?_getD, hx], one_bit (by omega)] at h
      have : b = (p.getD x 0).toNat := by simpa using h
      exact ⟨hx, by omega⟩
    · rintro ⟨hx, e⟩
      obtain ⟨h1, h2, h3⟩ := hp.low x hx
      unfold Rl
      rw [show (bitsP p).getD x 0#64 = 1#64 <<< (p.getD x 0).toNat from by simp [bitsP, List.getD_eq_getElem?_getD, hx], one_bit (by omega)]
      simp only [decide_eq_true_eq]
      omega
  rw [rch, mapR_bit]
  constructor
  · rintro ⟨x, h1, h2⟩
    obtain ⟨h3, h4⟩ := (hbit x).1 h2
    exact ⟨x, h3, h1, h4⟩
  · rintro ⟨x, h1, h2, h3⟩
    exact ⟨x, h2, (hbit x).2 ⟨h1, h3⟩⟩
section
variable {n : Nat} {val : List W64} {rel : List (List W64)}
theorem psq_low (h64 : n ≤ 64) (i : Nat) {x : Nat} (hx : x < n) : 0 ≤ (psq n val rel i).getD x 0 ∧ (psq n val rel i).getD x 0 ≤ (x : Int) := by
  obtain ⟨h1, h2, _⟩ := (psq_ok (val := val) (rels := rel) h64 i).low x (by rw [psq_len]; exact hx)
  exact ⟨h1, h2⟩
/-- worlds that a bisimulation joins are together after every round -/
theorem sim_psq (h64 : n ≤ 64) (hr : ∀ r ∈ rel, r.length = n ∧ Val r) {z : List W64} (hl : z.length = n) (hz : ∀ v w, Rl z v w → w < n) (hs : SimB val val rel rel z) :
    ∀ i v w, Rl z v w → (psq n val rel i).getD v 0 = (psq n val rel i).getD w 0
  | 0, v, w, h => by
    have hv : v < n := by have := h.dom; omega
    exact (ker_eq_iff hv (hz _ _ h)).2 (matB_iff.1 (hs v w h)).1
  | i + 1, v, w, h => by
    have hv : v < n := by have := h.dom; omega
    have hw := hz _ _ h
    have hp := psq_ok (val := val) (rels := rel) h64 i
    have hpl : (psq n val rel i).length = n := psq_len i
    refine (nxt_eq_iff (by omega) (by omega)).2 ⟨sim_psq h64 hr hl hz hs i v w h, fun r hrm => ?_⟩
    obtain ⟨k, hk, hke⟩ := List.mem_iff_getElem.1 hrm
    have hf := (matB_iff.1 (hs v w h)).2 k hk
    rw [show rel.getD k [] = r from by rw [← hke]; simp [List.getD_eq_getElem?_getD, hk]] at hf
    obtain ⟨h1, h2⟩ := forB_iff.1 hf
    obtain ⟨hrl, hrv⟩ := hr r hrm
    apply eq_of_bits
    intro b _
    rw [Bool.eq_iff_iff, rch_bit hp, rch_bit hp]
    constructor
    · rintro ⟨x, hx, hb, e⟩
      obtain ⟨y, hy1, hy2⟩ := h1 x hb
      exact ⟨y, by have := hz _ _ hy1; omega, hy2, by rw [← sim_psq h64 hr hl hz hs i x y hy1]; exact e⟩
    · rintro ⟨y, hy, hb, e⟩
      obtain ⟨x, hx1, hx2⟩ := h2 y hb
      exact ⟨x, by have := hx2.dom; omega, hx1, by rw [sim_psq h64 hr hl hz hs i x y hx2]; exact e⟩
theorem self_grt (hn : 1 ≤ n) (h64 : n ≤ 64) (hr : ∀ r ∈ rel, r.length = n ∧ Val r) : Grt val val rel rel n n (relP (psq n val rel (dep n val rel))) := by
  obtain ⟨hd1, hd2, hd3⟩ := dep_spec (n := n) (val := val) (rels := rel) hn h64
  have hpl : ∀ i, (psq n val rel i).length = n := fun i => psq_len i
  have hp := psq_ok (val := val) (rels := rel) h64 (dep n val rel)
  have hb : ∀ {v w}, Rl (relP (psq n val rel (dep n val rel))) v w ↔ v < n ∧ w < n ∧ (psq n val rel (dep n val rel)).getD w 0 = (psq n val rel (dep n val rel)).getD v 0 := fun {v w} => by
    rw [relP_bit (by rw [hpl]; exact h64), hpl]
  refine ⟨⟨by rw [relP_len, hpl], fun v w h => (hb.1 h).2.1, fun z' h1 h2 h3 v w h => hb.2 ⟨by have := h.dom; omega, h2 v w h, (sim_psq h64 hr h1 h2 h3 _ v w h).symm⟩⟩, fun v w h => ?_⟩
  obtain ⟨hv, hw, e⟩ := hb.1 h
  have hall : ∀ i, i ≤ dep n val rel → (psq n val rel i).getD w 0 = (psq n val rel i).getD v 0 := by
    intro i hi
    obtain ⟨j, hj⟩ : ∃ j, dep n val rel = i + j := ⟨dep n val rel - i, by omega⟩
    rw [hj] at e
    clear hi hj hb hp h hd1 hd2 hd3
    induction j with
    | zero => exact e
    | succ j ih => exact ih ((nxt_eq_iff (by rw [psq_len]; exact hw) (by rw [psq_len]; exact hv)).1 e).1
  have e0 := hall 0 (Nat.zero_le _)
  have hfm : fm val v = fm val w := ((ker_eq_iff hw hv).1 e0).symm
  rw [hd2] at e
  have e1 := (nxt_eq_iff (by rw [hpl]; exact hw) (by rw [hpl]; exact hv)).1 e
  refine matB_iff.2 ⟨hfm, fun k hk => ?_⟩
  have hrm : rel.getD k [] ∈ rel := by
    rw [show rel.getD k [] = rel[k] from by simp [List.getD_eq_getElem?_getD, hk]]; exact List.getElem_mem hk
  obtain ⟨hrl, hrv⟩ := hr _ hrm
  have e2 := e1.2 _ hrm
  refine forB_iff.2 ⟨fun x hx => ?_, fun y hy => ?_⟩
  · have hxn : x < n := by have := hrv.lt v x hx; omega
    have hlow := psq_low (val := val) (rel := rel) h64 (dep n val rel) hxn
    have h1 : (rch (psq n val rel (dep n val rel)) ((rel.getD k []).getD v 0#64)).getLsbD ((psq n val rel (dep n val rel)).getD x 0).toNat = true := (rch_bit hp).2 ⟨x, by rw [hpl]; exact hxn, hx, by omega⟩
    rw [← e2] at h1
    obtain ⟨y, hy1, hy2, hy3⟩ := (rch_bit hp).1 h1
    rw [hpl] at hy1
    exact ⟨y, hb.2 ⟨hxn, hy1, by omega⟩, hy2⟩
  · have hyn : y < n := by have := hrv.lt w y hy; omega
    have hlow := psq_low (val := val) (rel := rel) h64 (dep n val rel) hyn
    have h1 : (rch (psq n val rel (dep n val rel)) ((rel.getD k []).getD w 0#64)).getLsbD ((psq n val rel (dep n val rel)).getD y 0).toNat = true := (rch_bit hp).2 ⟨y, by rw [hpl]; exact hyn, hy, by omega⟩
    rw [e2] at h1
    obtain ⟨x, hx1, hx2, hx3⟩ := (rch_bit hp).1 h1
    rw [hpl] at hx1
    exact ⟨x, hx2, hb.2 ⟨hx1, hyn, by omega⟩⟩
/-- a round refines what it divides -/
theorem nxt_refines {rels : List (List W64)} {p : List Int} {i : Nat} (hi : i < p.length) : p.getD ((nxt rels p).getD i 0).toNat 0 = p.getD i 0 := by
  rw [nxt, ker_get hi]
  have h := (led_spec (fun w => (p.getD w 0, rels.map (fun r => rch p (r.getD w 0#64)))) i).2.1
  rw [Prod.mk.injEq] at h
  simpa using h.1
end
end Go.Proofs.Wit
