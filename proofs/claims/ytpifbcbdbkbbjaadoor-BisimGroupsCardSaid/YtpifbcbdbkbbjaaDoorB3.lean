/- Contracts of functions of the program: what each call returns and that nothing else of memory is turned, under the conditions that each theorem states. -/
import Derived.Test.YtpifbcbdbkbbjaaDoorB2
namespace Go.Proofs.YtpifbcbdbkbbjaaDoor
open Go.RowKit Go.Proofs.Wit
/-! numbers in hexadecimal -/
theorem pow2_c (w : World) : Cn Tryd.prog 86 [.int .i64 16] w (fun v _ => v = .bool true) := by
  refine Cn.of Tryd.func86 rfl rfl ?_
  refine GoH.seq ?_
  refine GoH.region ?_
  refine GoH.v (Vop.asg rfl rfl rfl rfl) ?_
  refine GoH.regionEnd ?_
  refine GoH.seq ?_
  refine GoH.region ?_
  refine GoH.v (Vop.mv rfl rfl rfl rfl) ?_
  refine GoH.v (Vop.mv rfl rfl rfl rfl) ?_
  refine GoH.v (Vop.bin rfl rfl rfl rfl (bSubE (c := 15) (by decide) (by omega)) rfl) ?_
  refine GoH.v (Vop.bin rfl rfl rfl rfl (bI (z := .int .i64 0) _ (by rfl)) rfl) ?_
  refine GoH.v (Vop.bin rfl rfl rfl rfl (bEqV (v := true) rfl) rfl) ?_
  refine GoH.v (Vop.asg rfl rfl rfl rfl) ?_
  refine GoH.regionEnd ?_
  refine GoH.ret Tryd.f86 Tryd.func86 rfl (fun w' hS => ?_)
  exact ⟨hS.ext, rfl⟩
theorem tzw_c (w : World) (hT : Tab w) : Cn Tryd.prog 87 [U 16#64] w (fun v _ => v = .int .i64 4) := by
  refine Cn.of Tryd.func87 rfl rfl ?_
  refine GoH.seq ?_
  refine GoH.region ?_
  refine GoH.v (Vop.asg rfl rfl rfl rfl) ?_
  refine GoH.regionEnd ?_
  refine GoH.seq ?_
  refine GoH.cond rfl (fun hc => ?_) (fun hc => ?_)
  · -- yes
    cases hc
  · -- no
    refine GoH.skip ?_
    refine GoH.seq ?_
    refine GoH.region ?_
    refine GoH.v (Vop.mv rfl rfl rfl rfl) ?_
    refine GoH.callP rfl rfl rfl rfl rfl (fun _ _ => Tryd.call65 _ _) (fun w _ hS => (by exact (tz_c 16#64 w (hT.ex hS.ext) (by decide)).mono (fun v w' _ e => by rw [e]))) ?_
    refine GoH.v (Vop.asg rfl rfl rfl rfl) ?_
    refine GoH.regionEnd ?_
    refine GoH.ret Tryd.f87 Tryd.func87 rfl (fun w' hS => ?_)
    exact ⟨hS.ext, rfl⟩
theorem zeros65 : Tryd.zeroCells106 = ((List.replicate 65 (0 : UInt8)).map I8 ++ []).toArray := rfl
abbrev digV : Value := bstr digL
/-- the letters that lie in the array -/
structure Fmt (x u : W64) (L : List UInt8) (i : Nat) : Prop where
  len : L.length = 65
  lo : 50 ≤ i
  hi : i ≤ 65
  sm : u.toNat < 16 ^ (i - 49)
  txt : hexN x.toNat = hexN u.toNat ++ L.drop i
theorem Fmt.start (x : W64) : Fmt x x (List.replicate 65 0) 65 := ⟨by simp, by omega, by omega, x.isLt, by simp⟩
theorem drop_set {L : List UInt8} {i : Nat} {c : UInt8} (h : i < L.length) : (L.set i c).drop i = c :: L.drop (i + 1) := by
  rw [List.drop_set, if_neg (by omega), Nat.sub_self, List.drop_eq_getElem_cons h]; rfl
theorem Fmt.next {x u : W64} {L : List UInt8} {i : Nat} (h : Fmt x u L i) (hu : ¬ u.toNat < 16) : Fmt x (u >>> 4) (L.set (i - 1) (dig (u.toNat % 16))) (i - 1) ∧ 51 ≤ i := by
  have h1 := h.len; have h2 := h.lo; have h3 := h.hi; have h4 := h.sm
  have h51 : 51 ≤ i := by
    rcases Nat.lt_or_ge i 51 with hl | hg
    · obtain rfl : i = 50 := by omega
      simp at h4; omega
    · exact hg
  have e1 : (u >>> 4).toNat = u.toNat / 16 := by rw [BitVec.toNat_ushiftRight, Nat.shiftRight_eq_div_pow]
  have e2 : (16 : Nat) ^ (i - 49) = 16 ^ (i - 1 - 49) * 16 := by rw [← Nat.pow_succ]; congr 1; omega
  refine ⟨⟨by simp [h1], by omega, by omega, by rw [e1]; omega, ?_⟩, h51⟩
  rw [h.txt, hexN_hi hu, e1, drop_set (by omega), Nat.sub_add_cancel (by omega)]
  simp
theorem and15 (u : W64) : (u &&& (16#64 - 1#64)).toNat = u.toNat % 16 := by
  rw [show (16#64 - 1#64 : W64) = 15#64 from by decide, BitVec.toNat_and]
  exact Nat.and_two_pow_sub_one_eq_mod u.toNat 4
theorem fmtBits_c (x : W64) (w : World) (hT : Tab w) : Cn Tryd.prog 83 [.slice none 0 0, U x, .int .i64 16, .bool false, .bool false] w (fun v _ => v = .tuple #[.slice none 0 0, bstr (hexN x.toNat)]) := by
  refine Cn.of Tryd.func83 rfl rfl ?_
  refine GoH.seq ?_
  refine GoH.region ?_
  refine GoH.v (Vop.asg rfl rfl rfl rfl) ?_
  refine GoH.v (Vop.asg rfl rfl rfl rfl) ?_
  refine GoH.regionEnd ?_
  refine GoH.seq ?_
  refine GoH.seq ?_
  refine GoH.region ?_
  refine GoH.v (Vop.mv rfl rfl rfl rfl) ?_
  refine GoH.v (Vop.bin rfl rfl rfl rfl (bLtV (v := false) rfl) rfl) ?_
  refine GoH.v (Vop.mv rfl rfl rfl rfl) ?_
  refine GoH.v (Vop.mv rfl rfl rfl rfl) ?_
  refine GoH.v (Vop.bin rfl rfl rfl rfl (bEqV (v := false) rfl) rfl) ?_
  refine GoH.v (Vop.pickF rfl rfl rfl rfl rfl) ?_
  refine GoH.v (Vop.mv rfl rfl rfl rfl) ?_
  refine GoH.v (Vop.mv rfl rfl rfl rfl) ?_
  refine GoH.v (Vop.bin rfl rfl rfl rfl (bGtV (v := false) rfl) rfl) ?_
  refine GoH.v (Vop.pickF rfl rfl rfl rfl rfl) ?_
  refine GoH.regionEnd ?_
  refine GoH.condF rfl ?_
  refine GoH.skip ?_
  refine GoH.seq ?_
  refine GoH.region ?_
  refine GoH.alc rfl rfl rfl (fun _ => Tryd.zeroValue106 _) (fun b12 => ?_)
  refine GoH.regionEnd ?_
  refine GoH.seq ?_
  refine GoH.region ?_
  refine GoH.v (Vop.asg rfl rfl rfl rfl) ?_
  refine GoH.regionEnd ?_
  refine GoH.seq ?_
  refine GoH.seq ?_
  refine GoH.region ?_
  refine GoH.v (Vop.mv rfl rfl rfl rfl) ?_
  refine GoH.regionEnd ?_
  refine GoH.cond rfl (fun hc => ?_) (fun hc => ?_)
  · -- yes
    cases hc
  · -- no
    refine GoH.skip ?_
    refine GoH.seq ?_
    refine GoH.seq ?_
    refine GoH.region ?_
    refine GoH.v (Vop.mv rfl rfl rfl rfl) ?_
    refine GoH.callP rfl rfl rfl rfl rfl (fun _ _ => Tryd.call86 _ _) (fun w _ hS => pow2_c w) ?_
    refine GoH.regionEnd ?_
    refine GoH.condT rfl ?_
    refine GoH.seq ?_
    refine GoH.region ?_
    refine GoH.v (Vop.mv rfl rfl rfl rfl) ?_
    refine GoH.v (Vop.conv (v := U 16#64) rfl rfl rfl (cInt (a := 16) (k := .u64) Tryd.underlying3 Tryd.underlying81 (wrapN64 (by omega))) rfl) ?_
    refine GoH.callP rfl rfl rfl rfl rfl (fun _ _ => Tryd.call87 _ _) (fun w _ hS => tzw_c w (hT.ex hS.ext)) ?_
    refine GoH.v (Vop.conv (v := U 4#64) rfl rfl rfl (cInt (a := 4) (k := .u64) Tryd.underlying3 Tryd.underlying81 (wrapN64 (by omega))) rfl) ?_
    refine GoH.v (Vop.asg rfl rfl rfl rfl) ?_
    refine GoH.regionEnd ?_
    refine GoH.seq ?_
    refine GoH.region ?_
    refine GoH.v (Vop.mv rfl rfl rfl rfl) ?_
    refine GoH.v (Vop.conv (v := U 16#64) rfl rfl rfl (cInt (a := 16) (k := .u64) Tryd.underlying3 Tryd.underlying44 (wrapN64 (by omega))) rfl) ?_
    refine GoH.v (Vop.asg rfl rfl rfl rfl) ?_
    refine GoH.regionEnd ?_
    refine GoH.seq ?_
    refine GoH.region ?_
    refine GoH.v (Vop.mv rfl rfl rfl rfl) ?_
    refine GoH.v (Vop.conv (v := U 16#64) rfl rfl rfl (cInt (a := 16) (k := .u64) Tryd.underlying3 Tryd.underlying81 (wrapN64 (by omega))) rfl) ?_
    refine GoH.v (Vop.bin (b := U 1#64) rfl rfl rfl rfl bSubU rfl) ?_
    refine GoH.v (Vop.asg rfl rfl rfl rfl) ?_
    refine GoH.regionEnd ?_
    refine GoH.seq ?_
    refine GoH.block ?_
    refine GoH.loop (σ := W64 × List UInt8 × Nat) (fun z => [(1, U z.1), (3, .bool false), (4, .bool false), (10, .slice none 0 0), (12, .pointer (some ⟨b12, 0, none⟩)), (13, .int .i64 z.2.2), (14, U 4#64), (15, U 16#64), (16, U (16#64 - 1#64))]) (fun z => [(some b12, ob I8 106 z.2.1 [])])
      (fun z => Fmt x z.1 z.2.1 z.2.2) (fun z => z.1.toNat) (x, List.replicate 65 0, 65) (Fmt.start x) ⟨rfl, rfl, rfl, rfl, rfl, rfl, rfl, rfl, rfl, trivial⟩ (by exact List.Sublist.refl _) (fun z hI IH => ?_)
    obtain ⟨u, L, i⟩ := z
    dsimp only at hI IH ⊢
    have hlen := hI.len; have hlo := hI.lo; have hhi := hI.hi
    -- heap: b12
    -- ptr:
    refine GoH.seq ?_
    refine GoH.seq ?_
    refine GoH.region ?_
    refine GoH.v (Vop.mv rfl rfl rfl rfl) ?_
    refine GoH.v (Vop.mv rfl rfl rfl rfl) ?_
    refine GoH.v (Vop.bin rfl rfl rfl rfl (bGeUB (y := 16#64)) rfl) ?_
    refine GoH.regionEnd ?_
    refine GoH.cond rfl (fun hc => ?_) (fun hc => ?_)
    · -- yes
      have hu : ¬ u.toNat < 16 := by simpa using hc
      obtain ⟨hn, h51⟩ := hI.next hu
      have hm : u.toNat % 16 < 36 := by omega
      refine GoH.skip ?_
      refine GoH.block ?_
      refine GoH.seq ?_
      refine GoH.region ?_
      refine GoH.v (Vop.mv rfl rfl rfl rfl) ?_
      refine GoH.v (Vop.bin rfl rfl rfl rfl (bSubE (c := ((i - 1 : Nat) : Int)) (by omega) (by omega)) rfl) ?_
      refine GoH.v (Vop.asg rfl rfl rfl rfl) ?_
      refine GoH.regionEnd ?_
      refine GoH.seq ?_
      refine GoH.region ?_
      refine GoH.v (Vop.mv rfl rfl rfl rfl) ?_
      refine GoH.v (Vop.mv rfl rfl rfl rfl) ?_
      refine GoH.v (Vop.mv rfl rfl rfl rfl) ?_
      refine GoH.v (Vop.bin rfl rfl rfl rfl bAnd rfl) ?_
      refine GoH.v (Vop.idxC (l8 := digL) rfl rfl rfl rfl rfl Tryd.underlying9 (u.toNat % 16) ⟨by rw [and15], hm⟩) ?_
      refine GoH.v (Vop.idxA rfl rfl rfl rfl rfl Tryd.underlying106 Tryd.sizeOf5 (i - 1) rfl (by omega)) ?_
      refine GoH.stA I8 (dig (u.toNat % 16)) rfl rfl rfl rfl Tryd.sizeOf5 rfl 0 rfl (by rw [hlen, Nat.zero_add]; omega) ?_
      refine GoH.regionEnd ?_
      refine GoH.region ?_
      refine GoH.v (Vop.mv rfl rfl rfl rfl) ?_
      refine GoH.v (Vop.mv rfl rfl rfl rfl) ?_
      refine GoH.v (Vop.bin rfl rfl rfl rfl (bShr _ rfl) rfl) ?_
      refine GoH.v (Vop.asg rfl rfl rfl rfl) ?_
      refine GoH.regionEnd ?_
      refine GoH.inBlock ?_
      exact IH (u >>> 4, L.set (i - 1) (dig (u.toNat % 16)), i - 1) _ _ hn (by dsimp only; rw [BitVec.toNat_ushiftRight, Nat.shiftRight_eq_div_pow]; omega) ⟨rfl, rfl, rfl, rfl, rfl, rfl, rfl, rfl, rfl, trivial⟩ (by rw [Nat.zero_add]; exact List.Sublist.refl _)
    · -- no
      have hu : u.toNat < 16 := by simpa using hc
      refine GoH.exit rfl ?_
      refine GoH.seq ?_
      refine GoH.region ?_
      refine GoH.v (Vop.mv rfl rfl rfl rfl) ?_
      refine GoH.v (Vop.bin rfl rfl rfl rfl (bSubE (c := ((i - 1 : Nat) : Int)) (by omega) (by omega)) rfl) ?_
      refine GoH.v (Vop.asg rfl rfl rfl rfl) ?_
      refine GoH.regionEnd ?_
      refine GoH.region ?_
      refine GoH.v (Vop.mv rfl rfl rfl rfl) ?_
      refine GoH.v (Vop.mv rfl rfl rfl rfl) ?_
      refine GoH.v (Vop.idxC (l8 := digL) rfl rfl rfl rfl rfl Tryd.underlying9 u.toNat ⟨rfl, by have : digL.length = 36 := rfl; omega⟩) ?_
      refine GoH.v (Vop.idxA rfl rfl rfl rfl rfl Tryd.underlying106 Tryd.sizeOf5 (i - 1) rfl (by omega)) ?_
      refine GoH.stA I8 (dig u.toNat) rfl rfl rfl rfl Tryd.sizeOf5 rfl 0 rfl (by rw [hlen, Nat.zero_add]; omega) ?_
      refine GoH.regionEnd ?_
      refine GoH.seq ?_
      refine GoH.seq ?_
      refine GoH.region ?_
      refine GoH.v (Vop.mv rfl rfl rfl rfl) ?_
      refine GoH.regionEnd ?_
      refine GoH.cond rfl (fun hc => ?_) (fun hc => ?_)
      · -- yes
        cases hc
      · -- no
        refine GoH.skip ?_
        refine GoH.seq ?_
        refine GoH.seq ?_
        refine GoH.region ?_
        refine GoH.v (Vop.mv rfl rfl rfl rfl) ?_
        refine GoH.regionEnd ?_
        refine GoH.cond rfl (fun hc => ?_) (fun hc => ?_)
        · -- yes
          cases hc
        · -- no
          refine GoH.skip ?_
          refine GoH.seq ?_
          refine GoH.region ?_
          refine GoH.v (Vop.mv rfl rfl rfl rfl) ?_
          refine GoH.v (Vop.slLoA (lo := i - 1) rfl rfl rfl rfl rfl Tryd.underlying106 Tryd.sizeOf5 rfl (by omega)) ?_
          refine GoH.v (Vop.cStr (L := L.set (0 + (i - 1)) (dig u.toNat)) rfl rfl rfl rfl Tryd.underlying99 Tryd.underlying9 Tryd.underlying5 0 rfl (by rw [List.length_set, hlen]; omega) (hexN x.toNat) (by rw [Nat.zero_add, drop_set (by omega), Nat.sub_add_cancel (by omega), hI.txt, hexN_lo hu]; rfl)) ?_
          refine GoH.v (Vop.asg rfl rfl rfl rfl) ?_
          refine GoH.regionEnd ?_
          refine GoH.ret Tryd.f83 Tryd.func83 rfl (fun w' hS => ?_)
          exact ⟨hS.ext, rfl⟩
theorem fmtU1_c (x : W64) (w : World) (hT : Tab w) : Cn Tryd.prog 75 [U x, .int .i64 16] w (fun v _ => v = bstr (hexN x.toNat)) := by
  refine Cn.of Tryd.func75 rfl rfl ?_
  refine GoH.seq ?_
  refine GoH.region ?_
  refine GoH.v (Vop.asg rfl rfl rfl rfl) ?_
  refine GoH.regionEnd ?_
  refine GoH.seq ?_
  refine GoH.seq ?_
  refine GoH.region ?_
  refine GoH.v (Vop.mv rfl rfl rfl rfl) ?_
  refine GoH.v (Vop.bin rfl rfl rfl rfl (bEqV (v := false) rfl) rfl) ?_
  refine GoH.regionEnd ?_
  refine GoH.condF rfl ?_
  refine GoH.skip ?_
  refine GoH.seq ?_
  refine GoH.region ?_
  refine GoH.v (Vop.mv rfl rfl rfl rfl) ?_
  refine GoH.v (Vop.mv rfl rfl rfl rfl) ?_
  refine GoH.callP rfl rfl rfl rfl rfl (fun _ _ => Tryd.call83 _ _) (fun w _ hS => fmtBits_c x w (hT.ex hS.ext)) ?_
  refine GoH.v (Vop.mv rfl rfl rfl rfl) ?_
  refine GoH.v (Vop.ext rfl rfl rfl rfl rfl) ?_
  refine GoH.v (Vop.ext rfl rfl rfl rfl rfl) ?_
  refine GoH.v (Vop.asg rfl rfl rfl rfl) ?_
  refine GoH.v (Vop.asg rfl rfl rfl rfl) ?_
  refine GoH.regionEnd ?_
  refine GoH.seq ?_
  refine GoH.region ?_
  refine GoH.v (Vop.mv rfl rfl rfl rfl) ?_
  refine GoH.v (Vop.asg rfl rfl rfl rfl) ?_
  refine GoH.regionEnd ?_
  refine GoH.ret Tryd.f75 Tryd.func75 rfl (fun w' hS => ?_)
  exact ⟨hS.ext, rfl⟩
theorem fmtU_c (x : W64) (w : World) (hT : Tab w) : Cn Tryd.prog 57 [U x, .int .i64 16] w (fun v _ => v = bstr (hexN x.toNat)) := by
  refine Cn.of Tryd.func57 rfl rfl ?_
  refine GoH.seq ?_
  refine GoH.region ?_
  refine GoH.v (Vop.asg rfl rfl rfl rfl) ?_
  refine GoH.regionEnd ?_
  refine GoH.seq ?_
  refine GoH.region ?_
  refine GoH.v (Vop.mv rfl rfl rfl rfl) ?_
  refine GoH.v (Vop.mv rfl rfl rfl rfl) ?_
  refine GoH.callP rfl rfl rfl rfl rfl (fun _ _ => Tryd.call75 _ _) (fun w _ hS => fmtU1_c x w (hT.ex hS.ext)) ?_
  refine GoH.v (Vop.asg rfl rfl rfl rfl) ?_
  refine GoH.regionEnd ?_
  refine GoH.ret Tryd.f57 Tryd.func57 rfl (fun w' hS => ?_)
  exact ⟨hS.ext, rfl⟩
end Go.Proofs.YtpifbcbdbkbbjaaDoor
