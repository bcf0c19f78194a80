/- What calls of the program return, under the conditions that each theorem states. -/
import Derived.Test.YtlihcmknfdckdaaDoorT20
import Derived.Test.YtlihcmknfdckdaaDoorT18
import Derived.Test.YtlihcmknfdckdaaDoorT16
import Derived.Test.YtlihcmknfdckdaaDoorT03
import Derived.Test.YtlihcmknfdckdaaDoorT21
import Derived.Test.YtlihcmknfdckdaaDoorT15
import Derived.Test.YtlihcmknfdckdaaDoorT04
import Derived.Test.YtlihcmknfdckdaaDoorT14
namespace Go.Proofs.YtlihcmknfdckdaaDoor
open Go.RowKit Go.Proofs.Wit Tryd
/-! conjunctions of the reference -/
def fldA (t : Tr) (ts : List Tr) : Tr := ts.foldl (fun a b => .bin 5 0 0 0 a b) t
end Go.Proofs.YtlihcmknfdckdaaDoor
namespace Go.Proofs.YtlihcmknfdckdaaDoor
open Go.RowKit Go.Proofs.Wit Tryd
/-! the language of proofs: the reference -/
theorem frO_11 {op : Int} (ho : 1 ≤ op ∧ op ≤ 21) : andN (frO op).toNat 11 = 0 ↔ op ≤ 11 ∨ op = 13 :=
 op_cases (p := fun op => andN (frO op).toNat 11 = 0 ↔ op ≤ 11 ∨ op = 13) (by decide) ho
theorem lang_iff {c : List NV} (hO : NodesOk c) : andN (frgL c) 11 = 0 ↔ ∀ (k : Nat) (hk : k < c.length), c[k].op ≤ 11 ∨ c[k].op = 13 := by
 rw [frg_zero]
 constructor
 ·exact fun h k hk => (frO_11 (hO k hk).op).1 (h c[k] (List.getElem_mem hk))
 ·intro h n hn
  obtain ⟨k, hk, rfl⟩ := List.mem_iff_getElem.1 hn
  exact (frO_11 (hO k hk).op).2 (h k hk)
set_option maxRecDepth 8000 in
theorem glang_c (a : Option Addr) (ca : Nat) (f : List NV) (w : World) (ha : FA w a f) (hl : f.length ≤ maxLen) : Cn Tryd.prog 57 [.slice a f.length ca] w (fun v _ => v = .bool (decide (andN (frgL (compF f)) 11 = 0))) := by
  obtain ⟨c, hcE⟩ : ∃ c, c = compF f := ⟨_, rfl⟩
  have hO : NodesOk c := by rw [hcE]; exact compF_nodes f
  have hcl : c.length ≤ 200 := by rw [hcE]; exact compF_le f
  have hiff := lang_iff hO
  rw [← hcE]
  refine Cn.of func57 rfl rfl ?_
  refine gS (gR ?_); refine gAs ?_; refine gE (gS (gS (gR ?_))); refine gMv ?_
  refine gM rfl rfl rfl rfl rfl call54 (fun w _ hS => (by exact rcompact_c a ca f w (ha.ex0 hS.ext) hl)) ?_
  rintro v w1 w2 Y' hS he ho
  rw [subF_top, ← hcE] at ho
  obtain ⟨qc, capc, spc, rfl, hqc, hcapc, hS'⟩ := gainN hS he ho
  refine ⟨_, hS', ?_⟩
  refine gBl underlying23 ?_; refine gMv ?_; refine gE (gB ?_)
  refine GoH.loop (σ := Nat) (fun k => [(6, osv qc c.length capc), (7, .int .i64 c.length), (8, .int .i64 k)]) (fun _ => [(qc, obN 80 c spc)]) (fun k => k ≤ c.length ∧ ∀ (j : Nat) (hj : j < c.length), j < k → c[j].op ≤ 11 ∨ c[j].op = 13) (fun k => c.length - k) 0 ⟨Nat.zero_le _, fun j _ hj => absurd hj (Nat.not_lt_zero _)⟩ ⟨rfl, rfl, rfl, trivial⟩ (List.Sublist.refl _) (fun k hI IH => ?_)
  obtain ⟨hk, hall⟩ := hI
  refine gS (gR ?_); refine gBi bLt ?_; refine gE (gS ?_)
  refine gC (fun hc => ?_) fun hc => ?_
  ·
   have hlt : k < c.length := by simpa using hc
   obtain ⟨b, rfl⟩ : ∃ b, qc = some b := by
     cases qc with
     | none => have := (hqc rfl).1; omega
     | some b => exact ⟨b, rfl⟩
   have hst : (c[k].op ≤ 11 ∨ c[k].op = 13) → ∀ (j : Nat) (hj : j < c.length), j < k + 1 → c[j].op ≤ 11 ∨ c[j].op = 13 := fun h j hj hjk => by
     by_cases e : j = k
     · subst e; exact h
     · exact hall j hj (by omega)
   refine gK (gS (gB (gS (gR ?_))))
   refine GoH.v (Vop.idxS rfl rfl rfl rfl rfl underlying23 sizeOf80 k ⟨rfl, hlt⟩) ?_
   refine GoH.v (Vop.ldN (cs := NV.cells c[k]) rfl rfl rfl rfl isAgg80 sizeOf80 (fun w _ hS => Sl.many (enc := NV.cells) (sz := 6) (a := some ⟨b, 0, none⟩) (Sl.blk (hS.get (j := 0) rfl)) (fun _ => rfl) hlt)) ?_
   refine GoH.alc rfl rfl rfl (fun _ => zeroValue80 _) (fun b4 => ?_)
   refine GoH.stB rfl rfl rfl rfl sizeOf80 0 rfl rfl rfl rfl ?_
   refine gE (gS (gR ?_)); refine gFp underlying80 sizeOf3 0 ?_; refine gLo isAgg3 0 ?_; refine gBi bGt ?_; refine gMv ?_
   refine gCs 15 (fun hc => ?_) fun hc => ?_
   ·
    have h11 : c[k].op > 11 := by simpa using hc
    refine gFp underlying80 sizeOf3 0 ?_; refine gLo isAgg3 0 ?_; refine gBi bNe ?_; refine gPt ?_; refine gE ?_
    refine gC (fun hc => ?_) fun hc => ?_
    ·
     have h13 : c[k].op ≠ 13 := by simpa using hc
     have hno : ¬ andN (frgL c) 11 = 0 := fun h => by rcases hiff.1 h k hlt with h | h <;> omega
     refine gS (gR ?_); refine gAs ?_; refine gE ?_
     refine gT func57 fun w' hS => ?_
     exact ⟨hS.ext, by rw [decide_eq_false hno]; rfl⟩
    ·
     have h13 : c[k].op = 13 := by simpa using hc
     refine gK (gIb (gR ?_)); refine gBx rfl rfl rfl rfl (bAdd (by omega)) ?_; refine gMv ?_; refine gE ?_
     exact IH (k + 1) _ _ ⟨hlt, hst (.inr h13)⟩ (by omega) ⟨rfl, rfl, rfl, trivial⟩ (.cons _ (List.Sublist.refl _))
   ·
    have h11 : ¬ c[k].op > 11 := by simpa using hc
    iterate 3 refine gNo ?_
    refine gPf ?_; refine gE (GoH.condF rfl (gK (gIb (gR ?_)))); refine gBx rfl rfl rfl rfl (bAdd (by omega)) ?_; refine gMv ?_; refine gE ?_
    exact IH (k + 1) _ _ ⟨hlt, hst (.inl (by omega))⟩ (by omega) ⟨rfl, rfl, rfl, trivial⟩ (.cons _ (List.Sublist.refl _))
  ·
   have hge : ¬ k < c.length := by simpa using hc
   have hy : andN (frgL c) 11 = 0 := hiff.2 (fun j hj => hall j hj (by omega))
   refine GoH.exit rfl (gS (gR ?_))
   refine gAs ?_; refine gE ?_
   refine gT func57 fun w' hS => ?_
   exact ⟨hS.ext, by rw [decide_eq_true hy]; rfl⟩
theorem glang2_c (a : Option Addr) (ca : Nat) (f : List NV) (w : World) (ha : FA w a f) (hl : f.length ≤ maxLen) : Cn Tryd.prog 26 [.slice a f.length ca] w (fun v _ => v = .bool (decide (andN (frgL (compF f)) 11 = 0))) := by
 refine Cn.of func26 rfl rfl ?_
 refine gS (gR ?_); refine gAs ?_; refine gE (gS (gR ?_)); refine gMv ?_
 refine gP rfl rfl rfl rfl rfl call57 (fun w _ hS => (by exact glang_c a ca f w (ha.ex0 hS.ext) hl)) ?_
 refine gAs ?_; refine gE ?_
 refine gT func26 fun w' hS => ?_
 exact ⟨hS.ext, rfl⟩
end Go.Proofs.YtlihcmknfdckdaaDoor
