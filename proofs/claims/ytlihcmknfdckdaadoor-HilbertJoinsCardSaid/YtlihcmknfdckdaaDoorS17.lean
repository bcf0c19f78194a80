/- What calls of the program return, under the conditions that each theorem states. -/
import Derived.Test.YtlihcmknfdckdaaDoorS15
import Derived.Test.YtlihcmknfdckdaaDoorS16
import Derived.Test.YtlihcmknfdckdaaDoorS04
import Derived.Test.YtlihcmknfdckdaaDoorS05
import Derived.Test.YtlihcmknfdckdaaDoorS03
namespace Go.Proofs.YtlihcmknfdckdaaDoor
open Go.RowKit Go.Proofs.Wit Tryd
/-! Hilbert's proofs: parts of formulas -/
def PartP (w w' : World) (v : Value) (o : Option Tr) : Prop := ∃ (nd : NV) (qa : Option Nat) (ca : Nat) (fa : List NV) (spa : List Value) (qb : Option Nat) (cb : Nat) (fb : List NV) (spb : List Value),
 v = .tuple #[nd.v, osv qa fa.length ca, osv qb fb.length cb] ∧ (qa = none → fa.length = 0 ∧ ca = 0) ∧ (qb = none → fb.length = 0 ∧ cb = 0) ∧ NewH w w' [(qa, obN 80 fa spa), (qb, obN 80 fb spb)] ∧
 Bf fa (kdA o) ∧ Bf fb (kdB o) ∧ nd.op = opP o ∧ nd.i = fldI o ∧ nd.g = fldG o
set_option maxRecDepth 8000 in
theorem part_c (a : Option Addr) (ca : Nat) (f : List NV) (o : Option Tr) (w : World) (ha : FA w a f) (hf : Bf f o) :
    Cn Tryd.prog 59 [.slice a f.length ca] w (fun v w' => PartP w w' v o) := by
  have hl := hf.max
  have hfl := hf.le
  refine Cn.of func59 rfl rfl ?_
  refine gS (gR ?_)
  refine GoH.alc rfl rfl rfl (fun _ => zeroValue80 _) (fun b2 => ?_)
  iterate 2 refine gAs ?_
  refine gE (gS (gS (gR ?_))); refine gMv ?_; refine gBl underlying23 ?_; refine gBi bEq ?_; refine gE ?_
  refine gC (fun hc => ?_) fun hc => ?_
  ·
   obtain rfl : o = none := by
     cases o with
     | none => rfl
     | some t => have := Cf.pos (show Cf f t from hf); have : f.length = 0 := by simpa using hc
                 omega
   refine GoH.retH Tryd.f59 func59 _ (resH.cell rfl isAgg80 sizeOf80 (j := 0) rfl rfl (resH.tmp rfl (resH.tmp rfl resH.nil))) (fun w' hS => ?_)
   exact ⟨hS.ext, ⟨0, 0, 0, 0, 0, 0⟩, none, 0, [], [], none, 0, [], [], rfl, fun _ => ⟨rfl, rfl⟩, fun _ => ⟨rfl, rfl⟩, NewH.nn2, rfl, rfl, rfl, rfl, rfl⟩
  ·
   have hp : 0 < f.length := by
     have : ¬ f.length = 0 := by simpa using hc
     omega
   obtain ⟨t, rfl⟩ : ∃ t, o = some t := by
     cases o with
     | none => rw [show f = [] from hf] at hp; exact absurd hp (by decide)
     | some t => exact ⟨t, rfl⟩
   have hF : Cf f t := hf
   have hlt : f.length - 1 < f.length := by omega
   refine gK (gS (gR ?_))
   iterate 2 refine gMv ?_
   refine gBl underlying23 ?_
   refine gBx rfl rfl rfl rfl (bSubE (c := ((f.length - 1 : Nat) : Int)) (by omega) (by omega)) ?_
   refine GoH.v (Vop.idxN rfl rfl rfl rfl rfl underlying23 sizeOf80 ⟨_, (ha).at_⟩ (flat_len (enc := NV.cells) (sz := 6) (fun _ => rfl)) (by decide) ((f.length - 1)) ⟨rfl, hlt⟩) ?_
   refine GoH.v (Vop.ldN (cs := NV.cells f[f.length - 1]) rfl rfl rfl rfl isAgg80 sizeOf80 (fun w _ hS => Sl.many (enc := NV.cells) (sz := 6) (ha.ex0 hS.ext).at_ (fun _ => rfl) hlt)) ?_
   obtain ⟨hfo, hfi, hfg⟩ := hF.flds hlt
   refine GoH.stB rfl rfl rfl rfl sizeOf80 0 rfl rfl rfl rfl ?_
   refine gE (gS ?_)
   refine GoH.seqJ (α := {z : Option Nat × Nat × List NV × List Value // (z.1 = none → z.2.2.1.length = 0 ∧ z.2.1 = 0) ∧ Bf z.2.2.1 (kdA (some t))}) (fun z => [(0, .slice a f.length ca), (2, .pointer (some ⟨b2, 0, none⟩)), (3, osv z.1.1 z.1.2.2.1.length z.1.2.1), (4, .slice none 0 0)]) (fun z => [(z.1.1, obN 80 z.1.2.2.1 z.1.2.2.2), (some b2, .cells (NV.cells f[f.length - 1]).toArray 80 (0, 0))]) (fun z => ?_) (fun K => ?_)
   · -- what comes behind
    obtain ⟨⟨qa, capa, fa, spa⟩, hqa, hBa⟩ := z
    dsimp only at hqa hBa ⊢
    refine gS ?_
    refine GoH.seqJ (α := {z : Option Nat × Nat × List NV × List Value // (z.1 = none → z.2.2.1.length = 0 ∧ z.2.1 = 0) ∧ Bf z.2.2.1 (kdB (some t))}) (fun z => [(0, .slice a f.length ca), (2, .pointer (some ⟨b2, 0, none⟩)), (3, osv qa fa.length capa), (4, osv z.1.1 z.1.2.2.1.length z.1.2.1)]) (fun z => [(z.1.1, obN 80 z.1.2.2.1 z.1.2.2.2), (qa, obN 80 fa spa), (some b2, .cells (NV.cells f[f.length - 1]).toArray 80 (0, 0))]) (fun z => ?_) (fun K2 => ?_)
    · -- what comes behind
     obtain ⟨⟨qb, capb, fb, spb⟩, hqb, hBb⟩ := z
     dsimp only at hqb hBb ⊢
     refine gS (gR ?_)
     refine GoH.v (Vop.ldB rfl rfl rfl rfl isAgg80 2 rfl sizeOf80 rfl) ?_
     iterate 2 refine gMv ?_
     refine GoH.stB rfl rfl rfl rfl sizeOf80 2 rfl rfl rfl rfl ?_
     iterate 2 refine gAs ?_
     refine gE ?_
     refine GoH.retH Tryd.f59 func59 _ (resH.cell rfl isAgg80 sizeOf80 (j := 2) rfl rfl (resH.tmp rfl (resH.tmp rfl resH.nil))) (fun w' hS => ?_)
     exact ⟨hS.ext, f[f.length - 1], qa, capa, fa, spa, qb, capb, fb, spb, rfl, hqa, hqb, ((NewH.of (hS.pickT (pre := [_, _]) (pre' := [(qa, obN 80 fa spa), (qb, obN 80 fb spb)]) (HR := [_]) [1, 0] (by decide) rfl)).sub (.cons_cons _ (.cons_cons _ (.cons _ .slnil)))), hBa, hBb, hfo, hfi, hfg⟩
    · -- the first part
     refine gS (gR ?_); refine gFp underlying80 sizeOf3 0 ?_; refine gLo isAgg3 1 ?_; refine gE (gB (gS (gS (gR ?_)))); refine gBi bEq ?_; refine gAs ?_; refine gE ?_
     refine gC (fun hc => ?_) fun hc => ?_
     ·
      have e5 : f[f.length - 1].op = 5 := by simpa using hc
      refine gK ?_
      refine GoH.cond rfl (fun _ => ?_) (fun hc => by exfalso; simp [e5] at hc)
      refine gR ?_; refine gMv ?_; refine gFp underlying80 sizeOf3 5 ?_; refine gLo isAgg3 1 ?_
      refine gM rfl rfl rfl rfl rfl call78 (fun w _ hS => (by exact fsub_c a ca f f[f.length - 1].y w (ha.ex0 hS.ext) hl)) ?_
      rintro v w1 w2 Y' hS he ho
      obtain ⟨qb, capb, spb, rfl, hqb, hcapb, hS'⟩ := gainN hS he ho
      refine ⟨_, hS', ?_⟩
      refine gAs ?_; refine gE (gIb ?_)
      exact K2 ⟨(qb, capb, _, spb), hqb, hF.kidB hlt (by rw [← hfo]; omega)⟩ _ _ (by repeat (first | exact SubF.nil | refine SubF.cons rfl ?_)) (fun _ _ hS => hS)
     ·
      have e5 : ¬ f[f.length - 1].op = 5 := by simpa using hc
      refine gS (gR ?_); refine gBi bEq ?_; refine gAs ?_; refine gE ?_
      refine gC (fun hc => ?_) fun hc => ?_
      ·
       have e6 : f[f.length - 1].op = 6 := by simpa using hc
       refine gK ?_
       refine GoH.cond rfl (fun _ => ?_) (fun hc => by exfalso; simp [e6] at hc)
       refine gR ?_; refine gMv ?_; refine gFp underlying80 sizeOf3 5 ?_; refine gLo isAgg3 1 ?_
       refine gM rfl rfl rfl rfl rfl call78 (fun w _ hS => (by exact fsub_c a ca f f[f.length - 1].y w (ha.ex0 hS.ext) hl)) ?_
       rintro v w1 w2 Y' hS he ho
       obtain ⟨qb, capb, spb, rfl, hqb, hcapb, hS'⟩ := gainN hS he ho
       refine ⟨_, hS', ?_⟩
       refine gAs ?_; refine gE (gIb ?_)
       exact K2 ⟨(qb, capb, _, spb), hqb, hF.kidB hlt (by rw [← hfo]; omega)⟩ _ _ (by repeat (first | exact SubF.nil | refine SubF.cons rfl ?_)) (fun _ _ hS => hS)
      ·
       have e6 : ¬ f[f.length - 1].op = 6 := by simpa using hc
       refine gS (gR ?_); refine gBi bEq ?_; refine gAs ?_; refine gE ?_
       refine gC (fun hc => ?_) fun hc => ?_
       ·
        have e7 : f[f.length - 1].op = 7 := by simpa using hc
        refine gK ?_
        refine GoH.cond rfl (fun _ => ?_) (fun hc => by exfalso; simp [e7] at hc)
        refine gR ?_; refine gMv ?_; refine gFp underlying80 sizeOf3 5 ?_; refine gLo isAgg3 1 ?_
        refine gM rfl rfl rfl rfl rfl call78 (fun w _ hS => (by exact fsub_c a ca f f[f.length - 1].y w (ha.ex0 hS.ext) hl)) ?_
        rintro v w1 w2 Y' hS he ho
        obtain ⟨qb, capb, spb, rfl, hqb, hcapb, hS'⟩ := gainN hS he ho
        refine ⟨_, hS', ?_⟩
        refine gAs ?_; refine gE (gIb ?_)
        exact K2 ⟨(qb, capb, _, spb), hqb, hF.kidB hlt (by rw [← hfo]; omega)⟩ _ _ (by repeat (first | exact SubF.nil | refine SubF.cons rfl ?_)) (fun _ _ hS => hS)
       ·
        have e7 : ¬ f[f.length - 1].op = 7 := by simpa using hc
        refine gS (gR ?_); refine gBi bEq ?_; refine gAs ?_; refine gE ?_
        refine gC (fun hc => ?_) fun hc => ?_
        ·
         have e8 : f[f.length - 1].op = 8 := by simpa using hc
         refine gK ?_
         refine GoH.cond rfl (fun _ => ?_) (fun hc => by exfalso; simp [e8] at hc)
         refine gR ?_; refine gMv ?_; refine gFp underlying80 sizeOf3 5 ?_; refine gLo isAgg3 1 ?_
         refine gM rfl rfl rfl rfl rfl call78 (fun w _ hS => (by exact fsub_c a ca f f[f.length - 1].y w (ha.ex0 hS.ext) hl)) ?_
         rintro v w1 w2 Y' hS he ho
         obtain ⟨qb, capb, spb, rfl, hqb, hcapb, hS'⟩ := gainN hS he ho
         refine ⟨_, hS', ?_⟩
         refine gAs ?_; refine gE (gIb ?_)
         exact K2 ⟨(qb, capb, _, spb), hqb, hF.kidB hlt (by rw [← hfo]; omega)⟩ _ _ (by repeat (first | exact SubF.nil | refine SubF.cons rfl ?_)) (fun _ _ hS => hS)
        ·
         have e8 : ¬ f[f.length - 1].op = 8 := by simpa using hc
         refine gR ?_; refine gBi bEq ?_; refine gAs ?_; refine gE ?_
         refine gC (fun hc => ?_) fun hc => ?_
         ·
          have e13 : f[f.length - 1].op = 13 := by simpa using hc
          refine gR ?_; refine gMv ?_; refine gFp underlying80 sizeOf3 5 ?_; refine gLo isAgg3 1 ?_
          refine gM rfl rfl rfl rfl rfl call78 (fun w _ hS => (by exact fsub_c a ca f f[f.length - 1].y w (ha.ex0 hS.ext) hl)) ?_
          rintro v w1 w2 Y' hS he ho
          obtain ⟨qb, capb, spb, rfl, hqb, hcapb, hS'⟩ := gainN hS he ho
          refine ⟨_, hS', ?_⟩
          refine gAs ?_; refine gE (gIb ?_)
          exact K2 ⟨(qb, capb, _, spb), hqb, hF.kidB hlt (by rw [← hfo]; omega)⟩ _ _ (by repeat (first | exact SubF.nil | refine SubF.cons rfl ?_)) (fun _ _ hS => hS)
         ·
          have e13 : ¬ f[f.length - 1].op = 13 := by simpa using hc
          refine gK (gIb ?_)
          exact K2 ⟨(none, 0, [], []), fun _ => ⟨rfl, rfl⟩, by rw [kdB_none (by rw [← hfo]; omega)]; rfl⟩ _ _ (by repeat (first | exact SubF.nil | refine SubF.cons rfl ?_)) (fun _ _ hS => hS.addNone)
   · -- the first part
    refine gS (gR ?_); refine gFp underlying80 sizeOf3 0 ?_; refine gLo isAgg3 0 ?_; refine gBi bGe ?_; refine gE ?_
    refine gC (fun hc => ?_) fun hc => ?_
    ·
     have h4 : 4 ≤ f[f.length - 1].op := by simpa using hc
     refine gR ?_; refine gMv ?_; refine gFp underlying80 sizeOf3 4 ?_; refine gLo isAgg3 0 ?_
     refine gM rfl rfl rfl rfl rfl call78 (fun w _ hS => (by exact fsub_c a ca f f[f.length - 1].x w (ha.ex0 hS.ext) hl)) ?_
     rintro v w1 w2 Y' hS he ho
     obtain ⟨qa, capa, spa, rfl, hqa, hcapa, hS'⟩ := gainN hS he ho
     refine ⟨_, hS', ?_⟩
     refine gAs ?_; refine gE ?_
     exact K ⟨(qa, capa, _, spa), hqa, hF.kidA hlt (by rw [← hfo]; exact h4)⟩ _ _ (by repeat (first | exact SubF.nil | refine SubF.cons rfl ?_)) (fun _ _ hS => hS)
    ·
     have h4 : ¬ 4 ≤ f[f.length - 1].op := by simpa using hc
     refine gK ?_
     exact K ⟨(none, 0, [], []), fun _ => ⟨rfl, rfl⟩, by rw [kdA_none hF.ok (by rw [← hfo]; exact h4)]; rfl⟩ _ _ (by repeat (first | exact SubF.nil | refine SubF.cons rfl ?_)) (fun _ _ hS => hS.addNone)
end Go.Proofs.YtlihcmknfdckdaaDoor
namespace Go.Proofs.YtlihcmknfdckdaaDoor
open Go.RowKit Go.Proofs.Wit Tryd
/-! the reference's check of a formula -/
theorem usesX_c (op : Int) (w : World) : Cn Tryd.prog 92 [.int .i64 op] w (fun v _ => v = .bool (usX op)) := by
  refine Cn.of func92 rfl rfl ?_
  refine gS (gR ?_); refine gAs ?_; refine gE (gS (gR ?_)); refine gMv ?_; refine gBi bGe ?_; refine gMv ?_
  refine gCs 5 (fun hc => ?_) fun hc => ?_
  ·
   have h1 : 4 ≤ op := by simpa using hc
   refine gMv ?_; refine gBi bLe ?_; refine gPt ?_; refine gAs ?_; refine gE ?_
   refine gT func92 fun w' hS => ?_
   exact ⟨hS.ext, by rw [usX, decide_eq_true h1, Bool.true_and]; rfl⟩
  ·
   have h1 : ¬ 4 ≤ op := by simpa using hc
   iterate 2 refine gNo ?_
   refine gPf ?_; refine gAs ?_; refine gE ?_
   refine gT func92 fun w' hS => ?_
   exact ⟨hS.ext, by rw [usX, decide_eq_false h1, Bool.false_and]; rfl⟩
theorem group_c (op : Int) (w : World) : Cn Tryd.prog 97 [.int .i64 op] w (fun v _ => v = .bool (grO op)) := by
  refine Cn.of func97 rfl rfl ?_
  refine gS (gR ?_); refine gAs ?_; refine gE (gS (gR ?_)); refine gMv ?_; refine gBi bGe ?_; refine gMv ?_
  refine gCs 5 (fun hc => ?_) fun hc => ?_
  ·
   have h1 : 11 ≤ op := by simpa using hc
   refine gMv ?_; refine gBi bLe ?_; refine gPt ?_; refine gAs ?_; refine gE ?_
   refine gT func97 fun w' hS => ?_
   exact ⟨hS.ext, by rw [grO, decide_eq_true h1, Bool.true_and]; rfl⟩
  ·
   have h1 : ¬ 11 ≤ op := by simpa using hc
   iterate 2 refine gNo ?_
   refine gPf ?_; refine gAs ?_; refine gE ?_
   refine gT func97 fun w' hS => ?_
   exact ⟨hS.ext, by rw [grO, decide_eq_false h1, Bool.false_and]; rfl⟩
theorem agent_c (op : Int) (w : World) : Cn Tryd.prog 90 [.int .i64 op] w (fun v _ => v = .bool (agO op)) := by
  refine Cn.of func90 rfl rfl ?_
  refine gS (gR ?_); refine gAs ?_; refine gE (gS (gR ?_)); refine gMv ?_; refine gBi bEq ?_; refine gMv ?_
  refine gCs 5 (fun hc => ?_) fun hc => ?_
  ·
   have h9 : op = 9 := by simpa using hc
   iterate 2 refine gNo ?_
   refine gPt ?_; refine gMv ?_
   iterate 2 refine gNo ?_
   refine gPt ?_; refine gMv ?_
   iterate 2 refine gNo ?_
   refine gPt ?_; refine gAs ?_; refine gE ?_
   refine gT func90 fun w' hS => ?_
   exact ⟨hS.ext, by subst h9; rfl⟩
  ·
   have h9 : op ≠ 9 := by simpa using hc
   refine gMv ?_; refine gBi bEq ?_; refine gPf ?_; refine gMv ?_
   refine gCs 9 (fun hc => ?_) fun hc => ?_
   ·
    have h10 : op = 10 := by simpa using hc
    iterate 2 refine gNo ?_
    refine gPt ?_; refine gMv ?_
    iterate 2 refine gNo ?_
    refine gPt ?_; refine gAs ?_; refine gE ?_
    refine gT func90 fun w' hS => ?_
    exact ⟨hS.ext, by subst h10; rfl⟩
   ·
    have h10 : op ≠ 10 := by simpa using hc
    refine gMv ?_; refine gBi bEq ?_; refine gPf ?_; refine gMv ?_
    refine gCs 13 (fun hc => ?_) fun hc => ?_
    ·
     have h14 : op = 14 := by simpa using hc
     iterate 2 refine gNo ?_
     refine gPt ?_; refine gAs ?_; refine gE ?_
     refine gT func90 fun w' hS => ?_
     exact ⟨hS.ext, by subst h14; rfl⟩
    ·
     have h14 : op ≠ 14 := by simpa using hc
     refine gMv ?_; refine gBi bEq ?_; refine gPf ?_; refine gAs ?_; refine gE ?_
     refine gT func90 fun w' hS => ?_
     exact ⟨hS.ext, by simp [agO, h9, h10, h14, retV]⟩
theorem usesY_c (op : Int) (w : World) : Cn Tryd.prog 93 [.int .i64 op] w (fun v _ => v = .bool (usY op)) := by
  refine Cn.of func93 rfl rfl ?_
  refine gS (gR ?_); refine gAs ?_; refine gE (gS (gR ?_)); refine gMv ?_; refine gBi bGe ?_; refine gMv ?_
  refine gCs 5 (fun hc => ?_) fun hc => ?_
  ·
   have h5 : 5 ≤ op := by simpa using hc
   refine gMv ?_; refine gBi bLe ?_; refine gPt ?_; refine gMv ?_
   refine gCs 9 (fun hc => ?_) fun hc => ?_
   ·
    have h8 : op ≤ 8 := by simpa using hc
    iterate 2 refine gNo ?_
    refine gPt ?_; refine gMv ?_
    iterate 2 refine gNo ?_
    refine gPt ?_; refine gMv ?_
    iterate 2 refine gNo ?_
    refine gPt ?_; refine gMv ?_
    iterate 2 refine gNo ?_
    refine gPt ?_; refine gMv ?_
    iterate 2 refine gNo ?_
    refine gPt ?_; refine gAs ?_; refine gE ?_
    refine gT func93 fun w' hS => ?_
    exact ⟨hS.ext, by simp [usY, h5, h8, retV]⟩
   ·
    have h8 : ¬ op ≤ 8 := by simpa using hc
    have hlo : (decide (5 ≤ op) && decide (op ≤ 8)) = false := by rw [decide_eq_false h8, Bool.and_false]
    refine gMv ?_; refine gBi bEq ?_; refine gPf ?_; refine gMv ?_
    refine gCs 13 (fun hc => ?_) fun hc => ?_
    ·
     have h13 : op = 13 := by simpa using hc
     iterate 2 refine gNo ?_
     refine gPt ?_; refine gMv ?_
     iterate 2 refine gNo ?_
     refine gPt ?_; refine gMv ?_
     iterate 2 refine gNo ?_
     refine gPt ?_; refine gMv ?_
     iterate 2 refine gNo ?_
     refine gPt ?_; refine gAs ?_; refine gE ?_
     refine gT func93 fun w' hS => ?_
     exact ⟨hS.ext, by subst h13; rfl⟩
    ·
     have h13 : op ≠ 13 := by simpa using hc
     refine gMv ?_; refine gBi bEq ?_; refine gPf ?_; refine gMv ?_
     refine gCs 17 (fun hc => ?_) fun hc => ?_
     ·
      have h14 : op = 14 := by simpa using hc
      iterate 2 refine gNo ?_
      refine gPt ?_; refine gMv ?_
      iterate 2 refine gNo ?_
      refine gPt ?_; refine gMv ?_
      iterate 2 refine gNo ?_
      refine gPt ?_; refine gAs ?_; refine gE ?_
      refine gT func93 fun w' hS => ?_
      exact ⟨hS.ext, by subst h14; rfl⟩
     ·
      have h14 : op ≠ 14 := by simpa using hc
      refine gMv ?_; refine gBi bEq ?_; refine gPf ?_; refine gMv ?_
      refine gCs 21 (fun hc => ?_) fun hc => ?_
      ·
       have h16 : op = 16 := by simpa using hc
       iterate 2 refine gNo ?_
       refine gPt ?_; refine gMv ?_
       iterate 2 refine gNo ?_
       refine gPt ?_; refine gAs ?_; refine gE ?_
       refine gT func93 fun w' hS => ?_
       exact ⟨hS.ext, by subst h16; rfl⟩
      ·
       have h16 : op ≠ 16 := by simpa using hc
       refine gMv ?_; refine gBi bEq ?_; refine gPf ?_; refine gMv ?_
       refine gCs 25 (fun hc => ?_) fun hc => ?_
       ·
        have h19 : op = 19 := by simpa using hc
        iterate 2 refine gNo ?_
        refine gPt ?_; refine gAs ?_; refine gE ?_
        refine gT func93 fun w' hS => ?_
        exact ⟨hS.ext, by subst h19; rfl⟩
       ·
        have h19 : op ≠ 19 := by simpa using hc
        refine gMv ?_; refine gBi bEq ?_; refine gPf ?_; refine gAs ?_; refine gE ?_
        refine gT func93 fun w' hS => ?_
        exact ⟨hS.ext, by simp [usY, hlo, h13, h14, h16, h19, retV]⟩
  ·
   have h5 : ¬ 5 ≤ op := by simpa using hc
   have hlo : (decide (5 ≤ op) && decide (op ≤ 8)) = false := by rw [decide_eq_false h5, Bool.false_and]
   iterate 2 refine gNo ?_
   refine gPf ?_
   iterate 2 refine gMv ?_
   refine gBi bEq ?_; refine gPf ?_; refine gMv ?_
   refine gCs 13 (fun hc => ?_) fun hc => ?_
   ·
    have h13 : op = 13 := by simpa using hc
    iterate 2 refine gNo ?_
    refine gPt ?_; refine gMv ?_
    iterate 2 refine gNo ?_
    refine gPt ?_; refine gMv ?_
    iterate 2 refine gNo ?_
    refine gPt ?_; refine gMv ?_
    iterate 2 refine gNo ?_
    refine gPt ?_; refine gAs ?_; refine gE ?_
    refine gT func93 fun w' hS => ?_
    exact ⟨hS.ext, by subst h13; rfl⟩
   ·
    have h13 : op ≠ 13 := by simpa using hc
    refine gMv ?_; refine gBi bEq ?_; refine gPf ?_; refine gMv ?_
    refine gCs 17 (fun hc => ?_) fun hc => ?_
    ·
     have h14 : op = 14 := by simpa using hc
     iterate 2 refine gNo ?_
     refine gPt ?_; refine gMv ?_
     iterate 2 refine gNo ?_
     refine gPt ?_; refine gMv ?_
     iterate 2 refine gNo ?_
     refine gPt ?_; refine gAs ?_; refine gE ?_
     refine gT func93 fun w' hS => ?_
     exact ⟨hS.ext, by subst h14; rfl⟩
    ·
     have h14 : op ≠ 14 := by simpa using hc
     refine gMv ?_; refine gBi bEq ?_; refine gPf ?_; refine gMv ?_
     refine gCs 21 (fun hc => ?_) fun hc => ?_
     ·
      have h16 : op = 16 := by simpa using hc
      iterate 2 refine gNo ?_
      refine gPt ?_; refine gMv ?_
      iterate 2 refine gNo ?_
      refine gPt ?_; refine gAs ?_; refine gE ?_
      refine gT func93 fun w' hS => ?_
      exact ⟨hS.ext, by subst h16; rfl⟩
     ·
      have h16 : op ≠ 16 := by simpa using hc
      refine gMv ?_; refine gBi bEq ?_; refine gPf ?_; refine gMv ?_
      refine gCs 25 (fun hc => ?_) fun hc => ?_
      ·
       have h19 : op = 19 := by simpa using hc
       iterate 2 refine gNo ?_
       refine gPt ?_; refine gAs ?_; refine gE ?_
       refine gT func93 fun w' hS => ?_
       exact ⟨hS.ext, by subst h19; rfl⟩
      ·
       have h19 : op ≠ 19 := by simpa using hc
       refine gMv ?_; refine gBi bEq ?_; refine gPf ?_; refine gAs ?_; refine gE ?_
       refine gT func93 fun w' hS => ?_
       exact ⟨hS.ext, by simp [usY, hlo, h13, h14, h16, h19, retV]⟩
set_option maxRecDepth 2000 in
theorem rnode_leaf (n : NV) (at_ : Int) (w : World) (hop : 1 ≤ n.op ∧ n.op ≤ 21) (hX : usX n.op = false) (hY : usY n.op = false) (h3 : (n.op == 3) = false) (hA : agO n.op = false) (h17 : (n.op == 17) = false) (hG : grO n.op = false) :
    Cn Tryd.prog 56 [n.v, .int .i64 at_] w (fun v _ => v = .int .i64 (nodeE n at_)) := by
  refine Cn.of func56 rfl rfl ?_
  refine gS (gR ?_)
  refine GoH.bx rfl rfl rfl rfl (fun b2 => ?_)
  refine gAs ?_; refine gE (gS (gS (gR ?_))); refine gFp underlying80 sizeOf3 0 ?_; refine gLo isAgg3 0 ?_
  refine gBx rfl rfl rfl rfl (bLtV (v := false) (decide_eq_false (by omega))) ?_
  refine gMv ?_; refine gFp underlying80 sizeOf3 0 ?_; refine gLo isAgg3 0 ?_
  refine gBx rfl rfl rfl rfl (bGtV (v := false) (decide_eq_false (by omega))) ?_
  refine gPf ?_; refine gE (GoH.condF rfl (gK (gS (gS (gR ?_))))); refine gFp underlying80 sizeOf3 0 ?_; refine gLo isAgg3 0 ?_
  refine gP rfl rfl rfl rfl rfl call92 (fun w _ hS => (by have := usesX_c n.op w; rw [hX] at this; exact this)) ?_
  refine gMv ?_
  iterate 9 refine gNo ?_
  refine gPf ?_; refine gMv ?_; refine gFp underlying80 sizeOf3 0 ?_; refine gLo isAgg3 0 ?_
  refine gP rfl rfl rfl rfl rfl call92 (fun w _ hS => (by have := usesX_c n.op w; rw [hX] at this; exact this)) ?_
  refine gUn uNot ?_; refine gMv ?_; refine gFp underlying80 sizeOf3 4 ?_; refine gLo isAgg3 0 ?_; refine gBi bNe ?_; refine gPt ?_; refine gPf ?_; refine gE ?_
  refine gC (fun hc => ?_) fun hc => ?_
  ·
   have hb : n.x ≠ 0 := by simpa using hc
   refine gS (gR ?_); refine gAs ?_; refine gE ?_
   refine gT func56 fun w' hS => ?_
   exact ⟨hS.ext, by rw [show nodeE n at_ = 3 from nodeE_x hop (by simp [opB, hX]; omega)]; rfl⟩
  ·
   have hzx : n.x = 0 := by simpa using hc
   have hox : opB (usX n.op) n.x at_ = true := by simp [opB, hX]; omega
   refine gK (gS (gS (gR ?_))); refine gFp underlying80 sizeOf3 0 ?_; refine gLo isAgg3 0 ?_
   refine gP rfl rfl rfl rfl rfl call93 (fun w _ hS => (by have := usesY_c n.op w; rw [hY] at this; exact this)) ?_
   refine gMv ?_
   iterate 9 refine gNo ?_
   refine gPf ?_; refine gMv ?_; refine gFp underlying80 sizeOf3 0 ?_; refine gLo isAgg3 0 ?_
   refine gP rfl rfl rfl rfl rfl call93 (fun w _ hS => (by have := usesY_c n.op w; rw [hY] at this; exact this)) ?_
   refine gUn uNot ?_; refine gMv ?_; refine gFp underlying80 sizeOf3 5 ?_; refine gLo isAgg3 0 ?_; refine gBi bNe ?_; refine gPt ?_; refine gPf ?_; refine gE ?_
   refine gC (fun hc => ?_) fun hc => ?_
   ·
    have hb : n.y ≠ 0 := by simpa using hc
    refine gS (gR ?_); refine gAs ?_; refine gE ?_
    refine gT func56 fun w' hS => ?_
    exact ⟨hS.ext, by rw [show nodeE n at_ = 3 from nodeE_y hop (by simp [opB, hY]; omega)]; rfl⟩
   ·
    have hzy : n.y = 0 := by simpa using hc
    have hoy : opB (usY n.op) n.y at_ = true := by simp [opB, hY]; omega
    refine gK (gS (gR ?_)); refine gFp underlying80 sizeOf3 0 ?_; refine gLo isAgg3 0 ?_
    refine gBx rfl rfl rfl rfl (bEqV (v := false) h3) ?_
    refine gMv ?_; refine gFp underlying80 sizeOf3 0 ?_; refine gLo isAgg3 0 ?_
    refine gP rfl rfl rfl rfl rfl call90 (fun w _ hS => (by have := agent_c n.op w; rw [hA] at this; exact this)) ?_
    refine gPf ?_; refine gMv ?_; refine gFp underlying80 sizeOf3 0 ?_; refine gLo isAgg3 0 ?_
    refine gBx rfl rfl rfl rfl (bEqV (v := false) h17) ?_
    refine gPf ?_; refine gAs ?_; refine gE (gS (gS (gR ?_))); refine gMv ?_; refine gUn uNot ?_; refine gMv ?_; refine gFp underlying80 sizeOf3 1 ?_; refine gLo isAgg3 0 ?_; refine gBi bNe ?_; refine gPt ?_; refine gMv ?_
    refine gCs 84 (fun hc => ?_) fun hc => ?_
    ·
     have hb : n.i ≠ 0 := by simpa using hc
     iterate 8 refine gNo ?_
     refine gPt ?_; refine gMv ?_
     iterate 9 refine gNo ?_
     refine gPt ?_; refine gE (GoH.condT rfl (gS (gR ?_))); refine gAs ?_; refine gE ?_
     refine gT func56 fun w' hS => ?_
     exact ⟨hS.ext, by rw [show nodeE n at_ = 3 from (nodeE_f hop hox hoy).trans (fldE_3 (by simp [iO, bne, h3, h17, hA, hG]; omega))]; rfl⟩
    ·
     have hzi : n.i = 0 := by simpa using hc
     refine gFp underlying80 sizeOf3 0 ?_; refine gLo isAgg3 0 ?_
     refine gBx rfl rfl rfl rfl (bNeV (v := true) (by rw [bne, h17]; rfl)) ?_
     refine gMv ?_; refine gFp underlying80 sizeOf3 2 ?_; refine gLo isAgg3 0 ?_; refine gBi bNe ?_; refine gPt ?_; refine gPf ?_; refine gMv ?_
     refine gCs 94 (fun hc => ?_) fun hc => ?_
     ·
      have hb : n.e ≠ 0 := by simpa using hc
      iterate 9 refine gNo ?_
      refine gPt ?_; refine gE (GoH.condT rfl (gS (gR ?_))); refine gAs ?_; refine gE ?_
      refine gT func56 fun w' hS => ?_
      exact ⟨hS.ext, by rw [show nodeE n at_ = 3 from (nodeE_f hop hox hoy).trans (fldE_3 (by simp [iO, bne, h3, h17, hA, hG]; omega))]; rfl⟩
     ·
      have hze : n.e = 0 := by simpa using hc
      refine gFp underlying80 sizeOf3 0 ?_; refine gLo isAgg3 0 ?_
      refine gP rfl rfl rfl rfl rfl call97 (fun w _ hS => (by have := group_c n.op w; rw [hG] at this; exact this)) ?_
      refine gUn uNot ?_; refine gMv ?_; refine gFp underlying80 sizeOf3 3 ?_; refine gLo isAgg3 0 ?_; refine gBi bNe ?_; refine gPt ?_; refine gPf ?_; refine gE ?_
      refine gC (fun hc => ?_) fun hc => ?_
      ·
       have hb : n.g ≠ 0 := by simpa using hc
       refine gS (gR ?_); refine gAs ?_; refine gE ?_
       refine gT func56 fun w' hS => ?_
       exact ⟨hS.ext, by rw [show nodeE n at_ = 3 from (nodeE_f hop hox hoy).trans (fldE_3 (by simp [iO, bne, h3, h17, hA, hG]; omega))]; rfl⟩
      ·
       have hzg : n.g = 0 := by simpa using hc
       have hfa : (!iO n.op && n.i != 0 || n.op != 17 && n.e != 0 || !grO n.op && n.g != 0) = false := by simp [iO, bne, h3, h17, hA, hG]; omega
       refine gK (gS (gS (gR ?_))); refine gFp underlying80 sizeOf3 0 ?_; refine gLo isAgg3 0 ?_
       refine gBx rfl rfl rfl rfl (bEqV (v := false) h3) ?_
       refine gMv ?_
       iterate 8 refine gNo ?_
       refine gPf ?_; refine gMv ?_; refine gFp underlying80 sizeOf3 0 ?_; refine gLo isAgg3 0 ?_
       refine gP rfl rfl rfl rfl rfl call90 (fun w _ hS => (by have := agent_c n.op w; rw [hA] at this; exact this)) ?_
       refine gMv ?_
       iterate 8 refine gNo ?_
       iterate 2 refine gPf ?_
       refine gE (GoH.condF rfl (gK (gS (gS (gR ?_))))); refine gFp underlying80 sizeOf3 0 ?_; refine gLo isAgg3 0 ?_
       refine gBx rfl rfl rfl rfl (bEqV (v := false) h17) ?_
       refine gMv ?_
       iterate 18 refine gNo ?_
       refine gPf ?_; refine gE (GoH.condF rfl (gK (gS (gS (gR ?_))))); refine gFp underlying80 sizeOf3 0 ?_; refine gLo isAgg3 0 ?_
       refine gP rfl rfl rfl rfl rfl call97 (fun w _ hS => (by have := group_c n.op w; rw [hG] at this; exact this)) ?_
       refine gMv ?_
       iterate 8 refine gNo ?_
       refine gPf ?_; refine gE (GoH.condF rfl (gK (gS (gR ?_)))); refine gAs ?_; refine gE ?_
       refine gT func56 fun w' hS => ?_
       exact ⟨hS.ext, by rw [show nodeE n at_ = 0 from (nodeE_f hop hox hoy).trans (fldE_0 hfa (by simp [h3, h17, hA, hG]))]; rfl⟩
set_option maxRecDepth 2000 in
theorem rnode_fact (n : NV) (at_ : Int) (w : World) (hop : 1 ≤ n.op ∧ n.op ≤ 21) (hX : usX n.op = false) (hY : usY n.op = false) (h3 : (n.op == 3) = true) (hA : agO n.op = false) (h17 : (n.op == 17) = false) (hG : grO n.op = false) :
    Cn Tryd.prog 56 [n.v, .int .i64 at_] w (fun v _ => v = .int .i64 (nodeE n at_)) := by
  refine Cn.of func56 rfl rfl ?_
  refine gS (gR ?_)
  refine GoH.bx rfl rfl rfl rfl (fun b2 => ?_)
  refine gAs ?_; refine gE (gS (gS (gR ?_))); refine gFp underlying80 sizeOf3 0 ?_; refine gLo isAgg3 0 ?_
  refine gBx rfl rfl rfl rfl (bLtV (v := false) (decide_eq_false (by omega))) ?_
  refine gMv ?_; refine gFp underlying80 sizeOf3 0 ?_; refine gLo isAgg3 0 ?_
  refine gBx rfl rfl rfl rfl (bGtV (v := false) (decide_eq_false (by omega))) ?_
  refine gPf ?_; refine gE (GoH.condF rfl (gK (gS (gS (gR ?_))))); refine gFp underlying80 sizeOf3 0 ?_; refine gLo isAgg3 0 ?_
  refine gP rfl rfl rfl rfl rfl call92 (fun w _ hS => (by have := usesX_c n.op w; rw [hX] at this; exact this)) ?_
  refine gMv ?_
  iterate 9 refine gNo ?_
  refine gPf ?_; refine gMv ?_; refine gFp underlying80 sizeOf3 0 ?_; refine gLo isAgg3 0 ?_
  refine gP rfl rfl rfl rfl rfl call92 (fun w _ hS => (by have := usesX_c n.op w; rw [hX] at this; exact this)) ?_
  refine gUn uNot ?_; refine gMv ?_; refine gFp underlying80 sizeOf3 4 ?_; refine gLo isAgg3 0 ?_; refine gBi bNe ?_; refine gPt ?_; refine gPf ?_; refine gE ?_
  refine gC (fun hc => ?_) fun hc => ?_
  ·
   have hb : n.x ≠ 0 := by simpa using hc
   refine gS (gR ?_); refine gAs ?_; refine gE ?_
   refine gT func56 fun w' hS => ?_
   exact ⟨hS.ext, by rw [show nodeE n at_ = 3 from nodeE_x hop (by simp [opB, hX]; omega)]; rfl⟩
  ·
   have hzx : n.x = 0 := by simpa using hc
   have hox : opB (usX n.op) n.x at_ = true := by simp [opB, hX]; omega
   refine gK (gS (gS (gR ?_))); refine gFp underlying80 sizeOf3 0 ?_; refine gLo isAgg3 0 ?_
   refine gP rfl rfl rfl rfl rfl call93 (fun w _ hS => (by have := usesY_c n.op w; rw [hY] at this; exact this)) ?_
   refine gMv ?_
   iterate 9 refine gNo ?_
   refine gPf ?_; refine gMv ?_; refine gFp underlying80 sizeOf3 0 ?_; refine gLo isAgg3 0 ?_
   refine gP rfl rfl rfl rfl rfl call93 (fun w _ hS => (by have := usesY_c n.op w; rw [hY] at this; exact this)) ?_
   refine gUn uNot ?_; refine gMv ?_; refine gFp underlying80 sizeOf3 5 ?_; refine gLo isAgg3 0 ?_; refine gBi bNe ?_; refine gPt ?_; refine gPf ?_; refine gE ?_
   refine gC (fun hc => ?_) fun hc => ?_
   ·
    have hb : n.y ≠ 0 := by simpa using hc
    refine gS (gR ?_); refine gAs ?_; refine gE ?_
    refine gT func56 fun w' hS => ?_
    exact ⟨hS.ext, by rw [show nodeE n at_ = 3 from nodeE_y hop (by simp [opB, hY]; omega)]; rfl⟩
   ·
    have hzy : n.y = 0 := by simpa using hc
    have hoy : opB (usY n.op) n.y at_ = true := by simp [opB, hY]; omega
    refine gK (gS (gR ?_)); refine gFp underlying80 sizeOf3 0 ?_; refine gLo isAgg3 0 ?_
    refine gBx rfl rfl rfl rfl (bEqV (v := true) h3) ?_
    refine gMv ?_
    iterate 3 refine gNo ?_
    refine gPt ?_; refine gMv ?_
    iterate 3 refine gNo ?_
    refine gPt ?_; refine gAs ?_; refine gE (gS (gS (gR ?_))); refine gMv ?_; refine gUn uNot ?_; refine gMv ?_
    iterate 3 refine gNo ?_
    refine gPf ?_; refine gMv ?_; refine gFp underlying80 sizeOf3 0 ?_; refine gLo isAgg3 0 ?_
    refine gBx rfl rfl rfl rfl (bNeV (v := true) (by rw [bne, h17]; rfl)) ?_
    refine gMv ?_; refine gFp underlying80 sizeOf3 2 ?_; refine gLo isAgg3 0 ?_; refine gBi bNe ?_; refine gPt ?_; refine gPf ?_; refine gMv ?_
    refine gCs 94 (fun hc => ?_) fun hc => ?_
    ·
     have hb : n.e ≠ 0 := by simpa using hc
     iterate 9 refine gNo ?_
     refine gPt ?_; refine gE (GoH.condT rfl (gS (gR ?_))); refine gAs ?_; refine gE ?_
     refine gT func56 fun w' hS => ?_
     exact ⟨hS.ext, by rw [show nodeE n at_ = 3 from (nodeE_f hop hox hoy).trans (fldE_3 (by simp [iO, bne, h3, h17, hA, hG]; omega))]; rfl⟩
    ·
     have hze : n.e = 0 := by simpa using hc
     refine gFp underlying80 sizeOf3 0 ?_; refine gLo isAgg3 0 ?_
     refine gP rfl rfl rfl rfl rfl call97 (fun w _ hS => (by have := group_c n.op w; rw [hG] at this; exact this)) ?_
     refine gUn uNot ?_; refine gMv ?_; refine gFp underlying80 sizeOf3 3 ?_; refine gLo isAgg3 0 ?_; refine gBi bNe ?_; refine gPt ?_; refine gPf ?_; refine gE ?_
     refine gC (fun hc => ?_) fun hc => ?_
     ·
      have hb : n.g ≠ 0 := by simpa using hc
      refine gS (gR ?_); refine gAs ?_; refine gE ?_
      refine gT func56 fun w' hS => ?_
      exact ⟨hS.ext, by rw [show nodeE n at_ = 3 from (nodeE_f hop hox hoy).trans (fldE_3 (by simp [iO, bne, h3, h17, hA, hG]; omega))]; rfl⟩
     ·
      have hzg : n.g = 0 := by simpa using hc
      have hfa : (!iO n.op && n.i != 0 || n.op != 17 && n.e != 0 || !grO n.op && n.g != 0) = false := by simp [iO, bne, h3, h17, hA, hG]; omega
      refine gK (gS (gS (gR ?_))); refine gFp underlying80 sizeOf3 0 ?_; refine gLo isAgg3 0 ?_
      refine gBx rfl rfl rfl rfl (bEqV (v := true) h3) ?_
      refine gMv ?_; refine gFp underlying80 sizeOf3 1 ?_; refine gLo isAgg3 0 ?_; refine gBi bLt ?_; refine gMv ?_
      refine gCs 112 (fun hc => ?_) fun hc => ?_
      ·
       have hb : n.i < 0 := by simpa using hc
       iterate 3 refine gNo ?_
       iterate 2 refine gPt ?_
       refine gMv ?_
       iterate 13 refine gNo ?_
       refine gPt ?_; refine gE (GoH.condT rfl (gS (gR ?_))); refine gAs ?_; refine gE ?_
       refine gT func56 fun w' hS => ?_
       exact ⟨hS.ext, by rw [show nodeE n at_ = 2 from (nodeE_f hop hox hoy).trans (fldE_2 hfa (by simp [h3, h17, hA, hG]; omega))]; rfl⟩
      ·
       have hli : ¬ n.i < 0 := by simpa using hc
       refine gFp underlying80 sizeOf3 1 ?_; refine gLo isAgg3 0 ?_; refine gBi bGe ?_; refine gPf ?_; refine gPt ?_; refine gMv ?_
       refine gCs 118 (fun hc => ?_) fun hc => ?_
       ·
        have hb : 8 ≤ n.i := by simpa using hc
        iterate 13 refine gNo ?_
        refine gPt ?_; refine gE (GoH.condT rfl (gS (gR ?_))); refine gAs ?_; refine gE ?_
        refine gT func56 fun w' hS => ?_
        exact ⟨hS.ext, by rw [show nodeE n at_ = 2 from (nodeE_f hop hox hoy).trans (fldE_2 hfa (by simp [h3, h17, hA, hG]; omega))]; rfl⟩
       ·
        have hhi : ¬ 8 ≤ n.i := by simpa using hc
        refine gFp underlying80 sizeOf3 0 ?_; refine gLo isAgg3 0 ?_
        refine gP rfl rfl rfl rfl rfl call90 (fun w _ hS => (by have := agent_c n.op w; rw [hA] at this; exact this)) ?_
        refine gMv ?_
        iterate 8 refine gNo ?_
        iterate 2 refine gPf ?_
        refine gE (GoH.condF rfl (gK (gS (gS (gR ?_))))); refine gFp underlying80 sizeOf3 0 ?_; refine gLo isAgg3 0 ?_
        refine gBx rfl rfl rfl rfl (bEqV (v := false) h17) ?_
        refine gMv ?_
        iterate 18 refine gNo ?_
        refine gPf ?_; refine gE (GoH.condF rfl (gK (gS (gS (gR ?_))))); refine gFp underlying80 sizeOf3 0 ?_; refine gLo isAgg3 0 ?_
        refine gP rfl rfl rfl rfl rfl call97 (fun w _ hS => (by have := group_c n.op w; rw [hG] at this; exact this)) ?_
        refine gMv ?_
        iterate 8 refine gNo ?_
        refine gPf ?_; refine gE (GoH.condF rfl (gK (gS (gR ?_)))); refine gAs ?_; refine gE ?_
        refine gT func56 fun w' hS => ?_
        exact ⟨hS.ext, by rw [show nodeE n at_ = 0 from (nodeE_f hop hox hoy).trans (fldE_0 hfa (by simp [h3, h17, hA, hG]; omega))]; rfl⟩
set_option maxRecDepth 2000 in
theorem rnode_not (n : NV) (at_ : Int) (w : World) (hop : 1 ≤ n.op ∧ n.op ≤ 21) (hX : usX n.op = true) (hY : usY n.op = false) (h3 : (n.op == 3) = false) (hA : agO n.op = false) (h17 : (n.op == 17) = false) (hG : grO n.op = false) :
    Cn Tryd.prog 56 [n.v, .int .i64 at_] w (fun v _ => v = .int .i64 (nodeE n at_)) := by
  refine Cn.of func56 rfl rfl ?_
  refine gS (gR ?_)
  refine GoH.bx rfl rfl rfl rfl (fun b2 => ?_)
  refine gAs ?_; refine gE (gS (gS (gR ?_))); refine gFp underlying80 sizeOf3 0 ?_; refine gLo isAgg3 0 ?_
  refine gBx rfl rfl rfl rfl (bLtV (v := false) (decide_eq_false (by omega))) ?_
  refine gMv ?_; refine gFp underlying80 sizeOf3 0 ?_; refine gLo isAgg3 0 ?_
  refine gBx rfl rfl rfl rfl (bGtV (v := false) (decide_eq_false (by omega))) ?_
  refine gPf ?_; refine gE (GoH.condF rfl (gK (gS (gS (gR ?_))))); refine gFp underlying80 sizeOf3 0 ?_; refine gLo isAgg3 0 ?_
  refine gP rfl rfl rfl rfl rfl call92 (fun w _ hS => (by have := usesX_c n.op w; rw [hX] at this; exact this)) ?_
  refine gMv ?_; refine gFp underlying80 sizeOf3 4 ?_; refine gLo isAgg3 0 ?_; refine gBi bLt ?_; refine gMv ?_
  refine gCs 21 (fun hc => ?_) fun hc => ?_
  ·
   have hb : n.x < 0 := by simpa using hc
   iterate 4 refine gNo ?_
   iterate 2 refine gPt ?_
   refine gMv ?_
   iterate 9 refine gNo ?_
   refine gPt ?_; refine gE (GoH.condT rfl (gS (gR ?_))); refine gAs ?_; refine gE ?_
   refine gT func56 fun w' hS => ?_
   exact ⟨hS.ext, by rw [show nodeE n at_ = 3 from nodeE_x hop (by simp [opB, hX]; omega)]; rfl⟩
  ·
   have hlx : ¬ n.x < 0 := by simpa using hc
   refine gFp underlying80 sizeOf3 4 ?_; refine gLo isAgg3 0 ?_; refine gMv ?_; refine gBi bGe ?_; refine gPf ?_; refine gPt ?_; refine gMv ?_
   refine gCs 28 (fun hc => ?_) fun hc => ?_
   ·
    have hb : at_ ≤ n.x := by simpa using hc
    iterate 9 refine gNo ?_
    refine gPt ?_; refine gE (GoH.condT rfl (gS (gR ?_))); refine gAs ?_; refine gE ?_
    refine gT func56 fun w' hS => ?_
    exact ⟨hS.ext, by rw [show nodeE n at_ = 3 from nodeE_x hop (by simp [opB, hX]; omega)]; rfl⟩
   ·
    have hhx : ¬ at_ ≤ n.x := by simpa using hc
    have hox : opB (usX n.op) n.x at_ = true := by simp [opB, hX]; omega
    refine gFp underlying80 sizeOf3 0 ?_; refine gLo isAgg3 0 ?_
    refine gP rfl rfl rfl rfl rfl call92 (fun w _ hS => (by have := usesX_c n.op w; rw [hX] at this; exact this)) ?_
    refine gUn uNot ?_; refine gMv ?_
    iterate 3 refine gNo ?_
    iterate 2 refine gPf ?_
    refine gE (GoH.condF rfl (gK (gS (gS (gR ?_))))); refine gFp underlying80 sizeOf3 0 ?_; refine gLo isAgg3 0 ?_
    refine gP rfl rfl rfl rfl rfl call93 (fun w _ hS => (by have := usesY_c n.op w; rw [hY] at this; exact this)) ?_
    refine gMv ?_
    iterate 9 refine gNo ?_
    refine gPf ?_; refine gMv ?_; refine gFp underlying80 sizeOf3 0 ?_; refine gLo isAgg3 0 ?_
    refine gP rfl rfl rfl rfl rfl call93 (fun w _ hS => (by have := usesY_c n.op w; rw [hY] at this; exact this)) ?_
    refine gUn uNot ?_; refine gMv ?_; refine gFp underlying80 sizeOf3 5 ?_; refine gLo isAgg3 0 ?_; refine gBi bNe ?_; refine gPt ?_; refine gPf ?_; refine gE ?_
    refine gC (fun hc => ?_) fun hc => ?_
    ·
     have hb : n.y ≠ 0 := by simpa using hc
     refine gS (gR ?_); refine gAs ?_; refine gE ?_
     refine gT func56 fun w' hS => ?_
     exact ⟨hS.ext, by rw [show nodeE n at_ = 3 from nodeE_y hop (by simp [opB, hY]; omega)]; rfl⟩
    ·
     have hzy : n.y = 0 := by simpa using hc
     have hoy : opB (usY n.op) n.y at_ = true := by simp [opB, hY]; omega
     refine gK (gS (gR ?_)); refine gFp underlying80 sizeOf3 0 ?_; refine gLo isAgg3 0 ?_
     refine gBx rfl rfl rfl rfl (bEqV (v := false) h3) ?_
     refine gMv ?_; refine gFp underlying80 sizeOf3 0 ?_; refine gLo isAgg3 0 ?_
     refine gP rfl rfl rfl rfl rfl call90 (fun w _ hS => (by have := agent_c n.op w; rw [hA] at this; exact this)) ?_
     refine gPf ?_; refine gMv ?_; refine gFp underlying80 sizeOf3 0 ?_; refine gLo isAgg3 0 ?_
     refine gBx rfl rfl rfl rfl (bEqV (v := false) h17) ?_
     refine gPf ?_; refine gAs ?_; refine gE (gS (gS (gR ?_))); refine gMv ?_; refine gUn uNot ?_; refine gMv ?_; refine gFp underlying80 sizeOf3 1 ?_; refine gLo isAgg3 0 ?_; refine gBi bNe ?_; refine gPt ?_; refine gMv ?_
     refine gCs 84 (fun hc => ?_) fun hc => ?_
     ·
      have hb : n.i ≠ 0 := by simpa using hc
      iterate 8 refine gNo ?_
      refine gPt ?_; refine gMv ?_
      iterate 9 refine gNo ?_
      refine gPt ?_; refine gE (GoH.condT rfl (gS (gR ?_))); refine gAs ?_; refine gE ?_
      refine gT func56 fun w' hS => ?_
      exact ⟨hS.ext, by rw [show nodeE n at_ = 3 from (nodeE_f hop hox hoy).trans (fldE_3 (by simp [iO, bne, h3, h17, hA, hG]; omega))]; rfl⟩
     ·
      have hzi : n.i = 0 := by simpa using hc
      refine gFp underlying80 sizeOf3 0 ?_; refine gLo isAgg3 0 ?_
      refine gBx rfl rfl rfl rfl (bNeV (v := true) (by rw [bne, h17]; rfl)) ?_
      refine gMv ?_; refine gFp underlying80 sizeOf3 2 ?_; refine gLo isAgg3 0 ?_; refine gBi bNe ?_; refine gPt ?_; refine gPf ?_; refine gMv ?_
      refine gCs 94 (fun hc => ?_) fun hc => ?_
      ·
       have hb : n.e ≠ 0 := by simpa using hc
       iterate 9 refine gNo ?_
       refine gPt ?_; refine gE (GoH.condT rfl (gS (gR ?_))); refine gAs ?_; refine gE ?_
       refine gT func56 fun w' hS => ?_
       exact ⟨hS.ext, by rw [show nodeE n at_ = 3 from (nodeE_f hop hox hoy).trans (fldE_3 (by simp [iO, bne, h3, h17, hA, hG]; omega))]; rfl⟩
      ·
       have hze : n.e = 0 := by simpa using hc
       refine gFp underlying80 sizeOf3 0 ?_; refine gLo isAgg3 0 ?_
       refine gP rfl rfl rfl rfl rfl call97 (fun w _ hS => (by have := group_c n.op w; rw [hG] at this; exact this)) ?_
       refine gUn uNot ?_; refine gMv ?_; refine gFp underlying80 sizeOf3 3 ?_; refine gLo isAgg3 0 ?_; refine gBi bNe ?_; refine gPt ?_; refine gPf ?_; refine gE ?_
       refine gC (fun hc => ?_) fun hc => ?_
       ·
        have hb : n.g ≠ 0 := by simpa using hc
        refine gS (gR ?_); refine gAs ?_; refine gE ?_
        refine gT func56 fun w' hS => ?_
        exact ⟨hS.ext, by rw [show nodeE n at_ = 3 from (nodeE_f hop hox hoy).trans (fldE_3 (by simp [iO, bne, h3, h17, hA, hG]; omega))]; rfl⟩
       ·
        have hzg : n.g = 0 := by simpa using hc
        have hfa : (!iO n.op && n.i != 0 || n.op != 17 && n.e != 0 || !grO n.op && n.g != 0) = false := by simp [iO, bne, h3, h17, hA, hG]; omega
        refine gK (gS (gS (gR ?_))); refine gFp underlying80 sizeOf3 0 ?_; refine gLo isAgg3 0 ?_
        refine gBx rfl rfl rfl rfl (bEqV (v := false) h3) ?_
        refine gMv ?_
        iterate 8 refine gNo ?_
        refine gPf ?_; refine gMv ?_; refine gFp underlying80 sizeOf3 0 ?_; refine gLo isAgg3 0 ?_
        refine gP rfl rfl rfl rfl rfl call90 (fun w _ hS => (by have := agent_c n.op w; rw [hA] at this; exact this)) ?_
        refine gMv ?_
        iterate 8 refine gNo ?_
        iterate 2 refine gPf ?_
        refine gE (GoH.condF rfl (gK (gS (gS (gR ?_))))); refine gFp underlying80 sizeOf3 0 ?_; refine gLo isAgg3 0 ?_
        refine gBx rfl rfl rfl rfl (bEqV (v := false) h17) ?_
        refine gMv ?_
        iterate 18 refine gNo ?_
        refine gPf ?_; refine gE (GoH.condF rfl (gK (gS (gS (gR ?_))))); refine gFp underlying80 sizeOf3 0 ?_; refine gLo isAgg3 0 ?_
        refine gP rfl rfl rfl rfl rfl call97 (fun w _ hS => (by have := group_c n.op w; rw [hG] at this; exact this)) ?_
        refine gMv ?_
        iterate 8 refine gNo ?_
        refine gPf ?_; refine gE (GoH.condF rfl (gK (gS (gR ?_)))); refine gAs ?_; refine gE ?_
        refine gT func56 fun w' hS => ?_
        exact ⟨hS.ext, by rw [show nodeE n at_ = 0 from (nodeE_f hop hox hoy).trans (fldE_0 hfa (by simp [h3, h17, hA, hG]))]; rfl⟩
set_option maxRecDepth 2000 in
theorem rnode_bin (n : NV) (at_ : Int) (w : World) (hop : 1 ≤ n.op ∧ n.op ≤ 21) (hX : usX n.op = true) (hY : usY n.op = true) (h3 : (n.op == 3) = false) (hA : agO n.op = false) (h17 : (n.op == 17) = false) (hG : grO n.op = false) :
    Cn Tryd.prog 56 [n.v, .int .i64 at_] w (fun v _ => v = .int .i64 (nodeE n at_)) := by
  refine Cn.of func56 rfl rfl ?_
  refine gS (gR ?_)
  refine GoH.bx rfl rfl rfl rfl (fun b2 => ?_)
  refine gAs ?_; refine gE (gS (gS (gR ?_))); refine gFp underlying80 sizeOf3 0 ?_; refine gLo isAgg3 0 ?_
  refine gBx rfl rfl rfl rfl (bLtV (v := false) (decide_eq_false (by omega))) ?_
  refine gMv ?_; refine gFp underlying80 sizeOf3 0 ?_; refine gLo isAgg3 0 ?_
  refine gBx rfl rfl rfl rfl (bGtV (v := false) (decide_eq_false (by omega))) ?_
  refine gPf ?_; refine gE (GoH.condF rfl (gK (gS (gS (gR ?_))))); refine gFp underlying80 sizeOf3 0 ?_; refine gLo isAgg3 0 ?_
  refine gP rfl rfl rfl rfl rfl call92 (fun w _ hS => (by have := usesX_c n.op w; rw [hX] at this; exact this)) ?_
  refine gMv ?_; refine gFp underlying80 sizeOf3 4 ?_; refine gLo isAgg3 0 ?_; refine gBi bLt ?_; refine gMv ?_
  refine gCs 21 (fun hc => ?_) fun hc => ?_
  ·
   have hb : n.x < 0 := by simpa using hc
   iterate 4 refine gNo ?_
   iterate 2 refine gPt ?_
   refine gMv ?_
   iterate 9 refine gNo ?_
   refine gPt ?_; refine gE (GoH.condT rfl (gS (gR ?_))); refine gAs ?_; refine gE ?_
   refine gT func56 fun w' hS => ?_
   exact ⟨hS.ext, by rw [show nodeE n at_ = 3 from nodeE_x hop (by simp [opB, hX]; omega)]; rfl⟩
  ·
   have hlx : ¬ n.x < 0 := by simpa using hc
   refine gFp underlying80 sizeOf3 4 ?_; refine gLo isAgg3 0 ?_; refine gMv ?_; refine gBi bGe ?_; refine gPf ?_; refine gPt ?_; refine gMv ?_
   refine gCs 28 (fun hc => ?_) fun hc => ?_
   ·
    have hb : at_ ≤ n.x := by simpa using hc
    iterate 9 refine gNo ?_
    refine gPt ?_; refine gE (GoH.condT rfl (gS (gR ?_))); refine gAs ?_; refine gE ?_
    refine gT func56 fun w' hS => ?_
    exact ⟨hS.ext, by rw [show nodeE n at_ = 3 from nodeE_x hop (by simp [opB, hX]; omega)]; rfl⟩
   ·
    have hhx : ¬ at_ ≤ n.x := by simpa using hc
    have hox : opB (usX n.op) n.x at_ = true := by simp [opB, hX]; omega
    refine gFp underlying80 sizeOf3 0 ?_; refine gLo isAgg3 0 ?_
    refine gP rfl rfl rfl rfl rfl call92 (fun w _ hS => (by have := usesX_c n.op w; rw [hX] at this; exact this)) ?_
    refine gUn uNot ?_; refine gMv ?_
    iterate 3 refine gNo ?_
    iterate 2 refine gPf ?_
    refine gE (GoH.condF rfl (gK (gS (gS (gR ?_))))); refine gFp underlying80 sizeOf3 0 ?_; refine gLo isAgg3 0 ?_
    refine gP rfl rfl rfl rfl rfl call93 (fun w _ hS => (by have := usesY_c n.op w; rw [hY] at this; exact this)) ?_
    refine gMv ?_; refine gFp underlying80 sizeOf3 5 ?_; refine gLo isAgg3 0 ?_; refine gBi bLt ?_; refine gMv ?_
    refine gCs 46 (fun hc => ?_) fun hc => ?_
    ·
     have hb : n.y < 0 := by simpa using hc
     iterate 4 refine gNo ?_
     iterate 2 refine gPt ?_
     refine gMv ?_
     iterate 9 refine gNo ?_
     refine gPt ?_; refine gE (GoH.condT rfl (gS (gR ?_))); refine gAs ?_; refine gE ?_
     refine gT func56 fun w' hS => ?_
     exact ⟨hS.ext, by rw [show nodeE n at_ = 3 from nodeE_y hop (by simp [opB, hY]; omega)]; rfl⟩
    ·
     have hly : ¬ n.y < 0 := by simpa using hc
     refine gFp underlying80 sizeOf3 5 ?_; refine gLo isAgg3 0 ?_; refine gMv ?_; refine gBi bGe ?_; refine gPf ?_; refine gPt ?_; refine gMv ?_
     refine gCs 53 (fun hc => ?_) fun hc => ?_
     ·
      have hb : at_ ≤ n.y := by simpa using hc
      iterate 9 refine gNo ?_
      refine gPt ?_; refine gE (GoH.condT rfl (gS (gR ?_))); refine gAs ?_; refine gE ?_
      refine gT func56 fun w' hS => ?_
      exact ⟨hS.ext, by rw [show nodeE n at_ = 3 from nodeE_y hop (by simp [opB, hY]; omega)]; rfl⟩
     ·
      have hhy : ¬ at_ ≤ n.y := by simpa using hc
      have hoy : opB (usY n.op) n.y at_ = true := by simp [opB, hY]; omega
      refine gFp underlying80 sizeOf3 0 ?_; refine gLo isAgg3 0 ?_
      refine gP rfl rfl rfl rfl rfl call93 (fun w _ hS => (by have := usesY_c n.op w; rw [hY] at this; exact this)) ?_
      refine gUn uNot ?_; refine gMv ?_
      iterate 3 refine gNo ?_
      iterate 2 refine gPf ?_
      refine gE (GoH.condF rfl (gK (gS (gR ?_)))); refine gFp underlying80 sizeOf3 0 ?_; refine gLo isAgg3 0 ?_
      refine gBx rfl rfl rfl rfl (bEqV (v := false) h3) ?_
      refine gMv ?_; refine gFp underlying80 sizeOf3 0 ?_; refine gLo isAgg3 0 ?_
      refine gP rfl rfl rfl rfl rfl call90 (fun w _ hS => (by have := agent_c n.op w; rw [hA] at this; exact this)) ?_
      refine gPf ?_; refine gMv ?_; refine gFp underlying80 sizeOf3 0 ?_; refine gLo isAgg3 0 ?_
      refine gBx rfl rfl rfl rfl (bEqV (v := false) h17) ?_
      refine gPf ?_; refine gAs ?_; refine gE (gS (gS (gR ?_))); refine gMv ?_; refine gUn uNot ?_; refine gMv ?_; refine gFp underlying80 sizeOf3 1 ?_; refine gLo isAgg3 0 ?_; refine gBi bNe ?_; refine gPt ?_; refine gMv ?_
      refine gCs 84 (fun hc => ?_) fun hc => ?_
      ·
       have hb : n.i ≠ 0 := by simpa using hc
       iterate 8 refine gNo ?_
       refine gPt ?_; refine gMv ?_
       iterate 9 refine gNo ?_
       refine gPt ?_; refine gE (GoH.condT rfl (gS (gR ?_))); refine gAs ?_; refine gE ?_
       refine gT func56 fun w' hS => ?_
       exact ⟨hS.ext, by rw [show nodeE n at_ = 3 from (nodeE_f hop hox hoy).trans (fldE_3 (by simp [iO, bne, h3, h17, hA, hG]; omega))]; rfl⟩
      ·
       have hzi : n.i = 0 := by simpa using hc
       refine gFp underlying80 sizeOf3 0 ?_; refine gLo isAgg3 0 ?_
       refine gBx rfl rfl rfl rfl (bNeV (v := true) (by rw [bne, h17]; rfl)) ?_
       refine gMv ?_; refine gFp underlying80 sizeOf3 2 ?_; refine gLo isAgg3 0 ?_; refine gBi bNe ?_; refine gPt ?_; refine gPf ?_; refine gMv ?_
       refine gCs 94 (fun hc => ?_) fun hc => ?_
       ·
        have hb : n.e ≠ 0 := by simpa using hc
        iterate 9 refine gNo ?_
        refine gPt ?_; refine gE (GoH.condT rfl (gS (gR ?_))); refine gAs ?_; refine gE ?_
        refine gT func56 fun w' hS => ?_
        exact ⟨hS.ext, by rw [show nodeE n at_ = 3 from (nodeE_f hop hox hoy).trans (fldE_3 (by simp [iO, bne, h3, h17, hA, hG]; omega))]; rfl⟩
       ·
        have hze : n.e = 0 := by simpa using hc
        refine gFp underlying80 sizeOf3 0 ?_; refine gLo isAgg3 0 ?_
        refine gP rfl rfl rfl rfl rfl call97 (fun w _ hS => (by have := group_c n.op w; rw [hG] at this; exact this)) ?_
        refine gUn uNot ?_; refine gMv ?_; refine gFp underlying80 sizeOf3 3 ?_; refine gLo isAgg3 0 ?_; refine gBi bNe ?_; refine gPt ?_; refine gPf ?_; refine gE ?_
        refine gC (fun hc => ?_) fun hc => ?_
        ·
         have hb : n.g ≠ 0 := by simpa using hc
         refine gS (gR ?_); refine gAs ?_; refine gE ?_
         refine gT func56 fun w' hS => ?_
         exact ⟨hS.ext, by rw [show nodeE n at_ = 3 from (nodeE_f hop hox hoy).trans (fldE_3 (by simp [iO, bne, h3, h17, hA, hG]; omega))]; rfl⟩
        ·
         have hzg : n.g = 0 := by simpa using hc
         have hfa : (!iO n.op && n.i != 0 || n.op != 17 && n.e != 0 || !grO n.op && n.g != 0) = false := by simp [iO, bne, h3, h17, hA, hG]; omega
         refine gK (gS (gS (gR ?_))); refine gFp underlying80 sizeOf3 0 ?_; refine gLo isAgg3 0 ?_
         refine gBx rfl rfl rfl rfl (bEqV (v := false) h3) ?_
         refine gMv ?_
         iterate 8 refine gNo ?_
         refine gPf ?_; refine gMv ?_; refine gFp underlying80 sizeOf3 0 ?_; refine gLo isAgg3 0 ?_
         refine gP rfl rfl rfl rfl rfl call90 (fun w _ hS => (by have := agent_c n.op w; rw [hA] at this; exact this)) ?_
         refine gMv ?_
         iterate 8 refine gNo ?_
         iterate 2 refine gPf ?_
         refine gE (GoH.condF rfl (gK (gS (gS (gR ?_))))); refine gFp underlying80 sizeOf3 0 ?_; refine gLo isAgg3 0 ?_
         refine gBx rfl rfl rfl rfl (bEqV (v := false) h17) ?_
         refine gMv ?_
         iterate 18 refine gNo ?_
         refine gPf ?_; refine gE (GoH.condF rfl (gK (gS (gS (gR ?_))))); refine gFp underlying80 sizeOf3 0 ?_; refine gLo isAgg3 0 ?_
         refine gP rfl rfl rfl rfl rfl call97 (fun w _ hS => (by have := group_c n.op w; rw [hG] at this; exact this)) ?_
         refine gMv ?_
         iterate 8 refine gNo ?_
         refine gPf ?_; refine gE (GoH.condF rfl (gK (gS (gR ?_)))); refine gAs ?_; refine gE ?_
         refine gT func56 fun w' hS => ?_
         exact ⟨hS.ext, by rw [show nodeE n at_ = 0 from (nodeE_f hop hox hoy).trans (fldE_0 hfa (by simp [h3, h17, hA, hG]))]; rfl⟩
set_option maxRecDepth 2000 in
theorem rnode_know (n : NV) (at_ : Int) (w : World) (hop : 1 ≤ n.op ∧ n.op ≤ 21) (hX : usX n.op = true) (hY : usY n.op = false) (h3 : (n.op == 3) = false) (hA : agO n.op = true) (h17 : (n.op == 17) = false) (hG : grO n.op = false) :
    Cn Tryd.prog 56 [n.v, .int .i64 at_] w (fun v _ => v = .int .i64 (nodeE n at_)) := by
  refine Cn.of func56 rfl rfl ?_
  refine gS (gR ?_)
  refine GoH.bx rfl rfl rfl rfl (fun b2 => ?_)
  refine gAs ?_; refine gE (gS (gS (gR ?_))); refine gFp underlying80 sizeOf3 0 ?_; refine gLo isAgg3 0 ?_
  refine gBx rfl rfl rfl rfl (bLtV (v := false) (decide_eq_false (by omega))) ?_
  refine gMv ?_; refine gFp underlying80 sizeOf3 0 ?_; refine gLo isAgg3 0 ?_
  refine gBx rfl rfl rfl rfl (bGtV (v := false) (decide_eq_false (by omega))) ?_
  refine gPf ?_; refine gE (GoH.condF rfl (gK (gS (gS (gR ?_))))); refine gFp underlying80 sizeOf3 0 ?_; refine gLo isAgg3 0 ?_
  refine gP rfl rfl rfl rfl rfl call92 (fun w _ hS => (by have := usesX_c n.op w; rw [hX] at this; exact this)) ?_
  refine gMv ?_; refine gFp underlying80 sizeOf3 4 ?_; refine gLo isAgg3 0 ?_; refine gBi bLt ?_; refine gMv ?_
  refine gCs 21 (fun hc => ?_) fun hc => ?_
  ·
   have hb : n.x < 0 := by simpa using hc
   iterate 4 refine gNo ?_
   iterate 2 refine gPt ?_
   refine gMv ?_
   iterate 9 refine gNo ?_
   refine gPt ?_; refine gE (GoH.condT rfl (gS (gR ?_))); refine gAs ?_; refine gE ?_
   refine gT func56 fun w' hS => ?_
   exact ⟨hS.ext, by rw [show nodeE n at_ = 3 from nodeE_x hop (by simp [opB, hX]; omega)]; rfl⟩
  ·
   have hlx : ¬ n.x < 0 := by simpa using hc
   refine gFp underlying80 sizeOf3 4 ?_; refine gLo isAgg3 0 ?_; refine gMv ?_; refine gBi bGe ?_; refine gPf ?_; refine gPt ?_; refine gMv ?_
   refine gCs 28 (fun hc => ?_) fun hc => ?_
   ·
    have hb : at_ ≤ n.x := by simpa using hc
    iterate 9 refine gNo ?_
    refine gPt ?_; refine gE (GoH.condT rfl (gS (gR ?_))); refine gAs ?_; refine gE ?_
    refine gT func56 fun w' hS => ?_
    exact ⟨hS.ext, by rw [show nodeE n at_ = 3 from nodeE_x hop (by simp [opB, hX]; omega)]; rfl⟩
   ·
    have hhx : ¬ at_ ≤ n.x := by simpa using hc
    have hox : opB (usX n.op) n.x at_ = true := by simp [opB, hX]; omega
    refine gFp underlying80 sizeOf3 0 ?_; refine gLo isAgg3 0 ?_
    refine gP rfl rfl rfl rfl rfl call92 (fun w _ hS => (by have := usesX_c n.op w; rw [hX] at this; exact this)) ?_
    refine gUn uNot ?_; refine gMv ?_
    iterate 3 refine gNo ?_
    iterate 2 refine gPf ?_
    refine gE (GoH.condF rfl (gK (gS (gS (gR ?_))))); refine gFp underlying80 sizeOf3 0 ?_; refine gLo isAgg3 0 ?_
    refine gP rfl rfl rfl rfl rfl call93 (fun w _ hS => (by have := usesY_c n.op w; rw [hY] at this; exact this)) ?_
    refine gMv ?_
    iterate 9 refine gNo ?_
    refine gPf ?_; refine gMv ?_; refine gFp underlying80 sizeOf3 0 ?_; refine gLo isAgg3 0 ?_
    refine gP rfl rfl rfl rfl rfl call93 (fun w _ hS => (by have := usesY_c n.op w; rw [hY] at this; exact this)) ?_
    refine gUn uNot ?_; refine gMv ?_; refine gFp underlying80 sizeOf3 5 ?_; refine gLo isAgg3 0 ?_; refine gBi bNe ?_; refine gPt ?_; refine gPf ?_; refine gE ?_
    refine gC (fun hc => ?_) fun hc => ?_
    ·
     have hb : n.y ≠ 0 := by simpa using hc
     refine gS (gR ?_); refine gAs ?_; refine gE ?_
     refine gT func56 fun w' hS => ?_
     exact ⟨hS.ext, by rw [show nodeE n at_ = 3 from nodeE_y hop (by simp [opB, hY]; omega)]; rfl⟩
    ·
     have hzy : n.y = 0 := by simpa using hc
     have hoy : opB (usY n.op) n.y at_ = true := by simp [opB, hY]; omega
     refine gK (gS (gR ?_)); refine gFp underlying80 sizeOf3 0 ?_; refine gLo isAgg3 0 ?_
     refine gBx rfl rfl rfl rfl (bEqV (v := false) h3) ?_
     refine gMv ?_; refine gFp underlying80 sizeOf3 0 ?_; refine gLo isAgg3 0 ?_
     refine gP rfl rfl rfl rfl rfl call90 (fun w _ hS => (by have := agent_c n.op w; rw [hA] at this; exact this)) ?_
     refine gPf ?_; refine gMv ?_
     iterate 3 refine gNo ?_
     refine gPt ?_; refine gAs ?_; refine gE (gS (gS (gR ?_))); refine gMv ?_; refine gUn uNot ?_; refine gMv ?_
     iterate 3 refine gNo ?_
     refine gPf ?_; refine gMv ?_; refine gFp underlying80 sizeOf3 0 ?_; refine gLo isAgg3 0 ?_
     refine gBx rfl rfl rfl rfl (bNeV (v := true) (by rw [bne, h17]; rfl)) ?_
     refine gMv ?_; refine gFp underlying80 sizeOf3 2 ?_; refine gLo isAgg3 0 ?_; refine gBi bNe ?_; refine gPt ?_; refine gPf ?_; refine gMv ?_
     refine gCs 94 (fun hc => ?_) fun hc => ?_
     ·
      have hb : n.e ≠ 0 := by simpa using hc
      iterate 9 refine gNo ?_
      refine gPt ?_; refine gE (GoH.condT rfl (gS (gR ?_))); refine gAs ?_; refine gE ?_
      refine gT func56 fun w' hS => ?_
      exact ⟨hS.ext, by rw [show nodeE n at_ = 3 from (nodeE_f hop hox hoy).trans (fldE_3 (by simp [iO, bne, h3, h17, hA, hG]; omega))]; rfl⟩
     ·
      have hze : n.e = 0 := by simpa using hc
      refine gFp underlying80 sizeOf3 0 ?_; refine gLo isAgg3 0 ?_
      refine gP rfl rfl rfl rfl rfl call97 (fun w _ hS => (by have := group_c n.op w; rw [hG] at this; exact this)) ?_
      refine gUn uNot ?_; refine gMv ?_; refine gFp underlying80 sizeOf3 3 ?_; refine gLo isAgg3 0 ?_; refine gBi bNe ?_; refine gPt ?_; refine gPf ?_; refine gE ?_
      refine gC (fun hc => ?_) fun hc => ?_
      ·
       have hb : n.g ≠ 0 := by simpa using hc
       refine gS (gR ?_); refine gAs ?_; refine gE ?_
       refine gT func56 fun w' hS => ?_
       exact ⟨hS.ext, by rw [show nodeE n at_ = 3 from (nodeE_f hop hox hoy).trans (fldE_3 (by simp [iO, bne, h3, h17, hA, hG]; omega))]; rfl⟩
      ·
       have hzg : n.g = 0 := by simpa using hc
       have hfa : (!iO n.op && n.i != 0 || n.op != 17 && n.e != 0 || !grO n.op && n.g != 0) = false := by simp [iO, bne, h3, h17, hA, hG]; omega
       refine gK (gS (gS (gR ?_))); refine gFp underlying80 sizeOf3 0 ?_; refine gLo isAgg3 0 ?_
       refine gBx rfl rfl rfl rfl (bEqV (v := false) h3) ?_
       refine gMv ?_
       iterate 8 refine gNo ?_
       refine gPf ?_; refine gMv ?_; refine gFp underlying80 sizeOf3 0 ?_; refine gLo isAgg3 0 ?_
       refine gP rfl rfl rfl rfl rfl call90 (fun w _ hS => (by have := agent_c n.op w; rw [hA] at this; exact this)) ?_
       refine gMv ?_; refine gFp underlying80 sizeOf3 1 ?_; refine gLo isAgg3 0 ?_; refine gBi bLt ?_; refine gMv ?_
       refine gCs 126 (fun hc => ?_) fun hc => ?_
       ·
        have hb : n.i < 0 := by simpa using hc
        iterate 3 refine gNo ?_
        iterate 2 refine gPt ?_
        refine gPf ?_; refine gE (GoH.condT rfl (gS (gR ?_))); refine gAs ?_; refine gE ?_
        refine gT func56 fun w' hS => ?_
        exact ⟨hS.ext, by rw [show nodeE n at_ = 2 from (nodeE_f hop hox hoy).trans (fldE_2 hfa (by simp [h3, h17, hA, hG]; omega))]; rfl⟩
       ·
        have hli : ¬ n.i < 0 := by simpa using hc
        refine gFp underlying80 sizeOf3 1 ?_; refine gLo isAgg3 0 ?_; refine gBi bGe ?_; refine gPf ?_; refine gPt ?_; refine gPf ?_; refine gE ?_
        refine gC (fun hc => ?_) fun hc => ?_
        ·
         have hb : 4 ≤ n.i := by simpa using hc
         refine gS (gR ?_); refine gAs ?_; refine gE ?_
         refine gT func56 fun w' hS => ?_
         exact ⟨hS.ext, by rw [show nodeE n at_ = 2 from (nodeE_f hop hox hoy).trans (fldE_2 hfa (by simp [h3, h17, hA, hG]; omega))]; rfl⟩
        ·
         have hhi : ¬ 4 ≤ n.i := by simpa using hc
         refine gK (gS (gS (gR ?_))); refine gFp underlying80 sizeOf3 0 ?_; refine gLo isAgg3 0 ?_
         refine gBx rfl rfl rfl rfl (bEqV (v := false) h17) ?_
         refine gMv ?_
         iterate 18 refine gNo ?_
         refine gPf ?_; refine gE (GoH.condF rfl (gK (gS (gS (gR ?_))))); refine gFp underlying80 sizeOf3 0 ?_; refine gLo isAgg3 0 ?_
         refine gP rfl rfl rfl rfl rfl call97 (fun w _ hS => (by have := group_c n.op w; rw [hG] at this; exact this)) ?_
         refine gMv ?_
         iterate 8 refine gNo ?_
         refine gPf ?_; refine gE (GoH.condF rfl (gK (gS (gR ?_)))); refine gAs ?_; refine gE ?_
         refine gT func56 fun w' hS => ?_
         exact ⟨hS.ext, by rw [show nodeE n at_ = 0 from (nodeE_f hop hox hoy).trans (fldE_0 hfa (by simp [h3, h17, hA, hG]; omega))]; rfl⟩
set_option maxRecDepth 2000 in
theorem rnode_evy (n : NV) (at_ : Int) (w : World) (hop : 1 ≤ n.op ∧ n.op ≤ 21) (hX : usX n.op = true) (hY : usY n.op = false) (h3 : (n.op == 3) = false) (hA : agO n.op = false) (h17 : (n.op == 17) = false) (hG : grO n.op = true) :
    Cn Tryd.prog 56 [n.v, .int .i64 at_] w (fun v _ => v = .int .i64 (nodeE n at_)) := by
  refine Cn.of func56 rfl rfl ?_
  refine gS (gR ?_)
  refine GoH.bx rfl rfl rfl rfl (fun b2 => ?_)
  refine gAs ?_; refine gE (gS (gS (gR ?_))); refine gFp underlying80 sizeOf3 0 ?_; refine gLo isAgg3 0 ?_
  refine gBx rfl rfl rfl rfl (bLtV (v := false) (decide_eq_false (by omega))) ?_
  refine gMv ?_; refine gFp underlying80 sizeOf3 0 ?_; refine gLo isAgg3 0 ?_
  refine gBx rfl rfl rfl rfl (bGtV (v := false) (decide_eq_false (by omega))) ?_
  refine gPf ?_; refine gE (GoH.condF rfl (gK (gS (gS (gR ?_))))); refine gFp underlying80 sizeOf3 0 ?_; refine gLo isAgg3 0 ?_
  refine gP rfl rfl rfl rfl rfl call92 (fun w _ hS => (by have := usesX_c n.op w; rw [hX] at this; exact this)) ?_
  refine gMv ?_; refine gFp underlying80 sizeOf3 4 ?_; refine gLo isAgg3 0 ?_; refine gBi bLt ?_; refine gMv ?_
  refine gCs 21 (fun hc => ?_) fun hc => ?_
  ·
   have hb : n.x < 0 := by simpa using hc
   iterate 4 refine gNo ?_
   iterate 2 refine gPt ?_
   refine gMv ?_
   iterate 9 refine gNo ?_
   refine gPt ?_; refine gE (GoH.condT rfl (gS (gR ?_))); refine gAs ?_; refine gE ?_
   refine gT func56 fun w' hS => ?_
   exact ⟨hS.ext, by rw [show nodeE n at_ = 3 from nodeE_x hop (by simp [opB, hX]; omega)]; rfl⟩
  ·
   have hlx : ¬ n.x < 0 := by simpa using hc
   refine gFp underlying80 sizeOf3 4 ?_; refine gLo isAgg3 0 ?_; refine gMv ?_; refine gBi bGe ?_; refine gPf ?_; refine gPt ?_; refine gMv ?_
   refine gCs 28 (fun hc => ?_) fun hc => ?_
   ·
    have hb : at_ ≤ n.x := by simpa using hc
    iterate 9 refine gNo ?_
    refine gPt ?_; refine gE (GoH.condT rfl (gS (gR ?_))); refine gAs ?_; refine gE ?_
    refine gT func56 fun w' hS => ?_
    exact ⟨hS.ext, by rw [show nodeE n at_ = 3 from nodeE_x hop (by simp [opB, hX]; omega)]; rfl⟩
   ·
    have hhx : ¬ at_ ≤ n.x := by simpa using hc
    have hox : opB (usX n.op) n.x at_ = true := by simp [opB, hX]; omega
    refine gFp underlying80 sizeOf3 0 ?_; refine gLo isAgg3 0 ?_
    refine gP rfl rfl rfl rfl rfl call92 (fun w _ hS => (by have := usesX_c n.op w; rw [hX] at this; exact this)) ?_
    refine gUn uNot ?_; refine gMv ?_
    iterate 3 refine gNo ?_
    iterate 2 refine gPf ?_
    refine gE (GoH.condF rfl (gK (gS (gS (gR ?_))))); refine gFp underlying80 sizeOf3 0 ?_; refine gLo isAgg3 0 ?_
    refine gP rfl rfl rfl rfl rfl call93 (fun w _ hS => (by have := usesY_c n.op w; rw [hY] at this; exact this)) ?_
    refine gMv ?_
    iterate 9 refine gNo ?_
    refine gPf ?_; refine gMv ?_; refine gFp underlying80 sizeOf3 0 ?_; refine gLo isAgg3 0 ?_
    refine gP rfl rfl rfl rfl rfl call93 (fun w _ hS => (by have := usesY_c n.op w; rw [hY] at this; exact this)) ?_
    refine gUn uNot ?_; refine gMv ?_; refine gFp underlying80 sizeOf3 5 ?_; refine gLo isAgg3 0 ?_; refine gBi bNe ?_; refine gPt ?_; refine gPf ?_; refine gE ?_
    refine gC (fun hc => ?_) fun hc => ?_
    ·
     have hb : n.y ≠ 0 := by simpa using hc
     refine gS (gR ?_); refine gAs ?_; refine gE ?_
     refine gT func56 fun w' hS => ?_
     exact ⟨hS.ext, by rw [show nodeE n at_ = 3 from nodeE_y hop (by simp [opB, hY]; omega)]; rfl⟩
    ·
     have hzy : n.y = 0 := by simpa using hc
     have hoy : opB (usY n.op) n.y at_ = true := by simp [opB, hY]; omega
     refine gK (gS (gR ?_)); refine gFp underlying80 sizeOf3 0 ?_; refine gLo isAgg3 0 ?_
     refine gBx rfl rfl rfl rfl (bEqV (v := false) h3) ?_
     refine gMv ?_; refine gFp underlying80 sizeOf3 0 ?_; refine gLo isAgg3 0 ?_
     refine gP rfl rfl rfl rfl rfl call90 (fun w _ hS => (by have := agent_c n.op w; rw [hA] at this; exact this)) ?_
     refine gPf ?_; refine gMv ?_; refine gFp underlying80 sizeOf3 0 ?_; refine gLo isAgg3 0 ?_
     refine gBx rfl rfl rfl rfl (bEqV (v := false) h17) ?_
     refine gPf ?_; refine gAs ?_; refine gE (gS (gS (gR ?_))); refine gMv ?_; refine gUn uNot ?_; refine gMv ?_; refine gFp underlying80 sizeOf3 1 ?_; refine gLo isAgg3 0 ?_; refine gBi bNe ?_; refine gPt ?_; refine gMv ?_
     refine gCs 84 (fun hc => ?_) fun hc => ?_
     ·
      have hb : n.i ≠ 0 := by simpa using hc
      iterate 8 refine gNo ?_
      refine gPt ?_; refine gMv ?_
      iterate 9 refine gNo ?_
      refine gPt ?_; refine gE (GoH.condT rfl (gS (gR ?_))); refine gAs ?_; refine gE ?_
      refine gT func56 fun w' hS => ?_
      exact ⟨hS.ext, by rw [show nodeE n at_ = 3 from (nodeE_f hop hox hoy).trans (fldE_3 (by simp [iO, bne, h3, h17, hA, hG]; omega))]; rfl⟩
     ·
      have hzi : n.i = 0 := by simpa using hc
      refine gFp underlying80 sizeOf3 0 ?_; refine gLo isAgg3 0 ?_
      refine gBx rfl rfl rfl rfl (bNeV (v := true) (by rw [bne, h17]; rfl)) ?_
      refine gMv ?_; refine gFp underlying80 sizeOf3 2 ?_; refine gLo isAgg3 0 ?_; refine gBi bNe ?_; refine gPt ?_; refine gPf ?_; refine gMv ?_
      refine gCs 94 (fun hc => ?_) fun hc => ?_
      ·
       have hb : n.e ≠ 0 := by simpa using hc
       iterate 9 refine gNo ?_
       refine gPt ?_; refine gE (GoH.condT rfl (gS (gR ?_))); refine gAs ?_; refine gE ?_
       refine gT func56 fun w' hS => ?_
       exact ⟨hS.ext, by rw [show nodeE n at_ = 3 from (nodeE_f hop hox hoy).trans (fldE_3 (by simp [iO, bne, h3, h17, hA, hG]; omega))]; rfl⟩
      ·
       have hze : n.e = 0 := by simpa using hc
       refine gFp underlying80 sizeOf3 0 ?_; refine gLo isAgg3 0 ?_
       refine gP rfl rfl rfl rfl rfl call97 (fun w _ hS => (by have := group_c n.op w; rw [hG] at this; exact this)) ?_
       have hfa : (!iO n.op && n.i != 0 || n.op != 17 && n.e != 0 || !grO n.op && n.g != 0) = false := by simp [iO, bne, h3, h17, hA, hG]; omega
       refine gUn uNot ?_; refine gMv ?_
       iterate 3 refine gNo ?_
       iterate 2 refine gPf ?_
       refine gE (GoH.condF rfl (gK (gS (gS (gR ?_))))); refine gFp underlying80 sizeOf3 0 ?_; refine gLo isAgg3 0 ?_
       refine gBx rfl rfl rfl rfl (bEqV (v := false) h3) ?_
       refine gMv ?_
       iterate 8 refine gNo ?_
       refine gPf ?_; refine gMv ?_; refine gFp underlying80 sizeOf3 0 ?_; refine gLo isAgg3 0 ?_
       refine gP rfl rfl rfl rfl rfl call90 (fun w _ hS => (by have := agent_c n.op w; rw [hA] at this; exact this)) ?_
       refine gMv ?_
       iterate 8 refine gNo ?_
       iterate 2 refine gPf ?_
       refine gE (GoH.condF rfl (gK (gS (gS (gR ?_))))); refine gFp underlying80 sizeOf3 0 ?_; refine gLo isAgg3 0 ?_
       refine gBx rfl rfl rfl rfl (bEqV (v := false) h17) ?_
       refine gMv ?_
       iterate 18 refine gNo ?_
       refine gPf ?_; refine gE (GoH.condF rfl (gK (gS (gS (gR ?_))))); refine gFp underlying80 sizeOf3 0 ?_; refine gLo isAgg3 0 ?_
       refine gP rfl rfl rfl rfl rfl call97 (fun w _ hS => (by have := group_c n.op w; rw [hG] at this; exact this)) ?_
       refine gMv ?_; refine gFp underlying80 sizeOf3 3 ?_; refine gLo isAgg3 0 ?_; refine gBi bLt ?_; refine gMv ?_
       refine gCs 163 (fun hc => ?_) fun hc => ?_
       ·
        have hb : n.g < 1 := by simpa using hc
        iterate 3 refine gNo ?_
        iterate 2 refine gPt ?_
        refine gE (GoH.condT rfl (gS (gR ?_))); refine gAs ?_; refine gE ?_
        refine gT func56 fun w' hS => ?_
        exact ⟨hS.ext, by rw [show nodeE n at_ = 2 from (nodeE_f hop hox hoy).trans (fldE_2 hfa (by simp [h3, h17, hA, hG]; omega))]; rfl⟩
       ·
        have hlg : ¬ n.g < 1 := by simpa using hc
        refine gFp underlying80 sizeOf3 3 ?_; refine gLo isAgg3 0 ?_; refine gBi bGe ?_; refine gPf ?_; refine gPt ?_; refine gE ?_
        refine gC (fun hc => ?_) fun hc => ?_
        ·
         have hb : 16 ≤ n.g := by simpa using hc
         refine gS (gR ?_); refine gAs ?_; refine gE ?_
         refine gT func56 fun w' hS => ?_
         exact ⟨hS.ext, by rw [show nodeE n at_ = 2 from (nodeE_f hop hox hoy).trans (fldE_2 hfa (by simp [h3, h17, hA, hG]; omega))]; rfl⟩
        ·
         have hhg : ¬ 16 ≤ n.g := by simpa using hc
         refine gK (gS (gR ?_)); refine gAs ?_; refine gE ?_
         refine gT func56 fun w' hS => ?_
         exact ⟨hS.ext, by rw [show nodeE n at_ = 0 from (nodeE_f hop hox hoy).trans (fldE_0 hfa (by simp [h3, h17, hA, hG]; omega))]; rfl⟩
set_option maxRecDepth 2000 in
theorem rnode_com (n : NV) (at_ : Int) (w : World) (hop : 1 ≤ n.op ∧ n.op ≤ 21) (hX : usX n.op = true) (hY : usY n.op = true) (h3 : (n.op == 3) = false) (hA : agO n.op = false) (h17 : (n.op == 17) = false) (hG : grO n.op = true) :
    Cn Tryd.prog 56 [n.v, .int .i64 at_] w (fun v _ => v = .int .i64 (nodeE n at_)) := by
  refine Cn.of func56 rfl rfl ?_
  refine gS (gR ?_)
  refine GoH.bx rfl rfl rfl rfl (fun b2 => ?_)
  refine gAs ?_; refine gE (gS (gS (gR ?_))); refine gFp underlying80 sizeOf3 0 ?_; refine gLo isAgg3 0 ?_
  refine gBx rfl rfl rfl rfl (bLtV (v := false) (decide_eq_false (by omega))) ?_
  refine gMv ?_; refine gFp underlying80 sizeOf3 0 ?_; refine gLo isAgg3 0 ?_
  refine gBx rfl rfl rfl rfl (bGtV (v := false) (decide_eq_false (by omega))) ?_
  refine gPf ?_; refine gE (GoH.condF rfl (gK (gS (gS (gR ?_))))); refine gFp underlying80 sizeOf3 0 ?_; refine gLo isAgg3 0 ?_
  refine gP rfl rfl rfl rfl rfl call92 (fun w _ hS => (by have := usesX_c n.op w; rw [hX] at this; exact this)) ?_
  refine gMv ?_; refine gFp underlying80 sizeOf3 4 ?_; refine gLo isAgg3 0 ?_; refine gBi bLt ?_; refine gMv ?_
  refine gCs 21 (fun hc => ?_) fun hc => ?_
  ·
   have hb : n.x < 0 := by simpa using hc
   iterate 4 refine gNo ?_
   iterate 2 refine gPt ?_
   refine gMv ?_
   iterate 9 refine gNo ?_
   refine gPt ?_; refine gE (GoH.condT rfl (gS (gR ?_))); refine gAs ?_; refine gE ?_
   refine gT func56 fun w' hS => ?_
   exact ⟨hS.ext, by rw [show nodeE n at_ = 3 from nodeE_x hop (by simp [opB, hX]; omega)]; rfl⟩
  ·
   have hlx : ¬ n.x < 0 := by simpa using hc
   refine gFp underlying80 sizeOf3 4 ?_; refine gLo isAgg3 0 ?_; refine gMv ?_; refine gBi bGe ?_; refine gPf ?_; refine gPt ?_; refine gMv ?_
   refine gCs 28 (fun hc => ?_) fun hc => ?_
   ·
    have hb : at_ ≤ n.x := by simpa using hc
    iterate 9 refine gNo ?_
    refine gPt ?_; refine gE (GoH.condT rfl (gS (gR ?_))); refine gAs ?_; refine gE ?_
    refine gT func56 fun w' hS => ?_
    exact ⟨hS.ext, by rw [show nodeE n at_ = 3 from nodeE_x hop (by simp [opB, hX]; omega)]; rfl⟩
   ·
    have hhx : ¬ at_ ≤ n.x := by simpa using hc
    have hox : opB (usX n.op) n.x at_ = true := by simp [opB, hX]; omega
    refine gFp underlying80 sizeOf3 0 ?_; refine gLo isAgg3 0 ?_
    refine gP rfl rfl rfl rfl rfl call92 (fun w _ hS => (by have := usesX_c n.op w; rw [hX] at this; exact this)) ?_
    refine gUn uNot ?_; refine gMv ?_
    iterate 3 refine gNo ?_
    iterate 2 refine gPf ?_
    refine gE (GoH.condF rfl (gK (gS (gS (gR ?_))))); refine gFp underlying80 sizeOf3 0 ?_; refine gLo isAgg3 0 ?_
    refine gP rfl rfl rfl rfl rfl call93 (fun w _ hS => (by have := usesY_c n.op w; rw [hY] at this; exact this)) ?_
    refine gMv ?_; refine gFp underlying80 sizeOf3 5 ?_; refine gLo isAgg3 0 ?_; refine gBi bLt ?_; refine gMv ?_
    refine gCs 46 (fun hc => ?_) fun hc => ?_
    ·
     have hb : n.y < 0 := by simpa using hc
     iterate 4 refine gNo ?_
     iterate 2 refine gPt ?_
     refine gMv ?_
     iterate 9 refine gNo ?_
     refine gPt ?_; refine gE (GoH.condT rfl (gS (gR ?_))); refine gAs ?_; refine gE ?_
     refine gT func56 fun w' hS => ?_
     exact ⟨hS.ext, by rw [show nodeE n at_ = 3 from nodeE_y hop (by simp [opB, hY]; omega)]; rfl⟩
    ·
     have hly : ¬ n.y < 0 := by simpa using hc
     refine gFp underlying80 sizeOf3 5 ?_; refine gLo isAgg3 0 ?_; refine gMv ?_; refine gBi bGe ?_; refine gPf ?_; refine gPt ?_; refine gMv ?_
     refine gCs 53 (fun hc => ?_) fun hc => ?_
     ·
      have hb : at_ ≤ n.y := by simpa using hc
      iterate 9 refine gNo ?_
      refine gPt ?_; refine gE (GoH.condT rfl (gS (gR ?_))); refine gAs ?_; refine gE ?_
      refine gT func56 fun w' hS => ?_
      exact ⟨hS.ext, by rw [show nodeE n at_ = 3 from nodeE_y hop (by simp [opB, hY]; omega)]; rfl⟩
     ·
      have hhy : ¬ at_ ≤ n.y := by simpa using hc
      have hoy : opB (usY n.op) n.y at_ = true := by simp [opB, hY]; omega
      refine gFp underlying80 sizeOf3 0 ?_; refine gLo isAgg3 0 ?_
      refine gP rfl rfl rfl rfl rfl call93 (fun w _ hS => (by have := usesY_c n.op w; rw [hY] at this; exact this)) ?_
      refine gUn uNot ?_; refine gMv ?_
      iterate 3 refine gNo ?_
      iterate 2 refine gPf ?_
      refine gE (GoH.condF rfl (gK (gS (gR ?_)))); refine gFp underlying80 sizeOf3 0 ?_; refine gLo isAgg3 0 ?_
      refine gBx rfl rfl rfl rfl (bEqV (v := false) h3) ?_
      refine gMv ?_; refine gFp underlying80 sizeOf3 0 ?_; refine gLo isAgg3 0 ?_
      refine gP rfl rfl rfl rfl rfl call90 (fun w _ hS => (by have := agent_c n.op w; rw [hA] at this; exact this)) ?_
      refine gPf ?_; refine gMv ?_; refine gFp underlying80 sizeOf3 0 ?_; refine gLo isAgg3 0 ?_
      refine gBx rfl rfl rfl rfl (bEqV (v := false) h17) ?_
      refine gPf ?_; refine gAs ?_; refine gE (gS (gS (gR ?_))); refine gMv ?_; refine gUn uNot ?_; refine gMv ?_; refine gFp underlying80 sizeOf3 1 ?_; refine gLo isAgg3 0 ?_; refine gBi bNe ?_; refine gPt ?_; refine gMv ?_
      refine gCs 84 (fun hc => ?_) fun hc => ?_
      ·
       have hb : n.i ≠ 0 := by simpa using hc
       iterate 8 refine gNo ?_
       refine gPt ?_; refine gMv ?_
       iterate 9 refine gNo ?_
       refine gPt ?_; refine gE (GoH.condT rfl (gS (gR ?_))); refine gAs ?_; refine gE ?_
       refine gT func56 fun w' hS => ?_
       exact ⟨hS.ext, by rw [show nodeE n at_ = 3 from (nodeE_f hop hox hoy).trans (fldE_3 (by simp [iO, bne, h3, h17, hA, hG]; omega))]; rfl⟩
      ·
       have hzi : n.i = 0 := by simpa using hc
       refine gFp underlying80 sizeOf3 0 ?_; refine gLo isAgg3 0 ?_
       refine gBx rfl rfl rfl rfl (bNeV (v := true) (by rw [bne, h17]; rfl)) ?_
       refine gMv ?_; refine gFp underlying80 sizeOf3 2 ?_; refine gLo isAgg3 0 ?_; refine gBi bNe ?_; refine gPt ?_; refine gPf ?_; refine gMv ?_
       refine gCs 94 (fun hc => ?_) fun hc => ?_
       ·
        have hb : n.e ≠ 0 := by simpa using hc
        iterate 9 refine gNo ?_
        refine gPt ?_; refine gE (GoH.condT rfl (gS (gR ?_))); refine gAs ?_; refine gE ?_
        refine gT func56 fun w' hS => ?_
        exact ⟨hS.ext, by rw [show nodeE n at_ = 3 from (nodeE_f hop hox hoy).trans (fldE_3 (by simp [iO, bne, h3, h17, hA, hG]; omega))]; rfl⟩
       ·
        have hze : n.e = 0 := by simpa using hc
        refine gFp underlying80 sizeOf3 0 ?_; refine gLo isAgg3 0 ?_
        refine gP rfl rfl rfl rfl rfl call97 (fun w _ hS => (by have := group_c n.op w; rw [hG] at this; exact this)) ?_
        have hfa : (!iO n.op && n.i != 0 || n.op != 17 && n.e != 0 || !grO n.op && n.g != 0) = false := by simp [iO, bne, h3, h17, hA, hG]; omega
        refine gUn uNot ?_; refine gMv ?_
        iterate 3 refine gNo ?_
        iterate 2 refine gPf ?_
        refine gE (GoH.condF rfl (gK (gS (gS (gR ?_))))); refine gFp underlying80 sizeOf3 0 ?_; refine gLo isAgg3 0 ?_
        refine gBx rfl rfl rfl rfl (bEqV (v := false) h3) ?_
        refine gMv ?_
        iterate 8 refine gNo ?_
        refine gPf ?_; refine gMv ?_; refine gFp underlying80 sizeOf3 0 ?_; refine gLo isAgg3 0 ?_
        refine gP rfl rfl rfl rfl rfl call90 (fun w _ hS => (by have := agent_c n.op w; rw [hA] at this; exact this)) ?_
        refine gMv ?_
        iterate 8 refine gNo ?_
        iterate 2 refine gPf ?_
        refine gE (GoH.condF rfl (gK (gS (gS (gR ?_))))); refine gFp underlying80 sizeOf3 0 ?_; refine gLo isAgg3 0 ?_
        refine gBx rfl rfl rfl rfl (bEqV (v := false) h17) ?_
        refine gMv ?_
        iterate 18 refine gNo ?_
        refine gPf ?_; refine gE (GoH.condF rfl (gK (gS (gS (gR ?_))))); refine gFp underlying80 sizeOf3 0 ?_; refine gLo isAgg3 0 ?_
        refine gP rfl rfl rfl rfl rfl call97 (fun w _ hS => (by have := group_c n.op w; rw [hG] at this; exact this)) ?_
        refine gMv ?_; refine gFp underlying80 sizeOf3 3 ?_; refine gLo isAgg3 0 ?_; refine gBi bLt ?_; refine gMv ?_
        refine gCs 163 (fun hc => ?_) fun hc => ?_
        ·
         have hb : n.g < 1 := by simpa using hc
         iterate 3 refine gNo ?_
         iterate 2 refine gPt ?_
         refine gE (GoH.condT rfl (gS (gR ?_))); refine gAs ?_; refine gE ?_
         refine gT func56 fun w' hS => ?_
         exact ⟨hS.ext, by rw [show nodeE n at_ = 2 from (nodeE_f hop hox hoy).trans (fldE_2 hfa (by simp [h3, h17, hA, hG]; omega))]; rfl⟩
        ·
         have hlg : ¬ n.g < 1 := by simpa using hc
         refine gFp underlying80 sizeOf3 3 ?_; refine gLo isAgg3 0 ?_; refine gBi bGe ?_; refine gPf ?_; refine gPt ?_; refine gE ?_
         refine gC (fun hc => ?_) fun hc => ?_
         ·
          have hb : 16 ≤ n.g := by simpa using hc
          refine gS (gR ?_); refine gAs ?_; refine gE ?_
          refine gT func56 fun w' hS => ?_
          exact ⟨hS.ext, by rw [show nodeE n at_ = 2 from (nodeE_f hop hox hoy).trans (fldE_2 hfa (by simp [h3, h17, hA, hG]; omega))]; rfl⟩
         ·
          have hhg : ¬ 16 ≤ n.g := by simpa using hc
          refine gK (gS (gR ?_)); refine gAs ?_; refine gE ?_
          refine gT func56 fun w' hS => ?_
          exact ⟨hS.ext, by rw [show nodeE n at_ = 0 from (nodeE_f hop hox hoy).trans (fldE_0 hfa (by simp [h3, h17, hA, hG]; omega))]; rfl⟩
set_option maxRecDepth 2000 in
theorem rnode_bel (n : NV) (at_ : Int) (w : World) (hop : 1 ≤ n.op ∧ n.op ≤ 21) (hX : usX n.op = true) (hY : usY n.op = true) (h3 : (n.op == 3) = false) (hA : agO n.op = true) (h17 : (n.op == 17) = false) (hG : grO n.op = false) :
    Cn Tryd.prog 56 [n.v, .int .i64 at_] w (fun v _ => v = .int .i64 (nodeE n at_)) := by
  refine Cn.of func56 rfl rfl ?_
  refine gS (gR ?_)
  refine GoH.bx rfl rfl rfl rfl (fun b2 => ?_)
  refine gAs ?_; refine gE (gS (gS (gR ?_))); refine gFp underlying80 sizeOf3 0 ?_; refine gLo isAgg3 0 ?_
  refine gBx rfl rfl rfl rfl (bLtV (v := false) (decide_eq_false (by omega))) ?_
  refine gMv ?_; refine gFp underlying80 sizeOf3 0 ?_; refine gLo isAgg3 0 ?_
  refine gBx rfl rfl rfl rfl (bGtV (v := false) (decide_eq_false (by omega))) ?_
  refine gPf ?_; refine gE (GoH.condF rfl (gK (gS (gS (gR ?_))))); refine gFp underlying80 sizeOf3 0 ?_; refine gLo isAgg3 0 ?_
  refine gP rfl rfl rfl rfl rfl call92 (fun w _ hS => (by have := usesX_c n.op w; rw [hX] at this; exact this)) ?_
  refine gMv ?_; refine gFp underlying80 sizeOf3 4 ?_; refine gLo isAgg3 0 ?_; refine gBi bLt ?_; refine gMv ?_
  refine gCs 21 (fun hc => ?_) fun hc => ?_
  ·
   have hb : n.x < 0 := by simpa using hc
   iterate 4 refine gNo ?_
   iterate 2 refine gPt ?_
   refine gMv ?_
   iterate 9 refine gNo ?_
   refine gPt ?_; refine gE (GoH.condT rfl (gS (gR ?_))); refine gAs ?_; refine gE ?_
   refine gT func56 fun w' hS => ?_
   exact ⟨hS.ext, by rw [show nodeE n at_ = 3 from nodeE_x hop (by simp [opB, hX]; omega)]; rfl⟩
  ·
   have hlx : ¬ n.x < 0 := by simpa using hc
   refine gFp underlying80 sizeOf3 4 ?_; refine gLo isAgg3 0 ?_; refine gMv ?_; refine gBi bGe ?_; refine gPf ?_; refine gPt ?_; refine gMv ?_
   refine gCs 28 (fun hc => ?_) fun hc => ?_
   ·
    have hb : at_ ≤ n.x := by simpa using hc
    iterate 9 refine gNo ?_
    refine gPt ?_; refine gE (GoH.condT rfl (gS (gR ?_))); refine gAs ?_; refine gE ?_
    refine gT func56 fun w' hS => ?_
    exact ⟨hS.ext, by rw [show nodeE n at_ = 3 from nodeE_x hop (by simp [opB, hX]; omega)]; rfl⟩
   ·
    have hhx : ¬ at_ ≤ n.x := by simpa using hc
    have hox : opB (usX n.op) n.x at_ = true := by simp [opB, hX]; omega
    refine gFp underlying80 sizeOf3 0 ?_; refine gLo isAgg3 0 ?_
    refine gP rfl rfl rfl rfl rfl call92 (fun w _ hS => (by have := usesX_c n.op w; rw [hX] at this; exact this)) ?_
    refine gUn uNot ?_; refine gMv ?_
    iterate 3 refine gNo ?_
    iterate 2 refine gPf ?_
    refine gE (GoH.condF rfl (gK (gS (gS (gR ?_))))); refine gFp underlying80 sizeOf3 0 ?_; refine gLo isAgg3 0 ?_
    refine gP rfl rfl rfl rfl rfl call93 (fun w _ hS => (by have := usesY_c n.op w; rw [hY] at this; exact this)) ?_
    refine gMv ?_; refine gFp underlying80 sizeOf3 5 ?_; refine gLo isAgg3 0 ?_; refine gBi bLt ?_; refine gMv ?_
    refine gCs 46 (fun hc => ?_) fun hc => ?_
    ·
     have hb : n.y < 0 := by simpa using hc
     iterate 4 refine gNo ?_
     iterate 2 refine gPt ?_
     refine gMv ?_
     iterate 9 refine gNo ?_
     refine gPt ?_; refine gE (GoH.condT rfl (gS (gR ?_))); refine gAs ?_; refine gE ?_
     refine gT func56 fun w' hS => ?_
     exact ⟨hS.ext, by rw [show nodeE n at_ = 3 from nodeE_y hop (by simp [opB, hY]; omega)]; rfl⟩
    ·
     have hly : ¬ n.y < 0 := by simpa using hc
     refine gFp underlying80 sizeOf3 5 ?_; refine gLo isAgg3 0 ?_; refine gMv ?_; refine gBi bGe ?_; refine gPf ?_; refine gPt ?_; refine gMv ?_
     refine gCs 53 (fun hc => ?_) fun hc => ?_
     ·
      have hb : at_ ≤ n.y := by simpa using hc
      iterate 9 refine gNo ?_
      refine gPt ?_; refine gE (GoH.condT rfl (gS (gR ?_))); refine gAs ?_; refine gE ?_
      refine gT func56 fun w' hS => ?_
      exact ⟨hS.ext, by rw [show nodeE n at_ = 3 from nodeE_y hop (by simp [opB, hY]; omega)]; rfl⟩
     ·
      have hhy : ¬ at_ ≤ n.y := by simpa using hc
      have hoy : opB (usY n.op) n.y at_ = true := by simp [opB, hY]; omega
      refine gFp underlying80 sizeOf3 0 ?_; refine gLo isAgg3 0 ?_
      refine gP rfl rfl rfl rfl rfl call93 (fun w _ hS => (by have := usesY_c n.op w; rw [hY] at this; exact this)) ?_
      refine gUn uNot ?_; refine gMv ?_
      iterate 3 refine gNo ?_
      iterate 2 refine gPf ?_
      refine gE (GoH.condF rfl (gK (gS (gR ?_)))); refine gFp underlying80 sizeOf3 0 ?_; refine gLo isAgg3 0 ?_
      refine gBx rfl rfl rfl rfl (bEqV (v := false) h3) ?_
      refine gMv ?_; refine gFp underlying80 sizeOf3 0 ?_; refine gLo isAgg3 0 ?_
      refine gP rfl rfl rfl rfl rfl call90 (fun w _ hS => (by have := agent_c n.op w; rw [hA] at this; exact this)) ?_
      refine gPf ?_; refine gMv ?_
      iterate 3 refine gNo ?_
      refine gPt ?_; refine gAs ?_; refine gE (gS (gS (gR ?_))); refine gMv ?_; refine gUn uNot ?_; refine gMv ?_
      iterate 3 refine gNo ?_
      refine gPf ?_; refine gMv ?_; refine gFp underlying80 sizeOf3 0 ?_; refine gLo isAgg3 0 ?_
      refine gBx rfl rfl rfl rfl (bNeV (v := true) (by rw [bne, h17]; rfl)) ?_
      refine gMv ?_; refine gFp underlying80 sizeOf3 2 ?_; refine gLo isAgg3 0 ?_; refine gBi bNe ?_; refine gPt ?_; refine gPf ?_; refine gMv ?_
      refine gCs 94 (fun hc => ?_) fun hc => ?_
      ·
       have hb : n.e ≠ 0 := by simpa using hc
       iterate 9 refine gNo ?_
       refine gPt ?_; refine gE (GoH.condT rfl (gS (gR ?_))); refine gAs ?_; refine gE ?_
       refine gT func56 fun w' hS => ?_
       exact ⟨hS.ext, by rw [show nodeE n at_ = 3 from (nodeE_f hop hox hoy).trans (fldE_3 (by simp [iO, bne, h3, h17, hA, hG]; omega))]; rfl⟩
      ·
       have hze : n.e = 0 := by simpa using hc
       refine gFp underlying80 sizeOf3 0 ?_; refine gLo isAgg3 0 ?_
       refine gP rfl rfl rfl rfl rfl call97 (fun w _ hS => (by have := group_c n.op w; rw [hG] at this; exact this)) ?_
       refine gUn uNot ?_; refine gMv ?_; refine gFp underlying80 sizeOf3 3 ?_; refine gLo isAgg3 0 ?_; refine gBi bNe ?_; refine gPt ?_; refine gPf ?_; refine gE ?_
       refine gC (fun hc => ?_) fun hc => ?_
       ·
        have hb : n.g ≠ 0 := by simpa using hc
        refine gS (gR ?_); refine gAs ?_; refine gE ?_
        refine gT func56 fun w' hS => ?_
        exact ⟨hS.ext, by rw [show nodeE n at_ = 3 from (nodeE_f hop hox hoy).trans (fldE_3 (by simp [iO, bne, h3, h17, hA, hG]; omega))]; rfl⟩
       ·
        have hzg : n.g = 0 := by simpa using hc
        have hfa : (!iO n.op && n.i != 0 || n.op != 17 && n.e != 0 || !grO n.op && n.g != 0) = false := by simp [iO, bne, h3, h17, hA, hG]; omega
        refine gK (gS (gS (gR ?_))); refine gFp underlying80 sizeOf3 0 ?_; refine gLo isAgg3 0 ?_
        refine gBx rfl rfl rfl rfl (bEqV (v := false) h3) ?_
        refine gMv ?_
        iterate 8 refine gNo ?_
        refine gPf ?_; refine gMv ?_; refine gFp underlying80 sizeOf3 0 ?_; refine gLo isAgg3 0 ?_
        refine gP rfl rfl rfl rfl rfl call90 (fun w _ hS => (by have := agent_c n.op w; rw [hA] at this; exact this)) ?_
        refine gMv ?_; refine gFp underlying80 sizeOf3 1 ?_; refine gLo isAgg3 0 ?_; refine gBi bLt ?_; refine gMv ?_
        refine gCs 126 (fun hc => ?_) fun hc => ?_
        ·
         have hb : n.i < 0 := by simpa using hc
         iterate 3 refine gNo ?_
         iterate 2 refine gPt ?_
         refine gPf ?_; refine gE (GoH.condT rfl (gS (gR ?_))); refine gAs ?_; refine gE ?_
         refine gT func56 fun w' hS => ?_
         exact ⟨hS.ext, by rw [show nodeE n at_ = 2 from (nodeE_f hop hox hoy).trans (fldE_2 hfa (by simp [h3, h17, hA, hG]; omega))]; rfl⟩
        ·
         have hli : ¬ n.i < 0 := by simpa using hc
         refine gFp underlying80 sizeOf3 1 ?_; refine gLo isAgg3 0 ?_; refine gBi bGe ?_; refine gPf ?_; refine gPt ?_; refine gPf ?_; refine gE ?_
         refine gC (fun hc => ?_) fun hc => ?_
         ·
          have hb : 4 ≤ n.i := by simpa using hc
          refine gS (gR ?_); refine gAs ?_; refine gE ?_
          refine gT func56 fun w' hS => ?_
          exact ⟨hS.ext, by rw [show nodeE n at_ = 2 from (nodeE_f hop hox hoy).trans (fldE_2 hfa (by simp [h3, h17, hA, hG]; omega))]; rfl⟩
         ·
          have hhi : ¬ 4 ≤ n.i := by simpa using hc
          refine gK (gS (gS (gR ?_))); refine gFp underlying80 sizeOf3 0 ?_; refine gLo isAgg3 0 ?_
          refine gBx rfl rfl rfl rfl (bEqV (v := false) h17) ?_
          refine gMv ?_
          iterate 18 refine gNo ?_
          refine gPf ?_; refine gE (GoH.condF rfl (gK (gS (gS (gR ?_))))); refine gFp underlying80 sizeOf3 0 ?_; refine gLo isAgg3 0 ?_
          refine gP rfl rfl rfl rfl rfl call97 (fun w _ hS => (by have := group_c n.op w; rw [hG] at this; exact this)) ?_
          refine gMv ?_
          iterate 8 refine gNo ?_
          refine gPf ?_; refine gE (GoH.condF rfl (gK (gS (gR ?_)))); refine gAs ?_; refine gE ?_
          refine gT func56 fun w' hS => ?_
          exact ⟨hS.ext, by rw [show nodeE n at_ = 0 from (nodeE_f hop hox hoy).trans (fldE_0 hfa (by simp [h3, h17, hA, hG]; omega))]; rfl⟩
set_option maxRecDepth 2000 in
theorem rnode_act (n : NV) (at_ : Int) (w : World) (hop : 1 ≤ n.op ∧ n.op ≤ 21) (hX : usX n.op = true) (hY : usY n.op = false) (h3 : (n.op == 3) = false) (hA : agO n.op = false) (h17 : (n.op == 17) = true) (hG : grO n.op = false) :
    Cn Tryd.prog 56 [n.v, .int .i64 at_] w (fun v _ => v = .int .i64 (nodeE n at_)) := by
  refine Cn.of func56 rfl rfl ?_
  refine gS (gR ?_)
  refine GoH.bx rfl rfl rfl rfl (fun b2 => ?_)
  refine gAs ?_; refine gE (gS (gS (gR ?_))); refine gFp underlying80 sizeOf3 0 ?_; refine gLo isAgg3 0 ?_
  refine gBx rfl rfl rfl rfl (bLtV (v := false) (decide_eq_false (by omega))) ?_
  refine gMv ?_; refine gFp underlying80 sizeOf3 0 ?_; refine gLo isAgg3 0 ?_
  refine gBx rfl rfl rfl rfl (bGtV (v := false) (decide_eq_false (by omega))) ?_
  refine gPf ?_; refine gE (GoH.condF rfl (gK (gS (gS (gR ?_))))); refine gFp underlying80 sizeOf3 0 ?_; refine gLo isAgg3 0 ?_
  refine gP rfl rfl rfl rfl rfl call92 (fun w _ hS => (by have := usesX_c n.op w; rw [hX] at this; exact this)) ?_
  refine gMv ?_; refine gFp underlying80 sizeOf3 4 ?_; refine gLo isAgg3 0 ?_; refine gBi bLt ?_; refine gMv ?_
  refine gCs 21 (fun hc => ?_) fun hc => ?_
  ·
   have hb : n.x < 0 := by simpa using hc
   iterate 4 refine gNo ?_
   iterate 2 refine gPt ?_
   refine gMv ?_
   iterate 9 refine gNo ?_
   refine gPt ?_; refine gE (GoH.condT rfl (gS (gR ?_))); refine gAs ?_; refine gE ?_
   refine gT func56 fun w' hS => ?_
   exact ⟨hS.ext, by rw [show nodeE n at_ = 3 from nodeE_x hop (by simp [opB, hX]; omega)]; rfl⟩
  ·
   have hlx : ¬ n.x < 0 := by simpa using hc
   refine gFp underlying80 sizeOf3 4 ?_; refine gLo isAgg3 0 ?_; refine gMv ?_; refine gBi bGe ?_; refine gPf ?_; refine gPt ?_; refine gMv ?_
   refine gCs 28 (fun hc => ?_) fun hc => ?_
   ·
    have hb : at_ ≤ n.x := by simpa using hc
    iterate 9 refine gNo ?_
    refine gPt ?_; refine gE (GoH.condT rfl (gS (gR ?_))); refine gAs ?_; refine gE ?_
    refine gT func56 fun w' hS => ?_
    exact ⟨hS.ext, by rw [show nodeE n at_ = 3 from nodeE_x hop (by simp [opB, hX]; omega)]; rfl⟩
   ·
    have hhx : ¬ at_ ≤ n.x := by simpa using hc
    have hox : opB (usX n.op) n.x at_ = true := by simp [opB, hX]; omega
    refine gFp underlying80 sizeOf3 0 ?_; refine gLo isAgg3 0 ?_
    refine gP rfl rfl rfl rfl rfl call92 (fun w _ hS => (by have := usesX_c n.op w; rw [hX] at this; exact this)) ?_
    refine gUn uNot ?_; refine gMv ?_
    iterate 3 refine gNo ?_
    iterate 2 refine gPf ?_
    refine gE (GoH.condF rfl (gK (gS (gS (gR ?_))))); refine gFp underlying80 sizeOf3 0 ?_; refine gLo isAgg3 0 ?_
    refine gP rfl rfl rfl rfl rfl call93 (fun w _ hS => (by have := usesY_c n.op w; rw [hY] at this; exact this)) ?_
    refine gMv ?_
    iterate 9 refine gNo ?_
    refine gPf ?_; refine gMv ?_; refine gFp underlying80 sizeOf3 0 ?_; refine gLo isAgg3 0 ?_
    refine gP rfl rfl rfl rfl rfl call93 (fun w _ hS => (by have := usesY_c n.op w; rw [hY] at this; exact this)) ?_
    refine gUn uNot ?_; refine gMv ?_; refine gFp underlying80 sizeOf3 5 ?_; refine gLo isAgg3 0 ?_; refine gBi bNe ?_; refine gPt ?_; refine gPf ?_; refine gE ?_
    refine gC (fun hc => ?_) fun hc => ?_
    ·
     have hb : n.y ≠ 0 := by simpa using hc
     refine gS (gR ?_); refine gAs ?_; refine gE ?_
     refine gT func56 fun w' hS => ?_
     exact ⟨hS.ext, by rw [show nodeE n at_ = 3 from nodeE_y hop (by simp [opB, hY]; omega)]; rfl⟩
    ·
     have hzy : n.y = 0 := by simpa using hc
     have hoy : opB (usY n.op) n.y at_ = true := by simp [opB, hY]; omega
     refine gK (gS (gR ?_)); refine gFp underlying80 sizeOf3 0 ?_; refine gLo isAgg3 0 ?_
     refine gBx rfl rfl rfl rfl (bEqV (v := false) h3) ?_
     refine gMv ?_; refine gFp underlying80 sizeOf3 0 ?_; refine gLo isAgg3 0 ?_
     refine gP rfl rfl rfl rfl rfl call90 (fun w _ hS => (by have := agent_c n.op w; rw [hA] at this; exact this)) ?_
     refine gPf ?_; refine gMv ?_; refine gFp underlying80 sizeOf3 0 ?_; refine gLo isAgg3 0 ?_
     refine gBx rfl rfl rfl rfl (bEqV (v := true) h17) ?_
     refine gPf ?_; refine gAs ?_; refine gE (gS (gS (gR ?_))); refine gMv ?_; refine gUn uNot ?_; refine gMv ?_
     iterate 3 refine gNo ?_
     refine gPf ?_; refine gMv ?_; refine gFp underlying80 sizeOf3 0 ?_; refine gLo isAgg3 0 ?_
     refine gBx rfl rfl rfl rfl (bNeV (v := false) (by rw [bne, h17]; rfl)) ?_
     refine gMv ?_
     iterate 3 refine gNo ?_
     iterate 2 refine gPf ?_
     refine gMv ?_; refine gFp underlying80 sizeOf3 0 ?_; refine gLo isAgg3 0 ?_
     refine gP rfl rfl rfl rfl rfl call97 (fun w _ hS => (by have := group_c n.op w; rw [hG] at this; exact this)) ?_
     refine gUn uNot ?_; refine gMv ?_; refine gFp underlying80 sizeOf3 3 ?_; refine gLo isAgg3 0 ?_; refine gBi bNe ?_; refine gPt ?_; refine gPf ?_; refine gE ?_
     refine gC (fun hc => ?_) fun hc => ?_
     ·
      have hb : n.g ≠ 0 := by simpa using hc
      refine gS (gR ?_); refine gAs ?_; refine gE ?_
      refine gT func56 fun w' hS => ?_
      exact ⟨hS.ext, by rw [show nodeE n at_ = 3 from (nodeE_f hop hox hoy).trans (fldE_3 (by simp [iO, bne, h3, h17, hA, hG]; omega))]; rfl⟩
     ·
      have hzg : n.g = 0 := by simpa using hc
      have hfa : (!iO n.op && n.i != 0 || n.op != 17 && n.e != 0 || !grO n.op && n.g != 0) = false := by simp [iO, bne, h3, h17, hA, hG]; omega
      refine gK (gS (gS (gR ?_))); refine gFp underlying80 sizeOf3 0 ?_; refine gLo isAgg3 0 ?_
      refine gBx rfl rfl rfl rfl (bEqV (v := false) h3) ?_
      refine gMv ?_
      iterate 8 refine gNo ?_
      refine gPf ?_; refine gMv ?_; refine gFp underlying80 sizeOf3 0 ?_; refine gLo isAgg3 0 ?_
      refine gP rfl rfl rfl rfl rfl call90 (fun w _ hS => (by have := agent_c n.op w; rw [hA] at this; exact this)) ?_
      refine gMv ?_
      iterate 8 refine gNo ?_
      iterate 2 refine gPf ?_
      refine gE (GoH.condF rfl (gK (gS (gS (gR ?_))))); refine gFp underlying80 sizeOf3 0 ?_; refine gLo isAgg3 0 ?_
      refine gBx rfl rfl rfl rfl (bEqV (v := true) h17) ?_
      refine gMv ?_; refine gFp underlying80 sizeOf3 1 ?_; refine gLo isAgg3 0 ?_; refine gBi bLt ?_; refine gMv ?_
      refine gCs 140 (fun hc => ?_) fun hc => ?_
      ·
       have hb : n.i < 0 := by simpa using hc
       iterate 3 refine gNo ?_
       refine gPt ?_; refine gMv ?_
       iterate 3 refine gNo ?_
       refine gPt ?_; refine gMv ?_
       iterate 3 refine gNo ?_
       iterate 2 refine gPt ?_
       refine gE (GoH.condT rfl (gS (gR ?_))); refine gAs ?_; refine gE ?_
       refine gT func56 fun w' hS => ?_
       exact ⟨hS.ext, by rw [show nodeE n at_ = 2 from (nodeE_f hop hox hoy).trans (fldE_2 hfa (by simp [h3, h17, hA, hG]; omega))]; rfl⟩
      ·
       have hli : ¬ n.i < 0 := by simpa using hc
       refine gFp underlying80 sizeOf3 1 ?_; refine gLo isAgg3 0 ?_; refine gBi bGe ?_; refine gPf ?_; refine gMv ?_
       refine gCs 145 (fun hc => ?_) fun hc => ?_
       ·
        have hb : 8 ≤ n.i := by simpa using hc
        iterate 3 refine gNo ?_
        refine gPt ?_; refine gMv ?_
        iterate 3 refine gNo ?_
        iterate 2 refine gPt ?_
        refine gE (GoH.condT rfl (gS (gR ?_))); refine gAs ?_; refine gE ?_
        refine gT func56 fun w' hS => ?_
        exact ⟨hS.ext, by rw [show nodeE n at_ = 2 from (nodeE_f hop hox hoy).trans (fldE_2 hfa (by simp [h3, h17, hA, hG]; omega))]; rfl⟩
       ·
        have hhi : ¬ 8 ≤ n.i := by simpa using hc
        refine gFp underlying80 sizeOf3 2 ?_; refine gLo isAgg3 0 ?_; refine gBi bLt ?_; refine gPf ?_; refine gMv ?_
        refine gCs 150 (fun hc => ?_) fun hc => ?_
        ·
         have hb : n.e < 0 := by simpa using hc
         iterate 3 refine gNo ?_
         iterate 2 refine gPt ?_
         refine gE (GoH.condT rfl (gS (gR ?_))); refine gAs ?_; refine gE ?_
         refine gT func56 fun w' hS => ?_
         exact ⟨hS.ext, by rw [show nodeE n at_ = 2 from (nodeE_f hop hox hoy).trans (fldE_2 hfa (by simp [h3, h17, hA, hG]; omega))]; rfl⟩
        ·
         have hle : ¬ n.e < 0 := by simpa using hc
         refine gFp underlying80 sizeOf3 2 ?_; refine gLo isAgg3 0 ?_; refine gBi bGe ?_; refine gPf ?_; refine gPt ?_; refine gE ?_
         refine gC (fun hc => ?_) fun hc => ?_
         ·
          have hb : 8 ≤ n.e := by simpa using hc
          refine gS (gR ?_); refine gAs ?_; refine gE ?_
          refine gT func56 fun w' hS => ?_
          exact ⟨hS.ext, by rw [show nodeE n at_ = 2 from (nodeE_f hop hox hoy).trans (fldE_2 hfa (by simp [h3, h17, hA, hG]; omega))]; rfl⟩
         ·
          have hhe : ¬ 8 ≤ n.e := by simpa using hc
          refine gK (gS (gS (gR ?_))); refine gFp underlying80 sizeOf3 0 ?_; refine gLo isAgg3 0 ?_
          refine gP rfl rfl rfl rfl rfl call97 (fun w _ hS => (by have := group_c n.op w; rw [hG] at this; exact this)) ?_
          refine gMv ?_
          iterate 8 refine gNo ?_
          refine gPf ?_; refine gE (GoH.condF rfl (gK (gS (gR ?_)))); refine gAs ?_; refine gE ?_
          refine gT func56 fun w' hS => ?_
          exact ⟨hS.ext, by rw [show nodeE n at_ = 0 from (nodeE_f hop hox hoy).trans (fldE_0 hfa (by simp [h3, h17, hA, hG]; omega))]; rfl⟩
theorem rnode_c (n : NV) (at_ : Int) (w : World) : Cn Tryd.prog 56 [n.v, .int .i64 at_] w (fun v _ => v = .int .i64 (nodeE n at_)) := by
  by_cases hop : 1 ≤ n.op ∧ n.op ≤ 21
  · obtain ⟨op, i, e, g, x, y⟩ := n
    dsimp only at hop
    have hcs : op = 1 ∨ op = 2 ∨ op = 3 ∨ op = 4 ∨ op = 5 ∨ op = 6 ∨ op = 7 ∨ op = 8 ∨ op = 9 ∨ op = 10 ∨ op = 11 ∨ op = 12 ∨ op = 13 ∨ op = 14 ∨ op = 15 ∨ op = 16 ∨ op = 17 ∨ op = 18 ∨ op = 19 ∨ op = 20 ∨ op = 21 := by omega
    rcases hcs with rfl | rfl | rfl | rfl | rfl | rfl | rfl | rfl | rfl | rfl | rfl | rfl | rfl | rfl | rfl | rfl | rfl | rfl | rfl | rfl | rfl
    · exact rnode_leaf ⟨1, i, e, g, x, y⟩ at_ w hop rfl rfl rfl rfl rfl rfl
    · exact rnode_leaf ⟨2, i, e, g, x, y⟩ at_ w hop rfl rfl rfl rfl rfl rfl
    · exact rnode_fact ⟨3, i, e, g, x, y⟩ at_ w hop rfl rfl rfl rfl rfl rfl
    · exact rnode_not ⟨4, i, e, g, x, y⟩ at_ w hop rfl rfl rfl rfl rfl rfl
    · exact rnode_bin ⟨5, i, e, g, x, y⟩ at_ w hop rfl rfl rfl rfl rfl rfl
    · exact rnode_bin ⟨6, i, e, g, x, y⟩ at_ w hop rfl rfl rfl rfl rfl rfl
    · exact rnode_bin ⟨7, i, e, g, x, y⟩ at_ w hop rfl rfl rfl rfl rfl rfl
    · exact rnode_bin ⟨8, i, e, g, x, y⟩ at_ w hop rfl rfl rfl rfl rfl rfl
    · exact rnode_know ⟨9, i, e, g, x, y⟩ at_ w hop rfl rfl rfl rfl rfl rfl
    · exact rnode_know ⟨10, i, e, g, x, y⟩ at_ w hop rfl rfl rfl rfl rfl rfl
    · exact rnode_evy ⟨11, i, e, g, x, y⟩ at_ w hop rfl rfl rfl rfl rfl rfl
    · exact rnode_evy ⟨12, i, e, g, x, y⟩ at_ w hop rfl rfl rfl rfl rfl rfl
    · exact rnode_com ⟨13, i, e, g, x, y⟩ at_ w hop rfl rfl rfl rfl rfl rfl
    · exact rnode_bel ⟨14, i, e, g, x, y⟩ at_ w hop rfl rfl rfl rfl rfl rfl
    · exact rnode_know ⟨15, i, e, g, x, y⟩ at_ w hop rfl rfl rfl rfl rfl rfl
    · exact rnode_bin ⟨16, i, e, g, x, y⟩ at_ w hop rfl rfl rfl rfl rfl rfl
    · exact rnode_act ⟨17, i, e, g, x, y⟩ at_ w hop rfl rfl rfl rfl rfl rfl
    · exact rnode_not ⟨18, i, e, g, x, y⟩ at_ w hop rfl rfl rfl rfl rfl rfl
    · exact rnode_bin ⟨19, i, e, g, x, y⟩ at_ w hop rfl rfl rfl rfl rfl rfl
    · exact rnode_not ⟨20, i, e, g, x, y⟩ at_ w hop rfl rfl rfl rfl rfl rfl
    · exact rnode_bin ⟨21, i, e, g, x, y⟩ at_ w hop rfl rfl rfl rfl rfl rfl
  · refine Cn.of func56 rfl rfl ?_
    refine gS (gR ?_)
    refine GoH.bx rfl rfl rfl rfl (fun b2 => ?_)
    refine gAs ?_; refine gE (gS (gS (gR ?_))); refine gFp underlying80 sizeOf3 0 ?_; refine gLo isAgg3 0 ?_; refine gBi bLt ?_; refine gMv ?_
    refine gCs 9 (fun hc => ?_) fun hc => ?_
    ·
     have h1 : n.op < 1 := by simpa using hc
     iterate 3 refine gNo ?_
     refine gPt ?_; refine gE (GoH.condT rfl (gS (gR ?_))); refine gAs ?_; refine gE ?_
     refine gT func56 fun w' hS => ?_
     exact ⟨hS.ext, by rw [nodeE_op hop]; rfl⟩
    ·
     have h1 : ¬ n.op < 1 := by simpa using hc
     refine gFp underlying80 sizeOf3 0 ?_; refine gLo isAgg3 0 ?_
     refine gBx rfl rfl rfl rfl (bGtV (v := true) (decide_eq_true (by omega))) ?_
     refine gPf ?_; refine gE (GoH.condT rfl (gS (gR ?_))); refine gAs ?_; refine gE ?_
     refine gT func56 fun w' hS => ?_
     exact ⟨hS.ext, by rw [nodeE_op hop]; rfl⟩
end Go.Proofs.YtlihcmknfdckdaaDoor
