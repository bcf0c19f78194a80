/- What calls of the program return, under the conditions that each theorem states. -/
import Derived.Test.YtlihcmknfdckdaaDoorR16
import Derived.Test.YtlihcmknfdckdaaDoorR17
import Derived.Test.YtlihcmknfdckdaaDoorR04
namespace Go.Proofs.YtlihcmknfdckdaaDoor
open Go.RowKit Go.Proofs.Wit
/-! Hilbert's proofs: parts of formulas -/
def PartP (w w' : World) (v : Value) (o : Option Tr) : Prop := ∃ (nd : NV) (qa : Option Nat) (ca : Nat) (fa : List NV) (spa : List Value) (qb : Option Nat) (cb : Nat) (fb : List NV) (spb : List Value),
  v = .tuple #[nd.v, osv qa fa.length ca, osv qb fb.length cb] ∧ (qa = none → fa.length = 0 ∧ ca = 0) ∧ (qb = none → fb.length = 0 ∧ cb = 0) ∧ NewH w w' [(qa, obN 80 fa spa), (qb, obN 80 fb spb)] ∧
  Bf fa (kdA o) ∧ Bf fb (kdB o) ∧ nd.op = opP o ∧ nd.i = fldI o ∧ nd.g = fldG o
set_option maxRecDepth 8000 in
theorem part_c (a : Option Addr) (ca : Nat) (f : List NV) (o : Option Tr) (w : World) (ha : FA w a f) (hf : Bf f o) :
    Cn Tryd.prog 59 [.slice a f.length ca] w (fun v w' => PartP w w' v o) := by
  have hl := hf.max
  have hfl := hf.le
  refine Cn.of Tryd.func59 rfl rfl ?_
  refine gS (gR ?_)
  refine GoH.alc rfl rfl rfl (fun _ => Tryd.zeroValue80 _) (fun b2 => ?_)
  iterate 2 refine gAs ?_
  refine gE (gS (gS (gR ?_))); refine gMv ?_; refine gBl Tryd.underlying23 ?_; refine gBi bEq ?_; refine gE ?_
  refine GoH.cond rfl (fun hc => ?_) (fun hc => ?_)
  ·
   obtain rfl : o = none := by
     cases o with
     | none => rfl
     | some t => have := Cf.pos (show Cf f t from hf); have : f.length = 0 := by simpa using hc
                 omega
   refine GoH.retH Tryd.f59 Tryd.func59 _ (resH.cell rfl Tryd.isAgg80 Tryd.sizeOf80 (j := 0) rfl rfl (resH.tmp rfl (resH.tmp rfl resH.nil))) (fun w' hS => ?_)
   exact ⟨hS.ext, ⟨0, 0, 0, 0, 0, 0⟩, none, 0, [], [], none, 0, [], [], rfl, fun _ => ⟨rfl, rfl⟩, fun _ => ⟨rfl, rfl⟩, NewH.nn2, rfl, rfl, rfl, rfl, rfl⟩
  ·
   have hp : 0 < f.length := by
     have : ¬ f.length = 0 := by simpa using hc
     omega
   obtain ⟨t, rfl⟩ : ∃ t, o = some t := by
     cases o with
     | none => rw [show f = [] from hf] at hp; exact absurd hp (by decide)
     | some t => exact ⟨t, rfl⟩
   have hF : Cf f t := hf
   have hlt : f.length - 1 < f.length := by omega
   refine gK (gS (gR ?_))
   iterate 2 refine gMv ?_
   refine gBl Tryd.underlying23 ?_
   refine GoH.v (Vop.bin rfl rfl rfl rfl (bSubE (c := ((f.length - 1 : Nat) : Int)) (by omega) (by omega)) rfl) ?_
   refine GoH.v (Vop.idxN rfl rfl rfl rfl rfl Tryd.underlying23 Tryd.sizeOf80 ⟨_, (ha).at_⟩ (flat_len (enc := NV.cells) (sz := 6) (fun _ => rfl)) (by decide) ((f.length - 1)) ⟨rfl, hlt⟩) ?_
   refine GoH.v (Vop.ldN (cs := NV.cells f[f.length - 1]) rfl rfl rfl rfl Tryd.isAgg80 Tryd.sizeOf80 (fun w _ hS => Sl.many (enc := NV.cells) (sz := 6) (ha.ex0 hS.ext).at_ (fun _ => rfl) hlt)) ?_
   obtain ⟨hfo, hfi, hfg⟩ := hF.flds hlt
   refine GoH.stB rfl rfl rfl rfl Tryd.sizeOf80 0 rfl rfl rfl rfl ?_
   refine gE (gS ?_)
   refine GoH.seqJ (α := {z : Option Nat × Nat × List NV × List Value // (z.1 = none → z.2.2.1.length = 0 ∧ z.2.1 = 0) ∧ Bf z.2.2.1 (kdA (some t))}) (fun z => [(0, .slice a f.length ca), (2, .pointer (some ⟨b2, 0, none⟩)), (3, osv z.1.1 z.1.2.2.1.length z.1.2.1), (4, .slice none 0 0)]) (fun z => [(z.1.1, obN 80 z.1.2.2.1 z.1.2.2.2), (some b2, .cells (NV.cells f[f.length - 1]).toArray 80 (0, 0))]) (fun z => ?_) (fun K => ?_)
   · -- what comes behind
    obtain ⟨⟨qa, capa, fa, spa⟩, hqa, hBa⟩ := z
    dsimp only at hqa hBa ⊢
    refine gS ?_
    refine GoH.seqJ (α := {z : Option Nat × Nat × List NV × List Value // (z.1 = none → z.2.2.1.length = 0 ∧ z.2.1 = 0) ∧ Bf z.2.2.1 (kdB (some t))}) (fun z => [(0, .slice a f.length ca), (2, .pointer (some ⟨b2, 0, none⟩)), (3, osv qa fa.length capa), (4, osv z.1.1 z.1.2.2.1.length z.1.2.1)]) (fun z => [(z.1.1, obN 80 z.1.2.2.1 z.1.2.2.2), (qa, obN 80 fa spa), (some b2, .cells (NV.cells f[f.length - 1]).toArray 80 (0, 0))]) (fun z => ?_) (fun K2 => ?_)
    · -- what comes behind
     obtain ⟨⟨qb, capb, fb, spb⟩, hqb, hBb⟩ := z
     dsimp only at hqb hBb ⊢
     refine gS (gR ?_)
     refine GoH.v (Vop.ldB rfl rfl rfl rfl Tryd.isAgg80 2 rfl Tryd.sizeOf80 rfl) ?_
     iterate 2 refine gMv ?_
     refine GoH.stB rfl rfl rfl rfl Tryd.sizeOf80 2 rfl rfl rfl rfl ?_
     iterate 2 refine gAs ?_
     refine gE ?_
     refine GoH.retH Tryd.f59 Tryd.func59 _ (resH.cell rfl Tryd.isAgg80 Tryd.sizeOf80 (j := 2) rfl rfl (resH.tmp rfl (resH.tmp rfl resH.nil))) (fun w' hS => ?_)
     exact ⟨hS.ext, f[f.length - 1], qa, capa, fa, spa, qb, capb, fb, spb, rfl, hqa, hqb, ((NewH.of (hS.pickT (pre := [_, _]) (pre' := [(qa, obN 80 fa spa), (qb, obN 80 fb spb)]) (HR := [_]) [1, 0] (by decide) rfl)).sub (.cons_cons _ (.cons_cons _ (.cons _ .slnil)))), hBa, hBb, hfo, hfi, hfg⟩
    · -- the first part
     refine gS (gR ?_); refine gFp Tryd.underlying80 Tryd.sizeOf3 0 ?_; refine gLo Tryd.isAgg3 1 ?_; refine gE (gB (gS (gS (gR ?_)))); refine gBi bEq ?_; refine gAs ?_; refine gE ?_
     refine GoH.cond rfl (fun hc => ?_) (fun hc => ?_)
     ·
      have e5 : f[f.length - 1].op = 5 := by simpa using hc
      refine gK ?_
      refine GoH.cond rfl (fun _ => ?_) (fun hc => by exfalso; simp [e5] at hc)
      refine gR ?_; refine gMv ?_; refine gFp Tryd.underlying80 Tryd.sizeOf3 5 ?_; refine gLo Tryd.isAgg3 1 ?_
      refine GoH.callM _ rfl rfl rfl rfl rfl (fun _ _ => Tryd.call78 _ _) (fun w _ hS => (by exact fsub_c a ca f f[f.length - 1].y w (ha.ex0 hS.ext) hl)) ?_
      rintro v w1 w2 Y' hS he ho
      obtain ⟨qb, capb, spb, rfl, hqb, hcapb, hS'⟩ := gainN hS he ho
      refine ⟨_, hS', ?_⟩
      refine gAs ?_; refine gE (gIb ?_)
      exact K2 ⟨(qb, capb, _, spb), hqb, hF.kidB hlt (by rw [← hfo]; omega)⟩ _ _ (by repeat (first | exact SubF.nil | refine SubF.cons rfl ?_)) (fun _ _ hS => hS)
     ·
      have e5 : ¬ f[f.length - 1].op = 5 := by simpa using hc
      refine gS (gR ?_); refine gBi bEq ?_; refine gAs ?_; refine gE ?_
      refine GoH.cond rfl (fun hc => ?_) (fun hc => ?_)
      ·
       have e6 : f[f.length - 1].op = 6 := by simpa using hc
       refine gK ?_
       refine GoH.cond rfl (fun _ => ?_) (fun hc => by exfalso; simp [e6] at hc)
       refine gR ?_; refine gMv ?_; refine gFp Tryd.underlying80 Tryd.sizeOf3 5 ?_; refine gLo Tryd.isAgg3 1 ?_
       refine GoH.callM _ rfl rfl rfl rfl rfl (fun _ _ => Tryd.call78 _ _) (fun w _ hS => (by exact fsub_c a ca f f[f.length - 1].y w (ha.ex0 hS.ext) hl)) ?_
       rintro v w1 w2 Y' hS he ho
       obtain ⟨qb, capb, spb, rfl, hqb, hcapb, hS'⟩ := gainN hS he ho
       refine ⟨_, hS', ?_⟩
       refine gAs ?_; refine gE (gIb ?_)
       exact K2 ⟨(qb, capb, _, spb), hqb, hF.kidB hlt (by rw [← hfo]; omega)⟩ _ _ (by repeat (first | exact SubF.nil | refine SubF.cons rfl ?_)) (fun _ _ hS => hS)
      ·
       have e6 : ¬ f[f.length - 1].op = 6 := by simpa using hc
       refine gS (gR ?_); refine gBi bEq ?_; refine gAs ?_; refine gE ?_
       refine GoH.cond rfl (fun hc => ?_) (fun hc => ?_)
       ·
        have e7 : f[f.length - 1].op = 7 := by simpa using hc
        refine gK ?_
        refine GoH.cond rfl (fun _ => ?_) (fun hc => by exfalso; simp [e7] at hc)
        refine gR ?_; refine gMv ?_; refine gFp Tryd.underlying80 Tryd.sizeOf3 5 ?_; refine gLo Tryd.isAgg3 1 ?_
        refine GoH.callM _ rfl rfl rfl rfl rfl (fun _ _ => Tryd.call78 _ _) (fun w _ hS => (by exact fsub_c a ca f f[f.length - 1].y w (ha.ex0 hS.ext) hl)) ?_
        rintro v w1 w2 Y' hS he ho
        obtain ⟨qb, capb, spb, rfl, hqb, hcapb, hS'⟩ := gainN hS he ho
        refine ⟨_, hS', ?_⟩
        refine gAs ?_; refine gE (gIb ?_)
        exact K2 ⟨(qb, capb, _, spb), hqb, hF.kidB hlt (by rw [← hfo]; omega)⟩ _ _ (by repeat (first | exact SubF.nil | refine SubF.cons rfl ?_)) (fun _ _ hS => hS)
       ·
        have e7 : ¬ f[f.length - 1].op = 7 := by simpa using hc
        refine gS (gR ?_); refine gBi bEq ?_; refine gAs ?_; refine gE ?_
        refine GoH.cond rfl (fun hc => ?_) (fun hc => ?_)
        ·
         have e8 : f[f.length - 1].op = 8 := by simpa using hc
         refine gK ?_
         refine GoH.cond rfl (fun _ => ?_) (fun hc => by exfalso; simp [e8] at hc)
         refine gR ?_; refine gMv ?_; refine gFp Tryd.underlying80 Tryd.sizeOf3 5 ?_; refine gLo Tryd.isAgg3 1 ?_
         refine GoH.callM _ rfl rfl rfl rfl rfl (fun _ _ => Tryd.call78 _ _) (fun w _ hS => (by exact fsub_c a ca f f[f.length - 1].y w (ha.ex0 hS.ext) hl)) ?_
         rintro v w1 w2 Y' hS he ho
         obtain ⟨qb, capb, spb, rfl, hqb, hcapb, hS'⟩ := gainN hS he ho
         refine ⟨_, hS', ?_⟩
         refine gAs ?_; refine gE (gIb ?_)
         exact K2 ⟨(qb, capb, _, spb), hqb, hF.kidB hlt (by rw [← hfo]; omega)⟩ _ _ (by repeat (first | exact SubF.nil | refine SubF.cons rfl ?_)) (fun _ _ hS => hS)
        ·
         have e8 : ¬ f[f.length - 1].op = 8 := by simpa using hc
         refine gR ?_; refine gBi bEq ?_; refine gAs ?_; refine gE ?_
         refine GoH.cond rfl (fun hc => ?_) (fun hc => ?_)
         ·
          have e13 : f[f.length - 1].op = 13 := by simpa using hc
          refine gR ?_; refine gMv ?_; refine gFp Tryd.underlying80 Tryd.sizeOf3 5 ?_; refine gLo Tryd.isAgg3 1 ?_
          refine GoH.callM _ rfl rfl rfl rfl rfl (fun _ _ => Tryd.call78 _ _) (fun w _ hS => (by exact fsub_c a ca f f[f.length - 1].y w (ha.ex0 hS.ext) hl)) ?_
          rintro v w1 w2 Y' hS he ho
          obtain ⟨qb, capb, spb, rfl, hqb, hcapb, hS'⟩ := gainN hS he ho
          refine ⟨_, hS', ?_⟩
          refine gAs ?_; refine gE (gIb ?_)
          exact K2 ⟨(qb, capb, _, spb), hqb, hF.kidB hlt (by rw [← hfo]; omega)⟩ _ _ (by repeat (first | exact SubF.nil | refine SubF.cons rfl ?_)) (fun _ _ hS => hS)
         ·
          have e13 : ¬ f[f.length - 1].op = 13 := by simpa using hc
          refine gK (gIb ?_)
          exact K2 ⟨(none, 0, [], []), fun _ => ⟨rfl, rfl⟩, by rw [kdB_none (by rw [← hfo]; omega)]; rfl⟩ _ _ (by repeat (first | exact SubF.nil | refine SubF.cons rfl ?_)) (fun _ _ hS => hS.addNone)
   · -- the first part
    refine gS (gR ?_); refine gFp Tryd.underlying80 Tryd.sizeOf3 0 ?_; refine gLo Tryd.isAgg3 0 ?_; refine gBi bGe ?_; refine gE ?_
    refine GoH.cond rfl (fun hc => ?_) (fun hc => ?_)
    ·
     have h4 : 4 ≤ f[f.length - 1].op := by simpa using hc
     refine gR ?_; refine gMv ?_; refine gFp Tryd.underlying80 Tryd.sizeOf3 4 ?_; refine gLo Tryd.isAgg3 0 ?_
     refine GoH.callM _ rfl rfl rfl rfl rfl (fun _ _ => Tryd.call78 _ _) (fun w _ hS => (by exact fsub_c a ca f f[f.length - 1].x w (ha.ex0 hS.ext) hl)) ?_
     rintro v w1 w2 Y' hS he ho
     obtain ⟨qa, capa, spa, rfl, hqa, hcapa, hS'⟩ := gainN hS he ho
     refine ⟨_, hS', ?_⟩
     refine gAs ?_; refine gE ?_
     exact K ⟨(qa, capa, _, spa), hqa, hF.kidA hlt (by rw [← hfo]; exact h4)⟩ _ _ (by repeat (first | exact SubF.nil | refine SubF.cons rfl ?_)) (fun _ _ hS => hS)
    ·
     have h4 : ¬ 4 ≤ f[f.length - 1].op := by simpa using hc
     refine gK ?_
     exact K ⟨(none, 0, [], []), fun _ => ⟨rfl, rfl⟩, by rw [kdA_none hF.ok (by rw [← hfo]; exact h4)]; rfl⟩ _ _ (by repeat (first | exact SubF.nil | refine SubF.cons rfl ?_)) (fun _ _ hS => hS.addNone)
end Go.Proofs.YtlihcmknfdckdaaDoor
