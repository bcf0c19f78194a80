/- The rows of these laws and their tied cards are proved: for every input the law returns true and each argument reads as before, the listed variables being tied to the text. -/
import Derived.Test.YtaamcaiglooemaaGreatDoorXP26
import Derived.Test.YtaamcaiglooemaaGreatDoorXP50
import Derived.Test.YtaamcaiglooemaaGreatDoorXP51
set_option maxRecDepth 100000
set_option maxHeartbeats 40000000
namespace Go.Proofs.YtaamcaiglooemaaGreatDoor
open Go Go.RowKit Go.ChangeShapes Go.WideShapes Go.ChangeAt Go.Proofs.Wit
theorem extractProofs_lifted(os:Os)(started:os.Started)(H:Type)(enc:TypeId×Value->H):
  ReturnsInHanded {} Tryz.checked os 4 .any (λw args=>(Rows.extractProofsSpec.pre enc Tryz.prog Tryz.f4 [] false w args/\laidMetH Tryz.prog Rows.extractProofsRow.laid w)/\sizedMet enc Tryz.prog Tryz.f4 (OpenSpec.ofChange Rows.extractProofsSpec) false w args)
   (Rows.extractProofsSpec.post enc Tryz.prog Tryz.f4 false true false false):=by
 refine returnsInHanded_of_change_and (C:=Tryz.checked) (X:=λw _=>laidMetH Tryz.prog Rows.extractProofsRow.laid w) (λ_ _ _ hh h=>h.of_heap hh) Pe started (by kernel_rfl) Tryz.func4
  (ChangeSpec.witness_shaped (enc:=enc) (C:=Tryz.checked) (os:=os) (X:=λw _=>laidMetH Tryz.prog Rows.extractProofsRow.laid w) false (World.doorLaid Tryz.prog 600 os) #[.agg #[.int .i64 0,.slice none 0 0,.slice none 0 0]] 8 rfl (World.shaped_of_RefB (by kernel_rfl) (by kernel_rfl)) (by kernel_rfl) (by kernel_rfl) (by kernel_rfl) (GP os _)) ?_;intro W base args ds gs before hval0 hW _ _ hL _;have hval:∀(j:Nat) t v,Tryz.f4.params[j]?=some t->args[j]?=some v->Value.okWide Tryz.prog W .any base t v:=hval0;have hW':=hW;obtain⟨p,q,hA0,hV,rfl,_,_⟩:=hW;have hA:DataW.TrodAll enc Tryz.prog W 0 (λ_=>true) true Tryz.f4.params.toList args.toList ds p:=hA0;have hT:=AY hL;have hlt:∀x∈p,x.block<W.heap.size:=λx hx=>by simpa using hW'.lt x (by simp[hx])
 have hAk:=hA;rw[Tryz.params4]at hA hval;obtain⟨v0,d0,rfl,rfl,h0⟩:=trodAll_one hA;obtain⟨rfl,rfl⟩:=trodVars_none hV;obtain⟨l0,A0,cA0,b0,B0,cB0,ss0,rfl,hA0,hB0,hl0,hs0⟩:=FC Tryz.underlying31 (by kernel_rfl) (by kernel_rfl) Tryz.underlying3 Tryz.underlying22 Tryz.underlying29 Tryz.underlying72 (by kernel_rfl) (by kernel_rfl) Tryz.underlying3 Tryz.underlying3 Tryz.underlying3 Tryz.underlying3 Tryz.underlying3 Tryz.underlying3 Tryz.underlying47 (by kernel_rfl) (by kernel_rfl) Tryz.underlying44 Tryz.underlying3 Tryz.underlying3 Tryz.underlying3 Tryz.underlying45 Tryz.underlying3 (by kernel_rfl) (hval 0 31 v0 rfl rfl) h0;have fin:=vv l0 A0 cA0 b0 B0 cB0 ss0 W hT hA0 hB0;refine Calls.mono fin (λe W' ⟨v,hv,he,hr⟩=>?_);subst hv;subst hr;have hb:Below W.heap.size W W':=he.toBelow;refine⟨_,rfl,⟨_,_,_,[],_,[],hW',trodAll_mk1 (shut_bool Tryz.underlying4 true),sy LU hb (by kernel_rfl) hAk hlt,rfl,hb.frame _,λh=>by cases h⟩⟩
theorem extractProofs_holds:Rows.ExtractProofsSaid:=
 OpenClaim.holds_of_wide 4 Tryz.f4 rfl rfl rfl rfl rfl rfl rfl ⟨rfl,rfl,rfl,rfl,rfl⟩ rfl rfl rfl rfl rfl (by kernel_rfl) Tryz.func4 (by kernel_rfl)
  (of_decide_eq_true (by kernel_rfl)) (by unfold Func.isWrapper;first|(rw[if_pos (by decide+kernel)];kernel_rfl)|(rw[if_neg (by decide+kernel)];exact⟨rfl,rfl⟩))
  (λos started H enc _=>extractProofs_lifted os started H enc)
theorem extractProofs_card:Rows.ExtractProofsCardSaid:=
 Claim7.holds_tied_plain_at .later [] [.funcs] true (true, "9fa89a74c0ff8c80da3064be698dc73bd81e054504ded8ca1a25b2a2bf2f75f8") false extractProofs_holds (fun _ h => by cases h) (by kernel_rfl) (fun _ h => by cases h) extractProofs_row_tie rfl ⟨rfl, rfl⟩ (by kernel_rfl) rfl
  (λf fn hf hfn=>by
   obtain rfl : f = 4 := Option.some.inj ((show Tryz.prog.funcNamed "witting/wittinglaw51.ExtractProofs" = some 4 by kernel_rfl).symm.trans hf) |>.symm
   obtain rfl:fn=Tryz.f4:=(Option.some.inj (Tryz.func4.symm.trans hfn)).symm
   exact⟨by kernel_rfl,λj t ht=>by
    rw[Tryz.params4]at ht;have hm:t∈[31]:=by simpa using Array.mem_of_getElem? ht
    have hall:([31].all λu=>!Tryz.prog.wantsStandIn u)=true:=by kernel_rfl
    exact(show Tryz.prog.wantsStandIn t=false by simpa using List.all_eq_true.1 hall t hm)⟩)
  (by kernel_rfl)
end Go.Proofs.YtaamcaiglooemaaGreatDoor
