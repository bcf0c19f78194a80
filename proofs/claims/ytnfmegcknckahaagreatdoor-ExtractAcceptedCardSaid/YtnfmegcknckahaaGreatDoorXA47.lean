/- The rows of these laws and their tied cards are proved: for every input the law returns true and each argument reads as before, the listed variables being tied to the text. -/
import Derived.Test.YtnfmegcknckahaaGreatDoorXA26
import Derived.Test.YtnfmegcknckahaaGreatDoorXA45
import Derived.Test.YtnfmegcknckahaaGreatDoorXA46
import Derived.Test.YtnfmegcknckahaaGreatDoorXA23
import Derived.Test.YtnfmegcknckahaaGreatDoorXA03
import Derived.Test.YtnfmegcknckahaaGreatDoorXA04
namespace Go.Proofs.YtnfmegcknckahaaGreatDoor
open Go Go.RowKit Go.ChangeShapes Go.WideShapes Go.ChangeAt Go.Proofs.Wit
set_option maxRecDepth 100000 in
theorem extractAccepted_lifted (os:Os) (started:os.Started) (H:Type) (enc:TypeId×Value→H):
  ReturnsInHanded {} Tryz.checked os 9 .any (fun w args=>(Rows.extractAcceptedSpec.pre enc Tryz.prog Tryz.f9 [] false w args∧laidMetH Tryz.prog Rows.extractAcceptedRow.laid w)∧sizedMet enc Tryz.prog Tryz.f9 (OpenSpec.ofChange Rows.extractAcceptedSpec) false w args)
   (Rows.extractAcceptedSpec.post enc Tryz.prog Tryz.f9 false true false false):=by
 refine returnsInHanded_of_change_and (C:=Tryz.checked) (X:=fun w _=>laidMetH Tryz.prog Rows.extractAcceptedRow.laid w) (fun _ _ _ hh h=>h.of_heap hh) GO started (by kernel_rfl) Tryz.func9
  (ChangeSpec.witness_shaped (enc:=enc) (C:=Tryz.checked) (os:=os) (X:=fun w _=>laidMetH Tryz.prog Rows.extractAcceptedRow.laid w) false (World.doorLaid Tryz.prog 600 os) #[.agg #[.int .i64 0,.slice none 0 0,.slice none 0 0]] 8 rfl (World.shaped_of_RefB (by kernel_rfl) (by kernel_rfl)) (by kernel_rfl) (by kernel_rfl) (by kernel_rfl) (zq os _)) ?_
 intro W base args ds gs before hval0 hW _ _ hL _
 have hval:∀(j:Nat) t v,Tryz.f9.params[j]?=some t→args[j]?=some v→Value.okWide Tryz.prog W .any base t v:=hval0
 have hW':=hW
 obtain ⟨p,q,hA0,hV,rfl,_,_⟩:=hW
 have hA:DataW.TrodAll enc Tryz.prog W 0 (fun _=>true) true Tryz.f9.params.toList args.toList ds p:=hA0
 have hT:=tZ hL
 have hlt:∀x∈p,x.block<W.heap.size:=fun x hx=>by simpa using hW'.lt x (by simp [hx])
 have hAk:=hA
 rw [Tryz.params9] at hA hval
 obtain ⟨v0,d0,rfl,rfl,h0⟩:=trodAll_one hA
 obtain ⟨rfl,rfl⟩:=trodVars_none hV
 obtain ⟨l0,A0,cA0,b0,B0,cB0,ss0,rfl,hA0,hB0,hl0,hs0⟩:=yq Tryz.underlying25 (by kernel_rfl) (by kernel_rfl) Tryz.underlying3 Tryz.underlying22 Tryz.underlying23 Tryz.underlying66 (by kernel_rfl) (by kernel_rfl) Tryz.underlying3 Tryz.underlying3 Tryz.underlying3 Tryz.underlying3 Tryz.underlying3 Tryz.underlying3 Tryz.underlying41 (by kernel_rfl) (by kernel_rfl) Tryz.underlying38 Tryz.underlying3 Tryz.underlying3 Tryz.underlying3 Tryz.underlying39 Tryz.underlying3 (by kernel_rfl) (hval 0 25 v0 rfl rfl) h0
 have fin:=ng l0 A0 cA0 b0 B0 cB0 ss0 W hT hA0 hB0
 refine Calls.mono fin (fun e W' ⟨v,hv,he,hr⟩=>?_)
 subst hv;subst hr
 have hb:Below W.heap.size W W':=he.toBelow
 refine ⟨_,rfl,⟨_,_,_,[],_,[],hW',trodAll_mk1 (shut_bool Tryz.underlying4 true),l4 DG hb (by kernel_rfl) hAk hlt,rfl,hb.frame _,fun h=>by cases h⟩⟩
theorem extractAccepted_holds:Rows.ExtractAcceptedSaid:=
 OpenClaim.holds_of_wide 9 Tryz.f9 rfl rfl rfl rfl rfl rfl rfl ⟨rfl,rfl,rfl,rfl,rfl⟩ rfl rfl rfl rfl rfl (by kernel_rfl) Tryz.func9 (by kernel_rfl)
  (of_decide_eq_true (by kernel_rfl)) (by unfold Func.isWrapper;first|(rw [if_pos (by decide+kernel)];kernel_rfl)|(rw [if_neg (by decide+kernel)];exact ⟨rfl,rfl⟩))
  (fun os started H enc _=>extractAccepted_lifted os started H enc)
theorem extractAccepted_card:Rows.ExtractAcceptedCardSaid:=
 Claim7.holds_tied_plain_at .later [] [.funcs] true (true, "7c6d6e8b62eec391a7cfa7bf7f9e543e722f40b9e9782902cea4bcb38d923ccf") false extractAccepted_holds (fun _ h => by cases h) (by kernel_rfl) (fun _ h => by cases h) extractAccepted_row_tie rfl ⟨rfl, rfl⟩ (by kernel_rfl) rfl
  (fun f fn hf hfn=>by
   obtain rfl : f = 9 := Option.some.inj ((show Tryz.prog.funcNamed "witting/wittinglaw51.ExtractAccepted" = some 9 by kernel_rfl).symm.trans hf) |>.symm
   obtain rfl:fn=Tryz.f9:=(Option.some.inj (Tryz.func9.symm.trans hfn)).symm
   exact ⟨by kernel_rfl,fun j t ht=>by
    rw [Tryz.params9] at ht
    have hm:t∈[25]:=by simpa using Array.mem_of_getElem? ht
    have hall:([25].all fun u=>!Tryz.prog.wantsStandIn u)=true:=by kernel_rfl
    exact (show Tryz.prog.wantsStandIn t=false by simpa using List.all_eq_true.1 hall t hm)⟩)
  (by kernel_rfl)
end Go.Proofs.YtnfmegcknckahaaGreatDoor
