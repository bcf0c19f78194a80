/- The rows of these laws and their tied cards are proved: for every input the law returns true and each argument reads as before, the listed variables being tied to the text. -/
import Derived.Test.YtnfmegcknckahaaGreatDoorXO26
import Derived.Test.YtnfmegcknckahaaGreatDoorXO45
import Derived.Test.YtnfmegcknckahaaGreatDoorXO25
import Derived.Test.YtnfmegcknckahaaGreatDoorXO30
import Derived.Test.YtnfmegcknckahaaGreatDoorXO23
import Derived.Test.YtnfmegcknckahaaGreatDoorXO46
import Derived.Test.YtnfmegcknckahaaGreatDoorXO03
import Derived.Test.YtnfmegcknckahaaGreatDoorXO04
namespace Go.Proofs.YtnfmegcknckahaaGreatDoor
open Go Go.RowKit Go.ChangeShapes Go.WideShapes Go.ChangeAt Go.Proofs.Wit
set_option maxRecDepth 100000 in
theorem extractOpposites_lifted (os:Os) (started:os.Started) (H:Type) (enc:TypeId×Value→H):
  ReturnsInHanded {} Tryz.checked os 7 .any (fun w args=>(Rows.extractOppositesSpec.pre enc Tryz.prog Tryz.f7 [] false w args∧laidMetH Tryz.prog Rows.extractOppositesRow.laid w)∧sizedMet enc Tryz.prog Tryz.f7 (OpenSpec.ofChange Rows.extractOppositesSpec) false w args)
   (Rows.extractOppositesSpec.post enc Tryz.prog Tryz.f7 false true false false):=by
 refine returnsInHanded_of_change_and (C:=Tryz.checked) (X:=fun w _=>laidMetH Tryz.prog Rows.extractOppositesRow.laid w) (fun _ _ _ hh h=>h.of_heap hh) GD started (by kernel_rfl) Tryz.func7
  (ChangeSpec.witness_shaped (enc:=enc) (C:=Tryz.checked) (os:=os) (X:=fun w _=>laidMetH Tryz.prog Rows.extractOppositesRow.laid w) false (World.doorLaid Tryz.prog 600 os) #[.slice none 0 0,.int .u8 0] 8 rfl (World.shaped_of_RefB (by kernel_rfl) (by kernel_rfl)) (by kernel_rfl) (by kernel_rfl) (by kernel_rfl) (zd os _)) ?_
 intro W base args ds gs before hval0 hW _ _ hL _
 have hval:∀(j:Nat) t v,Tryz.f7.params[j]?=some t→args[j]?=some v→Value.okWide Tryz.prog W .any base t v:=hval0
 have hW':=hW
 obtain ⟨p,q,hA0,hV,rfl,_,_⟩:=hW
 have hA:DataW.TrodAll enc Tryz.prog W 0 (fun _=>true) true Tryz.f7.params.toList args.toList ds p:=hA0
 have hT:=tT hL
 have hlt:∀x∈p,x.block<W.heap.size:=fun x hx=>by simpa using hW'.lt x (by simp [hx])
 have hAk:=hA
 rw [Tryz.params7] at hA hval
 obtain ⟨v0,v1,d0,d1,p0,p1,rfl,rfl,rfl,h0,h1⟩:=trodAll_two hA
 obtain ⟨rfl,rfl⟩:=trodVars_none hV
 obtain ⟨a0,f0,c0,rfl,hs0,hl0,hc0⟩:=uq Tryz.underlying22 Tryz.underlying66 (by kernel_rfl) (by kernel_rfl) Tryz.underlying3 Tryz.underlying3 Tryz.underlying3 Tryz.underlying3 Tryz.underlying3 Tryz.underlying3 h0 (hval 0 22 v0 rfl rfl)
 obtain ⟨x1,rfl,rfl,hp1,wf1⟩:=open_int Tryz.underlying5 (hval 1 5 v1 rfl rfl) h1
 have fin:=mi a0 c0 f0 x1 (by have:=bounds_u8 wf1;omega) W hT hs0 hl0
 refine Calls.mono fin (fun e W' ⟨v,hv,he,hr⟩=>?_)
 subst hv;subst hr
 have hb:Below W.heap.size W W':=he.toBelow
 refine ⟨_,rfl,⟨_,_,_,[],_,[],hW',trodAll_mk1 (shut_bool Tryz.underlying4 true),lU Dp hb (by kernel_rfl) hAk hlt,rfl,hb.frame _,fun h=>by cases h⟩⟩
theorem extractOpposites_holds:Rows.ExtractOppositesSaid:=
 OpenClaim.holds_of_wide 7 Tryz.f7 rfl rfl rfl rfl rfl rfl rfl ⟨rfl,rfl,rfl,rfl,rfl⟩ rfl rfl rfl rfl rfl (by kernel_rfl) Tryz.func7 (by kernel_rfl)
  (of_decide_eq_true (by kernel_rfl)) (by unfold Func.isWrapper;first|(rw [if_pos (by decide+kernel)];kernel_rfl)|(rw [if_neg (by decide+kernel)];exact ⟨rfl,rfl⟩))
  (fun os started H enc _=>extractOpposites_lifted os started H enc)
theorem extractOpposites_card:Rows.ExtractOppositesCardSaid:=
 Claim7.holds_tied_plain_at .later [] [.funcs] true (true, "7c6d6e8b62eec391a7cfa7bf7f9e543e722f40b9e9782902cea4bcb38d923ccf") false extractOpposites_holds (fun _ h => by cases h) (by kernel_rfl) (fun _ h => by cases h) extractOpposites_row_tie rfl ⟨rfl, rfl⟩ (by kernel_rfl) rfl
  (fun f fn hf hfn=>by
   obtain rfl : f = 7 := Option.some.inj ((show Tryz.prog.funcNamed "witting/wittinglaw51.ExtractOpposites" = some 7 by kernel_rfl).symm.trans hf) |>.symm
   obtain rfl:fn=Tryz.f7:=(Option.some.inj (Tryz.func7.symm.trans hfn)).symm
   exact ⟨by kernel_rfl,fun j t ht=>by
    rw [Tryz.params7] at ht
    have hm:t∈[22,5]:=by simpa using Array.mem_of_getElem? ht
    have hall:([22,5].all fun u=>!Tryz.prog.wantsStandIn u)=true:=by kernel_rfl
    exact (show Tryz.prog.wantsStandIn t=false by simpa using List.all_eq_true.1 hall t hm)⟩)
  (by kernel_rfl)
end Go.Proofs.YtnfmegcknckahaaGreatDoor
