/- The rows of these laws and their tied cards are proved: for every input the law returns true and each argument reads as before, the listed variables being tied to the text. -/
import Derived.Test.YtpbhoidjmpjfpaaGreatDoorXP25
import Derived.Test.YtpbhoidjmpjfpaaGreatDoorXP48
import Derived.Test.YtpbhoidjmpjfpaaGreatDoorXP49
set_option maxRecDepth 100000
set_option maxHeartbeats 40000000
namespace Go.Proofs.YtpbhoidjmpjfpaaGreatDoor
open Go Go.RowKit Go.ChangeShapes Go.WideShapes Go.ChangeAt Go.Proofs.Wit
theorem topProvedHolds_lifted(os:Os)(started:os.Started)(H:Type)(enc:TypeId×Value->H):
  ReturnsInHanded {} Tryz.checked os 5 .any (λw args=>(Rows.topProvedHoldsSpec.pre enc Tryz.prog Tryz.f5 [] false w args/\laidMetH Tryz.prog Rows.topProvedHoldsRow.laid w)/\sizedMet enc Tryz.prog Tryz.f5 (OpenSpec.ofChange Rows.topProvedHoldsSpec) false w args)
   (Rows.topProvedHoldsSpec.post enc Tryz.prog Tryz.f5 false true false false):=by
 refine returnsInHanded_of_change_and (C:=Tryz.checked) (X:=λw _=>laidMetH Tryz.prog Rows.topProvedHoldsRow.laid w) (λ_ _ _ hh h=>h.of_heap hh) VB started (by kernel_rfl) Tryz.func5
  (ChangeSpec.witness_shaped (enc:=enc) (C:=Tryz.checked) (os:=os) (X:=λw _=>laidMetH Tryz.prog Rows.topProvedHoldsRow.laid w) false (World.doorLaid Tryz.prog 600 os) #[.int .u8 0,.slice none 0 0,.agg #[.int .i64 0,.slice none 0 0,.slice none 0 0]] 8 rfl (World.shaped_of_RefB (by kernel_rfl) (by kernel_rfl)) (by kernel_rfl) (by kernel_rfl) (by kernel_rfl) (Jd os _)) ?_;intro W base args ds gs before hval0 hW _ _ hL _;have hval:∀(j:Nat) t v,Tryz.f5.params[j]?=some t->args[j]?=some v->Value.okWide Tryz.prog W .any base t v:=hval0;have hW':=hW;obtain⟨p,q,hA0,hV,rfl,_,_⟩:=hW;have hA:DataW.TrodAll enc Tryz.prog W 0 (λ_=>true) true Tryz.f5.params.toList args.toList ds p:=hA0;have hT:=Cu hL;have hlt:∀x∈p,x.block<W.heap.size:=λx hx=>by simpa using hW'.lt x (by simp[hx])
 have hAk:=hA;rw[Tryz.params5]at hA hval;obtain⟨v0,v1,v2,d0,d1,d2,p0,p1,p2,rfl,rfl,rfl,h0,h1,h2⟩:=trodAll_three hA;obtain⟨rfl,rfl⟩:=trodVars_none hV;obtain⟨x0,rfl,rfl,hp0,wf0⟩:=open_int Tryz.underlying5 (hval 0 5 v0 rfl rfl) h0;obtain⟨a1,f1,c1,rfl,hs1,hl1,hc1⟩:=Fg Tryz.underlying22 Tryz.underlying88 (by kernel_rfl) (by kernel_rfl) Tryz.underlying3 Tryz.underlying3 Tryz.underlying3 Tryz.underlying3 Tryz.underlying3 Tryz.underlying3 h1 (hval 1 22 v1 rfl rfl);obtain⟨m2,rfl,hm2⟩:=Fh Tryz.underlying50 (by kernel_rfl) (by kernel_rfl) Tryz.underlying3 Tryz.underlying47 Tryz.underlying48 Tryz.underlying47 Tryz.underlying43 (by kernel_rfl) (by kernel_rfl) (hval 2 50 v2 rfl rfl) h2;have fin:=wc x0 (by have:=bounds_u8 wf0;omega) a1 c1 f1 m2 W hT.1 hT.2 hs1 hl1 hm2;refine Calls.mono fin (λe W' ⟨v,hv,he,hr⟩=>?_);subst hv;subst hr;have hb:Below W.heap.size W W':=he.toBelow;refine⟨_,rfl,⟨_,_,_,[],_,[],hW',trodAll_mk1 (shut_bool Tryz.underlying4 true),tT RG hb (by kernel_rfl) hAk hlt,rfl,hb.frame _,λh=>by cases h⟩⟩
theorem topProvedHolds_holds:Rows.TopProvedHoldsSaid:=
 OpenClaim.holds_of_wide 5 Tryz.f5 rfl rfl rfl rfl rfl rfl rfl ⟨rfl,rfl,rfl,rfl,rfl⟩ rfl rfl rfl rfl rfl (by kernel_rfl) Tryz.func5 (by kernel_rfl)
  (of_decide_eq_true (by kernel_rfl)) (by unfold Func.isWrapper;first|(rw[if_pos (by decide+kernel)];kernel_rfl)|(rw[if_neg (by decide+kernel)];exact⟨rfl,rfl⟩))
  (λos started H enc _=>topProvedHolds_lifted os started H enc)
theorem topProvedHolds_card:Rows.TopProvedHoldsCardSaid:=
 Claim7.holds_tied_plain_at .later [] [.data, .funcs] true (true, "9fccb4db1411cebe5681f02f29b7379d371fa8a03eee3f29298c99c040bbe7e1") false topProvedHolds_holds (fun _ h => by cases h) (by kernel_rfl) (fun _ h => by cases h) topProvedHolds_row_tie rfl ⟨rfl, rfl⟩ (by kernel_rfl) rfl
  (λf fn hf hfn=>by
   obtain rfl : f = 5 := Option.some.inj ((show Tryz.prog.funcNamed "witting/wittingtop.TopProvedHolds" = some 5 by kernel_rfl).symm.trans hf) |>.symm
   obtain rfl:fn=Tryz.f5:=(Option.some.inj (Tryz.func5.symm.trans hfn)).symm
   exact⟨by kernel_rfl,λj t ht=>by
    rw[Tryz.params5]at ht;have hm:t∈[5,22,50]:=by simpa using Array.mem_of_getElem? ht
    have hall:([5,22,50].all λu=>!Tryz.prog.wantsStandIn u)=true:=by kernel_rfl
    exact(show Tryz.prog.wantsStandIn t=false by simpa using List.all_eq_true.1 hall t hm)⟩)
  (by kernel_rfl)
end Go.Proofs.YtpbhoidjmpjfpaaGreatDoor
