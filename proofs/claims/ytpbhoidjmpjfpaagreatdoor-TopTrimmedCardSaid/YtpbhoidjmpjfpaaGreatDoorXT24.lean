/- What calls return, each under its own conditions. -/
import Derived.Test.YtpbhoidjmpjfpaaGreatDoorXT22
import Derived.Test.YtpbhoidjmpjfpaaGreatDoorXT23
import Derived.Test.YtpbhoidjmpjfpaaGreatDoorTie
import Derived.Test.YtpbhoidjmpjfpaaGreatDoorCards
set_option maxRecDepth 100000
set_option maxHeartbeats 40000000
namespace Go.Proofs.YtpbhoidjmpjfpaaGreatDoor
open Go Go.RowKit Go.ChangeShapes Go.WideShapes Go.ChangeAt Go.Proofs.Wit
theorem MF:ownKnob Tryz.prog.godebug=none:=by kernel_rfl
theorem EN:laidOutB Tryz.prog=true:=by kernel_rfl
theorem zO (os : Os) (args : Array Value) : laidMetH Tryz.prog [("witting/hilbert.axioms", Rows.laid_witting_hilbert_axioms)] ((World.doorLaid Tryz.prog 600 os).forCall (fun _ _ => 0) ⟨#[], args, []⟩).memory :=
 laidMetH_of_parts3 (fuel:=8) (laidMet_of_run' 8 (by kernel_rfl) (by kernel_rfl)) (by kernel_rfl) (by kernel_rfl)
theorem uf {W : World} (h : laidMetH Tryz.prog [("witting/hilbert.axioms", Rows.laid_witting_hilbert_axioms)] W) : LJ W := by
 obtain⟨g,t,cs,fuel,p,hg,ht,hv,hd⟩:=h.funcs (List.mem_singleton.2 rfl)
 obtain rfl := Option.some.inj ((show Tryz.prog.globalNamed "witting/hilbert.axioms" = some DK by kernel_rfl).symm.trans hg)
 obtain rfl:=Option.some.inj ((show(Tryz.prog.globals[DK]?).map (·.type)=some 160 by kernel_rfl).symm.trans ht);have hd':DataW.trod (funcToken Tryz.prog) Tryz.prog W 0 (λ_=>true) true fuel 160 cs.toList=some (.agg [.nil,.held [119,105,116,116,105,110,103,47,104,105,108,98,101,114,116,46,116,97,117,116,111,108,111,103,121],.held [119,105,116,116,105,110,103,47,104,105,108,98,101,114,116,46,100,105,115,116,114,105,98,117,116,101,115],.held [119,105,116,116,105,110,103,47,104,105,108,98,101,114,116,46,97,120,105,111,109,115,36,49],.held [119,105,116,116,105,110,103,47,104,105,108,98,101,114,116,46,97,120,105,111,109,115,36,50],.held [119,105,116,116,105,110,103,47,104,105,108,98,101,114,116,46,105,110,116,114,111,115,112,101,99,116,115],.held [119,105,116,116,105,110,103,47,104,105,108,98,101,114,116,46,97,120,105,111,109,115,36,51],.held [119,105,116,116,105,110,103,47,104,105,108,98,101,114,116,46,100,117,97,108],.held [119,105,116,116,105,110,103,47,104,105,108,98,101,114,116,46,101,118,101,114,121,98,111,100,121],.held [119,105,116,116,105,110,103,47,104,105,108,98,101,114,116,46,102,105,120,101,100]],p):=hd;have key:=zE Tryz.underlying160 (by kernel_rfl) Tryz.underlying107 hd';have k1:W.cell? ⟨DK,1,none⟩=some (.func (.func (pS 1)) #[] #[]):=by
  obtain⟨v,q,hc,m,hr⟩:=key 1 _ rfl;obtain rfl:=func_of_trod (f0:=198) Tryz.underlying107 (by kernel_rfl) hr;rw[World.var?_cell hg hv 1,<-Array.getElem?_toList,hc];rfl
 have k2:W.cell? ⟨DK,2,none⟩=some (.func (.func (pS 2)) #[] #[]):=by
  obtain⟨v,q,hc,m,hr⟩:=key 2 _ rfl;obtain rfl:=func_of_trod (f0:=199) Tryz.underlying107 (by kernel_rfl) hr;rw[World.var?_cell hg hv 2,<-Array.getElem?_toList,hc];rfl
 have k3:W.cell? ⟨DK,3,none⟩=some (.func (.func (pS 3)) #[] #[]):=by
  obtain⟨v,q,hc,m,hr⟩:=key 3 _ rfl;obtain rfl:=func_of_trod (f0:=200) Tryz.underlying107 (by kernel_rfl) hr;rw[World.var?_cell hg hv 3,<-Array.getElem?_toList,hc];rfl
 have k4:W.cell? ⟨DK,4,none⟩=some (.func (.func (pS 4)) #[] #[]):=by
  obtain⟨v,q,hc,m,hr⟩:=key 4 _ rfl;obtain rfl:=func_of_trod (f0:=203) Tryz.underlying107 (by kernel_rfl) hr;rw[World.var?_cell hg hv 4,<-Array.getElem?_toList,hc];rfl
 have k5:W.cell? ⟨DK,5,none⟩=some (.func (.func (pS 5)) #[] #[]):=by
  obtain⟨v,q,hc,m,hr⟩:=key 5 _ rfl;obtain rfl:=func_of_trod (f0:=205) Tryz.underlying107 (by kernel_rfl) hr;rw[World.var?_cell hg hv 5,<-Array.getElem?_toList,hc];rfl
 have k6:W.cell? ⟨DK,6,none⟩=some (.func (.func (pS 6)) #[] #[]):=by
  obtain⟨v,q,hc,m,hr⟩:=key 6 _ rfl;obtain rfl:=func_of_trod (f0:=206) Tryz.underlying107 (by kernel_rfl) hr;rw[World.var?_cell hg hv 6,<-Array.getElem?_toList,hc];rfl
 have k7:W.cell? ⟨DK,7,none⟩=some (.func (.func (pS 7)) #[] #[]):=by
  obtain⟨v,q,hc,m,hr⟩:=key 7 _ rfl;obtain rfl:=func_of_trod (f0:=208) Tryz.underlying107 (by kernel_rfl) hr;rw[World.var?_cell hg hv 7,<-Array.getElem?_toList,hc];rfl
 have k8:W.cell? ⟨DK,8,none⟩=some (.func (.func (pS 8)) #[] #[]):=by
  obtain⟨v,q,hc,m,hr⟩:=key 8 _ rfl;obtain rfl:=func_of_trod (f0:=209) Tryz.underlying107 (by kernel_rfl) hr;rw[World.var?_cell hg hv 8,<-Array.getElem?_toList,hc];rfl
 have k9:W.cell? ⟨DK,9,none⟩=some (.func (.func (pS 9)) #[] #[]):=by
  obtain⟨v,q,hc,m,hr⟩:=key 9 _ rfl;obtain rfl:=func_of_trod (f0:=210) Tryz.underlying107 (by kernel_rfl) hr;rw[World.var?_cell hg hv 9,<-Array.getElem?_toList,hc];rfl
 refine⟨?_,λr h1 h9=>?_⟩;have h0:=k1;unfold World.cell? at h0;split at h0;rename_i hb;exact(Array.getElem?_eq_some_iff.1 hb).1;cases h0;rcases(by omega:r=1\/r=2\/r=3\/r=4\/r=5\/r=6\/r=7\/r=8\/r=9)with rfl|rfl|rfl|rfl|rfl|rfl|rfl|rfl|rfl<;>assumption
end Go.Proofs.YtpbhoidjmpjfpaaGreatDoor
