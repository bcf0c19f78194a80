/- What calls return, each under its own conditions. -/
import Derived.Test.YtpbhoidjmpjfpaaGreatDoorXP23
import Derived.Test.YtpbhoidjmpjfpaaGreatDoorXP24
import Derived.Test.YtpbhoidjmpjfpaaGreatDoorTie
import Derived.Test.YtpbhoidjmpjfpaaGreatDoorCards
import Derived.LaidSub
set_option maxRecDepth 100000
set_option maxHeartbeats 40000000
namespace Go.Proofs.YtpbhoidjmpjfpaaGreatDoor
open Go Go.RowKit Go.ChangeShapes Go.WideShapes Go.ChangeAt Go.Proofs.Wit
theorem VB:ownKnob Tryz.prog.godebug=none:=by kernel_rfl
theorem RG:laidOutB Tryz.prog=true:=by kernel_rfl
theorem Er {W : World} (h : laidMetH Tryz.prog [("witting/hilbert.axioms", Rows.laid_witting_hilbert_axioms)] W) : SM W := by
 obtain⟨g,t,cs,fuel,p,hg,ht,hv,hd⟩:=h.funcs (List.mem_singleton.2 rfl)
 obtain rfl := Option.some.inj ((show Tryz.prog.globalNamed "witting/hilbert.axioms" = some JD by kernel_rfl).symm.trans hg)
 obtain rfl:=Option.some.inj ((show(Tryz.prog.globals[JD]?).map (·.type)=some 160 by kernel_rfl).symm.trans ht);have hd':DataW.trod (funcToken Tryz.prog) Tryz.prog W 0 (λ_=>true) true fuel 160 cs.toList=some (.agg [.nil,.held [119,105,116,116,105,110,103,47,104,105,108,98,101,114,116,46,116,97,117,116,111,108,111,103,121],.held [119,105,116,116,105,110,103,47,104,105,108,98,101,114,116,46,100,105,115,116,114,105,98,117,116,101,115],.held [119,105,116,116,105,110,103,47,104,105,108,98,101,114,116,46,97,120,105,111,109,115,36,49],.held [119,105,116,116,105,110,103,47,104,105,108,98,101,114,116,46,97,120,105,111,109,115,36,50],.held [119,105,116,116,105,110,103,47,104,105,108,98,101,114,116,46,105,110,116,114,111,115,112,101,99,116,115],.held [119,105,116,116,105,110,103,47,104,105,108,98,101,114,116,46,97,120,105,111,109,115,36,51],.held [119,105,116,116,105,110,103,47,104,105,108,98,101,114,116,46,100,117,97,108],.held [119,105,116,116,105,110,103,47,104,105,108,98,101,114,116,46,101,118,101,114,121,98,111,100,121],.held [119,105,116,116,105,110,103,47,104,105,108,98,101,114,116,46,102,105,120,101,100]],p):=hd;have key:=DX Tryz.underlying160 (by kernel_rfl) Tryz.underlying107 hd';have k1:W.cell? ⟨JD,1,none⟩=some (.func (.func (sU 1)) #[] #[]):=by
  obtain⟨v,q,hc,m,hr⟩:=key 1 _ rfl;obtain rfl:=func_of_trod (f0:=198) Tryz.underlying107 (by kernel_rfl) hr;rw[World.var?_cell hg hv 1,<-Array.getElem?_toList,hc];rfl
 have k2:W.cell? ⟨JD,2,none⟩=some (.func (.func (sU 2)) #[] #[]):=by
  obtain⟨v,q,hc,m,hr⟩:=key 2 _ rfl;obtain rfl:=func_of_trod (f0:=199) Tryz.underlying107 (by kernel_rfl) hr;rw[World.var?_cell hg hv 2,<-Array.getElem?_toList,hc];rfl
 have k3:W.cell? ⟨JD,3,none⟩=some (.func (.func (sU 3)) #[] #[]):=by
  obtain⟨v,q,hc,m,hr⟩:=key 3 _ rfl;obtain rfl:=func_of_trod (f0:=200) Tryz.underlying107 (by kernel_rfl) hr;rw[World.var?_cell hg hv 3,<-Array.getElem?_toList,hc];rfl
 have k4:W.cell? ⟨JD,4,none⟩=some (.func (.func (sU 4)) #[] #[]):=by
  obtain⟨v,q,hc,m,hr⟩:=key 4 _ rfl;obtain rfl:=func_of_trod (f0:=203) Tryz.underlying107 (by kernel_rfl) hr;rw[World.var?_cell hg hv 4,<-Array.getElem?_toList,hc];rfl
 have k5:W.cell? ⟨JD,5,none⟩=some (.func (.func (sU 5)) #[] #[]):=by
  obtain⟨v,q,hc,m,hr⟩:=key 5 _ rfl;obtain rfl:=func_of_trod (f0:=205) Tryz.underlying107 (by kernel_rfl) hr;rw[World.var?_cell hg hv 5,<-Array.getElem?_toList,hc];rfl
 have k6:W.cell? ⟨JD,6,none⟩=some (.func (.func (sU 6)) #[] #[]):=by
  obtain⟨v,q,hc,m,hr⟩:=key 6 _ rfl;obtain rfl:=func_of_trod (f0:=206) Tryz.underlying107 (by kernel_rfl) hr;rw[World.var?_cell hg hv 6,<-Array.getElem?_toList,hc];rfl
 have k7:W.cell? ⟨JD,7,none⟩=some (.func (.func (sU 7)) #[] #[]):=by
  obtain⟨v,q,hc,m,hr⟩:=key 7 _ rfl;obtain rfl:=func_of_trod (f0:=208) Tryz.underlying107 (by kernel_rfl) hr;rw[World.var?_cell hg hv 7,<-Array.getElem?_toList,hc];rfl
 have k8:W.cell? ⟨JD,8,none⟩=some (.func (.func (sU 8)) #[] #[]):=by
  obtain⟨v,q,hc,m,hr⟩:=key 8 _ rfl;obtain rfl:=func_of_trod (f0:=209) Tryz.underlying107 (by kernel_rfl) hr;rw[World.var?_cell hg hv 8,<-Array.getElem?_toList,hc];rfl
 have k9:W.cell? ⟨JD,9,none⟩=some (.func (.func (sU 9)) #[] #[]):=by
  obtain⟨v,q,hc,m,hr⟩:=key 9 _ rfl;obtain rfl:=func_of_trod (f0:=210) Tryz.underlying107 (by kernel_rfl) hr;rw[World.var?_cell hg hv 9,<-Array.getElem?_toList,hc];rfl
 refine⟨?_,λr h1 h9=>?_⟩;have h0:=k1;unfold World.cell? at h0;split at h0;rename_i hb;exact(Array.getElem?_eq_some_iff.1 hb).1;cases h0;rcases(by omega:r=1\/r=2\/r=3\/r=4\/r=5\/r=6\/r=7\/r=8\/r=9)with rfl|rfl|rfl|rfl|rfl|rfl|rfl|rfl|rfl<;>assumption
abbrev G8 : List (String × DataW Unit) := [("math/bits.deBruijn64tab", Rows.laid_math_bits_deBruijn64tab), ("witting/hilbert.axioms", Rows.laid_witting_hilbert_axioms)]
theorem Jd(os:Os)(args:Array Value):laidMetH Tryz.prog G8 ((World.doorLaid Tryz.prog 600 os).forCall (λ_ _=>0) ⟨#[],args,[]⟩).memory:=
 laidMetH_of_parts3 (fuel:=8) (laidMet_of_run' 8 (by kernel_rfl) (by kernel_rfl)) (by kernel_rfl) (by kernel_rfl)
theorem CZ {W : World} (h : laidMetH Tryz.prog [("math/bits.deBruijn64tab", Rows.laid_math_bits_deBruijn64tab)] W) : Jv W := by
 rw[MakeChecks.laidMetH_plain _ _ _ (by kernel_rfl)]at h;obtain⟨ps,⟨g,t,cs,fuel,p,q,hg,ht,hv,hd,_,_⟩,_,_⟩:=h
 obtain rfl := Option.some.inj ((show Tryz.prog.globalNamed "math/bits.deBruijn64tab" = some I7 by kernel_rfl).symm.trans hg)
 obtain rfl:=Option.some.inj ((show(Tryz.prog.globals[I7]?).map (·.type)=some 200 by kernel_rfl).symm.trans ht);obtain⟨xs,m,_,ex,_,hl,hel⟩:=DataW.trod_array Tryz.underlying200 hd;have c5:Tryz.prog.cellsOf 5=1:=by kernel_rfl
 have key:∀r:Nat,r<64->W.cell? ⟨I7,r,none⟩=some (.int .u8 (ug.getD r 0)):=by
  intro r hr;have hE:=hel r hr;rw[c5,Nat.mul_one,List.getElem?_eq_getElem (by omega)]at hE;obtain⟨z,e1,e2,_⟩:=DataW.trod_int Tryz.underlying5 hE;have hlen:ug.length=64:=by decide
  have e3:(xs.map (·.1))=ug.map λn=>.lit (.int .u8 n):=(DataW.agg.inj (Prod.mk.inj ex).1).symm;have e4:(xs.map (·.1))[r]?=(ug.map λn=>(DataW.lit (.int .u8 n):DataW Unit))[r]?:=by rw[e3]
  rw[List.getElem?_map,List.getElem?_map,List.getElem?_eq_getElem (by omega:r<xs.length),List.getElem?_eq_getElem (by omega:r<ug.length),e2]at e4;have hz:z=ug.getD r 0:=by
   simp only[Option.map_some,Option.some.injEq,DataW.lit.injEq,Lit.int.injEq,true_and]at e4;rw[e4,List.getD,List.getElem?_eq_getElem (by omega:r<ug.length)];rfl
  rw[World.var?_cell hg hv r,<-hz];have:cs.toList[r]?=some (.int .u8 z):=by
   have h0:((cs.toList.drop r).take 1)[0]?=some (.int .u8 z):=by rw[e1];rfl
   simpa using h0
  simpa using this
 refine⟨?_,key⟩;have h0:=key 0 (by decide);unfold World.cell? at h0;split at h0;rename_i hb;exact(Array.getElem?_eq_some_iff.1 hb).1;cases h0
theorem Cu{W:World}(h:laidMetH Tryz.prog G8 W):Jv W/\SM W:=by
 have e1 : (G8.filter fun x => x.1 == "math/bits.deBruijn64tab") = [("math/bits.deBruijn64tab", Rows.laid_math_bits_deBruijn64tab)] := by kernel_rfl
 have e2 : (G8.filter fun x => x.1 == "witting/hilbert.axioms") = [("witting/hilbert.axioms", Rows.laid_witting_hilbert_axioms)] := by kernel_rfl
 have h1 := h.filter (fun x => x.1 == "math/bits.deBruijn64tab")
 have h2 := h.filter (fun x => x.1 == "witting/hilbert.axioms")
 rw[e1]at h1;rw[e2]at h2;exact⟨CZ h1,Er h2⟩
end Go.Proofs.YtpbhoidjmpjfpaaGreatDoor
