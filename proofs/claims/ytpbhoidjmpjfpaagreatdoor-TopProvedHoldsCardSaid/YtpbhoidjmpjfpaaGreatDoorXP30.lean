/- Laws of walks, each under its own conditions. -/
import Derived.Test.YtpbhoidjmpjfpaaGreatDoorXP04
set_option maxRecDepth 100000
set_option maxHeartbeats 40000000
namespace Go.Proofs.Wit
open Go Go.RowKit
section
variable{P:av}{r:ah}{f:ay}{R:aC->aB->Prop}{w0:aB}{S:aq}{Y:List (Nat×Obj)}{n:Nat}{k:al}{l:Fl}{h hb hb2:Hl}{ops:aj}{c q:Nat}{D:aq}
theorem fV.qi{i:Nat}{ty:ax}{pos:aA}{aft:ak}{g:Option (Nat×Bool)}{t:ax}{x y:au}{b:Nat}{cs:af}{e:ax}{v:aC}{m:Nat}(h1:fL ops D=[i])(ho:ops[i]?=some ⟨none,.store t x y,ty,pos,aft,g⟩)(hw:fE ops l g=true)
  (hx:fW l x=some (aQ b))(hy:fW l y=some v)(hz:∀w,(sizeOf t).run P w=.ok m w)(j:Nat)(hj:h[j]?=some (some b,.cells cs e (0,0)))(hm:cs.size=m)(hv:v.cells.size=m)(h2:v.cells.toList.all Value.oneCell'=true)
  (hs:(cur c hb hb2 (i::D)).Sublist (h.set j (some b,.cells v.cells e (0,0))))
  (hk:fV P r f R w0 S Y n k ops c hb hb2 q (i::D) l (h.set j (some b,.cells v.cells e (0,0)))):fV P r f R w0 S Y n k ops c hb hb2 (q+1) D l h:=by
 intro t' hF;rw[Dq];refine .inr ⟨by rw[h1];simp,λi' hi=>?_⟩;rw[h1]at hi;obtain rfl:=dn.1 hi;refine .inr ⟨_,ho,rfl,rfl,rfl,km hF hw,λw Ds Y' hS=>?_⟩;have hbk:=hS.get hj;have hrun:=run_storeCells_at (P:=P) b 0 e v.cells.toList 0 cs w hbk aN (λu hu=>dI.1 h2 u hu);have hrow:(cs.toList.take (0+0)++v.cells.toList++cs.toList.drop (0+0+v.cells.toList.length)).toArray=v.cells:=by
  rw[<-dF];simp;omega
 rw[hrow]at hrun;refine⟨w.setRow b v.cells,_,?_,hS.xw hj (o':=.cells v.cells e (0,0)) rfl rfl rfl rfl (by simp[World.setRow]) (setRow_heap w b _ _ e _ hbk) (λq _ hq=>setRow_other w b q _ hq),hs,hk t' hF⟩;simp only[execOp,hF.fW hx,hF.fW hy,Sem.run_bind,Instr.storeAt,Instr.sureAddr,storeVar,Sem.run_pure,Result.andThen_ok,hz,hv];simp only[ne_eq,not_true_eq_false,eW,hrun];rfl
end
end Go.Proofs.Wit
