/- Laws of walks, for any program, under the conditions that each theorem states. -/
import Derived.Test.YtkpknmgofmohbaaXC03
import Derived.Test.YtkpknmgofmohbaaXC08
import Derived.Test.YtkpknmgofmohbaaXC02
namespace Go.Proofs.Wit
open Go Go.RowKit
abbrev B8:=BitVec 8
def B (x:B8):Value:=.int .u8 (x.toNat:Int)
section
variable (t:TypeId) (x y:B8)
end
section
variable {P:Program} {t:TypeId} {x y:B8} {b:Int}
end
section
variable {P:Program} {r:Option Nat} {f:FuncId} {R:Value→World→Prop} {w0:World} {S:List Nat} {Y:List (Nat×Obj)} {n:Nat} {k:List Item} {l:Fl} {h:Hl}
variable {ops:Array Oper} {i d:Nat} {rest:List Nat} {ty:TypeId} {pos:String} {aft:Array Edge} {g:Option (Nat×Bool)}
end
end Go.Proofs.Wit
namespace Go.Proofs.Wit
open Go Go.RowKit
section
variable {P:Program} {r:Option Nat} {f:FuncId} {R:Value→World→Prop} {w0:World} {S:List Nat} {Y:List (Nat×Obj)} {n:Nat} {k:List Item} {l:Fl} {h hb hb2:Hl} {ops:Array Oper} {c q:Nat} {D:List Nat}
theorem cm.bV {i:Nat} {ty:TypeId} {pos:String} {aft:Array Edge} {g:Option (Nat×Bool)} {t:TypeId} {x y:Operand} {b:Nat} {cs:Array Value} {e:TypeId} {v:Value} {m:Nat} (h1:av ops D=[i]) (ho:ops[i]?=some ⟨none,.store t x y,ty,pos,aft,g⟩) (hw:al ops l g=true)
  (hx:aA l x=some (.pointer (some ⟨b,0,none⟩))) (hy:aA l y=some v) (hz:∀w,(sizeOf t).run P w=.ok m w) (j:Nat) (hj:h[j]?=some (some b,.cells cs e (0,0))) (hm:cs.size=m) (hv:v.cells.size=m) (h2:v.cells.toList.all Value.oneCell'=true)
  (hs:(cur c hb hb2 (i::D)).Sublist (h.set j (some b,.cells v.cells e (0,0))))
  (hk:cm P r f R w0 S Y n k ops c hb hb2 q (i::D) l (h.set j (some b,.cells v.cells e (0,0)))):cm P r f R w0 S Y n k ops c hb hb2 (q+1) D l h:=by
 intro t' hF
 rw [Dq]
 refine .inr ⟨by rw [h1];simp,fun i' hi=>?_⟩
 rw [h1] at hi;obtain rfl:=List.mem_singleton.1 hi
 refine .inr ⟨_,ho,rfl,rfl,rfl,bu hF hw,fun w Ds Y' hS=>?_⟩
 have hbk:=hS.get hj
 have hrun:=run_storeCells_at (P:=P) b 0 e v.cells.toList 0 cs w hbk (by simp;omega) (fun u hu=>List.all_eq_true.1 h2 u hu)
 have hrow:(cs.toList.take (0+0)++v.cells.toList++cs.toList.drop (0+0+v.cells.toList.length)).toArray=v.cells:=by
  rw [←Array.toList_inj]
  simp
  omega
 rw [hrow] at hrun
 refine ⟨w.setRow b v.cells,_,?_,hS.gk hj (o':=.cells v.cells e (0,0)) rfl rfl rfl rfl (by simp [World.setRow]) (setRow_heap w b _ _ e _ hbk) (fun q _ hq=>setRow_other w b q _ hq),hs,hk t' hF⟩
 simp only [execOp,hF.aA hx,hF.aA hy,Sem.run_bind,Instr.storeAt,Instr.sureAddr,storeVar,Sem.run_pure,Result.andThen_ok,hz,hv]
 simp only [ne_eq,not_true_eq_false,if_false,hrun];rfl
end
end Go.Proofs.Wit
