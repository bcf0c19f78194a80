/- Laws of walks, for any program, under the conditions that each theorem states. -/
import Derived.Test.YtkpknmgofmohbaaXC21
import Derived.Test.YtkpknmgofmohbaaXC02
import Derived.Deep.Matrix
import Derived.Lib.SmallJoins
import Derived.Test.YtkpknmgofmohbaaXC03
import Derived.Deep.Slices
import Derived.Test.YtkpknmgofmohbaaXC10
import Derived.Test.YtkpknmgofmohbaaXC08
namespace Go.Proofs.Wit
open Go Go.RowKit Go.ChangeShapes Go.WideShapes Go.ChangeAt Go.Deep Go.Joins
theorem pS {w:World} {a:Addr} {v:Value} (h:w.cell? a=some v):a.block<w.heap.size:=by
 unfold World.cell? at h
 split at h
 ·rename_i hb;exact (Array.getElem?_eq_some_iff.1 hb).1
 cases h
theorem lA {w:World} {a:Addr} {v:Value} (h:w.cell? (a.add 0)=some v):a.spot=none:=by
 unfold World.cell? at h
 split at h
 ·split at h
  ·cases h
  ·rename_i hs
   have e0:a.add 0=a:=by unfold Addr.add;simp
   rw [e0] at hs
   simpa using hs
 cases h
theorem sm {w:World} {a:Addr} {xs:List Value} (h:∀i,i<xs.length→w.cell? (a.add i)=some (xs.getD i undef)):Sl w (some a) xs:=by
 refine ⟨fun h0=>?_,fun i hi=>?_⟩
 ·have hs:=lA (h 0 h0)
  have hb:=pS (h 0 h0)
  obtain ⟨b,o,s⟩:=a
  simp only at hs;subst hs
  refine ⟨b,o,rfl,?_⟩
  rw [eo] at hb;exact hb
 have hs:=lA (h 0 (by omega))
 rw [←qa a i hs];exact h i hi
section
variable {H:Type} {enc:TypeId×Value→H} {P:Program}
end
end Go.Proofs.Wit
namespace Go.Proofs.Wit
open Go Go.RowKit Go.ChangeShapes Go.WideShapes Go.ChangeAt Go.Deep Go.Joins
section
variable {H:Type} {enc:TypeId×Value→H} {P:Program}
theorem iY {w:World} {r:Reach} {base:Nat} {t e:TypeId} {v:Value} {n:Nat} (ht:P.underlying t=some (.array n e)) (h:Value.okWide P w r base t v):∃cs,v=.agg cs∧cs.size=P.cellsOf t:=by
 simp only [Value.okWide,ht] at h
 cases v<;>simp_all
instance:Inhabited NV:=⟨uf⟩
end
end Go.Proofs.Wit
namespace Go.Proofs.Wit
open Go Go.RowKit
def nt (x:B8):B8:=15#8 &&& ~~~x
def f4 (a b c d:Bool):B8:=((((if a then 1#8 else 0#8)|||(if b then 2#8 else 0#8))|||(if c then 4#8 else 0#8))|||(if d then 8#8 else 0#8))
section
variable {x y:B8}
end
end Go.Proofs.Wit
namespace Go.Proofs.Wit
open Go Go.RowKit Go.ChangeShapes Go.WideShapes Go.ChangeAt Go.Deep Go.Joins
theorem bounds_u8 {n:Int} (h:(Lit.int .u8 n).wf=true):0≤n∧n≤255:=by
 simp [Lit.wf,IntKind.min,IntKind.max,IntKind.signed,IntKind.bits] at h
 omega
section
variable {H:Type} {enc:TypeId×Value→H} {P:Program}
end
end Go.Proofs.Wit
namespace Go.Proofs.Wit
open Go Go.RowKit Go.ChangeShapes Go.WideShapes Go.ChangeAt Go.Deep Go.Joins
section
variable {H:Type} {enc:TypeId×Value→H} {P:Program}
theorem kK {n:Int} (h:(Lit.int .u8 n).wf=true):∃k:Nat,n=(k:Int)∧k<256:=by
 have:=bounds_u8 h
 exact ⟨n.toNat,by omega,by omega⟩
theorem mg {W:World} {r:Reach} {b0:Nat} {t:TypeId} {v:Value} {d:DataW H} {ps:List MemPlace} (ht:P.underlying t=some (.int .u8)) (hval:Value.okWide P W r b0 t v) (hd:DataW.Trod enc P W 0 (fun _=>true) true t v d ps):
  ∃k:Nat,v=.int .u8 (k:Int)∧k<256:=by
 obtain ⟨n,rfl,_,_,hw⟩:=open_int ht hval hd
 obtain ⟨k,rfl,hk⟩:=kK hw
 exact ⟨k,rfl,hk⟩
theorem kH {W:World} {r:Reach} {b0:Nat} {t e:TypeId} {v:Value} {d:DataW H} {p:List MemPlace} (ht:P.underlying t=some (.array 2 e)) (he:P.underlying e=some (.int .u8)) (ce:P.cellsOf e=1) (hC:P.cellsOf t=2)
  (hok:Value.okWide P W r b0 t v) (h:DataW.Trod enc P W 0 (fun _=>true) true t v d p):∃y z:Nat,v=.agg #[.int .u8 (y:Int),.int .u8 (z:Int)]∧y<256∧z<256:=by
 obtain ⟨cs,rfl,hsz⟩:=iY ht hok
 obtain ⟨c0,c1,rfl⟩:=array2 (hsz.trans hC)
 obtain ⟨fuel,hf⟩:=h
 obtain ⟨xs,m,_,_,_,hl,hel⟩:=DataW.trod_array ht hf
 match xs,hl with
 |[y0,y1],_=>
  have h0:=hel 0 (by omega)
  have h1:=hel 1 (by omega)
  rw [ce] at h0 h1
  obtain ⟨z0,hz0,_,hw0⟩:=DataW.trod_int he (show DataW.trod enc P W 0 (fun _=>true) true m e [c0]=some y0 from by simpa [Value.cells] using h0)
  obtain ⟨z1,hz1,_,hw1⟩:=DataW.trod_int he (show DataW.trod enc P W 0 (fun _=>true) true m e [c1]=some y1 from by simpa [Value.cells] using h1)
  simp only [List.cons.injEq,and_true] at hz0 hz1
  obtain ⟨k0,rfl,l0⟩:=kK hw0
  obtain ⟨k1,rfl,l1⟩:=kK hw1
  exact ⟨k0,k1,by rw [hz0,hz1],l0,l1⟩
theorem kG {W:World} {t e:TypeId} (ht:P.underlying t=some (.slice e)) (he:P.underlying e=some (.int .u8)) (hc:P.cellsOf e=1) {v:Value} {d:DataW H} {ps:List MemPlace}
  (h:DataW.Trod enc P W 0 (fun _=>true) true t v d ps) {r:Reach} {b0:Nat} (hok:Value.okWide P W r b0 t v):
  ∃(a:Option Addr) (xs:List Nat) (cap:Nat),v=.slice a xs.length cap∧Sl W a (xs.map V8)∧(∀x∈xs,x<256)∧xs.length≤maxLen:=by
 obtain ⟨fuel,hf⟩:=h
 have hcv:∀a n c,v.cells.toList=[Value.slice a n c]→v=.slice a n c:=by
  intro a n c e1
  obtain ⟨a',n',c',rfl⟩:=okWide_slice ht hok
  simpa [Value.cells] using e1
 rcases open_ints ht he hc hf with ⟨hcs,_⟩|⟨a,len,cap,zs,hcs,hb,hlc,hcm,hzl,_,hcell,hw⟩
 ·exact ⟨none,[],0,hcv _ _ _ hcs,Sl.nil _ _,fun _ h=>by (cases h),Nat.zero_le _⟩
 rw [if_pos rfl] at hzl
 have hxl:((zs.take len).map Int.toNat).length=len:=by simp;omega
 refine ⟨some a,(zs.take len).map Int.toNat,cap,by rw [hxl];exact hcv _ _ _ hcs,sm (fun i hi=>?_),fun x hx=>?_,by rw [hxl];omega⟩
 ·have hi2:i<len:=by simp at hi;omega
  have hil:i<zs.length:=by omega
  rw [hcell i hil]
  have hwi:=bounds_u8 (hw zs[i] (List.getElem_mem hil))
  have e0:zs.getD i 0=zs[i]:=by simp [List.getD_eq_getElem?_getD,hil]
  have e1:(List.map V8 (List.map Int.toNat (List.take len zs))).getD i undef=V8 zs[i].toNat:=by simp [List.getD_eq_getElem?_getD,hi2,hil]
  rw [e0,e1,V8,Int.toNat_of_nonneg hwi.1]
 obtain ⟨z,hz,rfl⟩:=List.mem_map.1 hx
 have:=bounds_u8 (hw z (List.mem_of_mem_take hz))
 omega
end
end Go.Proofs.Wit
