/- Laws of walks, for any program, under the conditions that each theorem states. -/
import Derived.Test.YtkpknmgofmohbaaXC08
import Derived.Test.YtkpknmgofmohbaaXC03
namespace Go.Proofs.Wit
open Go Go.RowKit
def dz (rs:List RV) (r:Nat):RD:=(rs.map RV.d).getD r ⟨[],[]⟩
theorem dA {rs:List RV} {r:Nat} (hr:r<rs.length):dz rs r=rs[r].d:=by simp [dz,List.getD_eq_getElem?_getD,hr]
def kA (d:RD) (t p:Nat):Int:=aZ (fun p s=>max s (eX d t p)) p 0
theorem e7 {d:RD} {t p:Nat}:kA d t (p+1)=max (kA d t p) (eX d t p):=rfl
section
variable {n R:Nat} {ds:List RD} {d:RD}
theorem iS.key (h:iS n R ds) (hd:d∈ds):∀{m:Nat},m≤n→(0≤kA d R m∧kA d R m<1000)∧(kA d R m=0∨kA d R m=dK d R n)
 |0,_=>⟨⟨by simp [kA,aZ],by simp [kA,aZ]⟩,.inl rfl⟩
 |m+1,hm=>by
  obtain ⟨h1,h2⟩:=iS.key h hd (m:=m) (by omega)
  have h3:=h.pos d hd m (by omega)
  have h4:=h.one d hd m (by omega)
  rw [e7]
  refine ⟨by omega,?_⟩
  by_cases e:eX d R m=0
  ·rw [e,Int.max_eq_left h1.1];exact h2
  have:=h4 e
  rcases h2 with h2|h2
  ·right;omega
  right;omega
end
structure gi (rs:List RV) (R n:Nat) (key:Int) (fA:List Bool) (qs:List Nat):Prop where
  len:fA.length=rs.length
  sV:∀r,fA.getD r false=true→dK (dz rs r) R n=key
  q:∀x∈qs,x<rs.length∧dK (dz rs x) R n=key
theorem gi.add {rs:List RV} {R n:Nat} {key:Int} {fA:List Bool} {qs:List Nat} (h:gi rs R n key fA qs) {r:Nat} (hr:r<rs.length) (hk:dK (dz rs r) R n=key):gi rs R n key (fA.set r true) (qs++[r]):=by
 refine ⟨by rw [List.length_set];exact h.len,fun j hj=>?_,fun x hx=>?_⟩
 ·by_cases e:r=j
  ·subst e;exact hk
  ·rw [List.getD_eq_getElem?_getD,List.getElem?_set_ne e,←List.getD_eq_getElem?_getD] at hj
   exact h.sV j hj
 rcases List.mem_append.1 hx with hx|hx
 ·exact h.q x hx
 rw [List.mem_singleton.1 hx];exact ⟨hr,hk⟩
theorem pZ {x y:au} {p:Nat} (h:x.getLsbD p=y.getLsbD p):(x>>>p) &&& 1#64=(y>>>p) &&& 1#64:=by
 apply BitVec.eq_of_getLsbD_eq
 intro i hi
 rw [BitVec.getLsbD_and,BitVec.getLsbD_and,BitVec.getLsbD_ushiftRight,BitVec.getLsbD_ushiftRight,BitVec.getLsbD_one]
 by_cases e:i=0
 ·subst e;simp [h]
 simp [e]
end Go.Proofs.Wit
