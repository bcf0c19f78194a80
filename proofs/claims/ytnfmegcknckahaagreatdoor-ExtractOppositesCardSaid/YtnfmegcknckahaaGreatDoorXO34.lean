/- Laws of walks, for any program, under the conditions that each theorem states. -/
import Derived.Test.YtnfmegcknckahaaGreatDoorXO30
namespace Go.Proofs.Wit
open Go Go.RowKit
section
variable {b:List NV} {s:ax} {ag:Int} {n:Nat}
theorem Av {i:Nat} (hi:i<b.length) (h1:s.getLsbD i=true) (h2:(nd b i).op=9) (h3:(nd b i).i=ag) (h4:(nd b i).x=n) (hf:∀j,j<i→s.getLsbD j=true→(nd b j).op=9→(nd b j).i=ag→(nd b j).x≠n):fz b s ag n=i:=by
 rcases fy (b:=b) (s:=s) (ag:=ag) (n:=n) with ⟨j,g1,g2,g3,g4,g5,g6,g7⟩|⟨_,g2⟩
 ·rw [g1]
  by_cases e:j=i
  ·exact e
  by_cases hlt:j<i
  ·exact absurd g6 (hf j hlt g3 g4 g5)
  exact absurd h4 (g7 i (by omega) h1 h2 h3)
 exact absurd h4 (g2 i hi h1 h2 h3)
theorem As (hf:∀j,j<b.length→s.getLsbD j=true→(nd b j).op=9→(nd b j).i=ag→(nd b j).x≠n):fz b s ag n=n:=by
 rcases fy (b:=b) (s:=s) (ag:=ag) (n:=n) with ⟨j,_,g2,g3,g4,g5,g6,_⟩|⟨g1,_⟩
 ·exact absurd g6 (hf j g2 g3 g4 g5)
 exact g1
theorem CU {k m:Nat} (hk:k<(dX s).length) (hm:m<(dX s).length) (h:k<m):(dX s)[k]<(dX s)[m]:=by
 have:(dX s).Pairwise (·<·):=List.Pairwise.filter _ List.pairwise_lt_range
 exact List.pairwise_iff_getElem.1 this k m hk hm h
theorem uj {k j:Nat} (hk:k<(dX s).length) (hj:s.getLsbD j=true) (h:j<(dX s)[k]):∃(m:Nat) (hm:m<(dX s).length),m<k∧(dX s)[m]=j:=by
 obtain ⟨m,hm,e⟩:=List.mem_iff_getElem.1 (cW.2 hj)
 refine ⟨m,hm,?_,e⟩
 rcases Nat.lt_trichotomy m k with h1|h1|h1
 ·exact h1
 ·subst h1;omega
 have:=CU hk hm h1;omega
def v3 (b:List NV) (ag:Int) (n:Nat) (j:Nat):Prop:=(nd b j).op=9→(nd b j).i=ag→(nd b j).x≠n
end
end Go.Proofs.Wit
