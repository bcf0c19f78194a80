/- Laws of walks, for any program, under the conditions that each theorem states. -/
import Derived.Test.YtnfmegcknckahaaGreatDoorXN30
namespace Go.Proofs.Wit
open Go Go.RowKit
/-! sources, as they are searched for -/
section
variable {b:List NV} {s:ay} {ag:Int} {n:Nat}
theorem AB {i:Nat} (hi:i<b.length) (h1:s.getLsbD i=true) (h2:(nd b i).op=9) (h3:(nd b i).i=ag) (h4:(nd b i).x=n) (hf:∀j,j<i→s.getLsbD j=true→(nd b j).op=9→(nd b j).i=ag→(nd b j).x≠n):fy b s ag n=i:=by
 rcases fw (b:=b) (s:=s) (ag:=ag) (n:=n) with ⟨j,g1,g2,g3,g4,g5,g6,g7⟩|⟨_,g2⟩
 ·rw [g1]
  by_cases e:j=i
  ·exact e
  by_cases hlt:j<i
  ·exact absurd g6 (hf j hlt g3 g4 g5)
  exact absurd h4 (g7 i (by omega) h1 h2 h3)
 exact absurd h4 (g2 i hi h1 h2 h3)
theorem Az (hf:∀j,j<b.length→s.getLsbD j=true→(nd b j).op=9→(nd b j).i=ag→(nd b j).x≠n):fy b s ag n=n:=by
 rcases fw (b:=b) (s:=s) (ag:=ag) (n:=n) with ⟨j,_,g2,g3,g4,g5,g6,_⟩|⟨g1,_⟩
 ·exact absurd g6 (hf j g2 g3 g4 g5)
 exact g1
theorem C1 {k m:Nat} (hk:k<(dV s).length) (hm:m<(dV s).length) (h:k<m):(dV s)[k]<(dV s)[m]:=by
 have:(dV s).Pairwise (·<·):=List.Pairwise.filter _ List.pairwise_lt_range
 exact List.pairwise_iff_getElem.1 this k m hk hm h
theorem uo {k j:Nat} (hk:k<(dV s).length) (hj:s.getLsbD j=true) (h:j<(dV s)[k]):∃(m:Nat) (hm:m<(dV s).length),m<k∧(dV s)[m]=j:=by
 obtain ⟨m,hm,e⟩:=List.mem_iff_getElem.1 (cX.2 hj)
 refine ⟨m,hm,?_,e⟩
 rcases Nat.lt_trichotomy m k with h1|h1|h1
 ·exact h1
 ·subst h1;omega
 have:=C1 hk hm h1;omega
def wb (b:List NV) (ag:Int) (n:Nat) (j:Nat):Prop:=(nd b j).op=9→(nd b j).i=ag→(nd b j).x≠n
end
end Go.Proofs.Wit
