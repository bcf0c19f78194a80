/- What calls return, each under its own conditions. -/
import Derived.Test.YtaamcaiglooemaaGreatDoorXP10
import Derived.Test.YtaamcaiglooemaaGreatDoorXP11
set_option maxRecDepth 100000
set_option maxHeartbeats 40000000
namespace Go.Proofs.YtaamcaiglooemaaGreatDoor
open Go.RowKit Go.Proofs.Wit Tryz
theorem y7(i:Int)(a:ae)(m:Nat)(f:List NV)(w:aB)(ha:FA w a f)(p:f.length<=maxLen):Qqa 15 [aS i,.slice a f.length m] w (λv w'=>fi 72 w w' v (gv ⟨9,i,0,0,0,0⟩ [f])):=by
 refine gH func15 ?_;refine gY ?_;refine eQ.v (eS.gX (bd72 (c:=[_,_,_,_,_,_]) rfl)) ?_;refine gY ?_;refine eQ.fV (c:=[_]) RN RM RY (λD=>?_);refine px R5 (λw _ h=>(by exact jH ⟨9,i,0,0,0,0⟩ (aR D) 1 [⟨a,m,f⟩] [f] w rfl (Sl.jh (sp:=[]) (h.get (j:=0) rfl)) (λg hg=>by rw[de.1 hg];exact ha.eY h.ext) (λg hg=>by rw[de.1 hg];exact p) aL)) λq cap sp _ _ hq eV C=>?_;refine eX func15 λw' h=>?_;exact⟨h.ext,fi.mk h 0 rfl rfl hq eV⟩
theorem Bu(i:Int)(a:ae)(m:Nat)(f:List NV)(w:aB)(ha:FA w a f)(p:f.length<=maxLen):Qqa 22 [aS i,.slice a f.length m] w (λv w'=>fi 72 w w' v (gv ⟨10,i,0,0,0,0⟩ [f])):=by
 refine gH func22 ?_;refine gY ?_;refine eQ.v (eS.gX (bd72 (c:=[_,_,_,_,_,_]) rfl)) ?_;refine gY ?_;refine eQ.fV (c:=[_]) RN RM RY (λD=>?_);refine px R5 (λw _ h=>(by exact jH ⟨10,i,0,0,0,0⟩ (aR D) 1 [⟨a,m,f⟩] [f] w rfl (Sl.jh (sp:=[]) (h.get (j:=0) rfl)) (λg hg=>by rw[de.1 hg];exact ha.eY h.ext) (λg hg=>by rw[de.1 hg];exact p) aL)) λq cap sp _ _ hq eV C=>?_;refine eX func22 λw' h=>?_;exact⟨h.ext,fi.mk h 0 rfl rfl hq eV⟩
theorem Gi(a:ae)(D:Nat)(f:List NV)(b:ae)(C:Nat)(g:List NV)(w:aB)(ha:FA w a f)(E:f.length<=maxLen)(hb:FA w b g)(m:g.length<=maxLen):Qqa 18 [.slice a f.length D,.slice b g.length C] w (λv w'=>fi 72 w w' v (gv ⟨7,0,0,0,0,0⟩ [f,g])):=by
 refine gH func18 ?_;refine gY ?_;refine eQ.v (eS.gX (bd72 (c:=[_,_,_,_,_,_]) rfl)) ?_;refine gY ?_;refine eQ.fV (c:=[_,_]) RN RM RY (λJ=>?_);refine px R5 (λw _ h=>(by exact jH ⟨7,0,0,0,0,0⟩ (aR J) 2 [⟨a,D,f⟩,⟨b,C,g⟩] [f,g] w rfl (Sl.jh (sp:=[]) (h.get (j:=0) rfl)) (oc (p:=λg:FV=>FA _ g.a g.f) (ha.eY h.ext) (hb.eY h.ext)) (oc (p:=λg:FV=>g.f.length<=maxLen) E m) aL)) λq cap sp _ _ hq eV F=>?_;refine eX func18 λw' h=>?_;exact⟨h.ext,fi.mk h 0 rfl rfl hq eV⟩
theorem GG(i:Int)(w:aB):Qqa 14 [aS i] w (λv w'=>fi 72 w w' v (gv ⟨3,i,0,0,0,0⟩ [])):=by
 refine gH func14 ?_;refine gY ?_;refine eQ.v (eS.gX (bd72 (c:=[_,_,_,_,_,_]) rfl)) ?_;refine px R5 (λw _ h=>(by exact jH ⟨3,i,0,0,0,0⟩ none 0 [] [] w rfl (Sl.nil _ _) (λg hg=>by cases hg) (λg hg=>by cases hg) aL)) λq cap sp _ _ hq eV m=>?_;refine eX func14 λw' h=>?_;exact⟨h.ext,fi.mk h 0 rfl rfl hq eV⟩
end Go.Proofs.YtaamcaiglooemaaGreatDoor
