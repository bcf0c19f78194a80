/- What calls return, each under its own conditions. -/
import Derived.Test.YtpbhoidjmpjfpaaGreatDoorXT10
import Derived.Test.YtpbhoidjmpjfpaaGreatDoorXT11
set_option maxRecDepth 100000
set_option maxHeartbeats 40000000
namespace Go.Proofs.YtpbhoidjmpjfpaaGreatDoor
open Go.RowKit Go.Proofs.Wit Tryz
theorem ye(i:Int)(a:ae)(p:Nat)(f:List NV)(w:aB)(ha:FA w a f)(C:f.length<=maxLen):Qqa 22 [aS i,.slice a f.length p] w (λv w'=>eV 88 w w' v (fB ⟨9,i,0,0,0,0⟩ [f])):=by
 refine gI func22 ?_;refine gY ?_;refine eB.v (eD.fU (bd88 (c:=[_,_,_,_,_,_]) rfl)) ?_;refine gY ?_;refine eB.fR (c:=[_]) Rh Rb Rk (λE=>?_);refine oY Rv (λw _ h=>(by exact iD ⟨9,i,0,0,0,0⟩ (aR E) 1 [⟨a,p,f⟩] [f] w rfl (Sl.ie (sp:=[]) (h.get (j:=0) rfl)) (λg hg=>by rw[cS.1 hg];exact ha.eQ h.ext) (λg hg=>by rw[cS.1 hg];exact C) aL)) λq cap sp _ _ hq eK D=>?_;refine eN func22 λw' h=>?_;exact⟨h.ext,eV.mk h 0 rfl rfl hq eK⟩
theorem AD(i:Int)(a:ae)(p:Nat)(f:List NV)(w:aB)(ha:FA w a f)(C:f.length<=maxLen):Qqa 141 [aS i,.slice a f.length p] w (λv w'=>eV 88 w w' v (fB ⟨10,i,0,0,0,0⟩ [f])):=by
 refine gI func141 ?_;refine gY ?_;refine eB.v (eD.fU (bd88 (c:=[_,_,_,_,_,_]) rfl)) ?_;refine gY ?_;refine eB.fR (c:=[_]) Rh Rb Rk (λE=>?_);refine oY Rv (λw _ h=>(by exact iD ⟨10,i,0,0,0,0⟩ (aR E) 1 [⟨a,p,f⟩] [f] w rfl (Sl.ie (sp:=[]) (h.get (j:=0) rfl)) (λg hg=>by rw[cS.1 hg];exact ha.eQ h.ext) (λg hg=>by rw[cS.1 hg];exact C) aL)) λq cap sp _ _ hq eK D=>?_;refine eN func141 λw' h=>?_;exact⟨h.ext,eV.mk h 0 rfl rfl hq eK⟩
theorem EZ(a:ae)(D:Nat)(f:List NV)(b:ae)(cb:Nat)(g:List NV)(w:aB)(ha:FA w a f)(E:f.length<=maxLen)(hb:FA w b g)(C:g.length<=maxLen):Qqa 21 [.slice a f.length D,.slice b g.length cb] w (λv w'=>eV 88 w w' v (fB ⟨7,0,0,0,0,0⟩ [f,g])):=by
 refine gI func21 ?_;refine gY ?_;refine eB.v (eD.fU (bd88 (c:=[_,_,_,_,_,_]) rfl)) ?_;refine gY ?_;refine eB.fR (c:=[_,_]) Rh Rb Rk (λJ=>?_);refine oY Rv (λw _ h=>(by exact iD ⟨7,0,0,0,0,0⟩ (aR J) 2 [⟨a,D,f⟩,⟨b,cb,g⟩] [f,g] w rfl (Sl.ie (sp:=[]) (h.get (j:=0) rfl)) (mA (p:=λg:FV=>FA _ g.a g.f) (ha.eQ h.ext) (hb.eQ h.ext)) (mA (p:=λg:FV=>g.f.length<=maxLen) E C) aL)) λq cap sp _ _ hq eK F=>?_;refine eN func21 λw' h=>?_;exact⟨h.ext,eV.mk h 0 rfl rfl hq eK⟩
theorem Fj(i:Int)(w:aB):Qqa 20 [aS i] w (λv w'=>eV 88 w w' v (fB ⟨3,i,0,0,0,0⟩ [])):=by
 refine gI func20 ?_;refine gY ?_;refine eB.v (eD.fU (bd88 (c:=[_,_,_,_,_,_]) rfl)) ?_;refine oY Rv (λw _ h=>(by exact iD ⟨3,i,0,0,0,0⟩ none 0 [] [] w rfl (Sl.nil _ _) (λg hg=>by cases hg) (λg hg=>by cases hg) aL)) λq cap sp _ _ hq eK p=>?_;refine eN func20 λw' h=>?_;exact⟨h.ext,eV.mk h 0 rfl rfl hq eK⟩
end Go.Proofs.YtpbhoidjmpjfpaaGreatDoor
