/- What calls return, each under its own conditions. -/
import Derived.Test.YtpbhoidjmpjfpaaGreatDoorXP11
import Derived.Test.YtpbhoidjmpjfpaaGreatDoorXP12
set_option maxRecDepth 100000
set_option maxHeartbeats 40000000
namespace Go.Proofs.YtpbhoidjmpjfpaaGreatDoor
open Go.RowKit Go.Proofs.Wit Tryz
theorem B3(i:Int)(a:ae)(p:Nat)(f:List NV)(w:aB)(ha:FA w a f)(C:f.length<=maxLen):Qqa 22 [aS i,.slice a f.length p] w (λv w'=>fQ 88 w w' v (gh ⟨9,i,0,0,0,0⟩ [f])):=by
 refine gz func22 ?_;refine gY ?_;refine ff.v (fh.gX (bd88 (c:=[_,_,_,_,_,_]) rfl)) ?_;refine gY ?_;refine ff.gG (c:=[_]) Yj Yg Ym (λE=>?_);refine rI Yu (λw _ h=>(by exact jA ⟨9,i,0,0,0,0⟩ (aR E) 1 [⟨a,p,f⟩] [f] w rfl (Sl.jd (sp:=[]) (h.get (j:=0) rfl)) (λg hg=>by rw[dn.1 hg];exact ha.fD h.ext) (λg hg=>by rw[dn.1 hg];exact C) aL)) λq cap sp _ _ hq fB D=>?_;refine fz func22 λw' h=>?_;exact⟨h.ext,fQ.mk h 0 rfl rfl hq fB⟩
theorem E9(i:Int)(a:ae)(p:Nat)(f:List NV)(w:aB)(ha:FA w a f)(C:f.length<=maxLen):Qqa 141 [aS i,.slice a f.length p] w (λv w'=>fQ 88 w w' v (gh ⟨10,i,0,0,0,0⟩ [f])):=by
 refine gz func141 ?_;refine gY ?_;refine ff.v (fh.gX (bd88 (c:=[_,_,_,_,_,_]) rfl)) ?_;refine gY ?_;refine ff.gG (c:=[_]) Yj Yg Ym (λE=>?_);refine rI Yu (λw _ h=>(by exact jA ⟨10,i,0,0,0,0⟩ (aR E) 1 [⟨a,p,f⟩] [f] w rfl (Sl.jd (sp:=[]) (h.get (j:=0) rfl)) (λg hg=>by rw[dn.1 hg];exact ha.fD h.ext) (λg hg=>by rw[dn.1 hg];exact C) aL)) λq cap sp _ _ hq fB D=>?_;refine fz func141 λw' h=>?_;exact⟨h.ext,fQ.mk h 0 rfl rfl hq fB⟩
theorem Lm(a:ae)(D:Nat)(f:List NV)(b:ae)(cb:Nat)(g:List NV)(w:aB)(ha:FA w a f)(E:f.length<=maxLen)(hb:FA w b g)(C:g.length<=maxLen):Qqa 21 [.slice a f.length D,.slice b g.length cb] w (λv w'=>fQ 88 w w' v (gh ⟨7,0,0,0,0,0⟩ [f,g])):=by
 refine gz func21 ?_;refine gY ?_;refine ff.v (fh.gX (bd88 (c:=[_,_,_,_,_,_]) rfl)) ?_;refine gY ?_;refine ff.gG (c:=[_,_]) Yj Yg Ym (λJ=>?_);refine rI Yu (λw _ h=>(by exact jA ⟨7,0,0,0,0,0⟩ (aR J) 2 [⟨a,D,f⟩,⟨b,cb,g⟩] [f,g] w rfl (Sl.jd (sp:=[]) (h.get (j:=0) rfl)) (oC (p:=λg:FV=>FA _ g.a g.f) (ha.fD h.ext) (hb.fD h.ext)) (oC (p:=λg:FV=>g.f.length<=maxLen) E C) aL)) λq cap sp _ _ hq fB F=>?_;refine fz func21 λw' h=>?_;exact⟨h.ext,fQ.mk h 0 rfl rfl hq fB⟩
theorem LR(i:Int)(w:aB):Qqa 20 [aS i] w (λv w'=>fQ 88 w w' v (gh ⟨3,i,0,0,0,0⟩ [])):=by
 refine gz func20 ?_;refine gY ?_;refine ff.v (fh.gX (bd88 (c:=[_,_,_,_,_,_]) rfl)) ?_;refine rI Yu (λw _ h=>(by exact jA ⟨3,i,0,0,0,0⟩ none 0 [] [] w rfl (Sl.nil _ _) (λg hg=>by cases hg) (λg hg=>by cases hg) aL)) λq cap sp _ _ hq fB p=>?_;refine fz func20 λw' h=>?_;exact⟨h.ext,fQ.mk h 0 rfl rfl hq fB⟩
end Go.Proofs.YtpbhoidjmpjfpaaGreatDoor
