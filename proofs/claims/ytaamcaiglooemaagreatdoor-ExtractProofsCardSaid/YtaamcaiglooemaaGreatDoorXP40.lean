/- What calls return, each under its own conditions. -/
import Derived.Test.YtaamcaiglooemaaGreatDoorXP38
import Derived.Test.YtaamcaiglooemaaGreatDoorXP39
set_option maxRecDepth 100000
set_option maxHeartbeats 40000000
namespace Go.Proofs.YtaamcaiglooemaaGreatDoor
open Go.RowKit Go.Proofs.Wit Tryz
theorem GV(a:ae)(F:Nat)(xs:ar)(w:aB)(ha:oe w a xs)(M:xs.length<=100000):
    Qqa 58 [.slice a xs.length F] w (λv w'=>ux fD 3 w w' v xs):=by
  obtain⟨i0,hi,hz,hsz,C⟩:=info_parts BP;refine gH func58 ?_;refine gY ?_;refine lu rfl rfl rfl rfl (B7 RJ) ?_;refine kU (λhc=>?_) λhc=>?_;obtain rfl:a=none:=aJ;have hx:xs=[]:=by
    cases xs with
    |nil=>rfl
    |cons r K=>obtain⟨b,o,e,_⟩:=Sl.isSome ha aL;cases e
  subst hx;refine eX func58 λw' m=>?_;exact⟨m.ext,ux.oU⟩;refine gY ?_;refine DC fD rfl rfl rfl RJ hi (λb=>?_);refine gY ?_;by_cases hx:xs.length=0;obtain rfl:xs=[]:=aU hx;refine eQ.v (eS.blt rfl rfl rfl (G4 RJ hi (eG 0)) rfl) ?_;refine eQ.v (eS.Er rfl rfl rfl rfl) (eQ.rV (eQ.ret Tryz.f58 func58 rfl (λw' m=>?_)));exact⟨m.ext,ux.one m 0 rfl rfl⟩;refine Hz fD xs rfl rfl rfl rfl rfl RJ hi hz hsz rfl (λh=>by cases h) 0 rfl (λw N m=>ha.eY m.ext) rfl rfl aH (λ_=>rfl) (by simp[maxLen];omega) (by simp[C];omega) (λJ E D p=>?_);rw[dR]at*;refine eX func58 λw' m=>?_;exact⟨m.ext,ux.mk m 0 (q:=some J) rfl rfl aK p⟩
theorem Ma:(Tryz.prog.info? 72).map (λi=>(i.zero,i.size,i.bytes))=some (some (.agg #[aS 0,aS 0,aS 0,aS 0,aS 0,aS 0]),6,48):=by kernel_rfl
theorem AO(a:ae)(F:Nat)(f:List NV)(w:aB)(ha:FA w a f)(hp:0<f.length)(K:f.length<=100000):
    Qqa 57 [.slice a f.length F] w (λv w'=>fi 72 w w' v f):=by
  obtain⟨i0,hi,hz,hsz,C⟩:=info_parts Ma;refine gH func57 ?_;refine gY ?_;refine lu rfl rfl rfl rfl (B7 RL) ?_;refine kU (λhc=>?_) λhc=>?_;obtain rfl:a=none:=aJ;obtain⟨b,o,e,_⟩:=Sl.isSome ha.at_ (by rw[oX (enc:=NV.cells) (sz:=6) (λ_=>rfl)];omega);cases e;refine gY ?_;refine DC fD rfl rfl rfl RL hi (λb=>?_);refine gY ?_;refine HC NV.cells 6 (λ_=>rfl) (xs:=[]) (sp:=[]) f rfl rfl rfl rfl rfl RL hi hz hsz rfl (λh=>by cases h) 0 rfl (λw M p=>(ha.eY p.ext).at_) rfl rfl hp aI (λa u hu=>by
    simp only[NV.cells,ew,dE,eM]at hu;rcases hu with rfl|rfl|rfl|rfl|rfl|rfl<;>rfl) (by simp[maxLen];omega) (by simp[C];omega) (λJ E D m=>?_);rw[dR]at*;refine eX func57 λw' p=>?_;exact⟨p.ext,fi.mk p 0 (q:=some J) rfl rfl aK m⟩
end Go.Proofs.YtaamcaiglooemaaGreatDoor
