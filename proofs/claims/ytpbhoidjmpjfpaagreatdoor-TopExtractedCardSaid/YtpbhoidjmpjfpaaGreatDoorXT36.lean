/- What calls return, each under its own conditions. -/
import Derived.Test.YtpbhoidjmpjfpaaGreatDoorXT34
import Derived.Test.YtpbhoidjmpjfpaaGreatDoorXT35
set_option maxRecDepth 100000
set_option maxHeartbeats 40000000
namespace Go.Proofs.YtpbhoidjmpjfpaaGreatDoor
open Go.RowKit Go.Proofs.Wit Tryz
theorem FH(a:ae)(E:Nat)(xs:ar)(w:aB)(ha:mJ w a xs)(J:xs.length<=100000):
    Qqa 58 [.slice a xs.length E] w (λv w'=>sT fH 3 w w' v xs):=by
  obtain⟨i0,hi,hz,hsz,D⟩:=info_parts vM;refine gI func58 ?_;refine gY ?_;refine mC rfl rfl rfl rfl (Bd Q8) ?_;refine lU (λhc=>?_) λhc=>?_;obtain rfl:a=none:=aJ;have hx:xs=[]:=by
    cases xs with
    |nil=>rfl
    |cons r F=>obtain⟨b,o,e,_⟩:=Sl.isSome ha aL;cases e
  subst hx;refine eN func58 λw' p=>?_;exact⟨p.ext,sT.tC⟩;refine gY ?_;refine CC fH rfl rfl rfl Q8 hi (λb=>?_);refine gY ?_;by_cases hx:xs.length=0;obtain rfl:xs=[]:=aV hx;refine eB.v (eD.blt rfl rfl rfl (FR Q8 hi (dZ 0)) rfl) ?_;refine eB.v (eD.Cu rfl rfl rfl rfl) (eB.qu (eB.ret Tryz.f58 func58 rfl (λw' p=>?_)));exact⟨p.ext,sT.one p 0 rfl rfl⟩;refine Gm fH xs rfl rfl rfl rfl rfl Q8 hi hz hsz rfl (λh=>by cases h) 0 rfl (λw K p=>ha.eQ p.ext) rfl rfl aH (λ_=>rfl) (by simp[maxLen];omega) (by simp[D];omega) (λb' sp' cap' C=>?_);rw[dI]at*;refine eN func58 λw' p=>?_;exact⟨p.ext,sT.mk p 0 (q:=some b') rfl rfl aK C⟩
theorem KI:(Tryz.prog.info? 88).map (λi=>(i.zero,i.size,i.bytes))=some (some (.agg #[aS 0,aS 0,aS 0,aS 0,aS 0,aS 0]),6,48):=by kernel_rfl
theorem zV(a:ae)(E:Nat)(f:List NV)(w:aB)(ha:FA w a f)(hp:0<f.length)(F:f.length<=100000):
    Qqa 57 [.slice a f.length E] w (λv w'=>eV 88 w w' v f):=by
  obtain⟨i0,hi,hz,hsz,D⟩:=info_parts KI;refine gI func57 ?_;refine gY ?_;refine mC rfl rfl rfl rfl (Bd Rf) ?_;refine lU (λhc=>?_) λhc=>?_;obtain rfl:a=none:=aJ;obtain⟨b,o,e,_⟩:=Sl.isSome ha.at_ (by rw[oC (enc:=NV.cells) (sz:=6) (λ_=>rfl)];omega);cases e;refine gY ?_;refine CC fH rfl rfl rfl Rf hi (λb=>?_);refine gY ?_;refine Gn NV.cells 6 (λ_=>rfl) (xs:=[]) (sp:=[]) f rfl rfl rfl rfl rfl Rf hi hz hsz rfl (λh=>by cases h) 0 rfl (λw J C=>(ha.eQ C.ext).at_) rfl rfl hp aI (λa u hu=>by
    simp only[NV.cells,dS,dv,ep]at hu;rcases hu with rfl|rfl|rfl|rfl|rfl|rfl<;>rfl) (by simp[maxLen];omega) (by simp[D];omega) (λb' sp' cap' p=>?_);rw[dI]at*;refine eN func57 λw' C=>?_;exact⟨C.ext,eV.mk C 0 (q:=some b') rfl rfl aK p⟩
end Go.Proofs.YtpbhoidjmpjfpaaGreatDoor
