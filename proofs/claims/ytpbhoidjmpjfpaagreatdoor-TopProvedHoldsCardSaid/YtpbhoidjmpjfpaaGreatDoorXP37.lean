/- What calls return, each under its own conditions. -/
import Derived.Test.YtpbhoidjmpjfpaaGreatDoorXP35
import Derived.Test.YtpbhoidjmpjfpaaGreatDoorXP36
set_option maxRecDepth 100000
set_option maxHeartbeats 40000000
namespace Go.Proofs.YtpbhoidjmpjfpaaGreatDoor
open Go.RowKit Go.Proofs.Wit Tryz
theorem Mn(a:ae)(E:Nat)(xs:ar)(w:aB)(ha:oD w a xs)(F:xs.length<=100000):
    Qqa 58 [.slice a xs.length E] w (λv w'=>pO gu 3 w w' v xs):=by
  obtain⟨i0,hi,hz,hsz,D⟩:=info_parts zk;refine gz func58 ?_;refine gY ?_;refine kR rfl rfl rfl rfl (wQ X7) ?_;refine lJ (λhc=>?_) λhc=>?_;obtain rfl:a=none:=aJ;have hx:xs=[]:=by
    cases xs with
    |nil=>rfl
    |cons r rs=>obtain⟨b,o,e,_⟩:=Sl.isSome ha aL;cases e
  subst hx;refine fz func58 λw' p=>?_;exact⟨p.ext,pO.vj⟩;refine gY ?_;refine CM gu rfl rfl rfl X7 hi (λb=>?_);refine gY ?_;by_cases hx:xs.length=0;obtain rfl:xs=[]:=aV hx;refine ff.v (fh.blt rfl rfl rfl (Eh X7 hi (eR 0)) rfl) ?_;refine ff.v (fh.yt rfl rfl rfl rfl) (ff.oX (ff.ret Tryz.f58 func58 rfl (λw' p=>?_)));exact⟨p.ext,pO.one p 0 rfl rfl⟩;refine EF gu xs rfl rfl rfl rfl rfl X7 hi hz hsz rfl (λh=>by cases h) 0 rfl (λw J p=>ha.fD p.ext) rfl rfl aH (λ_=>rfl) (by simp[maxLen];omega) (by simp[D];omega) (λb' sp' cap' C=>?_);rw[eh]at*;refine fz func58 λw' p=>?_;exact⟨p.ext,pO.mk p 0 (q:=some b') rfl rfl aK C⟩
theorem RN:(Tryz.prog.info? 88).map (λi=>(i.zero,i.size,i.bytes))=some (some (.agg #[aS 0,aS 0,aS 0,aS 0,aS 0,aS 0]),6,48):=by kernel_rfl
theorem Ed(a:ae)(E:Nat)(f:List NV)(w:aB)(ha:FA w a f)(hp:0<f.length)(F:f.length<=100000):
    Qqa 57 [.slice a f.length E] w (λv w'=>fQ 88 w w' v f):=by
  obtain⟨i0,hi,hz,hsz,D⟩:=info_parts RN;refine gz func57 ?_;refine gY ?_;refine kR rfl rfl rfl rfl (wQ Ye) ?_;refine lJ (λhc=>?_) λhc=>?_;obtain rfl:a=none:=aJ;obtain⟨b,o,e,_⟩:=Sl.isSome ha.at_ (by rw[qS (enc:=NV.cells) (sz:=6) (λ_=>rfl)];omega);cases e;refine gY ?_;refine CM gu rfl rfl rfl Ye hi (λb=>?_);refine gY ?_;refine M5 NV.cells 6 (λ_=>rfl) (xs:=[]) (sp:=[]) f rfl rfl rfl rfl rfl Ye hi hz hsz rfl (λh=>by cases h) 0 rfl (λw J C=>(ha.fD C.ext).at_) rfl rfl hp aI (λa u hu=>by
    simp only[NV.cells,eH,dO,eX]at hu;rcases hu with rfl|rfl|rfl|rfl|rfl|rfl<;>rfl) (by simp[maxLen];omega) (by simp[D];omega) (λb' sp' cap' p=>?_);rw[eh]at*;refine fz func57 λw' C=>?_;exact⟨C.ext,fQ.mk C 0 (q:=some b') rfl rfl aK p⟩
end Go.Proofs.YtpbhoidjmpjfpaaGreatDoor
