/- What calls of the program return, under the conditions that each theorem states. -/
import Derived.Test.YtchhieaagchhhaaGreatDoorXT39
import Derived.Test.YtchhieaagchhhaaGreatDoorXT40
set_option maxRecDepth 100000
set_option maxHeartbeats 4000000
namespace Go.Proofs.YtchhieaagchhhaaGreatDoor
open Go.RowKit Go.Proofs.Wit Tryz
theorem BY (a:Option Addr) (F:Nat) (xs:List Int) (w:World) (ha:jd w a xs) (M:xs.length≤100000):
    Cn Tryz.prog 45 [.slice a xs.length F] w (fun v w'=>oO aV 3 w w' v xs):=by
  obtain ⟨i0,hi,hz,hsz,C⟩:=info_parts wX;refine Cn.of func45 rfl rfl ?_;refine gY ?_;refine eD rfl rfl rfl rfl (xj MC) ?_;refine gY ?_;refine gC (fun hc=>?_) fun hc=>?_;obtain rfl:a=none:=by simpa using hc
  have hx:xs=[]:=by
    cases xs with
    |nil=>rfl
    |cons r K=>obtain ⟨b,o,e,_⟩:=Sl.isSome ha (by simp);cases e
  subst hx;refine gY ?_;refine gT func45 fun w' m=>?_;exact ⟨m.ext,oO.kf⟩;refine gY ?_;refine ab.KU aV rfl rfl rfl MC hi (fun b=>?_);refine gY ?_;by_cases hx:xs.length=0;obtain rfl:xs=[]:=List.eq_nil_of_length_eq_zero hx;refine ab.v (af.blt rfl rfl rfl (Ca MC hi (Nat.le_refl 0)) rfl) ?_;refine ab.v (af.Cl rfl rfl rfl rfl) (ab.mQ (ab.ret Tryz.f45 func45 rfl (fun w' m=>?_)));exact ⟨m.ext,oO.one m 0 rfl rfl⟩;refine ab.Ks aV xs rfl rfl rfl rfl rfl MC hi hz hsz rfl (fun h=>by cases h) 0 rfl (fun w N m=>ha.aq m.ext) rfl rfl (by omega) (fun _=>rfl) (by simp [maxLen];omega) (by simp [C];omega) (fun J E D p=>?_);rw [List.nil_append] at*;refine gY ?_;refine gT func45 fun w' m=>?_;exact ⟨m.ext,oO.mk m 0 (q:=some J) rfl rfl (fun e=>by cases e) p⟩
theorem GL:(Tryz.prog.info? 57).map (fun i=>(i.zero,i.size,i.bytes))=some (some (.agg #[.int .i64 0,.int .i64 0,.int .i64 0,.int .i64 0,.int .i64 0,.int .i64 0]),6,48):=by kernel_rfl
theorem vR (a:Option Addr) (F:Nat) (f:List NV) (w:World) (ha:FA w a f) (hp:0<f.length) (K:f.length≤100000):
    Cn Tryz.prog 44 [.slice a f.length F] w (fun v w'=>ax 57 w w' v f):=by
  obtain ⟨i0,hi,hz,hsz,C⟩:=info_parts GL;refine Cn.of func44 rfl rfl ?_;refine gY ?_;refine eD rfl rfl rfl rfl (xj MD) ?_;refine gY ?_;refine gC (fun hc=>?_) fun hc=>?_;obtain rfl:a=none:=by simpa using hc
  obtain ⟨b,o,e,_⟩:=Sl.isSome ha.at_ (by rw [ai (enc:=NV.cells) (sz:=6) (fun _=>rfl)];omega);cases e;refine gY ?_;refine ab.KU aV rfl rfl rfl MD hi (fun b=>?_);refine gY ?_;refine ab.Kt NV.cells 6 (fun _=>rfl) (xs:=[]) (sp:=[]) f rfl rfl rfl rfl rfl MD hi hz hsz rfl (fun h=>by cases h) 0 rfl (fun w M p=>(ha.aq p.ext).at_) rfl rfl hp (by decide) (fun a u hu=>by
    simp only [NV.cells,List.mem_cons,List.not_mem_nil,or_false] at hu;rcases hu with rfl|rfl|rfl|rfl|rfl|rfl<;>rfl) (by simp [maxLen];omega) (by simp [C];omega) (fun J E D m=>?_);rw [List.nil_append] at*;refine gY ?_;refine gT func44 fun w' p=>?_;exact ⟨p.ext,ax.mk p 0 (q:=some J) rfl rfl (fun e=>by cases e) m⟩
end Go.Proofs.YtchhieaagchhhaaGreatDoor
