/- What calls of the program return, under the conditions that each theorem states. -/
import Derived.Test.YtaamcaiglooemaaGreatDoorXF42
import Derived.Test.YtaamcaiglooemaaGreatDoorXF43
set_option maxRecDepth 100000
set_option maxHeartbeats 4000000
namespace Go.Proofs.YtaamcaiglooemaaGreatDoor
open Go.RowKit Go.Proofs.Wit Tryz
theorem B0 (a:Option Addr) (F:Nat) (xs:List Int) (w:World) (ha:kD w a xs) (M:xs.length≤100000):
    Cn Tryz.prog 58 [.slice a xs.length F] w (fun v w'=>oU aQ 3 w w' v xs):=by
  obtain ⟨i0,hi,hz,hsz,C⟩:=info_parts w8;refine Cn.of func58 rfl rfl ?_;refine gY ?_;refine fe rfl rfl rfl rfl (xt MR) ?_;refine gY ?_;refine gC (fun hc=>?_) fun hc=>?_;obtain rfl:a=none:=by simpa using hc
  have hx:xs=[]:=by
    cases xs with
    |nil=>rfl
    |cons r K=>obtain ⟨b,o,e,_⟩:=Sl.isSome ha (by simp);cases e
  subst hx;refine gY ?_;refine gT func58 fun w' m=>?_;exact ⟨m.ext,oU.jX⟩;refine gY ?_;refine ab.K9 aQ rfl rfl rfl MR hi (fun b=>?_);refine gY ?_;by_cases hx:xs.length=0;obtain rfl:xs=[]:=List.eq_nil_of_length_eq_zero hx;refine ab.v (af.blt rfl rfl rfl (B9 MR hi (Nat.le_refl 0)) rfl) ?_;refine ab.v (af.zQ rfl rfl rfl rfl) (ab.mM (ab.ret Tryz.f58 func58 rfl (fun w' m=>?_)));exact ⟨m.ext,oU.one m 0 rfl rfl⟩;refine ab.KG aQ xs rfl rfl rfl rfl rfl MR hi hz hsz rfl (fun h=>by cases h) 0 rfl (fun w N m=>ha.au m.ext) rfl rfl (by omega) (fun _=>rfl) (by simp [maxLen];omega) (by simp [C];omega) (fun J E D p=>?_);rw [List.nil_append] at*;refine gY ?_;refine gT func58 fun w' m=>?_;exact ⟨m.ext,oU.mk m 0 (q:=some J) rfl rfl (fun e=>by cases e) p⟩
theorem GR:(Tryz.prog.info? 72).map (fun i=>(i.zero,i.size,i.bytes))=some (some (.agg #[.int .i64 0,.int .i64 0,.int .i64 0,.int .i64 0,.int .i64 0,.int .i64 0]),6,48):=by kernel_rfl
theorem v3 (a:Option Addr) (F:Nat) (f:List NV) (w:World) (ha:FA w a f) (hp:0<f.length) (K:f.length≤100000):
    Cn Tryz.prog 57 [.slice a f.length F] w (fun v w'=>av 72 w w' v f):=by
  obtain ⟨i0,hi,hz,hsz,C⟩:=info_parts GR;refine Cn.of func57 rfl rfl ?_;refine gY ?_;refine fe rfl rfl rfl rfl (xt MT) ?_;refine gY ?_;refine gC (fun hc=>?_) fun hc=>?_;obtain rfl:a=none:=by simpa using hc
  obtain ⟨b,o,e,_⟩:=Sl.isSome ha.at_ (by rw [al (enc:=NV.cells) (sz:=6) (fun _=>rfl)];omega);cases e;refine gY ?_;refine ab.K9 aQ rfl rfl rfl MT hi (fun b=>?_);refine gY ?_;refine ab.KH NV.cells 6 (fun _=>rfl) (xs:=[]) (sp:=[]) f rfl rfl rfl rfl rfl MT hi hz hsz rfl (fun h=>by cases h) 0 rfl (fun w M p=>(ha.au p.ext).at_) rfl rfl hp (by decide) (fun a u hu=>by
    simp only [NV.cells,List.mem_cons,List.not_mem_nil,or_false] at hu;rcases hu with rfl|rfl|rfl|rfl|rfl|rfl<;>rfl) (by simp [maxLen];omega) (by simp [C];omega) (fun J E D m=>?_);rw [List.nil_append] at*;refine gY ?_;refine gT func57 fun w' p=>?_;exact ⟨p.ext,av.mk p 0 (q:=some J) rfl rfl (fun e=>by cases e) m⟩
end Go.Proofs.YtaamcaiglooemaaGreatDoor
