/- What calls of the program return, under the conditions that each theorem states. -/
import Derived.Test.YtnfmegcknckahaaGreatDoorXO35
import Derived.Test.YtnfmegcknckahaaGreatDoorXO36
import Derived.Test.YtnfmegcknckahaaGreatDoorXO03
import Derived.Test.YtnfmegcknckahaaGreatDoorXO04
namespace Go.Proofs.YtnfmegcknckahaaGreatDoor
open Go.RowKit Go.Proofs.Wit Tryz
theorem zl (a:Option Addr) (ca:Nat) (xs:List Int) (w:World) (ha:jU w a xs) (hl:xs.length≤100000):
    Cn Tryz.prog 68 [.slice a xs.length ca] w (fun v w'=>nu bK 3 w w' v xs):=by
  obtain ⟨i0,hi,hz,hsz,hby⟩:=info_parts uI
  refine Cn.of func68 rfl rfl ?_
  refine gS (gR ?_);refine ai ?_;refine gE (gS (gS (gR ?_)));refine ah ?_;refine df rfl rfl rfl rfl (u0 Jg) ?_;refine gE ?_
  refine gC (fun hc=>?_) fun hc=>?_
  ·
   obtain rfl:a=none:=by simpa using hc
   have hx:xs=[]:=by
     cases xs with
     |nil=>rfl
     |cons r rs=>obtain ⟨b,o,e,_⟩:=Sl.isSome ha (by simp);cases e
   subst hx
   refine gS (gR ?_);refine ai ?_;refine gE ?_
   refine gT func68 fun w' hS=>?_
   exact ⟨hS.ext,nu.oI⟩
  refine gK (gS (gR ?_))
  refine ab.HN bK rfl rfl rfl Jg hi (fun b=>?_)
  refine ah ?_
  by_cases hx:xs.length=0
  · obtain rfl:xs=[]:=List.eq_nil_of_length_eq_zero hx
    refine ab.v (ae.blt rfl rfl rfl (zs Jg hi (Nat.le_refl 0)) rfl) ?_
    refine ab.v (ae.fh rfl rfl rfl rfl) (ab.lG (ab.ret Tryz.f68 func68 rfl (fun w' hS=>?_)))
    exact ⟨hS.ext,nu.one hS 0 rfl rfl⟩
  refine ab.Hd bK xs rfl rfl rfl rfl rfl Jg hi hz hsz rfl (fun h=>by cases h) 0 rfl (fun w Y' hS=>ha.ay hS.ext) rfl rfl (by omega) (fun _=>rfl) (by simp [maxLen];omega) (by simp [hby];omega) (fun b' sp' cap' hlen=>?_)
  rw [List.nil_append] at*
  refine ai ?_;refine gE ?_
  refine gT func68 fun w' hS=>?_
  exact ⟨hS.ext,nu.mk hS 0 (q:=some b') rfl rfl (fun e=>by cases e) hlen⟩
theorem DB:(Tryz.prog.info? 66).map (fun i=>(i.zero,i.size,i.bytes))=some (some (.agg #[.int .i64 0,.int .i64 0,.int .i64 0,.int .i64 0,.int .i64 0,.int .i64 0]),6,48):=by kernel_rfl
theorem tL (a:Option Addr) (ca:Nat) (f:List NV) (w:World) (ha:FA w a f) (hp:0<f.length) (hl:f.length≤100000):
    Cn Tryz.prog 67 [.slice a f.length ca] w (fun v w'=>aI 66 w w' v f):=by
  obtain ⟨i0,hi,hz,hsz,hby⟩:=info_parts DB
  refine Cn.of func67 rfl rfl ?_
  refine gS (gR ?_);refine ai ?_;refine gE (gS (gS (gR ?_)));refine ah ?_;refine df rfl rfl rfl rfl (u0 Ji) ?_;refine gE ?_
  refine gC (fun hc=>?_) fun hc=>?_
  ·
   obtain rfl:a=none:=by simpa using hc
   obtain ⟨b,o,e,_⟩:=Sl.isSome ha.at_ (by rw [aD (enc:=NV.cells) (sz:=6) (fun _=>rfl)];omega)
   cases e
  refine gK (gS (gR ?_))
  refine ab.HN bK rfl rfl rfl Ji hi (fun b=>?_)
  refine ah ?_
  refine ab.He NV.cells 6 (fun _=>rfl) (xs:=[]) (sp:=[]) f rfl rfl rfl rfl rfl Ji hi hz hsz rfl (fun h=>by cases h) 0 rfl (fun w Y' hS=>(ha.ay hS.ext).at_) rfl rfl hp (by decide) (fun a u hu=>by
    simp only [NV.cells,List.mem_cons,List.not_mem_nil,or_false] at hu
    rcases hu with rfl|rfl|rfl|rfl|rfl|rfl<;>rfl) (by simp [maxLen];omega) (by simp [hby];omega) (fun b' sp' cap' hlen=>?_)
  rw [List.nil_append] at*
  refine ai ?_;refine gE ?_
  refine gT func67 fun w' hS=>?_
  exact ⟨hS.ext,aI.mk hS 0 (q:=some b') rfl rfl (fun e=>by cases e) hlen⟩
end Go.Proofs.YtnfmegcknckahaaGreatDoor
