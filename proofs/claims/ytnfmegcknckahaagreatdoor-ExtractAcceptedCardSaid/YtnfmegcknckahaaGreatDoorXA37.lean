/- What calls of the program return, under the conditions that each theorem states. -/
import Derived.Test.YtnfmegcknckahaaGreatDoorXA35
import Derived.Test.YtnfmegcknckahaaGreatDoorXA36
import Derived.Test.YtnfmegcknckahaaGreatDoorXA03
import Derived.Test.YtnfmegcknckahaaGreatDoorXA04
namespace Go.Proofs.YtnfmegcknckahaaGreatDoor
open Go.RowKit Go.Proofs.Wit Tryz
theorem zy (a:Option Addr) (ca:Nat) (xs:List Int) (w:World) (ha:jP w a xs) (hl:xs.length≤100000):
    Cn Tryz.prog 68 [.slice a xs.length ca] w (fun v w'=>nE bK 3 w w' v xs):=by
  obtain ⟨i0,hi,hz,hsz,hby⟩:=info_parts uQ
  refine Cn.of func68 rfl rfl ?_
  refine gS (gR ?_);refine ai ?_;refine gE (gS (gS (gR ?_)));refine ah ?_;refine db rfl rfl rfl rfl (ve Jp) ?_;refine gE ?_
  refine gC (fun hc=>?_) fun hc=>?_
  ·
   obtain rfl:a=none:=by simpa using hc
   have hx:xs=[]:=by
     cases xs with
     |nil=>rfl
     |cons r rs=>obtain ⟨b,o,e,_⟩:=Sl.isSome ha (by simp);cases e
   subst hx
   refine gS (gR ?_);refine ai ?_;refine gE ?_
   refine gT func68 fun w' hS=>?_
   exact ⟨hS.ext,nE.oN⟩
  refine gK (gS (gR ?_))
  refine ab.H0 bK rfl rfl rfl Jp hi (fun b=>?_)
  refine ah ?_
  by_cases hx:xs.length=0
  · obtain rfl:xs=[]:=List.eq_nil_of_length_eq_zero hx
    refine ab.v (ae.blt rfl rfl rfl (zG Jp hi (Nat.le_refl 0)) rfl) ?_
    refine ab.v (ae.fD rfl rfl rfl rfl) (ab.lM (ab.ret Tryz.f68 func68 rfl (fun w' hS=>?_)))
    exact ⟨hS.ext,nE.one hS 0 rfl rfl⟩
  refine ab.Hp bK xs rfl rfl rfl rfl rfl Jp hi hz hsz rfl (fun h=>by cases h) 0 rfl (fun w Y' hS=>ha.ay hS.ext) rfl rfl (by omega) (fun _=>rfl) (by simp [maxLen];omega) (by simp [hby];omega) (fun b' sp' cap' hlen=>?_)
  rw [List.nil_append] at*
  refine ai ?_;refine gE ?_
  refine gT func68 fun w' hS=>?_
  exact ⟨hS.ext,nE.mk hS 0 (q:=some b') rfl rfl (fun e=>by cases e) hlen⟩
theorem DO:(Tryz.prog.info? 66).map (fun i=>(i.zero,i.size,i.bytes))=some (some (.agg #[.int .i64 0,.int .i64 0,.int .i64 0,.int .i64 0,.int .i64 0,.int .i64 0]),6,48):=by kernel_rfl
theorem tS (a:Option Addr) (ca:Nat) (f:List NV) (w:World) (ha:FA w a f) (hp:0<f.length) (hl:f.length≤100000):
    Cn Tryz.prog 67 [.slice a f.length ca] w (fun v w'=>aH 66 w w' v f):=by
  obtain ⟨i0,hi,hz,hsz,hby⟩:=info_parts DO
  refine Cn.of func67 rfl rfl ?_
  refine gS (gR ?_);refine ai ?_;refine gE (gS (gS (gR ?_)));refine ah ?_;refine db rfl rfl rfl rfl (ve Jr) ?_;refine gE ?_
  refine gC (fun hc=>?_) fun hc=>?_
  ·
   obtain rfl:a=none:=by simpa using hc
   obtain ⟨b,o,e,_⟩:=Sl.isSome ha.at_ (by rw [ax (enc:=NV.cells) (sz:=6) (fun _=>rfl)];omega)
   cases e
  refine gK (gS (gR ?_))
  refine ab.H0 bK rfl rfl rfl Jr hi (fun b=>?_)
  refine ah ?_
  refine ab.Hq NV.cells 6 (fun _=>rfl) (xs:=[]) (sp:=[]) f rfl rfl rfl rfl rfl Jr hi hz hsz rfl (fun h=>by cases h) 0 rfl (fun w Y' hS=>(ha.ay hS.ext).at_) rfl rfl hp (by decide) (fun a u hu=>by
    simp only [NV.cells,List.mem_cons,List.not_mem_nil,or_false] at hu
    rcases hu with rfl|rfl|rfl|rfl|rfl|rfl<;>rfl) (by simp [maxLen];omega) (by simp [hby];omega) (fun b' sp' cap' hlen=>?_)
  rw [List.nil_append] at*
  refine ai ?_;refine gE ?_
  refine gT func67 fun w' hS=>?_
  exact ⟨hS.ext,aH.mk hS 0 (q:=some b') rfl rfl (fun e=>by cases e) hlen⟩
end Go.Proofs.YtnfmegcknckahaaGreatDoor
