/- What calls of the program return, under the conditions that each theorem states. -/
import Derived.Test.YtnfmegcknckahaaGreatDoorXO10
import Derived.Test.YtnfmegcknckahaaGreatDoorXO11
import Derived.Test.YtnfmegcknckahaaGreatDoorXO03
import Derived.Test.YtnfmegcknckahaaGreatDoorXO04
namespace Go.Proofs.YtnfmegcknckahaaGreatDoor
open Go.RowKit Go.Proofs.Wit Tryz
theorem rP (i:Int) (a:Option Addr) (ca:Nat) (f:List NV) (w:World) (ha:FA w a f) (hl:f.length≤maxLen):Cn Tryz.prog 32 [.int .i64 i,.slice a f.length ca] w (fun v w'=>aI 66 w w' v (aQ ⟨9,i,0,0,0,0⟩ [f])):=by
 refine Cn.of func32 rfl rfl ?_
 refine gS (gR ?_);refine ai ?_;refine gE (gS (gR ?_));refine ah ?_
 refine ab.v (ae.eM rfl rfl rfl rfl (bd66 (c:=[_,_,_,_,_,_]) rfl)) ?_
 refine ah ?_
 refine ab.eh (c:=[_]) rfl rfl rfl rfl Jo Jj Jx rfl rfl (fun b8=>?_)
 refine gM rfl rfl rfl rfl rfl JE (fun w _ hS=>(by exact cY ⟨9,i,0,0,0,0⟩ (some ⟨b8,0,none⟩) 1 [⟨a,ca,f⟩] [f] w rfl (Sl.dg (sp:=[]) (hS.get (j:=0) rfl)) (fun g hg=>by rw [List.mem_singleton.1 hg];exact ha.ay hS.ext) (fun g hg=>by rw [List.mem_singleton.1 hg];exact hl) (by simp))) ?_
 rintro v w1 w2 Y' hS he ho
 obtain ⟨q,cap,sp,rfl,hq,ao,hS'⟩:=ak hS he ho
 refine ⟨_,hS',?_⟩
 refine ai ?_;refine gE ?_
 refine gT func32 fun w' hS=>?_
 exact ⟨hS.ext,aI.mk hS 0 rfl rfl hq ao⟩
theorem um (i:Int) (a:Option Addr) (ca:Nat) (f:List NV) (w:World) (ha:FA w a f) (hl:f.length≤maxLen):Cn Tryz.prog 35 [.int .i64 i,.slice a f.length ca] w (fun v w'=>aI 66 w w' v (aQ ⟨10,i,0,0,0,0⟩ [f])):=by
 refine Cn.of func35 rfl rfl ?_
 refine gS (gR ?_);refine ai ?_;refine gE (gS (gR ?_));refine ah ?_
 refine ab.v (ae.eM rfl rfl rfl rfl (bd66 (c:=[_,_,_,_,_,_]) rfl)) ?_
 refine ah ?_
 refine ab.eh (c:=[_]) rfl rfl rfl rfl Jo Jj Jx rfl rfl (fun b8=>?_)
 refine gM rfl rfl rfl rfl rfl JE (fun w _ hS=>(by exact cY ⟨10,i,0,0,0,0⟩ (some ⟨b8,0,none⟩) 1 [⟨a,ca,f⟩] [f] w rfl (Sl.dg (sp:=[]) (hS.get (j:=0) rfl)) (fun g hg=>by rw [List.mem_singleton.1 hg];exact ha.ay hS.ext) (fun g hg=>by rw [List.mem_singleton.1 hg];exact hl) (by simp))) ?_
 rintro v w1 w2 Y' hS he ho
 obtain ⟨q,cap,sp,rfl,hq,ao,hS'⟩:=ak hS he ho
 refine ⟨_,hS',?_⟩
 refine ai ?_;refine gE ?_
 refine gT func35 fun w' hS=>?_
 exact ⟨hS.ext,aI.mk hS 0 rfl rfl hq ao⟩
theorem yL (a:Option Addr) (ca:Nat) (f:List NV) (b:Option Addr) (cb:Nat) (g:List NV) (w:World) (ha:FA w a f) (hl:f.length≤maxLen) (hb:FA w b g) (hl2:g.length≤maxLen):Cn Tryz.prog 34 [.slice a f.length ca,.slice b g.length cb] w (fun v w'=>aI 66 w w' v (aQ ⟨7,0,0,0,0,0⟩ [f,g])):=by
 refine Cn.of func34 rfl rfl ?_
 refine gS (gR ?_);refine ai ?_;refine gE (gS (gR ?_))
 refine ab.v (ae.eM rfl rfl rfl rfl (bd66 (c:=[_,_,_,_,_,_]) rfl)) ?_
 iterate 2 refine ah ?_
 refine ab.eh (c:=[_,_]) rfl rfl rfl rfl Jo Jj Jx rfl rfl (fun b8=>?_)
 refine gM rfl rfl rfl rfl rfl JE (fun w _ hS=>(by exact cY ⟨7,0,0,0,0,0⟩ (some ⟨b8,0,none⟩) 2 [⟨a,ca,f⟩,⟨b,cb,g⟩] [f,g] w rfl (Sl.dg (sp:=[]) (hS.get (j:=0) rfl)) (iz (p:=fun g:FV=>FA _ g.a g.f) (ha.ay hS.ext) (hb.ay hS.ext)) (iz (p:=fun g:FV=>g.f.length≤maxLen) hl hl2) (by simp))) ?_
 rintro v w1 w2 Y' hS he ho
 obtain ⟨q,cap,sp,rfl,hq,ao,hS'⟩:=ak hS he ho
 refine ⟨_,hS',?_⟩
 refine ai ?_;refine gE ?_
 refine gT func34 fun w' hS=>?_
 exact ⟨hS.ext,aI.mk hS 0 rfl rfl hq ao⟩
theorem yY (i:Int) (w:World):Cn Tryz.prog 31 [.int .i64 i] w (fun v w'=>aI 66 w w' v (aQ ⟨3,i,0,0,0,0⟩ [])):=by
 refine Cn.of func31 rfl rfl ?_
 refine gS (gR ?_);refine ai ?_;refine gE (gS (gR ?_));refine ah ?_
 refine ab.v (ae.eM rfl rfl rfl rfl (bd66 (c:=[_,_,_,_,_,_]) rfl)) ?_
 refine gM rfl rfl rfl rfl rfl JE (fun w _ hS=>(by exact cY ⟨3,i,0,0,0,0⟩ none 0 [] [] w rfl (Sl.nil _ _) (fun g hg=>by cases hg) (fun g hg=>by cases hg) (by simp))) ?_
 rintro v w1 w2 Y' hS he ho
 obtain ⟨q,cap,sp,rfl,hq,ao,hS'⟩:=ak hS he ho
 refine ⟨_,hS',?_⟩
 refine ai ?_;refine gE ?_
 refine gT func31 fun w' hS=>?_
 exact ⟨hS.ext,aI.mk hS 0 rfl rfl hq ao⟩
end Go.Proofs.YtnfmegcknckahaaGreatDoor
