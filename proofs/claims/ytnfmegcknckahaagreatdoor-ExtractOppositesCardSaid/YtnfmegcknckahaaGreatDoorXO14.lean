/- What calls of the program return, under the conditions that each theorem states. -/
import Derived.Test.YtnfmegcknckahaaGreatDoorXO12
import Derived.Test.YtnfmegcknckahaaGreatDoorXO13
import Derived.Test.YtnfmegcknckahaaGreatDoorXO03
import Derived.Test.YtnfmegcknckahaaGreatDoorXO04
namespace Go.Proofs.YtnfmegcknckahaaGreatDoor
open Go.RowKit Go.Proofs.Wit Tryz
theorem ua (w:World):Cn Tryz.prog 65 [] w (fun v w'=>aI 66 w w' v (aQ ⟨1,0,0,0,0,0⟩ [])):=by
 refine Cn.of func65 rfl rfl ?_
 refine gS (gR ?_);refine ai ?_;refine gE (gS (gR ?_))
 refine ab.v (ae.eM rfl rfl rfl rfl (bd66 (c:=[_,_,_,_,_,_]) rfl)) ?_
 refine gM rfl rfl rfl rfl rfl JE (fun w _ hS=>(by exact cY ⟨1,0,0,0,0,0⟩ none 0 [] [] w rfl (Sl.nil _ _) (fun g hg=>by cases hg) (fun g hg=>by cases hg) (by simp))) ?_
 rintro v w1 w2 Y' hS he ho
 obtain ⟨q,cap,sp,rfl,hq,ao,hS'⟩:=ak hS he ho
 refine ⟨_,hS',?_⟩
 refine ai ?_;refine gE ?_
 refine gT func65 fun w' hS=>?_
 exact ⟨hS.ext,aI.mk hS 0 rfl rfl hq ao⟩
theorem vI (w:World):Cn Tryz.prog 150 [] w (fun v w'=>aI 66 w w' v (aQ ⟨2,0,0,0,0,0⟩ [])):=by
 refine Cn.of func150 rfl rfl ?_
 refine gS (gR ?_);refine ai ?_;refine gE (gS (gR ?_))
 refine ab.v (ae.eM rfl rfl rfl rfl (bd66 (c:=[_,_,_,_,_,_]) rfl)) ?_
 refine gM rfl rfl rfl rfl rfl JE (fun w _ hS=>(by exact cY ⟨2,0,0,0,0,0⟩ none 0 [] [] w rfl (Sl.nil _ _) (fun g hg=>by cases hg) (fun g hg=>by cases hg) (by simp))) ?_
 rintro v w1 w2 Y' hS he ho
 obtain ⟨q,cap,sp,rfl,hq,ao,hS'⟩:=ak hS he ho
 refine ⟨_,hS',?_⟩
 refine ai ?_;refine gE ?_
 refine gT func150 fun w' hS=>?_
 exact ⟨hS.ext,aI.mk hS 0 rfl rfl hq ao⟩
theorem sW (a:Option Addr) (ca:Nat) (f:List NV) (w:World) (ha:FA w a f) (hl:f.length≤maxLen):Cn Tryz.prog 24 [.slice a f.length ca] w (fun v w'=>aI 66 w w' v (aQ ⟨4,0,0,0,0,0⟩ [f])):=by
 refine Cn.of func24 rfl rfl ?_
 refine gS (gR ?_);refine ai ?_;refine gE (gS (gR ?_))
 refine ab.v (ae.eM rfl rfl rfl rfl (bd66 (c:=[_,_,_,_,_,_]) rfl)) ?_
 refine ah ?_
 refine ab.eh (c:=[_]) rfl rfl rfl rfl Jo Jj Jx rfl rfl (fun b5=>?_)
 refine gM rfl rfl rfl rfl rfl JE (fun w _ hS=>(by exact cY ⟨4,0,0,0,0,0⟩ (some ⟨b5,0,none⟩) 1 [⟨a,ca,f⟩] [f] w rfl (Sl.dg (sp:=[]) (hS.get (j:=0) rfl)) (fun g hg=>by rw [List.mem_singleton.1 hg];exact ha.ay hS.ext) (fun g hg=>by rw [List.mem_singleton.1 hg];exact hl) (by simp))) ?_
 rintro v w1 w2 Y' hS he ho
 obtain ⟨q,cap,sp,rfl,hq,ao,hS'⟩:=ak hS he ho
 refine ⟨_,hS',?_⟩
 refine ai ?_;refine gE ?_
 refine gT func24 fun w' hS=>?_
 exact ⟨hS.ext,aI.mk hS 0 rfl rfl hq ao⟩
theorem nq (a:Option Addr) (ca:Nat) (f:List NV) (b:Option Addr) (cb:Nat) (g:List NV) (w:World) (ha:FA w a f) (hl:f.length≤maxLen) (hb:FA w b g) (hl2:g.length≤maxLen):Cn Tryz.prog 27 [.slice a f.length ca,.slice b g.length cb] w (fun v w'=>aI 66 w w' v (aQ ⟨5,0,0,0,0,0⟩ [f,g])):=by
 refine Cn.of func27 rfl rfl ?_
 refine gS (gR ?_);refine ai ?_;refine gE (gS (gR ?_))
 refine ab.v (ae.eM rfl rfl rfl rfl (bd66 (c:=[_,_,_,_,_,_]) rfl)) ?_
 iterate 2 refine ah ?_
 refine ab.eh (c:=[_,_]) rfl rfl rfl rfl Jo Jj Jx rfl rfl (fun b8=>?_)
 refine gM rfl rfl rfl rfl rfl JE (fun w _ hS=>(by exact cY ⟨5,0,0,0,0,0⟩ (some ⟨b8,0,none⟩) 2 [⟨a,ca,f⟩,⟨b,cb,g⟩] [f,g] w rfl (Sl.dg (sp:=[]) (hS.get (j:=0) rfl)) (iz (p:=fun g:FV=>FA _ g.a g.f) (ha.ay hS.ext) (hb.ay hS.ext)) (iz (p:=fun g:FV=>g.f.length≤maxLen) hl hl2) (by simp))) ?_
 rintro v w1 w2 Y' hS he ho
 obtain ⟨q,cap,sp,rfl,hq,ao,hS'⟩:=ak hS he ho
 refine ⟨_,hS',?_⟩
 refine ai ?_;refine gE ?_
 refine gT func27 fun w' hS=>?_
 exact ⟨hS.ext,aI.mk hS 0 rfl rfl hq ao⟩
theorem uo (a:Option Addr) (ca:Nat) (f:List NV) (b:Option Addr) (cb:Nat) (g:List NV) (w:World) (ha:FA w a f) (hl:f.length≤maxLen) (hb:FA w b g) (hl2:g.length≤maxLen):Cn Tryz.prog 28 [.slice a f.length ca,.slice b g.length cb] w (fun v w'=>aI 66 w w' v (aQ ⟨6,0,0,0,0,0⟩ [f,g])):=by
 refine Cn.of func28 rfl rfl ?_
 refine gS (gR ?_);refine ai ?_;refine gE (gS (gR ?_))
 refine ab.v (ae.eM rfl rfl rfl rfl (bd66 (c:=[_,_,_,_,_,_]) rfl)) ?_
 iterate 2 refine ah ?_
 refine ab.eh (c:=[_,_]) rfl rfl rfl rfl Jo Jj Jx rfl rfl (fun b8=>?_)
 refine gM rfl rfl rfl rfl rfl JE (fun w _ hS=>(by exact cY ⟨6,0,0,0,0,0⟩ (some ⟨b8,0,none⟩) 2 [⟨a,ca,f⟩,⟨b,cb,g⟩] [f,g] w rfl (Sl.dg (sp:=[]) (hS.get (j:=0) rfl)) (iz (p:=fun g:FV=>FA _ g.a g.f) (ha.ay hS.ext) (hb.ay hS.ext)) (iz (p:=fun g:FV=>g.f.length≤maxLen) hl hl2) (by simp))) ?_
 rintro v w1 w2 Y' hS he ho
 obtain ⟨q,cap,sp,rfl,hq,ao,hS'⟩:=ak hS he ho
 refine ⟨_,hS',?_⟩
 refine ai ?_;refine gE ?_
 refine gT func28 fun w' hS=>?_
 exact ⟨hS.ext,aI.mk hS 0 rfl rfl hq ao⟩
theorem Cg (a:Option Addr) (ca:Nat) (f:List NV) (b:Option Addr) (cb:Nat) (g:List NV) (w:World) (ha:FA w a f) (hl:f.length≤maxLen) (hb:FA w b g) (hl2:g.length≤maxLen):Cn Tryz.prog 118 [.slice a f.length ca,.slice b g.length cb] w (fun v w'=>aI 66 w w' v (aQ ⟨8,0,0,0,0,0⟩ [f,g])):=by
 refine Cn.of func118 rfl rfl ?_
 refine gS (gR ?_);refine ai ?_;refine gE (gS (gR ?_))
 refine ab.v (ae.eM rfl rfl rfl rfl (bd66 (c:=[_,_,_,_,_,_]) rfl)) ?_
 iterate 2 refine ah ?_
 refine ab.eh (c:=[_,_]) rfl rfl rfl rfl Jo Jj Jx rfl rfl (fun b8=>?_)
 refine gM rfl rfl rfl rfl rfl JE (fun w _ hS=>(by exact cY ⟨8,0,0,0,0,0⟩ (some ⟨b8,0,none⟩) 2 [⟨a,ca,f⟩,⟨b,cb,g⟩] [f,g] w rfl (Sl.dg (sp:=[]) (hS.get (j:=0) rfl)) (iz (p:=fun g:FV=>FA _ g.a g.f) (ha.ay hS.ext) (hb.ay hS.ext)) (iz (p:=fun g:FV=>g.f.length≤maxLen) hl hl2) (by simp))) ?_
 rintro v w1 w2 Y' hS he ho
 obtain ⟨q,cap,sp,rfl,hq,ao,hS'⟩:=ak hS he ho
 refine ⟨_,hS',?_⟩
 refine ai ?_;refine gE ?_
 refine gT func118 fun w' hS=>?_
 exact ⟨hS.ext,aI.mk hS 0 rfl rfl hq ao⟩
theorem vJ (g:Int) (a:Option Addr) (ca:Nat) (f:List NV) (w:World) (ha:FA w a f) (hl:f.length≤maxLen):Cn Tryz.prog 180 [.int .i64 g,.slice a f.length ca] w (fun v w'=>aI 66 w w' v (aQ ⟨11,0,0,g,0,0⟩ [f])):=by
 refine Cn.of func180 rfl rfl ?_
 refine gS (gR ?_);refine ai ?_;refine gE (gS (gR ?_));refine ah ?_
 refine ab.v (ae.eM rfl rfl rfl rfl (bd66 (c:=[_,_,_,_,_,_]) rfl)) ?_
 refine ah ?_
 refine ab.eh (c:=[_]) rfl rfl rfl rfl Jo Jj Jx rfl rfl (fun b8=>?_)
 refine gM rfl rfl rfl rfl rfl JE (fun w _ hS=>(by exact cY ⟨11,0,0,g,0,0⟩ (some ⟨b8,0,none⟩) 1 [⟨a,ca,f⟩] [f] w rfl (Sl.dg (sp:=[]) (hS.get (j:=0) rfl)) (fun g hg=>by rw [List.mem_singleton.1 hg];exact ha.ay hS.ext) (fun g hg=>by rw [List.mem_singleton.1 hg];exact hl) (by simp))) ?_
 rintro v w1 w2 Y' hS he ho
 obtain ⟨q,cap,sp,rfl,hq,ao,hS'⟩:=ak hS he ho
 refine ⟨_,hS',?_⟩
 refine ai ?_;refine gE ?_
 refine gT func180 fun w' hS=>?_
 exact ⟨hS.ext,aI.mk hS 0 rfl rfl hq ao⟩
theorem Bt (g:Int) (a:Option Addr) (ca:Nat) (f:List NV) (w:World) (ha:FA w a f) (hl:f.length≤maxLen):Cn Tryz.prog 181 [.int .i64 g,.slice a f.length ca] w (fun v w'=>aI 66 w w' v (aQ ⟨12,0,0,g,0,0⟩ [f])):=by
 refine Cn.of func181 rfl rfl ?_
 refine gS (gR ?_);refine ai ?_;refine gE (gS (gR ?_));refine ah ?_
 refine ab.v (ae.eM rfl rfl rfl rfl (bd66 (c:=[_,_,_,_,_,_]) rfl)) ?_
 refine ah ?_
 refine ab.eh (c:=[_]) rfl rfl rfl rfl Jo Jj Jx rfl rfl (fun b8=>?_)
 refine gM rfl rfl rfl rfl rfl JE (fun w _ hS=>(by exact cY ⟨12,0,0,g,0,0⟩ (some ⟨b8,0,none⟩) 1 [⟨a,ca,f⟩] [f] w rfl (Sl.dg (sp:=[]) (hS.get (j:=0) rfl)) (fun g hg=>by rw [List.mem_singleton.1 hg];exact ha.ay hS.ext) (fun g hg=>by rw [List.mem_singleton.1 hg];exact hl) (by simp))) ?_
 rintro v w1 w2 Y' hS he ho
 obtain ⟨q,cap,sp,rfl,hq,ao,hS'⟩:=ak hS he ho
 refine ⟨_,hS',?_⟩
 refine ai ?_;refine gE ?_
 refine gT func181 fun w' hS=>?_
 exact ⟨hS.ext,aI.mk hS 0 rfl rfl hq ao⟩
theorem wY (g:Int) (a:Option Addr) (ca:Nat) (f:List NV) (b:Option Addr) (cb:Nat) (k:List NV) (w:World) (ha:FA w a f) (hl:f.length≤maxLen) (hb:FA w b k) (hl2:k.length≤maxLen):Cn Tryz.prog 182 [.int .i64 g,.slice a f.length ca,.slice b k.length cb] w (fun v w'=>aI 66 w w' v (aQ ⟨13,0,0,g,0,0⟩ [f,k])):=by
 refine Cn.of func182 rfl rfl ?_
 refine gS (gR ?_);refine ai ?_;refine gE (gS (gR ?_));refine ah ?_
 refine ab.v (ae.eM rfl rfl rfl rfl (bd66 (c:=[_,_,_,_,_,_]) rfl)) ?_
 iterate 2 refine ah ?_
 refine ab.eh (c:=[_,_]) rfl rfl rfl rfl Jo Jj Jx rfl rfl (fun b11=>?_)
 refine gM rfl rfl rfl rfl rfl JE (fun w _ hS=>(by exact cY ⟨13,0,0,g,0,0⟩ (some ⟨b11,0,none⟩) 2 [⟨a,ca,f⟩,⟨b,cb,k⟩] [f,k] w rfl (Sl.dg (sp:=[]) (hS.get (j:=0) rfl)) (iz (p:=fun g:FV=>FA _ g.a g.f) (ha.ay hS.ext) (hb.ay hS.ext)) (iz (p:=fun g:FV=>g.f.length≤maxLen) hl hl2) (by simp))) ?_
 rintro v w1 w2 Y' hS he ho
 obtain ⟨q,cap,sp,rfl,hq,ao,hS'⟩:=ak hS he ho
 refine ⟨_,hS',?_⟩
 refine ai ?_;refine gE ?_
 refine gT func182 fun w' hS=>?_
 exact ⟨hS.ext,aI.mk hS 0 rfl rfl hq ao⟩
theorem zu (i:Int) (a:Option Addr) (ca:Nat) (f:List NV) (b:Option Addr) (cb:Nat) (g:List NV) (w:World) (ha:FA w a f) (hl:f.length≤maxLen) (hb:FA w b g) (hl2:g.length≤maxLen):Cn Tryz.prog 183 [.int .i64 i,.slice a f.length ca,.slice b g.length cb] w (fun v w'=>aI 66 w w' v (aQ ⟨14,i,0,0,0,0⟩ [f,g])):=by
 refine Cn.of func183 rfl rfl ?_
 refine gS (gR ?_);refine ai ?_;refine gE (gS (gR ?_));refine ah ?_
 refine ab.v (ae.eM rfl rfl rfl rfl (bd66 (c:=[_,_,_,_,_,_]) rfl)) ?_
 iterate 2 refine ah ?_
 refine ab.eh (c:=[_,_]) rfl rfl rfl rfl Jo Jj Jx rfl rfl (fun b11=>?_)
 refine gM rfl rfl rfl rfl rfl JE (fun w _ hS=>(by exact cY ⟨14,i,0,0,0,0⟩ (some ⟨b11,0,none⟩) 2 [⟨a,ca,f⟩,⟨b,cb,g⟩] [f,g] w rfl (Sl.dg (sp:=[]) (hS.get (j:=0) rfl)) (iz (p:=fun g:FV=>FA _ g.a g.f) (ha.ay hS.ext) (hb.ay hS.ext)) (iz (p:=fun g:FV=>g.f.length≤maxLen) hl hl2) (by simp))) ?_
 rintro v w1 w2 Y' hS he ho
 obtain ⟨q,cap,sp,rfl,hq,ao,hS'⟩:=ak hS he ho
 refine ⟨_,hS',?_⟩
 refine ai ?_;refine gE ?_
 refine gT func183 fun w' hS=>?_
 exact ⟨hS.ext,aI.mk hS 0 rfl rfl hq ao⟩
theorem CR (i:Int) (a:Option Addr) (ca:Nat) (f:List NV) (w:World) (ha:FA w a f) (hl:f.length≤maxLen):Cn Tryz.prog 184 [.int .i64 i,.slice a f.length ca] w (fun v w'=>aI 66 w w' v (aQ ⟨15,i,0,0,0,0⟩ [f])):=by
 refine Cn.of func184 rfl rfl ?_
 refine gS (gR ?_);refine ai ?_;refine gE (gS (gR ?_));refine ah ?_
 refine ab.v (ae.eM rfl rfl rfl rfl (bd66 (c:=[_,_,_,_,_,_]) rfl)) ?_
 refine ah ?_
 refine ab.eh (c:=[_]) rfl rfl rfl rfl Jo Jj Jx rfl rfl (fun b8=>?_)
 refine gM rfl rfl rfl rfl rfl JE (fun w _ hS=>(by exact cY ⟨15,i,0,0,0,0⟩ (some ⟨b8,0,none⟩) 1 [⟨a,ca,f⟩] [f] w rfl (Sl.dg (sp:=[]) (hS.get (j:=0) rfl)) (fun g hg=>by rw [List.mem_singleton.1 hg];exact ha.ay hS.ext) (fun g hg=>by rw [List.mem_singleton.1 hg];exact hl) (by simp))) ?_
 rintro v w1 w2 Y' hS he ho
 obtain ⟨q,cap,sp,rfl,hq,ao,hS'⟩:=ak hS he ho
 refine ⟨_,hS',?_⟩
 refine ai ?_;refine gE ?_
 refine gT func184 fun w' hS=>?_
 exact ⟨hS.ext,aI.mk hS 0 rfl rfl hq ao⟩
theorem u3 (a:Option Addr) (ca:Nat) (f:List NV) (b:Option Addr) (cb:Nat) (g:List NV) (w:World) (ha:FA w a f) (hl:f.length≤maxLen) (hb:FA w b g) (hl2:g.length≤maxLen):Cn Tryz.prog 185 [.slice a f.length ca,.slice b g.length cb] w (fun v w'=>aI 66 w w' v (aQ ⟨16,0,0,0,0,0⟩ [f,g])):=by
 refine Cn.of func185 rfl rfl ?_
 refine gS (gR ?_);refine ai ?_;refine gE (gS (gR ?_))
 refine ab.v (ae.eM rfl rfl rfl rfl (bd66 (c:=[_,_,_,_,_,_]) rfl)) ?_
 iterate 2 refine ah ?_
 refine ab.eh (c:=[_,_]) rfl rfl rfl rfl Jo Jj Jx rfl rfl (fun b8=>?_)
 refine gM rfl rfl rfl rfl rfl JE (fun w _ hS=>(by exact cY ⟨16,0,0,0,0,0⟩ (some ⟨b8,0,none⟩) 2 [⟨a,ca,f⟩,⟨b,cb,g⟩] [f,g] w rfl (Sl.dg (sp:=[]) (hS.get (j:=0) rfl)) (iz (p:=fun g:FV=>FA _ g.a g.f) (ha.ay hS.ext) (hb.ay hS.ext)) (iz (p:=fun g:FV=>g.f.length≤maxLen) hl hl2) (by simp))) ?_
 rintro v w1 w2 Y' hS he ho
 obtain ⟨q,cap,sp,rfl,hq,ao,hS'⟩:=ak hS he ho
 refine ⟨_,hS',?_⟩
 refine ai ?_;refine gE ?_
 refine gT func185 fun w' hS=>?_
 exact ⟨hS.ext,aI.mk hS 0 rfl rfl hq ao⟩
theorem FX (i:Int) (e:Int) (a:Option Addr) (ca:Nat) (f:List NV) (w:World) (ha:FA w a f) (hl:f.length≤maxLen):Cn Tryz.prog 186 [.int .i64 i,.int .i64 e,.slice a f.length ca] w (fun v w'=>aI 66 w w' v (aQ ⟨17,i,e,0,0,0⟩ [f])):=by
 refine Cn.of func186 rfl rfl ?_
 refine gS (gR ?_);refine ai ?_;refine gE (gS (gR ?_))
 iterate 2 refine ah ?_
 refine ab.v (ae.eM rfl rfl rfl rfl (bd66 (c:=[_,_,_,_,_,_]) rfl)) ?_
 refine ah ?_
 refine ab.eh (c:=[_]) rfl rfl rfl rfl Jo Jj Jx rfl rfl (fun b11=>?_)
 refine gM rfl rfl rfl rfl rfl JE (fun w _ hS=>(by exact cY ⟨17,i,e,0,0,0⟩ (some ⟨b11,0,none⟩) 1 [⟨a,ca,f⟩] [f] w rfl (Sl.dg (sp:=[]) (hS.get (j:=0) rfl)) (fun g hg=>by rw [List.mem_singleton.1 hg];exact ha.ay hS.ext) (fun g hg=>by rw [List.mem_singleton.1 hg];exact hl) (by simp))) ?_
 rintro v w1 w2 Y' hS he ho
 obtain ⟨q,cap,sp,rfl,hq,ao,hS'⟩:=ak hS he ho
 refine ⟨_,hS',?_⟩
 refine ai ?_;refine gE ?_
 refine gT func186 fun w' hS=>?_
 exact ⟨hS.ext,aI.mk hS 0 rfl rfl hq ao⟩
theorem Db (a:Option Addr) (ca:Nat) (f:List NV) (w:World) (ha:FA w a f) (hl:f.length≤maxLen):Cn Tryz.prog 187 [.slice a f.length ca] w (fun v w'=>aI 66 w w' v (aQ ⟨18,0,0,0,0,0⟩ [f])):=by
 refine Cn.of func187 rfl rfl ?_
 refine gS (gR ?_);refine ai ?_;refine gE (gS (gR ?_))
 refine ab.v (ae.eM rfl rfl rfl rfl (bd66 (c:=[_,_,_,_,_,_]) rfl)) ?_
 refine ah ?_
 refine ab.eh (c:=[_]) rfl rfl rfl rfl Jo Jj Jx rfl rfl (fun b5=>?_)
 refine gM rfl rfl rfl rfl rfl JE (fun w _ hS=>(by exact cY ⟨18,0,0,0,0,0⟩ (some ⟨b5,0,none⟩) 1 [⟨a,ca,f⟩] [f] w rfl (Sl.dg (sp:=[]) (hS.get (j:=0) rfl)) (fun g hg=>by rw [List.mem_singleton.1 hg];exact ha.ay hS.ext) (fun g hg=>by rw [List.mem_singleton.1 hg];exact hl) (by simp))) ?_
 rintro v w1 w2 Y' hS he ho
 obtain ⟨q,cap,sp,rfl,hq,ao,hS'⟩:=ak hS he ho
 refine ⟨_,hS',?_⟩
 refine ai ?_;refine gE ?_
 refine gT func187 fun w' hS=>?_
 exact ⟨hS.ext,aI.mk hS 0 rfl rfl hq ao⟩
theorem z9 (a:Option Addr) (ca:Nat) (f:List NV) (b:Option Addr) (cb:Nat) (g:List NV) (w:World) (ha:FA w a f) (hl:f.length≤maxLen) (hb:FA w b g) (hl2:g.length≤maxLen):Cn Tryz.prog 188 [.slice a f.length ca,.slice b g.length cb] w (fun v w'=>aI 66 w w' v (aQ ⟨19,0,0,0,0,0⟩ [f,g])):=by
 refine Cn.of func188 rfl rfl ?_
 refine gS (gR ?_);refine ai ?_;refine gE (gS (gR ?_))
 refine ab.v (ae.eM rfl rfl rfl rfl (bd66 (c:=[_,_,_,_,_,_]) rfl)) ?_
 iterate 2 refine ah ?_
 refine ab.eh (c:=[_,_]) rfl rfl rfl rfl Jo Jj Jx rfl rfl (fun b8=>?_)
 refine gM rfl rfl rfl rfl rfl JE (fun w _ hS=>(by exact cY ⟨19,0,0,0,0,0⟩ (some ⟨b8,0,none⟩) 2 [⟨a,ca,f⟩,⟨b,cb,g⟩] [f,g] w rfl (Sl.dg (sp:=[]) (hS.get (j:=0) rfl)) (iz (p:=fun g:FV=>FA _ g.a g.f) (ha.ay hS.ext) (hb.ay hS.ext)) (iz (p:=fun g:FV=>g.f.length≤maxLen) hl hl2) (by simp))) ?_
 rintro v w1 w2 Y' hS he ho
 obtain ⟨q,cap,sp,rfl,hq,ao,hS'⟩:=ak hS he ho
 refine ⟨_,hS',?_⟩
 refine ai ?_;refine gE ?_
 refine gT func188 fun w' hS=>?_
 exact ⟨hS.ext,aI.mk hS 0 rfl rfl hq ao⟩
theorem CX (a:Option Addr) (ca:Nat) (f:List NV) (w:World) (ha:FA w a f) (hl:f.length≤maxLen):Cn Tryz.prog 189 [.slice a f.length ca] w (fun v w'=>aI 66 w w' v (aQ ⟨20,0,0,0,0,0⟩ [f])):=by
 refine Cn.of func189 rfl rfl ?_
 refine gS (gR ?_);refine ai ?_;refine gE (gS (gR ?_))
 refine ab.v (ae.eM rfl rfl rfl rfl (bd66 (c:=[_,_,_,_,_,_]) rfl)) ?_
 refine ah ?_
 refine ab.eh (c:=[_]) rfl rfl rfl rfl Jo Jj Jx rfl rfl (fun b5=>?_)
 refine gM rfl rfl rfl rfl rfl JE (fun w _ hS=>(by exact cY ⟨20,0,0,0,0,0⟩ (some ⟨b5,0,none⟩) 1 [⟨a,ca,f⟩] [f] w rfl (Sl.dg (sp:=[]) (hS.get (j:=0) rfl)) (fun g hg=>by rw [List.mem_singleton.1 hg];exact ha.ay hS.ext) (fun g hg=>by rw [List.mem_singleton.1 hg];exact hl) (by simp))) ?_
 rintro v w1 w2 Y' hS he ho
 obtain ⟨q,cap,sp,rfl,hq,ao,hS'⟩:=ak hS he ho
 refine ⟨_,hS',?_⟩
 refine ai ?_;refine gE ?_
 refine gT func189 fun w' hS=>?_
 exact ⟨hS.ext,aI.mk hS 0 rfl rfl hq ao⟩
theorem Aw (a:Option Addr) (ca:Nat) (f:List NV) (b:Option Addr) (cb:Nat) (g:List NV) (w:World) (ha:FA w a f) (hl:f.length≤maxLen) (hb:FA w b g) (hl2:g.length≤maxLen):Cn Tryz.prog 190 [.slice a f.length ca,.slice b g.length cb] w (fun v w'=>aI 66 w w' v (aQ ⟨21,0,0,0,0,0⟩ [f,g])):=by
 refine Cn.of func190 rfl rfl ?_
 refine gS (gR ?_);refine ai ?_;refine gE (gS (gR ?_))
 refine ab.v (ae.eM rfl rfl rfl rfl (bd66 (c:=[_,_,_,_,_,_]) rfl)) ?_
 iterate 2 refine ah ?_
 refine ab.eh (c:=[_,_]) rfl rfl rfl rfl Jo Jj Jx rfl rfl (fun b8=>?_)
 refine gM rfl rfl rfl rfl rfl JE (fun w _ hS=>(by exact cY ⟨21,0,0,0,0,0⟩ (some ⟨b8,0,none⟩) 2 [⟨a,ca,f⟩,⟨b,cb,g⟩] [f,g] w rfl (Sl.dg (sp:=[]) (hS.get (j:=0) rfl)) (iz (p:=fun g:FV=>FA _ g.a g.f) (ha.ay hS.ext) (hb.ay hS.ext)) (iz (p:=fun g:FV=>g.f.length≤maxLen) hl hl2) (by simp))) ?_
 rintro v w1 w2 Y' hS he ho
 obtain ⟨q,cap,sp,rfl,hq,ao,hS'⟩:=ak hS he ho
 refine ⟨_,hS',?_⟩
 refine ai ?_;refine gE ?_
 refine gT func190 fun w' hS=>?_
 exact ⟨hS.ext,aI.mk hS 0 rfl rfl hq ao⟩
/-- And of formulas, from left to right -/
theorem wN (A:Option Addr) (cA:Nat) (gs:List FV) (E:Option Addr) (cE:Nat) (ef:List NV) (w:World) (hA:qF w A gs) (hfa:∀g∈gs,FA w g.a g.f) (hgl:∀g∈gs,g.f.length≤maxLen) (hle:gs.length≤maxLen) (hcA:gs.length≤cA):
    Cn Tryz.prog 64 [.slice A gs.length cA,.slice E ef.length cE,.func (.func 27) #[] #[]] w (fun v w'=>(gs=[]→v=.slice E ef.length cE)∧(gs≠[]→aI 66 w w' v (jP (gs.map FV.f)))):=by
  unfold maxLen at hle
  refine Cn.of func64 rfl rfl ?_
  refine gS (gR ?_);refine ai ?_;refine gE (gS (gS (gR ?_)));refine ah ?_;refine dY Jo ?_;refine aw bh ?_;refine gE ?_
  refine gC (fun hc=>?_) fun hc=>?_
  ·
   have h0:gs=[]:=List.eq_nil_of_length_eq_zero (by simpa using hc)
   refine gS (gR ?_);refine ah ?_;refine ai ?_;refine gE ?_
   refine gT func64 fun w' hS=>?_
   exact ⟨hS.ext,fun _=>rfl,fun h=>absurd h0 h⟩
  have h0:0<gs.length:=by
    have:¬gs.length=0:=by simpa using hc
    omega
  obtain ⟨g,gt,rfl⟩:∃g gt,gs=g::gt:=by
    cases gs with
    |nil=>exact absurd h0 (by simp)
    |cons g gt=>exact ⟨g,gt,rfl⟩
  have hgt:∀x∈gt,FA w x.a x.f∧x.f.length≤maxLen:=fun x hx=>⟨hfa x (by simp [hx]),hgl x (by simp [hx])⟩
  have hdr:qF w (Cq A cA 1 1) gt:=by
    have:=Sl.drop (w:=w) hA (cap:=cA) (lo:=1) (by simpa using hcA)
    simpa [qF] using this
  have hlen1:(g::gt).length - 1=gt.length:=by simp
  refine gK (gS (gR ?_));refine ah ?_
  refine ab.v (ae.idx (xs:=(g::gt).map FV.v) rfl rfl rfl rfl rfl Jo Jj ⟨_,hA⟩ (by simp) 0 ⟨rfl,by simp⟩) ?_
  refine ab.v (ae.ld rfl rfl rfl rfl Jn (fun w _ hS=>(qF.at (qF.ay hA hS.ext) 0 (by simp)))) ?_
  refine gM rfl rfl rfl rfl rfl call55 (fun w _ hS=>(by exact dZ g.a g.c g.f w ((hfa g (by simp)).ay hS.ext) (hgl g (by simp)))) ?_
  rintro v w1 w2 Y' hS he ho
  rw [fN] at ho
  obtain ⟨q,cap,sp,rfl,hq,ao,hS'⟩:=ak hS he ho
  refine ⟨_,hS',?_⟩
  refine ai ?_;refine gE (gS (gS (gR ?_)));refine ah ?_
  refine ab.v (ae.CP (lo:=1) rfl rfl rfl rfl rfl Jo Jj rfl (by simp)) ?_
  rw [hlen1]
  refine dY Jo ?_;refine ah ?_;refine gE (gB ?_)
  refine ab.loop (σ:=Nat×Option Nat×Nat×List Value) (fun z=>[(2,.func (.func 27) #[] #[]),(7,cK z.2.1 (((gt.take z.1).map FV.f).foldl mo (aj g.f)).length z.2.2.1),(19,.slice (Cq A cA 1 1) gt.length (cA - 1)),(20,.int .i64 gt.length),(21,.int .i64 z.1)]) (fun z=>[(z.2.1,eO 66 (((gt.take z.1).map FV.f).foldl mo (aj g.f)) z.2.2.2)])
    (fun z=>z.1≤gt.length∧(((gt.take z.1).map FV.f).foldl mo (aj g.f)).length≤200∧(z.2.1=none→(((gt.take z.1).map FV.f).foldl mo (aj g.f)).length=0∧z.2.2.1=0)∧((((gt.take z.1).map FV.f).foldl mo (aj g.f)).flatMap NV.cells++z.2.2.2).length=z.2.2.1*6) (fun z=>gt.length - z.1) (0,q,cap,sp)
    ⟨Nat.zero_le _,p3 _,hq,ao⟩ ⟨rfl,rfl,rfl,rfl,rfl,trivial⟩ (List.Sublist.refl _) (fun z hI IH=>?_)
  obtain ⟨k,q,cap,sp⟩:=z
  obtain ⟨hk,hl2,hq,ao⟩:=hI
  dsimp only at hk hl2 hq ao IH⊢
  refine gS (gR ?_);refine aw jl ?_;refine gE (gS ?_)
  refine gC (fun hc=>?_) fun hc=>?_
  ·
   have hlt:k<gt.length:=by simpa using hc
   have hgk:=hgt gt[k] (List.getElem_mem hlt)
   have hsn:((gt.take (k+1)).map FV.f).foldl mo (aj g.f)=mo (((gt.take k).map FV.f).foldl mo (aj g.f)) gt[k].f:=by
     rw [List.take_succ_eq_append_getElem hlt,List.map_append,List.foldl_append];rfl
   refine gK (gS (gB (gS (gR ?_))))
   refine ab.v (ae.idx (xs:=gt.map FV.v) rfl rfl rfl rfl rfl Jo Jj ⟨_,hdr⟩ (by simp) k ⟨rfl,by simpa using hlt⟩) ?_
   refine ab.v (ae.ld rfl rfl rfl rfl Jn (fun w _ hS=>(qF.at (qF.ay hdr hS.ext) k hlt))) ?_
   refine ai ?_;refine gE (gR ?_)
   iterate 3 refine ah ?_
   refine gM rfl rfl rfl rfl rfl call27 (fun w _ hS=>(by exact nq (q.map (fun b=>⟨b,0,none⟩)) cap _ gt[k].a gt[k].c gt[k].f w (aL hS 0 rfl (fun e=>(hq e).1)) (by unfold maxLen;omega) (hgk.1.ay hS.ext) hgk.2)) ?_
   rintro v w1 w2 Y' hS he ho
   rw [show aQ ⟨5,0,0,0,0,0⟩ [((gt.take k).map FV.f).foldl mo (aj g.f),gt[k].f]=((gt.take (k+1)).map FV.f).foldl mo (aj g.f) from hsn.symm] at ho
   obtain ⟨q',cap',sp',rfl,hq',hcap',hS'⟩:=ak hS he ho
   have hl3:(((gt.take (k+1)).map FV.f).foldl mo (aj g.f)).length≤200:=by rw [hsn,mo];exact nm _ _
   refine ⟨_,hS',?_⟩
   refine ai ?_;refine gE (dQ (gR ?_));refine df rfl rfl rfl rfl (cD (by omega)) ?_;refine ah ?_;refine gE ?_
   exact IH (k+1,q',cap',sp') _ _ ⟨hlt,hl3,hq',hcap'⟩ (by dsimp only;omega) ⟨rfl,rfl,rfl,rfl,rfl,trivial⟩ (.cons_cons _ (List.nil_sublist _))
  have hge:¬k<gt.length:=by simpa using hc
  obtain rfl:k=gt.length:=by omega
  rw [List.take_length] at hq ao⊢
  refine ab.exit rfl (gS (gR ?_))
  refine ah ?_;refine ai ?_;refine gE ?_
  refine gT func64 fun w' hS=>?_
  exact ⟨hS.ext,fun h=>(by cases h),fun _=>aI.mk hS 0 rfl rfl hq ao⟩
theorem zE (A:Option Addr) (cA:Nat) (gs:List FV) (w:World) (hA:qF w A gs) (hfa:∀g∈gs,FA w g.a g.f) (hgl:∀g∈gs,g.f.length≤maxLen) (hle:gs.length≤maxLen) (hcA:gs.length≤cA):
  Cn Tryz.prog 30 [.slice A gs.length cA] w (fun v w'=>aI 66 w w' v (jP (gs.map FV.f))):=by
 refine Cn.of func30 rfl rfl ?_
 refine gS (gR ?_);refine ai ?_;refine gE (gS (gR ?_));refine ah ?_
 refine gM rfl rfl rfl rfl rfl call65 (fun w _ hS=>ua w) ?_
 rintro v w1 w2 Y' hS he ho
 obtain ⟨q,cap,sp,rfl,hq,ao,hS'⟩:=ak hS he ho
 refine ⟨_,hS',?_⟩
 refine gM rfl rfl rfl rfl rfl call64 (fun w _ hS=>(by exact wN A cA gs (q.map (fun b=>⟨b,0,none⟩)) cap _ w (qF.ay hA hS.ext) (fun g hg=>(hfa g hg).ay hS.ext) hgl hle hcA)) ?_
 rintro v w1 w2 Y' hS he ⟨h1,h2⟩
 have hfin:∃q cap sp,v=cK q (jP (gs.map FV.f)).length cap∧(q=none→(jP (gs.map FV.f)).length=0∧cap=0)∧((jP (gs.map FV.f)).flatMap NV.cells++sp).length=cap*6∧St w [] w2 [(q,eO 66 (jP (gs.map FV.f)) sp)] Y':=by
  by_cases h0:gs=[]
  ·subst h0
   exact ⟨q,cap,sp,h1 rfl,hq,ao,hS.later he⟩
  obtain ⟨q2,jO,oT,e1,hq2,gN,hS'⟩:=ak hS he (h2 h0)
  exact ⟨q2,jO,oT,e1,hq2,gN,hS'.dH (.cons_cons _ (List.nil_sublist _))⟩
 obtain ⟨q2,jO,oT,rfl,hq2,gN,hS'⟩:=hfin
 refine ⟨_,hS',?_⟩
 refine ai ?_;refine gE ?_
 refine gT func30 fun w' hS=>?_
 exact ⟨hS.ext,aI.mk hS 0 rfl rfl hq2 gN⟩
end Go.Proofs.YtnfmegcknckahaaGreatDoor
