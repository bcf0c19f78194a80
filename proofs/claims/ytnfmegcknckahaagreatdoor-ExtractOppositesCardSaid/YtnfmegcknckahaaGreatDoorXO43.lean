/- What calls of the program return, under the conditions that each theorem states. -/
import Derived.Test.YtnfmegcknckahaaGreatDoorXO41
import Derived.Test.YtnfmegcknckahaaGreatDoorXO16
import Derived.Test.YtnfmegcknckahaaGreatDoorXO42
import Derived.Test.YtnfmegcknckahaaGreatDoorXO03
import Derived.Test.YtnfmegcknckahaaGreatDoorXO04
import Derived.Test.YtnfmegcknckahaaGreatDoorXO18
import Derived.Test.YtnfmegcknckahaaGreatDoorXO27
import Derived.Test.YtnfmegcknckahaaGreatDoorXO14
import Derived.Test.YtnfmegcknckahaaGreatDoorXO12
import Derived.Test.YtnfmegcknckahaaGreatDoorXO22
import Derived.Test.YtnfmegcknckahaaGreatDoorXO29
import Derived.Test.YtnfmegcknckahaaGreatDoorXO33
import Derived.Test.YtnfmegcknckahaaGreatDoorXO32
namespace Go.Proofs.YtnfmegcknckahaaGreatDoor
open Go.RowKit Go.Proofs.Wit Tryz
theorem u6 (w:World):Cn Tryz.prog 33 [] w (fun v w'=>∃sv,Ct w w' 2 gJ v sv∧fg sv=dD):=by
 refine Cn.of func33 rfl rfl ?_
 refine gS (gR ?_)
 refine ab.eN rfl rfl rfl (fun _=>J2 _) (fun b0=>?_)
 refine gE (gS (gR ?_))
 iterate 3 refine ab.v (ae.eM rfl rfl rfl rfl (bd66 (c:=[_,_,_,_,_,_]) rfl)) ?_
 refine ab.eh (c:=[_,_,_,_,_,_,_,_,_,_,_,_,_,_,_,_,_,_]) rfl rfl rfl rfl Ji Jd Jq rfl rfl (fun b4=>?_)
 refine ab.v (ae.eM rfl rfl rfl rfl (bd41 (c:=[_,_,_,_,_]) rfl)) ?_
 refine ab.eh (c:=[_]) rfl rfl rfl rfl Jg I9 Jv rfl rfl (fun b6=>?_)
 refine ab.v (ae.eM rfl rfl rfl rfl (bd41 (c:=[_,_,_,_,_]) rfl)) ?_
 refine ab.eh (c:=[_,_,_,_,_,_,_,_,_,_]) rfl rfl rfl rfl JB Jm J4 rfl rfl (fun b8=>?_)
 refine ab.v (ae.eM rfl rfl rfl rfl (bd25 (c:=[_,_,_]) rfl)) ?_
 refine ab.dG rfl rfl rfl rfl Jp 3 rfl rfl rfl rfl ?_
 refine gE ?_
 refine ab.fH Tryz.f33 func33 _ (aP.cell rfl JR Jp (j:=3) rfl rfl aP.nil) (fun w' hS=>?_)
 exact ⟨hS.ext,[⟨Ah,none,0⟩,⟨Ag,some ⟨b6,0,none⟩,1⟩],⟨some b4,some b8,3,2,[],[],[(none,ob bK 3 [] []),(some b6,ob bK 3 [0] [])],rfl,(fun e=>by cases e),(fun e=>by cases e),gm.of ((St.cQ hS (o:=ob bK 3 [] [])).pick (pre:=[_,_,_,_,_]) (pre':=[_,_,_,_]) [3,1,0,2] (by decide) rfl),fun x hx=>by
 simp only [List.mem_cons,List.not_mem_nil,or_false] at hx
 rcases hx with rfl|rfl
 ·exact ⟨⟨none,[],List.mem_cons_self ..,rfl,fun _=>rfl⟩,by decide⟩
 exact ⟨⟨some b6,[],List.mem_cons_of_mem _ (List.mem_cons_self ..),rfl,fun e=>by cases e⟩,(by show 1≤maxLen;decide)⟩⟩,rfl⟩
def Ge (b:List NV) (ss:List SV):Prop:=b.length≤70∧ss.length≤120∧∀s∈ss,s.d.fr.length≤5
instance {b:List NV} {ss:List SV}:Decidable (Ge b ss):=by unfold Ge;infer_instance
end Go.Proofs.YtnfmegcknckahaaGreatDoor
namespace Go.Proofs.YtnfmegcknckahaaGreatDoor
open Go.RowKit Go.Proofs.Wit Tryz
theorem C8 (a:Option Addr) (ca:Nat) (f:List NV) (w:World) (ha:FA w a f) (hl:f.length≤maxLen):Cn Tryz.prog 24 [.slice a f.length ca] w (fun v w'=>fY 66 w w' v (aQ ⟨4,0,0,0,0,0⟩ [f])):=by
 refine Cn.of func24 rfl rfl ?_
 refine gS (gR ?_);refine ai ?_;refine gE (gS (gR ?_))
 refine ab.v (ae.eM rfl rfl rfl rfl (bd66 (c:=[_,_,_,_,_,_]) rfl)) ?_
 refine ah ?_
 refine ab.eh (c:=[_]) rfl rfl rfl rfl Jo Jj Jx rfl rfl (fun b5=>?_)
 refine gM rfl rfl rfl rfl rfl JE (fun w _ hS=>(by exact jh ⟨4,0,0,0,0,0⟩ (some ⟨b5,0,none⟩) 1 [⟨a,ca,f⟩] [f] w rfl (Sl.dg (sp:=[]) (hS.get (j:=0) rfl)) (fun g hg=>by rw [List.mem_singleton.1 hg];exact ha.ay hS.ext) (fun g hg=>by rw [List.mem_singleton.1 hg];exact hl) (by simp))) ?_
 rintro v w1 w2 Y' hS he ⟨ho,hz⟩
 obtain ⟨q,cap,sp,rfl,hq,ao,hS'⟩:=ak hS he ho
 refine ⟨_,hS',?_⟩
 refine ai ?_;refine gE ?_
 refine gT func24 fun w' hS=>?_
 exact ⟨hS.ext,aI.mk hS 0 rfl rfl hq ao,hz⟩
theorem A9 (i:Int) (a:Option Addr) (ca:Nat) (f:List NV) (w:World) (ha:FA w a f) (hl:f.length≤maxLen):Cn Tryz.prog 32 [.int .i64 i,.slice a f.length ca] w (fun v w'=>fY 66 w w' v (aQ ⟨9,i,0,0,0,0⟩ [f])):=by
 refine Cn.of func32 rfl rfl ?_
 refine gS (gR ?_);refine ai ?_;refine gE (gS (gR ?_));refine ah ?_
 refine ab.v (ae.eM rfl rfl rfl rfl (bd66 (c:=[_,_,_,_,_,_]) rfl)) ?_
 refine ah ?_
 refine ab.eh (c:=[_]) rfl rfl rfl rfl Jo Jj Jx rfl rfl (fun b8=>?_)
 refine gM rfl rfl rfl rfl rfl JE (fun w _ hS=>(by exact jh ⟨9,i,0,0,0,0⟩ (some ⟨b8,0,none⟩) 1 [⟨a,ca,f⟩] [f] w rfl (Sl.dg (sp:=[]) (hS.get (j:=0) rfl)) (fun g hg=>by rw [List.mem_singleton.1 hg];exact ha.ay hS.ext) (fun g hg=>by rw [List.mem_singleton.1 hg];exact hl) (by simp))) ?_
 rintro v w1 w2 Y' hS he ⟨ho,hz⟩
 obtain ⟨q,cap,sp,rfl,hq,ao,hS'⟩:=ak hS he ho
 refine ⟨_,hS',?_⟩
 refine ai ?_;refine gE ?_
 refine gT func32 fun w' hS=>?_
 exact ⟨hS.ext,aI.mk hS 0 rfl rfl hq ao,hz⟩
theorem Ed (a:Option Addr) (ca:Nat) (f:List NV) (b:Option Addr) (cb:Nat) (g:List NV) (w:World) (ha:FA w a f) (hl:f.length≤maxLen) (hb:FA w b g) (hl2:g.length≤maxLen):Cn Tryz.prog 27 [.slice a f.length ca,.slice b g.length cb] w (fun v w'=>fY 66 w w' v (aQ ⟨5,0,0,0,0,0⟩ [f,g])):=by
 refine Cn.of func27 rfl rfl ?_
 refine gS (gR ?_);refine ai ?_;refine gE (gS (gR ?_))
 refine ab.v (ae.eM rfl rfl rfl rfl (bd66 (c:=[_,_,_,_,_,_]) rfl)) ?_
 iterate 2 refine ah ?_
 refine ab.eh (c:=[_,_]) rfl rfl rfl rfl Jo Jj Jx rfl rfl (fun b8=>?_)
 refine gM rfl rfl rfl rfl rfl JE (fun w _ hS=>(by exact jh ⟨5,0,0,0,0,0⟩ (some ⟨b8,0,none⟩) 2 [⟨a,ca,f⟩,⟨b,cb,g⟩] [f,g] w rfl (Sl.dg (sp:=[]) (hS.get (j:=0) rfl)) (iz (p:=fun g:FV=>FA _ g.a g.f) (ha.ay hS.ext) (hb.ay hS.ext)) (iz (p:=fun g:FV=>g.f.length≤maxLen) hl hl2) (by simp))) ?_
 rintro v w1 w2 Y' hS he ⟨ho,hz⟩
 obtain ⟨q,cap,sp,rfl,hq,ao,hS'⟩:=ak hS he ho
 refine ⟨_,hS',?_⟩
 refine ai ?_;refine gE ?_
 refine gT func27 fun w' hS=>?_
 exact ⟨hS.ext,aI.mk hS 0 rfl rfl hq ao,hz⟩
theorem E6 (a:Option Addr) (ca:Nat) (f:List NV) (b:Option Addr) (cb:Nat) (g:List NV) (w:World) (ha:FA w a f) (hl:f.length≤maxLen) (hb:FA w b g) (hl2:g.length≤maxLen):Cn Tryz.prog 28 [.slice a f.length ca,.slice b g.length cb] w (fun v w'=>fY 66 w w' v (aQ ⟨6,0,0,0,0,0⟩ [f,g])):=by
 refine Cn.of func28 rfl rfl ?_
 refine gS (gR ?_);refine ai ?_;refine gE (gS (gR ?_))
 refine ab.v (ae.eM rfl rfl rfl rfl (bd66 (c:=[_,_,_,_,_,_]) rfl)) ?_
 iterate 2 refine ah ?_
 refine ab.eh (c:=[_,_]) rfl rfl rfl rfl Jo Jj Jx rfl rfl (fun b8=>?_)
 refine gM rfl rfl rfl rfl rfl JE (fun w _ hS=>(by exact jh ⟨6,0,0,0,0,0⟩ (some ⟨b8,0,none⟩) 2 [⟨a,ca,f⟩,⟨b,cb,g⟩] [f,g] w rfl (Sl.dg (sp:=[]) (hS.get (j:=0) rfl)) (iz (p:=fun g:FV=>FA _ g.a g.f) (ha.ay hS.ext) (hb.ay hS.ext)) (iz (p:=fun g:FV=>g.f.length≤maxLen) hl hl2) (by simp))) ?_
 rintro v w1 w2 Y' hS he ⟨ho,hz⟩
 obtain ⟨q,cap,sp,rfl,hq,ao,hS'⟩:=ak hS he ho
 refine ⟨_,hS',?_⟩
 refine ai ?_;refine gE ?_
 refine gT func28 fun w' hS=>?_
 exact ⟨hS.ext,aI.mk hS 0 rfl rfl hq ao,hz⟩
theorem DE (a:Option Addr) (ca:Nat) (f:List NV) (b:Option Addr) (cb:Nat) (g:List NV) (w:World) (ha:FA w a f) (hl:f.length≤maxLen) (hb:FA w b g) (hl2:g.length≤maxLen):Cn Tryz.prog 34 [.slice a f.length ca,.slice b g.length cb] w (fun v w'=>fY 66 w w' v (aQ ⟨7,0,0,0,0,0⟩ [f,g])):=by
 refine Cn.of func34 rfl rfl ?_
 refine gS (gR ?_);refine ai ?_;refine gE (gS (gR ?_))
 refine ab.v (ae.eM rfl rfl rfl rfl (bd66 (c:=[_,_,_,_,_,_]) rfl)) ?_
 iterate 2 refine ah ?_
 refine ab.eh (c:=[_,_]) rfl rfl rfl rfl Jo Jj Jx rfl rfl (fun b8=>?_)
 refine gM rfl rfl rfl rfl rfl JE (fun w _ hS=>(by exact jh ⟨7,0,0,0,0,0⟩ (some ⟨b8,0,none⟩) 2 [⟨a,ca,f⟩,⟨b,cb,g⟩] [f,g] w rfl (Sl.dg (sp:=[]) (hS.get (j:=0) rfl)) (iz (p:=fun g:FV=>FA _ g.a g.f) (ha.ay hS.ext) (hb.ay hS.ext)) (iz (p:=fun g:FV=>g.f.length≤maxLen) hl hl2) (by simp))) ?_
 rintro v w1 w2 Y' hS he ⟨ho,hz⟩
 obtain ⟨q,cap,sp,rfl,hq,ao,hS'⟩:=ak hS he ho
 refine ⟨_,hS',?_⟩
 refine ai ?_;refine gE ?_
 refine gT func34 fun w' hS=>?_
 exact ⟨hS.ext,aI.mk hS 0 rfl rfl hq ao,hz⟩
theorem DF (a:Option Addr) (ca:Nat) (f:List NV) (b:Option Addr) (cb:Nat) (g:List NV) (w:World) (ha:FA w a f) (hl:f.length≤maxLen) (hb:FA w b g) (hl2:g.length≤maxLen):Cn Tryz.prog 118 [.slice a f.length ca,.slice b g.length cb] w (fun v w'=>fY 66 w w' v (aQ ⟨8,0,0,0,0,0⟩ [f,g])):=by
 refine Cn.of func118 rfl rfl ?_
 refine gS (gR ?_);refine ai ?_;refine gE (gS (gR ?_))
 refine ab.v (ae.eM rfl rfl rfl rfl (bd66 (c:=[_,_,_,_,_,_]) rfl)) ?_
 iterate 2 refine ah ?_
 refine ab.eh (c:=[_,_]) rfl rfl rfl rfl Jo Jj Jx rfl rfl (fun b8=>?_)
 refine gM rfl rfl rfl rfl rfl JE (fun w _ hS=>(by exact jh ⟨8,0,0,0,0,0⟩ (some ⟨b8,0,none⟩) 2 [⟨a,ca,f⟩,⟨b,cb,g⟩] [f,g] w rfl (Sl.dg (sp:=[]) (hS.get (j:=0) rfl)) (iz (p:=fun g:FV=>FA _ g.a g.f) (ha.ay hS.ext) (hb.ay hS.ext)) (iz (p:=fun g:FV=>g.f.length≤maxLen) hl hl2) (by simp))) ?_
 rintro v w1 w2 Y' hS he ⟨ho,hz⟩
 obtain ⟨q,cap,sp,rfl,hq,ao,hS'⟩:=ak hS he ho
 refine ⟨_,hS',?_⟩
 refine ai ?_;refine gE ?_
 refine gT func118 fun w' hS=>?_
 exact ⟨hS.ext,aI.mk hS 0 rfl rfl hq ao,hz⟩
theorem DN {i:Int} (hi:0≤i∧i<4):eX 10 i 0 0=0:=by
 obtain ⟨k,rfl⟩:∃k:Nat,i=(k:Int):=⟨i.toNat,by omega⟩
 have:∀j:Fin 4,eX 10 ((j.val:Nat):Int) 0 0=0:=by decide
 exact this ⟨k,by omega⟩
theorem gQ (x:FV) (t:Tr) (w:World) (ha:FA w x.a x.f) (hf:x.f=bT t) (ht:t.ok):Cn Tryz.prog 24 [x.v] w (fun v w'=>fY 66 w w' v (bT (aE t))):=by
 have:=C8 x.a x.c x.f w ha (aC hf)
 rw [show aQ ⟨4,0,0,0,0,0⟩ [x.f]=bT (aE t) from by rw [hf];exact ji ht (by decide) rfl rfl rfl] at this
 exact this
theorem dL (i:Int) (hi:0≤i∧i<4) (x:FV) (t:Tr) (w:World) (ha:FA w x.a x.f) (hf:x.f=bT t) (ht:t.ok):Cn Tryz.prog 32 [.int .i64 i,x.v] w (fun v w'=>fY 66 w w' v (bT (ar i t))):=by
 have:=A9 i x.a x.c x.f w ha (aC hf)
 rw [show aQ ⟨9,i,0,0,0,0⟩ [x.f]=bT (ar i t) from by rw [hf];exact ji ht (by decide) rfl rfl (rW hi)] at this
 exact this
theorem rv (i:Int) (hi:0≤i∧i<4) (x:FV) (t:Tr) (w:World) (ha:FA w x.a x.f) (hf:x.f=bT t) (ht:t.ok):Cn Tryz.prog 35 [.int .i64 i,x.v] w (fun v w'=>aI 66 w w' v (bT (gi i t))):=by
 have:=um i x.a x.c x.f w ha (aC hf)
 rw [show aQ ⟨10,i,0,0,0,0⟩ [x.f]=bT (gi i t) from by rw [hf];exact ji ht (by decide) rfl rfl (DN hi)] at this
 exact this
theorem CB (x y:FV) (t u:Tr) (w:World) (ha:FA w x.a x.f) (hf:x.f=bT t) (ht:t.ok) (hb:FA w y.a y.f) (hg:y.f=bT u) (hu:u.ok):Cn Tryz.prog 27 [x.v,y.v] w (fun v w'=>fY 66 w w' v (bT (ju t u))):=by
 have:=Ed x.a x.c x.f y.a y.c y.f w ha (aC hf) hb (aC hg)
 rw [show aQ ⟨5,0,0,0,0,0⟩ [x.f,y.f]=bT (ju t u) from by rw [hf,hg];exact dx ht hu (by decide) rfl rfl] at this
 exact this
theorem B0 (x y:FV) (t u:Tr) (w:World) (ha:FA w x.a x.f) (hf:x.f=bT t) (ht:t.ok) (hb:FA w y.a y.f) (hg:y.f=bT u) (hu:u.ok):Cn Tryz.prog 28 [x.v,y.v] w (fun v w'=>fY 66 w w' v (bT (.bin 6 0 0 0 t u))):=by
 have:=E6 x.a x.c x.f y.a y.c y.f w ha (aC hf) hb (aC hg)
 rw [show aQ ⟨6,0,0,0,0,0⟩ [x.f,y.f]=bT (.bin 6 0 0 0 t u) from by rw [hf,hg];exact dx ht hu (by decide) rfl rfl] at this
 exact this
theorem fF (x y:FV) (t u:Tr) (w:World) (ha:FA w x.a x.f) (hf:x.f=bT t) (ht:t.ok) (hb:FA w y.a y.f) (hg:y.f=bT u) (hu:u.ok):Cn Tryz.prog 34 [x.v,y.v] w (fun v w'=>fY 66 w w' v (bT (aR t u))):=by
 have:=DE x.a x.c x.f y.a y.c y.f w ha (aC hf) hb (aC hg)
 rw [show aQ ⟨7,0,0,0,0,0⟩ [x.f,y.f]=bT (aR t u) from by rw [hf,hg];exact dx ht hu (by decide) rfl rfl] at this
 exact this
theorem CA (x y:FV) (t u:Tr) (w:World) (ha:FA w x.a x.f) (hf:x.f=bT t) (ht:t.ok) (hb:FA w y.a y.f) (hg:y.f=bT u) (hu:u.ok):Cn Tryz.prog 118 [x.v,y.v] w (fun v w'=>fY 66 w w' v (bT (nF t u))):=by
 have:=DF x.a x.c x.f y.a y.c y.f w ha (aC hf) hb (aC hg)
 rw [show aQ ⟨8,0,0,0,0,0⟩ [x.f,y.f]=bT (nF t u) from by rw [hf,hg];exact dx ht hu (by decide) rfl rfl] at this
 exact this
end Go.Proofs.YtnfmegcknckahaaGreatDoor
namespace Go.Proofs.YtnfmegcknckahaaGreatDoor
open Go.RowKit Go.Proofs.Wit Tryz
theorem Bp {t:Tr} {l:List Tr} (hn:l.Nodup) (hm:∀u,u∈l↔u∈kH t):l.length≤10↔af t:=by
 constructor
 ·exact fun h=>⟨l,hn,hm,h⟩
 rintro ⟨l',hn',hm',h⟩
 have:=hn.length_le_of_subset (fun u hu=>(hm' u).2 ((hm u).1 hu):l⊆l')
 omega
theorem uG:(Tryz.prog.info? 22).map (fun i=>(i.zero,i.size,i.bytes))=some (some (Value.slice none 0 0),1,24):=by kernel_rfl
set_option maxRecDepth 8000 in
theorem zv (a:Option Addr) (ca:Nat) (f:List NV) (t:Tr) (w:World) (ha:FA w a f) (hf:f=bT t) (ht:t.ok) (hne:f≠[]):
    Cn Tryz.prog 127 [.slice a f.length ca] w (fun v _=>∃(A:Option Addr) (n c:Nat),v=.tuple #[.slice A n c,.int .i64 0]∧(n≤10↔af t)):=by
  obtain ⟨i1,hi1,hz1,hsz1,hby1⟩:=info_parts uJ
  obtain ⟨i2,hi2,hz2,hsz2,hby2⟩:=info_parts uG
  have hl:f.length≤maxLen:=aC hf
  have hcF:Cf f t:=⟨hf,hne,ht⟩
  have hck:=hcF.iY
  have htp:aO f=t:=hcF.top
  obtain ⟨c,hcE⟩:∃c,c=aj f:=⟨_,rfl⟩
  have hC:gI c:=by rw [hcE];exact gI.aj hck
  have hO:=hC.nodes
  have hcl:=hC.len
  have hcp:0<c.length:=(aA.1 hC.iY).pos
  have htop:aO c=aO f:=by rw [hcE];exact qK hck
  have hT:aa c (c.length - 1)=t:=by rw [←db,htop];exact htp
  refine Cn.of func127 rfl rfl ?_
  refine gS (gR ?_)
  iterate 2 refine ai ?_
  refine gE (gS (gS (gR ?_)));refine ah ?_
  refine gP rfl rfl rfl rfl rfl call54 (fun w _ hS=>(by have:=fR a ca f w (ha.ay hS.ext) hl;rw [hck] at this;exact this)) ?_
  refine ai ?_;refine gE (gS (gR ?_));refine ah ?_
  refine df rfl rfl rfl rfl (np (v:=false) rfl) ?_
  refine gE (ab.gj rfl (gK (gS (gR ?_))));refine ah ?_
  refine gM rfl rfl rfl rfl rfl call55 (fun w _ hS=>(by exact dZ a ca f w (ha.ay hS.ext) hl)) ?_
  rintro v w1 w2 Y' hS he ho
  rw [fN,←hcE] at ho
  obtain ⟨qc,capc,spc,rfl,hqc,hcapc,hS'⟩:=ak hS he ho
  refine ⟨_,hS',?_⟩
  refine ai ?_;refine gE (gS (gR ?_));refine ai ?_;refine gE (gS (gS (gR ?_)))
  iterate 2 refine ah ?_
  refine dY Ji ?_
  refine df rfl rfl rfl rfl (iH (c:=((c.length - 1:Nat):Int)) (by omega) (by omega)) ?_
  refine ah ?_;refine dY Ji ?_
  refine ab.Eu Value.bool false rfl rfl rfl rfl rfl JO hi1 hz1 rfl hsz1 (by rw [hby1];omega) (by unfold maxLen;omega) (fun b22=>?_)
  refine ab.cQ (ob bK 3 [] []) ?_
  refine ab.pick (pre:=[_,_,_]) (pre':=eF b22 none (List.replicate c.length false) [] []++[(qc,eO 66 c spc)]) [1,0,2] (by decide) rfl ?_
  refine ab.iG (h:=eF b22 none (List.replicate c.length false) [] []) (hF:=[(qc,eO 66 c spc)]) (fs:=[]) (cs:=[]) (fun _ v h'=>lC c (c.length - 1) b22 (List.replicate c.length false) [] v h') rfl rfl rfl rfl rfl (fun _ _=>call172 _ _) (fun w1 Y' hS=>?_) (fun w1 v h1 hR=>?_)
  · have hfa:FA w1 (qc.map (fun b=>⟨b,0,none⟩)) c:=aL hS 2 rfl (fun e=>(hqc e).1)
    have hS1:=hS.dH (List.sublist_append_left (eF b22 none (List.replicate c.length false) [] []) _)
    have hin:FV.In 66 [(qc,eO 66 c spc)] ⟨qc.map (fun b=>⟨b,0,none⟩),capc,c⟩:=⟨qc,spc,List.mem_cons_self ..,rfl,hqc,hcapc⟩
    exact tp (qc.map (fun b=>⟨b,0,none⟩)) capc c hO hcl b22 (c.length - 1) (by omega) w1 none 0 (List.replicate c.length false) [] [] hS1.has hfa (hin.sep hS).sep (fun _=>⟨rfl,rfl⟩) rfl (by simp) ny.nil
  obtain ⟨q6,cap6,sp6,s6,o6,rfl,rfl,hq6,hcap6,hL⟩:=hR
  obtain ⟨l,rfl,hn,hlt,hmem⟩:=hL.done hO (by omega)
  rw [hT] at hmem
  have hnd:=yA hC hn hlt
  have hfew:=Bp hnd hmem
  rw [List.length_map] at hfew
  have hll:(l.map (fun j:Nat=>(j:Int))).length=l.length:=List.length_map ..
  have hl2:l.length≤200:=by
    have:=hn.length_le_of_subset (fun j hj=>List.mem_range.2 (hlt j hj):l⊆List.range c.length)
    simp at this;omega
  unfold eF
  refine dY Jg ?_;refine ah ?_;refine gE (gB ?_)
  refine ab.cQ (ob FV.v 22 [] []) ?_
  refine ab.pick (pre:=[_,_,_,_]) (pre':=[(none,ob FV.v 22 [] []),(q6,ob bK 3 (l.map (fun j:Nat=>(j:Int))) sp6),(qc,eO 66 c spc)]) [0,2,3] (by decide) rfl ?_
  refine ab.loop (σ:=Nat×Option Nat×Nat×List FV×List Value) (fun z=>[(5,cK qc c.length capc),(6,cK z.2.1 z.2.2.2.1.length z.2.2.1),(23,cK q6 (l.map (fun j:Nat=>(j:Int))).length cap6),(24,.int .i64 (l.map (fun j:Nat=>(j:Int))).length),(25,.int .i64 z.1)])
    (fun z=>[(z.2.1,ob FV.v 22 z.2.2.2.1 z.2.2.2.2),(q6,ob bK 3 (l.map (fun j:Nat=>(j:Int))) sp6),(qc,eO 66 c spc)])
    (fun z=>z.1≤l.length∧(z.2.1=none→z.2.2.2.1.length=0∧z.2.2.1=0)∧(z.2.2.2.1.map FV.v++z.2.2.2.2).length=z.2.2.1∧z.2.2.2.1.length=z.1) (fun z=>l.length - z.1) (0,none,0,[],[]) ⟨Nat.zero_le _,fun _=>⟨rfl,rfl⟩,rfl,rfl⟩ ⟨rfl,rfl,rfl,rfl,rfl,trivial⟩ (List.Sublist.refl _) (fun z hI IH=>?_)
  obtain ⟨k,q,cap,gs,sp⟩:=z
  obtain ⟨hk,hq,ao,hgl⟩:=hI
  dsimp only at hk hq ao hgl IH⊢
  refine gS (gR ?_);refine aw jl ?_;refine gE (gS ?_)
  refine gC (fun hc=>?_) fun hc=>?_
  ·
   have hlt2:k<l.length:=by rw [hll] at hc;simpa using hc
   have hlt3:k<(l.map (fun j:Nat=>(j:Int))).length:=by rw [hll];exact hlt2
   obtain ⟨bq,rfl⟩:∃b,q6=some b:=by
     cases q6 with
     |none=>have:=(hq6 rfl).1;omega
     |some b=>exact ⟨b,rfl⟩
   refine gK (gS (gB (gS (gR ?_))))
   refine ab.v (ae.dV rfl rfl rfl rfl rfl Jg I9 (k) ⟨rfl,hlt3⟩) ?_
   refine ab.v (ae.qY bK 0 rfl rfl rfl rfl Ja 1 rfl hlt3) ?_
   refine ai ?_;refine gE (gR ?_)
   iterate 3 refine ah ?_
   refine gM rfl rfl rfl rfl rfl call86 (fun w _ hS=>(by exact iF (qc.map (fun b=>⟨b,0,none⟩)) capc c ((l.map (fun j:Nat=>(j:Int))).getD k 0) w (aL hS 2 rfl (fun e=>(hqc e).1)) (by unfold maxLen;omega))) ?_
   rintro v w1 w2 Y' hS he ho
   obtain ⟨qf,capf,spf,rfl,hqf,hcapf,hS'⟩:=ak hS he ho
   refine ⟨_,hS',?_⟩
   refine ab.eh (c:=[_]) rfl rfl rfl rfl Jo Jj Jx rfl rfl (fun b33=>?_)
   refine ab.oh FV.v (news:=[⟨qf.map (fun b=>⟨b,0,none⟩),capf,fw c ((l.map (fun j:Nat=>(j:Int))).getD k 0)⟩]) (spn:=[]) (xs:=gs) (sp:=sp) (q:=q) rfl rfl rfl rfl rfl Jo hi2 hz2 hsz2 rfl hq 2 rfl 0 (by cases qf<;>rfl) ao rfl (by decide) (fun _=>rfl) (by unfold maxLen;omega) (by rw [hby2];omega) (fun b' sp' cap' hlen=>?_)
   refine ai ?_;refine gE (dQ (gR ?_));refine df rfl rfl rfl rfl (cD (by omega)) ?_;refine ah ?_;refine gE ?_
   refine ab.pick (pre:=[_,_,_,_,_]) (pre':=[_,_,_]) [2,3,4] (by decide) rfl ?_
   exact IH (k+1,some b',cap',gs++[_],sp') _ _ ⟨hlt2,(fun e=>by cases e),hlen,by simp [hgl]⟩ (by dsimp only;omega) ⟨rfl,rfl,rfl,rfl,rfl,trivial⟩ (List.Sublist.refl _)
  have hge:¬k<l.length:=by rw [hll] at hc;simpa using hc
  obtain rfl:k=l.length:=by omega
  refine ab.exit rfl (gS (gR ?_))
  refine ah ?_
  iterate 2 refine ai ?_
  refine gE ?_
  refine gT func127 fun w' hS=>?_
  exact ⟨hS.ext,_,gs.length,cap,rfl,by rw [hgl];exact hfew⟩
end Go.Proofs.YtnfmegcknckahaaGreatDoor
namespace Go.Proofs.YtnfmegcknckahaaGreatDoor
open Go.RowKit Go.Proofs.Wit Tryz
def xE (b:Bool):Value:=.int .i64 (if b=true then 8 else 0)
abbrev XW (bw:Nat) (Γ:List FV) (σ:Sg) (gf:FuncId) (args:List Value) (w:World) (hR:Hl) (r:Nat×Sg):Prop:=rq Tryz.prog 66 73 48 xE bw Γ σ gf args w hR r
theorem DC:(Tryz.prog.info? 48).map (fun i=>(i.zero,i.size,i.bytes))=some (some (.agg #[.slice none 0 0,.int .i64 0,.int .i64 0,.int .i64 0,.int .i64 0]),5,56):=by kernel_rfl
set_option maxRecDepth 8000 in
theorem iZ (bw:Nat) (Γ:List FV) (σ:Sg) (x:FV) (t:Tr) (r:Int) (a b:Nat) (g:Int) (w:World) (hx:x∈Γ) (hf:x.f=bT t) (ht:t.ok) (hz:x.Z):
    XW bw Γ σ 83 [.pointer (some ⟨bw,0,none⟩),.agg #[x.v,.int .i64 r,.int .i64 a,.int .i64 b,.int .i64 g]] w [] (bQ af t r a b g σ):=by
  obtain ⟨i3,hi3,hz3,hsz3,hby3⟩:=info_parts DC
  refine rq.of func83 rfl rfl (fun s hW hH=>?_)
  have hnil:=hW.GH hx hz
  have hfit:x.f≠[]↔Fit t:=by rw [hf];exact kF.symm
  have hlen:=hW.len
  have hfew:=hW.Ey
  refine gS (gR ?_)
  refine ab.bx rfl rfl rfl rfl (fun b3=>?_)
  refine ai ?_;refine gE (gS (gS (gR ?_)));refine ah ?_;refine kk ?_;refine al JS I9 1 ?_;refine aq Ja 1 ?_;refine aw gO ?_;refine gE ?_
  refine gC (fun hc=>?_) fun hc=>?_
  ·
   have hb:σ.bad=true:=by
     cases hb:σ.bad with
     |true=>rfl
     |false=>rw [hb] at hc;simp at hc
   refine gS (gR ?_);refine ai ?_;refine gE ?_
   refine gT func83 fun w' hS=>?_
   exact dR (pre:=[_]) (jq hb) rfl hW (fun _ h=>h) hS
  have hb:σ.bad=false:=by
    cases hb:σ.bad with
    |false=>rfl
    |true=>rw [hb] at hc;simp at hc
  refine gK (gS (gS (gR ?_)));refine al Jw Jj 0 ?_;refine aq Jn 0 ?_;refine df rfl rfl rfl rfl (u0 Ji) ?_;refine ah ?_
  refine eD 15 (fun hc=>?_) fun hc=>?_
  ·
   have hn:x.a=none:=by simpa using hc
   have hE:bQ af t r a b g σ=(0,⟨σ.ls,true⟩):=by rw [bQ,if_pos (.inr (.inl (fun h=>hfit.2 h (hnil.1 hn))))]
   iterate 6 refine cy ?_
   refine cz ?_;refine gE (ab.bX rfl (gS (gR ?_)));refine ah ?_;refine kk ?_;refine al JS I9 1 ?_
   refine ab.st rfl rfl rfl rfl I9 rfl 1 rfl rfl ?_
   refine gE (gS (gR ?_));refine ai ?_;refine gE ?_
   refine gT func83 fun w' hS=>?_
   exact dR (pre:=[_]) hE rfl hW.bad (fun _ h=>h) hS
  have hn:x.a≠none:=fun e=>by rw [e] at hc;simp at hc
  have hF:Fit t:=hfit.1 (fun e=>hn (hnil.2 e))
  refine ah ?_;refine kk ?_;refine al JS J0 0 ?_;refine aq isAgg31 1 ?_;refine dY JD ?_;refine aw oN ?_;refine bE ?_;refine gE ?_
  refine gC (fun hc=>?_) fun hc=>?_
  ·
   have h4:400≤σ.ls.length:=by simp at hc;omega
   have hE:bQ af t r a b g σ=(0,⟨σ.ls,true⟩):=by rw [bQ,if_pos (.inr (.inr (.inl h4)))]
   refine gS (gR ?_);refine ah ?_;refine kk ?_;refine al JS I9 1 ?_
   refine ab.st rfl rfl rfl rfl I9 rfl 1 rfl rfl ?_
   refine gE (gS (gR ?_));refine ai ?_;refine gE ?_
   refine gT func83 fun w' hS=>?_
   exact dR (pre:=[_]) hE rfl hW.bad (fun _ h=>h) hS
  have h4:¬400≤σ.ls.length:=by simp at hc;omega
  refine gK (gS ?_)
  refine ab.jL (α:={_u:Unit // r=1→af t}) (fun _=>[(0,.pointer (some ⟨bw,0,none⟩)),(3,.pointer (some ⟨b3,0,none⟩))]) (fun _=>[(some b3,.cells #[x.v,.int .i64 r,.int .i64 a,.int .i64 b,.int .i64 g] 48 (0,0))]++cd 73 48 (xE σ.bad) bw s) (fun hfw=>?_) (fun K=>?_)
  have hfw:=hfw.2
  · -- what comes behind
   skip
   obtain ⟨nl,hnl⟩:∃nl:LV,nl=⟨x,r,a,b,g⟩:=⟨_,rfl⟩
   have hcl:LV.cells nl=[x.v,.int .i64 r,.int .i64 a,.int .i64 b,.int .i64 g]:=by rw [hnl];rfl
   have e1:s.ls.flatMap LV.cells++LV.cells nl=(s.ls++[nl]).flatMap LV.cells:=uL.symm
   have e2:s.ls.length+1=(s.ls++[nl]).length:=by simp
   have hE:bQ af t r a b g σ=(σ.ls.length,⟨σ.ls++[⟨t,r,a,b,g⟩],false⟩):=by
     rw [bQ,if_neg]
     rintro (h|h|h|⟨h1,h2⟩)
     · rw [hb] at h;cases h
     · exact h hF
     · exact h4 h
     exact h2 (hfw h1)
   refine gS ?_
   refine ab.r8 6 12 [(some b3,.cells #[x.v,.int .i64 r,.int .i64 a,.int .i64 b,.int .i64 g] 48 (0,0)),(some bw,.cells #[cK s.q s.ls.length s.cap,xE σ.bad] 73 (0,0))] sL mixed rfl ?_
   iterate 2 refine lT.v (ae.mv rfl rfl rfl rfl) ?_
   refine lT.v (ae.eg rfl rfl rfl rfl) ?_
   refine lT.v (ae.aH rfl rfl rfl rfl JS rfl (by exact J0) 0 rfl) ?_
   refine lT.v (ae.dw rfl rfl rfl rfl isAgg31 1 rfl rfl) ?_
   refine lT.v (ae.iR rfl rfl rfl rfl isAgg48 0 rfl JQ rfl) ?_
   refine lT.nil ?_
   refine Tl.one (d:=47) rfl ?_
   refine dk.eh (c:=[_,_,_,_,_]) rfl rfl rfl rfl JD JQ zeroValue48 rfl rfl (fun b47=>⟨by repeat (first|exact List.Sublist.refl _|exact List.nil_sublist _|refine List.Sublist.cons_cons _ ?_|refine List.Sublist.cons _ ?_),?_⟩)
   refine Tl.one (d:=48) rfl ?_
   refine dk.app 5 (xs:=s.ls.flatMap LV.cells) (sp:=s.sp) (nx:=s.ls.length) (q:=s.q) (news:=LV.cells nl) (spn:=[]) rfl rfl rfl rfl rfl JD hi3 hz3 hsz3 rfl hW.nil 3 rfl 0 (by rw [hcl];rfl) FD hW.cap (by rw [hcl];rfl) (by decide) (fun u hu=>by
     rw [hcl] at hu
     simp only [List.mem_cons,List.not_mem_nil,or_false] at hu
     rcases hu with rfl|rfl|rfl|rfl|rfl<;>rfl) (by unfold maxLen;omega) (by rw [hby3];omega) (fun b' sp' cap' hlen2=>⟨.cons _ (.cons_cons _ (.cons_cons _ (List.nil_sublist _))),?_⟩)
   rw [e1] at hlen2⊢
   rw [e2]
   refine Tl.sw [8,9,10] rfl rfl ?_
   refine kk ?_;refine al JS J0 0 ?_
   refine ab.st rfl rfl rfl rfl J0 rfl 2 rfl rfl ?_
   refine gE (gS (gR ?_));refine ah ?_;refine kk ?_;refine al JS J0 0 ?_;refine aq isAgg31 2 ?_;refine dY JD ?_
   refine df rfl rfl rfl rfl (iH (c:=(σ.ls.length:Int)) (by rw [←hlen];simp) (by omega)) ?_
   refine ai ?_;refine gE ?_
   refine gT func83 fun w' hS=>?_
   have hW':ff 66 Γ ⟨σ.ls++[⟨t,r,a,b,g⟩],false⟩ ⟨some b',cap',s.ls++[nl],sp',s.H⟩:=⟨fun e=>(by cases e),hlen2,by
     show (s.ls++[nl]).map LV.d=_
     rw [List.map_append,hW.Bw,List.map_append,hnl]
     show _++[LD.mk x.f r a b g]=_++[LD.mk (bT t) r a b g]
     rw [hf],by show (s.ls++[nl]).length≤400;simp;omega,hW.ctx,fun y hy=>by
     rcases List.mem_append.1 hy with hy|hy
     · exact hW.DL y hy
     · rw [List.mem_singleton.1 hy,hnl];exact hx,fun y hy=>by
     rcases List.mem_append.1 hy with hy|hy
     · exact hW.Es y hy
     rw [List.mem_singleton.1 hy];exact ht⟩
   rw [hb] at hS
   exact dR (pre:=[_,_]) hE rfl hW' (fun _ h=>h) hS
  · -- the first part
   refine gS (gR ?_);refine al Jw I9 1 ?_;refine aq Ja 0 ?_;refine aw bh ?_;refine gE ?_
   refine gC (fun hc=>?_) fun hc=>?_
   ·
    have hr:r=1:=by simpa using hc
    refine gS (gR ?_);refine al Jw Jj 0 ?_;refine aq Jn 0 ?_
    refine gM rfl rfl rfl rfl rfl call127 (fun w _ hS=>(by exact zv x.a x.c x.f t w (hW.fa (pre:=[_]) hx hS) hf ht (hfit.2 hF))) ?_
    rintro v w1 w2 Y' hS he ⟨A,m,c,rfl,hm⟩
    refine ⟨_,hS.later he,?_⟩
    refine ah ?_
    iterate 2 refine fW ?_
    iterate 2 refine ai ?_
    refine gE (gS (gR ?_));refine ah ?_;refine dY Jo ?_;refine aw w6 ?_;refine gE ?_
    refine gC (fun hc=>?_) fun hc=>?_
    ·
     have hm10:¬m≤10:=by simp at hc;omega
     have hE:bQ af t r a b g σ=(0,⟨σ.ls,true⟩):=by rw [bQ,if_pos (.inr (.inr (.inr ⟨hr,fun h=>hm10 (hm.2 h)⟩)))]
     refine gS (gR ?_);refine ah ?_;refine kk ?_;refine al JS I9 1 ?_
     refine ab.st rfl rfl rfl rfl I9 rfl 1 rfl rfl ?_
     refine gE (gS (gR ?_));refine ai ?_;refine gE ?_
     refine gT func83 fun w' hS=>?_
     exact dR (pre:=[_]) hE rfl hW.bad (fun _ h=>h) hS
    have hm10:m≤10:=by simp at hc;omega
    refine gK ?_
    exact K ⟨(),fun _=>hm.1 hm10⟩ _ _ sF (fun _ _ hS=>hS)
   have hr:¬r=1:=by simpa using hc
   refine gK ?_
   exact K ⟨(),fun h=>absurd h hr⟩ _ _ sF (fun _ _ hS=>hS)
end Go.Proofs.YtnfmegcknckahaaGreatDoor
namespace Go.Proofs.YtnfmegcknckahaaGreatDoor
open Go.RowKit Go.Proofs.Wit Tryz
structure IN where
  j:Nat
  y:FV
  cs:List FV
  bk:Nat
  cap:Nat
  sp:List Value
  s:Ws
  G:List FV
theorem vS {ts:List Tr} {g:Tr} {j:Nat} (hj:j<ts.length):ct (ts.drop (ts.length - (j+1))) g=aR (ts[ts.length - 1 - j]'(by omega)) (ct (ts.drop (ts.length - j)) g):=by
 have e:ts.length - (j+1)<ts.length:=by omega
 rw [List.drop_eq_getElem_cons e]
 have e2:ts.length - (j+1)+1=ts.length - j:=by omega
 have e3:ts.length - (j+1)=ts.length - 1 - j:=by omega
 rw [e2]
 simp only [e3]
 rfl
set_option maxRecDepth 8000 in
theorem bC (bw:Nat) (Γ:List FV) (σ:Sg) (x:FV) (t:Tr) (q:Option Nat) (fr:List Nat) (cap:Nat) (sp:List Value) (w:World) (hx:x∈Γ) (hf:x.f=bT t) (ht:t.ok) (hz:x.Z) (hq:q=none→fr=[]) (hfr:σ.bad=false→∀n∈fr,n<σ.ls.length) (hl:fr.length≤1000):
    XW bw Γ σ 47 [.pointer (some ⟨bw,0,none⟩),x.v,cK q (iL fr).length cap] w [(q,ob bK 3 (iL fr) sp)] (aX af t fr σ):=by
  obtain ⟨i2,hi2,hz2,hsz2,hby2⟩:=info_parts uG
  refine rq.of func47 rfl rfl (fun s hW hH=>?_)
  have hil:(iL fr).length=fr.length:=iE
  have hrd:Gl (cI (cd 73 48 (xE σ.bad) bw s)) w (q.map (fun b=>⟨b,0,none⟩)) (iL fr):=hH.HE (List.mem_singleton.2 rfl) (fun e=>by rw [hq e];rfl)
  obtain ⟨ts,hts⟩:∃ts,ts=fr.map (fM σ):=⟨_,rfl⟩
  have htl:ts.length=fr.length:=by rw [hts,List.length_map]
  refine gS (gR ?_);refine ai ?_;refine gE (gS (gS (gR ?_)));refine ah ?_;refine kk ?_;refine al JS I9 1 ?_;refine aq Ja 0 ?_;refine aw gO ?_;refine gE ?_
  refine gC (fun hc=>?_) fun hc=>?_
  ·
   have hb:σ.bad=true:=by
     cases hb:σ.bad with
     |true=>rfl
     |false=>rw [hb] at hc;simp at hc
   refine gS (gR ?_);refine ai ?_;refine gE ?_
   refine gT func47 fun w' hS=>?_
   exact dR (pre:=[]) (gy hb) rfl hW (fun _ h=>h) hS
  have hb:σ.bad=false:=by
    cases hb:σ.bad with
    |false=>rfl
    |true=>rw [hb] at hc;simp at hc
  have hfr:=hfr hb
  have hto:∀u∈ts,u.ok:=fun u hu=>by
    rw [hts] at hu
    obtain ⟨n,hn,rfl⟩:=List.mem_map.1 hu
    exact (hW.at (k:=n) (by rw [hW.len];exact hfr n hn)).2.1
  have hE:aX af t fr σ=lg af t (fr.map (fun n=>(n,fM σ n))) (bQ af (ct ts t) 1 0 0 0 σ).1 (bQ af (ct ts t) 1 0 0 0 σ).2:=by rw [aX,if_neg (by rw [hb];simp),hts]
  refine gK (gS (gR ?_));refine ah ?_
  refine ab.eh (c:=[_]) rfl rfl rfl rfl Jo Jj Jx rfl rfl (fun b18=>?_)
  refine ai ?_;refine gE (gS (gS (gR ?_)));refine ah ?_;refine dY Jg ?_;refine df rfl rfl rfl rfl (og (by omega)) ?_;refine ai ?_;refine gE (gB ?_)
  refine ab.loop (σ:=IN) (fun z=>[(0,.pointer (some ⟨bw,0,none⟩)),(1,z.y.v),(2,cK q (iL fr).length cap),(7,cK (some z.bk) z.cs.length z.cap),(8,.int .i64 ((fr.length:Int) - 1 - z.j))])
    (fun z=>[(some z.bk,ob FV.v 22 z.cs z.sp)]++cd 73 48 (xE σ.bad) bw z.s)
    (fun z=>z.j≤fr.length∧ff 66 z.G σ z.s∧Γ⊆z.G∧z.cs.length=z.j+1∧(z.cs.map FV.v++z.sp).length=z.cap∧(z.y∈z.G∧z.y.f=bT (ct (ts.drop (ts.length - z.j)) t)∧z.y.Z)∧∀k,k≤z.j→(z.cs.getD k FV.z∈z.G∧(z.cs.getD k FV.z).f=bT (ct (ts.drop (ts.length - k)) t)∧(z.cs.getD k FV.z).Z))
    (fun z=>fr.length - z.j) ⟨0,x,[x],b18,1,[],s,Γ⟩ ⟨Nat.zero_le _,hW,fun _ h=>h,rfl,rfl,⟨hx,by simp [ct];exact hf,hz⟩,fun k hk=>by obtain rfl:k=0:=Nat.le_zero.1 hk;exact ⟨hx,by simp [ct];exact hf,hz⟩⟩ ⟨rfl,rfl,rfl,rfl,by rw [hil];dsimp only;rw [show (fr.length:Int) - 1 - ((0:Nat):Int)=(fr.length:Int) - 1 by omega];rfl,trivial⟩ (List.Sublist.refl _) (fun z hI IH=>?_)
  obtain ⟨j,y,cs,bk,capk,spk,s2,Γ2⟩:=z
  obtain ⟨hj,hW2,hg2,hcl,hck,⟨hy,hyf,hyz⟩,hcs⟩:=hI
  dsimp only at hj hW2 hg2 hcl hck hy hyf hyz hcs IH⊢
  refine gS (gS (gR ?_));refine ah ?_;refine aw oN ?_;refine gE ?_
  refine gC (fun hc=>?_) fun hc=>?_
  ·
   have hlt:j<fr.length:=by simp at hc;omega
   obtain ⟨i,hid⟩:∃i,i=fr.length - 1 - j:=⟨_,rfl⟩
   have hi:i<fr.length:=by omega
   have hiI:(fr.length:Int) - 1 - j=(i:Int):=by omega
   have hi3:i<(iL fr).length:=by omega
   have hig:(iL fr)[i]=(fr[i]:Int):=by simp [iL]
   obtain ⟨q2,c2,ls2,oT,H2⟩:=s2
   have hll:=hW2.len
   dsimp only at hll
   have hnl:fr[i]<ls2.length:=by have:=hfr _ (List.getElem_mem hi);omega
   obtain ⟨hlf,hlo,hlG⟩:=hW2.at (k:=fr[i]) hnl
   have hti:ts[i]'(by omega)=fM σ fr[i]:=by simp [hts]
   obtain ⟨bl,rfl⟩:∃b,q2=some b:=by
     cases q2 with
     |none=>have:=(hW2.nil rfl).1;dsimp only at this;omega
     |some b=>exact ⟨b,rfl⟩
   have hch:ct (ts.drop (ts.length - (j+1))) t=aR (fM σ fr[i]) (ct (ts.drop (ts.length - j)) t):=by
     rw [vS (by omega),←hti]
     congr 1
     simp only [hid,htl]
   have hyo:(ct (ts.drop (ts.length - j)) t).ok:=lu (fun u hu=>hto u (List.mem_of_mem_drop hu)) ht
   rw [hiI]
   refine gK (gS (gB (gS ?_)))
   refine ab.jG 15 (([(some bw,.cells #[cK (some bl) ls2.length c2,xE σ.bad] 73 (0,0)),(some bl,vt 48 ls2 oT)])) mixed ?_
   refine cV 0 (ae.mv rfl rfl rfl rfl) ?_
   refine cV 1 (ae.eg rfl rfl rfl rfl) ?_
   refine cV 2 (ae.aH rfl rfl rfl rfl JS rfl (by exact J0) 0 rfl) ?_
   refine cV 3 (ae.dw rfl rfl rfl rfl isAgg31 0 rfl rfl) ?_
   refine cV 4 (ae.mv rfl rfl rfl rfl) ?_
   refine cV 5 (ae.mv rfl rfl rfl rfl) ?_
   refine cV 6 (ae.idx rfl rfl rfl rfl rfl Jg I9 ⟨_,hrd.at_⟩ (by simp) i ⟨rfl,by simpa using hi3⟩) ?_
   refine cV 7 (ae.ld rfl rfl rfl rfl Ja (fun w _ hS=>Sl.at (enc:=bK) (hrd.ay hS.ext) i hi3)) ?_
   refine cV 8 (ae.dV rfl rfl rfl rfl rfl JD JQ (fr[i]) ⟨(by rw [hig]),hnl⟩) ?_
   refine cV 9 (ae.fQ (a:=some ⟨bl,0,none⟩) (o:=(fr[i])*5) rfl rfl rfl rfl Jw rfl Jj ((fr[i])*5+0) rfl) ?_
   refine cV 10 (ae.ld rfl rfl rfl rfl Jn (fun w _ hS=>Sl.kO (enc:=LV.cells) (sz:=5) (a:=some ⟨bl,0,none⟩) (Sl.dg (hS.get (j:=1) rfl)) (fun _=>rfl) hnl rfl)) ?_
   refine cV 11 (ae.mv rfl rfl rfl rfl) ?_
   refine aG.iD (i:=12) (pre:=[_]) (u:=aR (fM σ fr[i]) (ct (ts.drop (ts.length - j)) t)) hW2 sL rfl rfl rfl rfl rfl rfl (fun _ _=>JC _ _) (fun w Y' hS=>?_) (fun y2 p2 hy2f hy2z hW3=>?_)
   · exact fF ls2[fr[i]].f y (fM σ fr[i]) _ w (hW2.fa (pre:=[_]) hlG hS) hlf hlo (hW2.fa (pre:=[_]) hy hS) hyf hyo
   have hy2f':y2.f=bT (ct (ts.drop (ts.length - (j+1))) t):=by rw [hch];exact hy2f
   refine cV 13 (ae.fh rfl rfl rfl rfl) ?_
   refine aG.done rfl ?_
   refine gE (gR ?_)
   iterate 2 refine ah ?_
   refine ab.eh (c:=[_]) rfl rfl rfl rfl Jo Jj Jx rfl rfl (fun b41=>?_)
   refine ab.oh FV.v (news:=[y2]) (spn:=[]) (xs:=cs) (sp:=spk) (q:=some bk) rfl rfl rfl rfl rfl Jo hi2 hz2 hsz2 rfl (fun e=>by cases e) 1 rfl 0 rfl hck rfl (by decide) (fun _=>rfl) (by unfold maxLen;omega) (by rw [hby2];omega) (fun b' sp' cap' hlen=>?_)
   refine ai ?_;refine gE (dQ (gR ?_));refine ah ?_;refine df rfl rfl rfl rfl (og (by omega)) ?_;refine ai ?_;refine gE ?_
   refine ab.aT (pre:=[_,_]) (pre':=[_]) (cd 73 48 (xE σ.bad) bw _) [1] (by decide) rfl ?_
   refine IH ⟨j+1,y2,cs++[y2],b',cap',sp',_,y2::Γ2⟩ _ _ ⟨hlt,hW3,fun _ h=>List.mem_cons_of_mem _ (hg2 h),by simp [hcl],hlen,⟨List.mem_cons_self ..,hy2f',hy2z⟩,fun k hk=>?_⟩ (by dsimp only;omega) ⟨rfl,rfl,rfl,rfl,by dsimp only;rw [show (fr.length:Int) - 1 - ((j+1:Nat):Int)=(i:Int) - 1 by omega];rfl,trivial⟩ (List.Sublist.refl _)
   dsimp only at hk⊢
   by_cases e:k=j+1
   · subst e
     have:(cs++[y2]).getD (j+1) FV.z=y2:=by rw [List.getD_eq_getElem?_getD,List.getElem?_append_right (by omega),hcl];simp
     rw [this];exact ⟨List.mem_cons_self ..,hy2f',hy2z⟩
   have:(cs++[y2]).getD k FV.z=cs.getD k FV.z:=by rw [List.getD_eq_getElem?_getD,List.getD_eq_getElem?_getD,List.getElem?_append_left (by omega)]
   rw [this]
   obtain ⟨k1,k2,k3⟩:=hcs k (by omega)
   exact ⟨List.mem_cons_of_mem _ k1,k2,k3⟩
  have hge:¬j<fr.length:=by simp at hc;omega
  obtain rfl:j=fr.length:=by omega
  have hts0:ct (ts.drop (ts.length - fr.length)) t=ct ts t:=by rw [htl,Nat.sub_self];rfl
  rw [hts0] at hyf
  have hyo:(ct ts t).ok:=lu hto ht
  refine ab.exit rfl (gS (gR ?_))
  iterate 2 refine ah ?_
  refine ab.v (ae.eM rfl rfl rfl rfl (bd48 (c:=[_,_,_,_,_]) rfl)) ?_
  refine ab.bu (pre:=[_]) (hR':=[]) hH hW2 (List.nil_sublist _) rfl rfl rfl rfl rfl (fun _ _=>call83 _ _) (fun w Y' hS=>iZ bw Γ2 σ y (ct ts t) 1 0 0 0 w hy hyf hyo hyz) (fun s3 Γ3 hW3 hg3=>?_)
  refine ai ?_;refine gE (gS (gS (gR ?_)));refine ah ?_;refine dY Jg ?_;refine ah ?_;refine gE (gB ?_)
  obtain ⟨ps,hps⟩:∃ps,ps=fr.map (fun n=>(n,fM σ n)):=⟨_,rfl⟩
  have hpl:ps.length=fr.length:=by rw [hps,List.length_map]
  rw [←hps] at hE
  refine ab.loop (σ:=Nat×Nat×Sg×Ws×List FV) (fun z=>[(0,.pointer (some ⟨bw,0,none⟩)),(2,cK q (iL fr).length cap),(7,cK (some bk) cs.length capk),(9,.int .i64 (z.2.1:Int)),(47,cK q (iL fr).length cap),(48,.int .i64 (iL fr).length),(49,.int .i64 z.1)])
    (fun z=>[(some bk,ob FV.v 22 cs spk)]++cd 73 48 (xE z.2.2.1.bad) bw z.2.2.2.1)
    (fun z=>z.1≤fr.length∧ff 66 z.2.2.2.2 z.2.2.1 z.2.2.2.1∧Γ2⊆z.2.2.2.2∧lg af t (ps.drop z.1) z.2.1 z.2.2.1=aX af t fr σ)
    (fun z=>fr.length - z.1) (0,_,_,s3,Γ3) ⟨Nat.zero_le _,hW3,hg3,hE.symm⟩ ⟨rfl,rfl,rfl,rfl,rfl,rfl,rfl,trivial⟩ (List.Sublist.refl _) (fun z hI IH=>?_)
  obtain ⟨k,m,σ4,s4,Γ4⟩:=z
  obtain ⟨hk,hW4,hg4,hm⟩:=hI
  dsimp only at hk hW4 hg4 hm IH⊢
  refine gS (gR ?_);refine aw jl ?_;refine gE (gS ?_)
  refine gC (fun hc=>?_) fun hc=>?_
  ·
   have hlt:k<fr.length:=by rw [hil] at hc;simpa using hc
   have hk3:k<(iL fr).length:=by omega
   have hig:(iL fr)[k]=(fr[k]:Int):=by simp [iL]
   have hkp:k<ps.length:=by omega
   have hpk:ps[k]=(fr[k],fM σ fr[k]):=by simp [hps]
   obtain ⟨c,hcd⟩:∃c,c=fr.length - 1 - k:=⟨_,rfl⟩
   have hcc:c<cs.length:=by omega
   obtain ⟨hc1,hc2,hc3⟩:=hcs c (by omega)
   have hdk:ts.length - c=k+1:=by omega
   have hmd:(ps.drop (k+1)).map (·.2)=ts.drop (k+1):=by rw [List.map_drop,hps,List.map_map,hts];rfl
   rw [hdk] at hc2
   rw [List.drop_eq_getElem_cons hkp,lg,hpk,hmd] at hm
   have hco:(ct (ts.drop (k+1)) t).ok:=lu (fun u hu=>hto u (List.mem_of_mem_drop hu)) ht
   refine gK (gS (gB (gS (gR ?_))));refine ah ?_
   refine ab.v (ae.idx rfl rfl rfl rfl rfl Jg I9 ⟨_,hrd.at_⟩ (by simp) k ⟨rfl,by simpa using hk3⟩) ?_
   refine ab.v (ae.ld rfl rfl rfl rfl Ja (fun w _ hS=>Sl.at (enc:=bK) (hrd.ay hS.ext) k hk3)) ?_
   iterate 2 refine ai ?_
   refine gE (gR ?_)
   iterate 3 refine ah ?_
   refine dY Jg ?_;refine df rfl rfl rfl rfl (og (by omega)) ?_;refine ah ?_;refine df rfl rfl rfl rfl (og (by omega)) ?_
   refine ab.v (ae.dV rfl rfl rfl rfl rfl Jo Jj (c) ⟨(by rw [hil];omega),hcc⟩) ?_
   refine ab.v (ae.qY FV.v FV.z rfl rfl rfl rfl Jn 0 rfl hcc) ?_
   iterate 2 refine ah ?_
   refine ab.v (ae.eM rfl rfl rfl rfl (bd48 (c:=[_,_,_,_,_]) rfl)) ?_
   rw [hig]
   refine ab.bu (pre:=[_]) (hR':=[]) hH hW4 (List.nil_sublist _) rfl rfl rfl rfl rfl (fun _ _=>call83 _ _) (fun w Y' hS=>iZ bw Γ4 σ4 (cs.getD c FV.z) (ct (ts.drop (k+1)) t) 10 fr[k] m 0 w (hg4 hc1) hc2 hco hc3) (fun s5 Γ5 hW5 hg5=>?_)
   refine ai ?_;refine gE (dQ (gR ?_));refine df rfl rfl rfl rfl (cD (by omega)) ?_;refine ah ?_;refine gE ?_
   exact IH (k+1,_,_,s5,Γ5) _ _ ⟨hlt,hW5,fun _ h=>hg5 (hg4 h),hm⟩ (by dsimp only;omega) ⟨rfl,rfl,rfl,rfl,rfl,rfl,rfl,trivial⟩ (List.Sublist.refl _)
  have hge:¬k<fr.length:=by rw [hil] at hc;simpa using hc
  obtain rfl:k=fr.length:=by omega
  have hmE:aX af t fr σ=(m,σ4):=by rw [←hm,List.drop_of_length_le (by omega)];rfl
  refine ab.exit rfl (gS (gR ?_))
  refine ah ?_;refine ai ?_;refine gE ?_
  refine gT func47 fun w' hS=>?_
  exact dR (pre:=[_]) hmE rfl hW4 (fun _ h=>hg4 (hg2 h)) hS
theorem lZ (bw:Nat) (Γ:List FV) (σ:Sg) (x:FV) (t:Tr) (w:World) (hx:x∈Γ) (hf:x.f=bT t) (ht:t.ok) (hz:x.Z):
  XW bw Γ σ 47 [.pointer (some ⟨bw,0,none⟩),x.v,.slice none 0 0] w [] (aX af t [] σ):=fun s hW hH=>
 bC bw Γ σ x t none [] 0 [] w hx hf ht hz (fun _=>rfl) (fun _ n hn=>by cases hn) (by simp) s hW (by rw [List.append_nil] at hH;exact hH.cQ _)
end Go.Proofs.YtnfmegcknckahaaGreatDoor
namespace Go.Proofs.YtnfmegcknckahaaGreatDoor
open Go.RowKit Go.Proofs.Wit Tryz
theorem ry (x:FV) (t:Tr) (w:World) (ha:FA w x.a x.f) (hf:x.f=bT t) (ht:t.ok):Cn Tryz.prog 74 [x.v] w (fun v w'=>aI 66 w w' v (bT (eR t))):=by
 refine Cn.of func74 rfl rfl ?_
 refine gS (gR ?_);refine ai ?_;refine gE (gS (gR ?_));refine ah ?_
 refine gM rfl rfl rfl rfl rfl Jy (fun w _ hS=>(by exact fX x t w (ha.ay hS.ext) hf ht)) ?_
 rintro v w1 w2 Y' hS he ho
 obtain ⟨q,cap,sp,rfl,hq,ao,hS'⟩:=ak hS he ho
 refine ⟨_,hS',?_⟩
 refine gM rfl rfl rfl rfl rfl call23 (fun w _ hS=>(by exact yq (q.map (fun b=>⟨b,0,none⟩)) cap (bT (aE t)) w (aL hS 0 rfl (fun e=>(hq e).1)) (zx _))) ?_
 rintro v w1 w2 Y' hS he ⟨sv,o,e,rfl,ho,hN⟩
 obtain rfl:=rK ht hN
 obtain ⟨q2,jO,oT,rfl,hq2,gN,hS'⟩:=ak hS he ho
 refine ⟨_,hS',?_⟩
 refine ah ?_
 iterate 2 refine fW ?_
 iterate 2 refine ai ?_
 refine gE (gS (gR ?_));refine ah ?_;refine ai ?_;refine gE ?_
 refine gT func74 fun w' hS=>?_
 exact ⟨hS.ext,aI.mk hS 0 rfl rfl hq2 gN⟩
set_option maxRecDepth 8000 in
theorem xx (bw:Nat) (Γ:List FV) (σ:Sg) (i:Int) (x y:FV) (p q:Tr) (w:World) (hi:0≤i∧i<4) (hx:x∈Γ) (hxf:x.f=bT p) (hp:p.ok) (hy:y∈Γ) (hyf:y.f=bT q) (hq:q.ok):
  XW bw Γ σ 117 [.pointer (some ⟨bw,0,none⟩),.int .i64 i,x.v,y.v] w [] (kW af i p q σ):=by
 have h1:=dB hp hq
 have h2:=bt hi h1
 have h3:=bt hi hp
 have h4:=bt hi hq
 have h5:=dB h3 h4
 have h6:=dB h2 h5
 refine rq.of func117 rfl rfl (fun s hW0 hH=>?_)
 refine gS (gR ?_);refine ai ?_;refine gE (gS (gR ?_))
 iterate 4 refine ah ?_
 refine ab.iD (pre:=[]) (u:=(aR p q)) hW0 rfl rfl rfl rfl rfl (fun _ _=>JC _ _) (fun w Y' hS=>by exact fF x y p q w (hW0.fa (pre:=[]) (by simp [*]) hS) hxf hp (hW0.fa (pre:=[]) (by simp [*]) hS) hyf hq) (fun x1 s1 hf1 hz1 hW1=>?_)
 refine ab.iD (pre:=[]) (u:=(ar i (aR p q))) hW1 rfl rfl rfl rfl rfl (fun _ _=>JA _ _) (fun w Y' hS=>by exact dL i hi x1 _ w (hW1.fa (pre:=[]) (by simp [*]) hS) hf1 h1) (fun x2 s2 hf2 hz2 hW2=>?_)
 iterate 2 refine ah ?_
 refine ab.iD (pre:=[]) (u:=(ar i p)) hW2 rfl rfl rfl rfl rfl (fun _ _=>JA _ _) (fun w Y' hS=>by exact dL i hi x _ w (hW2.fa (pre:=[]) (by simp [*]) hS) hxf hp) (fun x3 s3 hf3 hz3 hW3=>?_)
 iterate 2 refine ah ?_
 refine ab.iD (pre:=[]) (u:=(ar i q)) hW3 rfl rfl rfl rfl rfl (fun _ _=>JA _ _) (fun w Y' hS=>by exact dL i hi y _ w (hW3.fa (pre:=[]) (by simp [*]) hS) hyf hq) (fun x4 s4 hf4 hz4 hW4=>?_)
 refine ab.iD (pre:=[]) (u:=(aR (ar i p) (ar i q))) hW4 rfl rfl rfl rfl rfl (fun _ _=>JC _ _) (fun w Y' hS=>by exact fF x3 x4 _ _ w (hW4.fa (pre:=[]) (by simp [*]) hS) hf3 h3 (hW4.fa (pre:=[]) (by simp [*]) hS) hf4 h4) (fun x5 s5 hf5 hz5 hW5=>?_)
 refine ab.iD (pre:=[]) (u:=(aR (ar i (aR p q)) (aR (ar i p) (ar i q)))) hW5 rfl rfl rfl rfl rfl (fun _ _=>JC _ _) (fun w Y' hS=>by exact fF x2 x5 _ _ w (hW5.fa (pre:=[]) (by simp [*]) hS) hf2 h2 (hW5.fa (pre:=[]) (by simp [*]) hS) hf5 h5) (fun x6 s6 hf6 hz6 hW6=>?_)
 refine ab.v (ae.eM rfl rfl rfl rfl (bd48 (c:=[_,_,_,_,_]) rfl)) ?_
 refine ab.bu (pre:=[]) (hR':=[]) hH hW6 (List.nil_sublist _) rfl rfl rfl rfl rfl (fun _ _=>call83 _ _) (fun w Y' hS=>iZ bw _ σ x6 _ 2 0 0 0 w (List.mem_cons_self ..) hf6 h6 hz6) (fun s7 Γ7 hW7 hg7=>?_)
 refine ai ?_;refine gE ?_
 refine gT func117 fun w' hS=>?_
 exact dR (pre:=[]) rfl rfl hW7 (fun _ h=>hg7 (by simp [h])) hS
set_option maxRecDepth 8000 in
theorem oP (bw:Nat) (Γ:List FV) (σ:Sg) (i:Int) (x:FV) (p:Tr) (w:World) (hi:0≤i∧i<4) (hx:x∈Γ) (hxf:x.f=bT p) (hp:p.ok):
  XW bw Γ σ 76 [.pointer (some ⟨bw,0,none⟩),.int .i64 i,x.v] w [] (dS af i p σ):=by
 have h1:(gi i p).ok:=gX (.inr rfl) hi hp
 have h2:=bA hp
 have h3:=bt hi h2
 have h4:=bA h3
 have h5:=tC h1 h4
 refine rq.of func76 rfl rfl (fun s hW0 hH=>?_)
 refine gS (gR ?_);refine ai ?_;refine gE (gS (gR ?_))
 iterate 3 refine ah ?_
 refine ab.uw (pre:=[]) (u:=(gi i p)) hW0 rfl rfl rfl rfl rfl (fun _ _=>call35 _ _) (fun w Y' hS=>by exact rv i hi x _ w (hW0.fa (pre:=[]) (by simp [*]) hS) hxf hp) (fun x1 s1 hf1 hW1=>?_)
 iterate 2 refine ah ?_
 refine ab.iD (pre:=[]) (u:=(aE p)) hW1 rfl rfl rfl rfl rfl (fun _ _=>Jy _ _) (fun w Y' hS=>by exact gQ x _ w (hW1.fa (pre:=[]) (by simp [*]) hS) hxf hp) (fun x2 s2 hf2 hz2 hW2=>?_)
 refine ab.iD (pre:=[]) (u:=(ar i (aE p))) hW2 rfl rfl rfl rfl rfl (fun _ _=>JA _ _) (fun w Y' hS=>by exact dL i hi x2 _ w (hW2.fa (pre:=[]) (by simp [*]) hS) hf2 h2) (fun x3 s3 hf3 hz3 hW3=>?_)
 refine ab.iD (pre:=[]) (u:=(aE (ar i (aE p)))) hW3 rfl rfl rfl rfl rfl (fun _ _=>Jy _ _) (fun w Y' hS=>by exact gQ x3 _ w (hW3.fa (pre:=[]) (by simp [*]) hS) hf3 h3) (fun x4 s4 hf4 hz4 hW4=>?_)
 refine ab.iD (pre:=[]) (u:=(nF (gi i p) (aE (ar i (aE p))))) hW4 rfl rfl rfl rfl rfl (fun _ _=>call118 _ _) (fun w Y' hS=>by exact CA x1 x4 _ _ w (hW4.fa (pre:=[]) (by simp [*]) hS) hf1 h1 (hW4.fa (pre:=[]) (by simp [*]) hS) hf4 h4) (fun x5 s5 hf5 hz5 hW5=>?_)
 refine ab.v (ae.eM rfl rfl rfl rfl (bd48 (c:=[_,_,_,_,_]) rfl)) ?_
 refine ab.bu (pre:=[]) (hR':=[]) hH hW5 (List.nil_sublist _) rfl rfl rfl rfl rfl (fun _ _=>call83 _ _) (fun w Y' hS=>iZ bw _ σ x5 _ 7 0 0 0 w (List.mem_cons_self ..) hf5 h5 hz5) (fun s6 Γ6 hW6 hg6=>?_)
 refine ai ?_;refine gE ?_
 refine gT func76 fun w' hS=>?_
 exact dR (pre:=[]) rfl rfl hW6 (fun _ h=>hg6 (by simp [h])) hS
set_option maxRecDepth 8000 in
theorem rA (bw:Nat) (Γ:List FV) (σ:Sg) (i:Int) (x y:FV) (p q:Tr) (n:Nat) (w:World) (hi:0≤i∧i<4) (hx:x∈Γ) (hxf:x.f=bT p) (hp:p.ok) (hy:y∈Γ) (hyf:y.f=bT q) (hq:q.ok):
  XW bw Γ σ 75 [.pointer (some ⟨bw,0,none⟩),.int .i64 i,x.v,y.v,.int .i64 (n:Int)] w [] (gH af i p q n σ):=by
 have h1:=dB hp hq
 have h2:=bt hi h1
 have h5:=bt hi hp
 have h6:=bt hi hq
 have h7:=dB h5 h6
 refine rq.of func75 rfl rfl (fun s hW0 hH=>?_)
 refine gS (gR ?_);refine ai ?_;refine gE (gS (gR ?_))
 iterate 4 refine ah ?_
 refine ab.iD (pre:=[]) (u:=(aR p q)) hW0 rfl rfl rfl rfl rfl (fun _ _=>JC _ _) (fun w Y' hS=>by exact fF x y p q w (hW0.fa (pre:=[]) (by simp [*]) hS) hxf hp (hW0.fa (pre:=[]) (by simp [*]) hS) hyf hq) (fun x1 s1 hf1 hz1 hW1=>?_)
 refine ab.iD (pre:=[]) (u:=(ar i (aR p q))) hW1 rfl rfl rfl rfl rfl (fun _ _=>JA _ _) (fun w Y' hS=>by exact dL i hi x1 _ w (hW1.fa (pre:=[]) (by simp [*]) hS) hf1 h1) (fun x2 s2 hf2 hz2 hW2=>?_)
 iterate 2 refine ah ?_
 refine ab.v (ae.eM rfl rfl rfl rfl (bd48 (c:=[_,_,_,_,_]) rfl)) ?_
 refine ab.bu (pre:=[]) (hR':=[]) hH hW2 (List.nil_sublist _) rfl rfl rfl rfl rfl (fun _ _=>call83 _ _) (fun w Y' hS=>iZ bw _ σ x2 _ 11 n 0 i w (List.mem_cons_self ..) hf2 h2 hz2) (fun s3 Γ3 hW3 hg3=>?_)
 have hx3:x∈Γ3:=hg3 (by simp [hx])
 have hy3:y∈Γ3:=hg3 (by simp [hy])
 refine ai ?_;refine gE (gS (gR ?_))
 iterate 4 refine ah ?_
 refine ab.bu (pre:=[]) (hR':=[]) hH hW3 (List.nil_sublist _) rfl rfl rfl rfl rfl (fun _ _=>call117 _ _) (fun w Y' hS=>xx bw _ _ i x y p q w hi hx3 hxf hp hy3 hyf hq) (fun s4 Γ4 hW4 hg4=>?_)
 have hx4:x∈Γ4:=hg4 hx3
 have hy4:y∈Γ4:=hg4 hy3
 refine ai ?_;refine gE (gS (gR ?_))
 iterate 3 refine ah ?_
 refine ab.iD (pre:=[]) (u:=(ar i p)) hW4 rfl rfl rfl rfl rfl (fun _ _=>JA _ _) (fun w Y' hS=>by exact dL i hi x _ w (hW4.fa (pre:=[]) (by simp [*]) hS) hxf hp) (fun x5 s5 hf5 hz5 hW5=>?_)
 iterate 2 refine ah ?_
 refine ab.iD (pre:=[]) (u:=(ar i q)) hW5 rfl rfl rfl rfl rfl (fun _ _=>JA _ _) (fun w Y' hS=>by exact dL i hi y _ w (hW5.fa (pre:=[]) (by simp [*]) hS) hyf hq) (fun x6 s6 hf6 hz6 hW6=>?_)
 refine ab.iD (pre:=[]) (u:=(aR (ar i p) (ar i q))) hW6 rfl rfl rfl rfl rfl (fun _ _=>JC _ _) (fun w Y' hS=>by exact fF x5 x6 _ _ w (hW6.fa (pre:=[]) (by simp [*]) hS) hf5 h5 (hW6.fa (pre:=[]) (by simp [*]) hS) hf6 h6) (fun x7 s7 hf7 hz7 hW7=>?_)
 iterate 2 refine ah ?_
 refine ab.v (ae.eM rfl rfl rfl rfl (bd48 (c:=[_,_,_,_,_]) rfl)) ?_
 refine ab.bu (pre:=[]) (hR':=[]) hH hW7 (List.nil_sublist _) rfl rfl rfl rfl rfl (fun _ _=>call83 _ _) (fun w Y' hS=>iZ bw _ _ x7 _ 10 _ _ 0 w (List.mem_cons_self ..) hf7 h7 hz7) (fun s8 Γ8 hW8 hg8=>?_)
 refine ai ?_;refine gE ?_
 refine gT func75 fun w' hS=>?_
 exact dR (pre:=[]) rfl rfl hW8 (fun _ h=>hg8 (by simp [hg4 (hg3 (List.mem_cons_of_mem _ (List.mem_cons_of_mem _ h)))])) hS
end Go.Proofs.YtnfmegcknckahaaGreatDoor
namespace Go.Proofs.YtnfmegcknckahaaGreatDoor
open Go.RowKit Go.Proofs.Wit Tryz
theorem vf {f:List NV} {i:Int}:(fw f i).length≤maxLen:=by
 unfold fw
 split
 ·exact Nat.zero_le _
 rename_i h
 have h1:aV f=0:=Classical.byContradiction fun e=>h (.inl e)
 have h2:=aA.1 h1
 have h3:=oc h2.ord (i:=i.toNat) (by omega)
 have h4:=h2.len
 unfold maxLen;omega
def zM (w w':World) (v:Value) (n:NV) (f:List NV):Prop:=∃(qa:Option Nat) (ca:Nat) (spa:List Value) (qb:Option Nat) (cb:Nat) (spb:List Value),
 v=.tuple #[n.v,cK qa (fw f n.x).length ca,cK qb (fw f n.y).length cb]∧(qa=none→(fw f n.x).length=0∧ca=0)∧(qb=none→(fw f n.y).length=0∧cb=0)∧gm w w' [(qa,eO 66 (fw f n.x) spa),(qb,eO 66 (fw f n.y) spb)]
set_option maxRecDepth 8000 in
theorem pd (x:FV) (hlt:x.f.length - 1<x.f.length) (w:World) (ha:FA w x.a x.f) (hl:x.f.length≤maxLen):
  Cn Tryz.prog 73 [x.v] w (fun v w'=>zM w w' v x.f[x.f.length - 1] x.f):=by
 have hl2:=hl
 unfold maxLen at hl2
 obtain ⟨n,hn⟩:∃n,n=x.f[x.f.length - 1]:=⟨_,rfl⟩
 rw [←hn]
 refine Cn.of func73 rfl rfl ?_
 refine gS (gR ?_)
 refine ab.eN rfl rfl rfl (fun _=>Jq _) (fun b2=>?_)
 iterate 2 refine ai ?_
 refine gE (gS (gR ?_))
 iterate 2 refine ah ?_
 refine dY Ji ?_
 refine df rfl rfl rfl rfl (iH (c:=((x.f.length - 1:Nat):Int)) (by omega) (by omega)) ?_
 refine ab.v (ae.ez rfl rfl rfl rfl rfl Ji Jd ⟨_,(ha).at_⟩ (aD (enc:=NV.cells) (sz:=6) (fun _=>rfl)) (by decide) ((x.f.length - 1)) ⟨rfl,hlt⟩) ?_
 refine ab.v (ae.nR (cs:=NV.cells x.f[x.f.length - 1]) rfl rfl rfl rfl Jt Jd (fun w _ hS=>Sl.many (enc:=NV.cells) (sz:=6) (ha.ay hS.ext).at_ (fun _=>rfl) hlt)) ?_
 rw [←hn]
 refine ab.eN rfl rfl rfl (fun _=>Jq _) (fun b5=>?_)
 refine ab.dG rfl rfl rfl rfl Jd 0 rfl rfl rfl rfl ?_
 refine gE (gS ?_)
 refine ab.zb 13 9 [(some b5,.cells (NV.cells n).toArray 66 (0,0))] mixed ?_
 refine eP.u (i:=0) (ae.iR rfl rfl rfl rfl Jt 0 rfl Jd rfl) sL rfl rfl rfl (by rw [ec rfl];repeat (first|exact List.Sublist.refl _|exact List.nil_sublist _|refine List.Sublist.cons_cons _ ?_|refine List.Sublist.cons _ ?_)) ?_
 refine eP.u (i:=1) (ae.mv rfl rfl rfl rfl) sL rfl rfl rfl (by rw [ec rfl];repeat (first|exact List.Sublist.refl _|exact List.nil_sublist _|refine List.Sublist.cons_cons _ ?_|refine List.Sublist.cons _ ?_)) ?_
 refine eP.u (i:=2) (ae.aH rfl rfl rfl rfl Jb rfl (by exact I9) 4 rfl) sL rfl rfl rfl (by rw [ec rfl];repeat (first|exact List.Sublist.refl _|exact List.nil_sublist _|refine List.Sublist.cons_cons _ ?_|refine List.Sublist.cons _ ?_)) ?_
 refine eP.u (i:=3) (ae.dw rfl rfl rfl rfl Ja 0 rfl rfl) sL rfl rfl rfl (by rw [ec rfl];repeat (first|exact List.Sublist.refl _|exact List.nil_sublist _|refine List.Sublist.cons_cons _ ?_|refine List.Sublist.cons _ ?_)) ?_
 refine eP.u (i:=5) (ae.mv rfl rfl rfl rfl) sL rfl rfl rfl (by rw [ec rfl];repeat (first|exact List.Sublist.refl _|exact List.nil_sublist _|refine List.Sublist.cons_cons _ ?_|refine List.Sublist.cons _ ?_)) ?_
 refine eP.u (i:=6) (ae.aH rfl rfl rfl rfl Jb rfl (by exact I9) 5 rfl) sL rfl rfl rfl (by rw [ec rfl];repeat (first|exact List.Sublist.refl _|exact List.nil_sublist _|refine List.Sublist.cons_cons _ ?_|refine List.Sublist.cons _ ?_)) ?_
 refine eP.u (i:=7) (ae.dw rfl rfl rfl rfl Ja 0 rfl rfl) sL rfl rfl rfl (by rw [ec rfl];repeat (first|exact List.Sublist.refl _|exact List.nil_sublist _|refine List.Sublist.cons_cons _ ?_|refine List.Sublist.cons _ ?_)) ?_
 refine eP.call (i:=4) (fun w v w'=>aI 66 w w' v (fw x.f n.x)) rfl rfl rfl rfl rfl rfl (fun _ _=>call86 _ _) (fun w _ hS=>by exact iF x.a x.c x.f n.x w (ha.ay hS.ext) hl) (fun v w1 w2 Y' hS he ho=>?_)
 obtain ⟨qa,ca,spa,rfl,hqa,hca,hS'⟩:=ak hS he ho
 refine ⟨_,hS',(by rw [ec rfl];repeat (first|exact List.Sublist.refl _|exact List.nil_sublist _|refine List.Sublist.cons_cons _ ?_|refine List.Sublist.cons _ ?_)),?_⟩
 refine eP.call (i:=8) (fun w v w'=>aI 66 w w' v (fw x.f n.y)) rfl rfl rfl rfl rfl rfl (fun _ _=>call86 _ _) (fun w _ hS=>by exact iF x.a x.c x.f n.y w (ha.ay hS.ext) hl) (fun v w1 w2 Y' hS he ho=>?_)
 obtain ⟨qb,cb,spb,rfl,hqb,hcb,hS'⟩:=ak hS he ho
 refine ⟨_,hS',(by rw [ec rfl];repeat (first|exact List.Sublist.refl _|exact List.nil_sublist _|refine List.Sublist.cons_cons _ ?_|refine List.Sublist.cons _ ?_)),?_⟩
 refine eP.dG (i:=9) rfl rfl rfl rfl rfl Jd 3 rfl rfl rfl rfl (by rw [iX rfl];repeat (first|exact List.Sublist.refl _|exact List.nil_sublist _|refine List.Sublist.cons_cons _ ?_|refine List.Sublist.cons _ ?_)) ?_
 refine eP.u (i:=10) (ae.fh rfl rfl rfl rfl) sL rfl rfl rfl (by rw [iX rfl];repeat (first|exact List.Sublist.refl _|exact List.nil_sublist _|refine List.Sublist.cons_cons _ ?_|refine List.Sublist.cons _ ?_)) ?_
 refine eP.u (i:=11) (ae.fh rfl rfl rfl rfl) sL rfl rfl rfl (by rw [iX rfl];repeat (first|exact List.Sublist.refl _|exact List.nil_sublist _|refine List.Sublist.cons_cons _ ?_|refine List.Sublist.cons _ ?_)) ?_
 refine eP.done rfl ?_
 refine gE ?_
 refine ab.fH Tryz.f73 func73 _ (aP.cell rfl Jt Jd (j:=3) rfl rfl (aP.tmp rfl (aP.tmp rfl aP.nil))) (fun w' hS=>?_)
 exact ⟨hS.ext,qa,ca,spa,qb,cb,spb,rfl,hqa,hqb,gm.of (hS.pick (pre:=[_,_,_,_]) (pre':=[_,_]) [1,0] (by decide) rfl)⟩
section
variable {P:Program} {tn tw tl:TypeId} {er:Value} {ef:Bool→Value} {bw:Nat} {Γ:List FV} {σ:Sg} {s:Ws}
variable {r:Option Nat} {f:FuncId} {R:Value→World→Prop} {w0:World} {S:List Nat} {Y:List (Nat×Obj)} {n:Nat} {k:List Item} {l:Fl} {ops:Array Oper} {i d:Nat} {rest:List Nat} {ty:TypeId} {pos:String} {aft:Array Edge} {g:Option (Nat×Bool)}
variable {az:Array Operand} {ts:Array TypeId} {cal:Operand} {gf:FuncId} {vs:List Value} {nd:NV} {c:List NV}
/-- the parts of a formula, in the writer's memory -/
theorem ab.xZ {pre:Hl} (hW:ff 66 Γ σ s) (ho:ops[i]?=some ⟨some d,.call ⟨.value cal,az,ts⟩,ty,pos,aft,g⟩) (hw:au ops l g=true)
  (hc:aU l cal=some (.func (.func gf) #[] #[])) (hx:dq l az.toList=some vs) (hd:Nat.blt d n=true) (hcf:∀args w,(callFunc gf args).run P w=.ok (.enter gf args) w)
  (hcall:∀w Y',St w0 S w (pre++cd tw tl er bw s) Y'→Cn P gf vs w (fun v w'=>zM w w' v nd c))
  (hk:∀(x y:FV) s',x.f=fw c nd.x→y.f=fw c nd.y→ff 66 (x::y::Γ) σ s'→ab P r f R w0 S Y n (.inRegion ops rest::k) ((d,.tuple #[nd.v,x.v,y.v])::l) (pre++cd tw tl er bw s')):
  ab P r f R w0 S Y n (.inRegion ops (i::rest)::k) l (pre++cd tw tl er bw s):=by
 refine ab.ni (fun w v w'=>zM w w' v nd c) ho hw hc hx hd hcf hcall (fun v w w' Y' hS he hO=>?_)
 obtain ⟨qa,ca,spa,qb,cb,spb,rfl,hqa,hqb,hnew⟩:=hO
 have h1:=hS.eU he hnew
 have h2:St w0 S w' (pre++cd tw tl er bw ((s.so (qb,eO 66 (fw c nd.y) spb)).so (qa,eO 66 (fw c nd.x) spa))) Y':=h1.perm ((List.Perm.cons _ mL).trans mL)
 refine ⟨_,h2,?_⟩
 rw [je,je]
 have hW1:ff 66 Γ σ ((s.so (qb,eO 66 (fw c nd.y) spb)).so (qa,eO 66 (fw c nd.x) spa)):=⟨hW.nil,hW.cap,hW.Bw,hW.Ey,fun x hx=>⟨(hW.ctx x hx).1.mono (fun _ h=>List.mem_cons_of_mem _ (List.mem_cons_of_mem _ h)),(hW.ctx x hx).2⟩,hW.DL,hW.Es⟩
 exact hk _ _ _ rfl rfl ((hW1.put (x:=⟨qb.map (fun b=>⟨b,0,none⟩),cb,fw c nd.y⟩) ⟨qb,spb,List.mem_cons_of_mem _ (List.mem_cons_self ..),rfl,fun e=>(hqb e).1⟩ vf).put (x:=⟨qa.map (fun b=>⟨b,0,none⟩),ca,fw c nd.x⟩) ⟨qa,spa,List.mem_cons_self ..,rfl,fun e=>(hqa e).1⟩ vf)
end
end Go.Proofs.YtnfmegcknckahaaGreatDoor
namespace Go.Proofs.YtnfmegcknckahaaGreatDoor
open Go.RowKit Go.Proofs.Wit Tryz
theorem kZ {T:Tr→Prop} {i:Int} {v:Tr} {σ:Sg}:di (dS T i v σ).2 (dS T i v σ).1 (nF (gi i v) (aE (ar i (aE v)))):=bM
set_option maxRecDepth 8000 in
theorem xu (bw:Nat):∀(n:Nat) (t:Tr),SizeOf.sizeOf t<n→mr t→∀(Γ:List FV) (σ:Sg) (x:FV) (w:World),x∈Γ→Cf x.f t→
    XW bw Γ σ 43 [.pointer (some ⟨bw,0,none⟩),x.v] w [] (aF af false t σ):=by
  intro n
  induction n with
  |zero=>intro t h;omega
  |succ n IHn=>
  intro t hsz hnf Γ σ x w hx hcF
  have hxp:=hcF.pos
  have hlt:x.f.length - 1<x.f.length:=by omega
  have hxl:x.f.length≤maxLen:=aC hcF.eq
  have hok:=hcF.ok
  obtain ⟨hfo,hfi,_⟩:=hcF.Bo hlt
  obtain ⟨nd,hnd⟩:∃nd,nd=x.f[x.f.length - 1]:=⟨_,rfl⟩
  rw [←hnd] at hfo hfi
  have hoo:=nL hok
  refine rq.of func43 rfl rfl (fun s hW hH=>?_)
  refine gS (gR ?_);refine ai ?_;refine gE (gS (gS (gR ?_)));refine ah ?_;refine kk ?_;refine al JS I9 1 ?_;refine aq Ja 0 ?_;refine aw gO ?_;refine gE ?_
  refine gC (fun hc=>?_) fun hc=>?_
  ·
   have hb:σ.bad=true:=by
     cases hb:σ.bad with
     |true=>rfl
     |false=>rw [hb] at hc;simp at hc
   refine gS (gR ?_);refine ai ?_;refine gE ?_
   refine gT func43 fun w' hS=>?_
   exact dR (pre:=[]) (ll hb) rfl hW (fun _ h=>h) hS
  refine gK (gS (gR ?_));refine ah ?_
  refine ab.xZ (pre:=[]) (nd:=nd) (c:=x.f) hW rfl rfl rfl rfl rfl (fun _ _=>call73 _ _) (fun w Y' hS=>by rw [hnd];exact pd x hlt w (hW.fa (pre:=[]) hx hS) hxl) (fun xa xb s1 hxa hxb hW1=>?_)
  refine ah ?_
  iterate 3 refine fW ?_
  refine ab.eN rfl rfl rfl (fun _=>Jq _) (fun b5=>?_)
  refine ab.dG rfl rfl rfl rfl Jd 0 rfl rfl rfl rfl ?_
  iterate 2 refine ai ?_
  refine gE (gS (gR ?_))
  iterate 2 refine ah ?_
  refine ab.uw (pre:=[_]) (u:=eR t) hW1 rfl rfl rfl rfl rfl (fun _ _=>call74 _ _) (fun w Y' hS=>by exact ry x t w (hW1.fa (pre:=[_]) (by simp [hx]) hS) hcF.eq hok) (fun x3 s3 hf3 hW3=>?_)
  refine ab.iD (pre:=[_]) (u:=ju t (eR t)) hW3 rfl rfl rfl rfl rfl (fun _ _=>call27 _ _) (fun w Y' hS=>by exact CB x x3 t (eR t) w (hW3.fa (pre:=[_]) (by simp [hx]) hS) hcF.eq hok (hW3.fa (pre:=[_]) (by simp) hS) hf3 hoo) (fun x4 s4 hf4 hz4 hW4=>?_)
  have h4:=fU hok hoo
  refine ab.iD (pre:=[_]) (u:=jt false t) hW4 rfl rfl rfl rfl rfl (fun _ _=>Jy _ _) (fun w Y' hS=>by exact gQ x4 _ w (hW4.fa (pre:=[_]) (by simp) hS) hf4 h4) (fun x5 s5 hf5 hz5 hW5=>?_)
  have h5:(jt false t).ok:=bA h4
  have hG:Γ⊆x5::x4::x3::xa::xb::Γ:=fun _ h=>by simp [h]
  refine ai ?_;refine gE (gS (gS (gR ?_)));refine al Jb I9 0 ?_;refine aq Ja 0 ?_;refine gE (gB (gS ?_))
  refine ab.jL (α:=Unit) (fun _=>[(0,.pointer (some ⟨bw,0,none⟩)),(1,x.v),(5,.pointer (some ⟨b5,0,none⟩)),(6,xa.v),(7,xb.v),(8,x5.v),(32,.int .i64 nd.op),(33,.bool (decide (nd.op=5∨nd.op=6)))]) (fun _=>[(some b5,.cells (NV.cells nd).toArray 66 (0,0))]++cd 73 48 (xE σ.bad) bw s5) (fun _=>?_) (fun K=>?_)
  · -- what comes behind
   refine gC (fun hc=>?_) fun hc=>?_
   ·
    have h56:nd.op=5∨nd.op=6:=by simpa using hc
    rw [hfo] at h56
    obtain ⟨op,i,e,g,a,c,rfl⟩:∃op i e g a c,t=.bin op i e g a c:=by
      cases t with
      |leaf op i e g=>have h1:op≤3:=hnf;have h2:op=5∨op=6:=h56;omega
      |un op i e g a=>have h2:op=5∨op=6:=h56;rcases hnf with ⟨h3,_⟩|⟨h3,_⟩<;>omega
      |bin op i e g a c=>exact ⟨op,i,e,g,a,c,rfl⟩
    have hcA:Cf xa.f a:=by rw [hxa,hnd];exact hcF.wM hlt (by rcases h56 with h|h<;>rw [h]<;>decide)
    have hcC:Cf xb.f c:=by
      have h1:=hcF.uE hlt (h56.elim .inl (fun h=>.inr (.inl h)))
      rw [show vF (some (Tr.bin op i e g a c))=some c from if_pos (h56.elim .inl (fun h=>.inr (.inl h)))] at h1
      rw [hxb,hnd];exact h1
    have hsA:SizeOf.sizeOf a<n:=by simp at hsz;omega
    have hsC:SizeOf.sizeOf c<n:=by simp at hsz;omega
    refine gS (gR ?_)
    iterate 2 refine ah ?_
    refine ab.bu (pre:=[_]) (hR':=[]) hH hW5 (List.nil_sublist _) rfl rfl rfl rfl rfl (fun _ _=>call43 _ _) (fun w Y' hS=>by exact IHn a hsA hnf.2.1 _ σ xa w (by simp) hcA) (fun s6 Γ6 hW6 hg6=>?_)
    refine ai ?_;refine gE (gS (gR ?_))
    iterate 2 refine ah ?_
    refine ab.bu (pre:=[_]) (hR':=[]) hH hW6 (List.nil_sublist _) rfl rfl rfl rfl rfl (fun _ _=>call43 _ _) (fun w Y' hS=>by exact IHn c hsC hnf.2.2 _ _ xb w (hg6 (by simp)) hcC) (fun s7 Γ7 hW7 hg7=>?_)
    refine ai ?_;refine gE (gS (gR ?_))
    iterate 4 refine ah ?_
    refine ab.eh (c:=[_,_]) rfl rfl rfl rfl Jg I9 Jv rfl rfl (fun b46=>?_)
    refine ab.bu (pre:=[_,_]) (hR':=[(some b46,ob bK 3 (iL [(aF af false a σ).1,(aF af false c (aF af false a σ).2).1]) [])]) hH hW7 (.cons_cons _ (List.nil_sublist _)) rfl rfl rfl rfl rfl (fun _ _=>JI _ _) (fun w Y' hS=>bC bw _ _ x5 _ (some b46) [(aF af false a σ).1,(aF af false c (aF af false a σ).2).1] 2 [] w (hg7 (hg6 (by simp))) hf5 h5 hz5 (fun e=>by cases e) (fun hb n hn=>by
      simp only [List.mem_cons,List.not_mem_nil,or_false] at hn
      rcases hn with rfl|rfl
      · exact (dU.le ig hb).1
      exact (dU hb).1) (by simp)) (fun s8 Γ8 hW8 hg8=>?_)
    refine ai ?_;refine gE ?_
    refine gT func43 fun w' hS=>?_
    exact dR (pre:=[_,_]) (by rw [aF]) rfl hW8 (fun _ h=>hg8 (hg7 (hg6 (hG h)))) hS
   have h56:¬(nd.op=5∨nd.op=6):=by simpa using hc
   refine gS ?_
   refine ab.jL (α:=Unit) (fun _=>[(0,.pointer (some ⟨bw,0,none⟩)),(1,x.v),(5,.pointer (some ⟨b5,0,none⟩)),(6,xa.v),(7,xb.v),(8,x5.v),(32,.int .i64 nd.op),(48,.bool (decide (nd.op=9∨nd.op=10)))]) (fun _=>[(some b5,.cells (NV.cells nd).toArray 66 (0,0))]++cd 73 48 (xE σ.bad) bw s5) (fun _=>?_) (fun K2=>?_)
   · -- what comes behind
    refine gC (fun hc=>?_) fun hc=>?_
    ·
     have h910:nd.op=9∨nd.op=10:=by simpa using hc
     obtain ⟨op,i,e,g,a,rfl⟩:∃op i e g a,t=.un op i e g a:=by
       rw [hfo] at h910
       cases t with
       |leaf op i e g=>have h1:op≤3:=hnf;have h2:op=9∨op=10:=h910;omega
       |un op i e g a=>exact ⟨op,i,e,g,a,rfl⟩
       |bin op i e g a c=>have h2:op=9∨op=10:=h910;have h3:=hnf.1;omega
     have hop:nd.op=op:=hfo
     have ho2:op=9∨op=10:=by rw [←hop];exact h910
     have hni:nd.i=i:=hfi
     subst hni
     have hi4:0≤nd.i∧nd.i<4:=(mQ hok ho2).1
     have hnA:mr a:=by
       rcases hnf with ⟨h,_⟩|⟨_,h⟩
       · omega
       exact h
     have hao:a.ok:=hok.2.2.2.2
     have hcA:Cf xa.f a:=by rw [hxa,hnd];exact hcF.wM hlt (by show 4≤op;omega)
     have hsA:SizeOf.sizeOf a<n:=by simp at hsz;omega
     have hE:aF af false (.un op nd.i e g a) σ=pJ af false op nd.i a (.un op nd.i e g a) (aF af false a σ).1 (aF af false a σ).2:=by rw [aF,if_pos ho2]
     have hoa:=nL hao
     refine gS (gR ?_)
     iterate 2 refine ah ?_
     refine ab.uw (pre:=[_]) (u:=eR a) hW5 rfl rfl rfl rfl rfl (fun _ _=>call74 _ _) (fun w Y' hS=>by exact ry xa a w (hW5.fa (pre:=[_]) (by simp) hS) hcA.eq hao) (fun x6 s6 hf6 hW6=>?_)
     iterate 2 refine ai ?_
     refine gE (gS ?_)
     refine ab.jL (α:=Unit) (fun _=>[(0,.pointer (some ⟨bw,0,none⟩)),(1,x.v),(5,.pointer (some ⟨b5,0,none⟩)),(6,xa.v),(7,xb.v),(8,x5.v),(11,((if nd.op=10 then x6 else xa)).v),(12,((if nd.op=10 then xa else x6)).v)]) (fun _=>[(some b5,.cells (NV.cells nd).toArray 66 (0,0))]++cd 73 48 (xE σ.bad) bw s6) (fun _=>?_) (fun K3=>?_)
     · -- what comes behind
      obtain ⟨U,hU⟩:∃U,U=(if nd.op=10 then x6 else xa):=⟨_,rfl⟩
      obtain ⟨V,hV⟩:∃V,V=(if nd.op=10 then xa else x6):=⟨_,rfl⟩
      rw [←hU,←hV]
      have hUm:∀{G:List FV},x6∈G→xa∈G→U∈G∧V∈G:=fun h1 h2=>by rw [hU,hV];split<;>exact ⟨by assumption,by assumption⟩
      have hUf:U.f=bT (uT op a):=by
        rw [hU,hop]
        rcases ho2 with h|h
        · rw [if_neg (by omega),uT,if_pos h];exact hcA.eq
        rw [if_pos h,uT,if_neg (by omega)];exact hf6
      have hVf:V.f=bT (vT op a):=by
        rw [hV,hop]
        rcases ho2 with h|h
        · rw [if_neg (by omega),vT,if_pos h];exact hf6
        rw [if_pos h,vT,if_neg (by omega)];exact hcA.eq
      have hUo:(uT op a).ok:=by
        unfold uT;split
        · exact hao
        exact hoa
      have hVo:(vT op a).ok:=by
        unfold vT;split
        · exact hoa
        exact hao
      have hnV:=bA hVo
      refine gS (gR ?_)
      iterate 3 refine ah ?_
      refine ab.iD (pre:=[_]) (u:=aE (vT op a)) hW6 rfl rfl rfl rfl rfl (fun _ _=>Jy _ _) (fun w Y' hS=>by exact gQ V _ w (hW6.fa (pre:=[_]) (hUm (by simp) (by simp)).2 hS) hVf hVo) (fun x7 s7 hf7 hz7 hW7=>?_)
      refine ab.iD (pre:=[_]) (u:=aR (uT op a) (aE (vT op a))) hW7 rfl rfl rfl rfl rfl (fun _ _=>JC _ _) (fun w Y' hS=>by exact fF U x7 _ _ w (hW7.fa (pre:=[_]) (hUm (by simp) (by simp)).1 hS) hUf hUo (hW7.fa (pre:=[_]) (by simp) hS) hf7 hnV) (fun x8 s8 hf8 hz8 hW8=>?_)
      have h8:=dB hUo hnV
      iterate 2 refine ah ?_
      refine ab.bu (pre:=[_]) (hR':=[]) hH hW8 (List.nil_sublist _) rfl rfl rfl rfl rfl (fun _ _=>call43 _ _) (fun w Y' hS=>by exact IHn a hsA hnA _ σ xa w (by simp) hcA) (fun s9 Γ9 hW9 hg9=>?_)
      refine ab.eh (c:=[_]) rfl rfl rfl rfl Jg I9 Jv rfl rfl (fun b67=>?_)
      refine ab.bu (pre:=[_,_]) (hR':=[(some b67,ob bK 3 (iL [(aF af false a σ).1]) [])]) hH hW9 (.cons_cons _ (List.nil_sublist _)) rfl rfl rfl rfl rfl (fun _ _=>JI _ _) (fun w Y' hS=>bC bw _ _ x8 _ (some b67) [(aF af false a σ).1] 1 [] w (hg9 (by simp)) hf8 h8 hz8 (fun e=>by cases e) (fun hb n hn=>by rw [List.mem_singleton.1 hn];exact (dU hb).1) (by simp)) (fun s10 Γ10 hW10 hg10=>?_)
      have hx6:x6∈Γ10:=hg10 (hg9 (by simp))
      have hxa2:xa∈Γ10:=hg10 (hg9 (by simp))
      have hx5:x5∈Γ10:=hg10 (hg9 (by simp))
      refine ai ?_;refine gE (gS ?_)
      refine ab.jG 10 (([(some b5,.cells (NV.cells nd).toArray 66 (0,0))])) mixed ?_
      refine cV 0 (ae.mv rfl rfl rfl rfl) ?_
      refine cV 1 (ae.aH rfl rfl rfl rfl Jb rfl (by exact I9) 1 rfl) ?_
      refine cV 2 (ae.dw rfl rfl rfl rfl Ja 0 rfl rfl) ?_
      refine cV 3 (ae.mv rfl rfl rfl rfl) ?_
      refine cV 4 (ae.mv rfl rfl rfl rfl) ?_
      refine cV 6 (ae.mv rfl rfl rfl rfl) ?_
      refine aG.iD (i:=5) (pre:=[_,_]) (u:=aE (vT op a)) hW10 (.cons _ (.cons_cons _ (List.nil_sublist _))) rfl rfl rfl rfl rfl rfl (fun _ _=>Jy _ _) (fun w Y' hS=>by exact gQ V _ w (hW10.fa (pre:=[_,_]) (hUm hx6 hxa2).2 hS) hVf hVo) (fun x9 p9 hf9 hz9 hW11=>?_)
      refine aG.bu (i:=7) (pre:=[_,_]) (hR':=[]) hH hW11 (List.nil_sublist _) (.cons _ (.cons_cons _ (List.nil_sublist _))) rfl rfl rfl rfl rfl rfl (fun _ _=>call75 _ _) (fun w Y' hS=>by exact rA bw _ _ nd.i U x9 (uT op a) (aE (vT op a)) _ w hi4 (hUm (by simp [hx6]) (by simp [hxa2])).1 hUf hUo (by simp) hf9 hnV) (fun s12 Γ12 hW12 hg12=>?_)
      have hx6:x6∈Γ12:=hg12 (by simp [hx6])
      have hxa2:xa∈Γ12:=hg12 (by simp [hxa2])
      have hx5:x5∈Γ12:=hg12 (by simp [hx5])
      refine cV 8 (ae.fh rfl rfl rfl rfl) ?_
      refine aG.done rfl ?_
      refine gE (gS (gR ?_))
      iterate 4 refine ah ?_
      refine al Jb I9 1 ?_;refine aq Ja 1 ?_;refine ah ?_
      refine ab.bu (pre:=[_,_]) (hR':=[]) hH hW12 (List.nil_sublist _) rfl rfl rfl rfl rfl (fun _ _=>call76 _ _) (fun w Y' hS=>by exact oP bw _ _ nd.i V _ w hi4 (hUm hx6 hxa2).2 hVf hVo) (fun s13 Γ13 hW13 hg13=>?_)
      refine ab.eh (c:=[_,_]) rfl rfl rfl rfl Jg I9 Jv rfl rfl (fun b85=>?_)
      refine ab.bu (pre:=[_,_,_]) (hR':=[(some b85,ob bK 3 (iL [(gH af nd.i (uT op a) (aE (vT op a)) (aX af (aR (uT op a) (aE (vT op a))) [(aF af false a σ).1] (aF af false a σ).2).1 (aX af (aR (uT op a) (aE (vT op a))) [(aF af false a σ).1] (aF af false a σ).2).2).1,(dS af nd.i (vT op a) (gH af nd.i (uT op a) (aE (vT op a)) (aX af (aR (uT op a) (aE (vT op a))) [(aF af false a σ).1] (aF af false a σ).2).1 (aX af (aR (uT op a) (aE (vT op a))) [(aF af false a σ).1] (aF af false a σ).2).2).2).1]) [])]) hH hW13 (.cons_cons _ (List.nil_sublist _)) rfl rfl rfl rfl rfl (fun _ _=>JI _ _) (fun w Y' hS=>bC bw _ _ x5 _ (some b85) [(gH af nd.i (uT op a) (aE (vT op a)) (aX af (aR (uT op a) (aE (vT op a))) [(aF af false a σ).1] (aF af false a σ).2).1 (aX af (aR (uT op a) (aE (vT op a))) [(aF af false a σ).1] (aF af false a σ).2).2).1,(dS af nd.i (vT op a) (gH af nd.i (uT op a) (aE (vT op a)) (aX af (aR (uT op a) (aE (vT op a))) [(aF af false a σ).1] (aF af false a σ).2).1 (aX af (aR (uT op a) (aE (vT op a))) [(aF af false a σ).1] (aF af false a σ).2).2).2).1] 2 [] w (hg13 hx5) hf5 h5 hz5 (fun e=>by cases e) (fun hb n hn=>by
        simp only [List.mem_cons,List.not_mem_nil,or_false] at hn
        rcases hn with rfl|rfl
        · exact (lq.le jC hb).1
        exact (kZ hb).1) (by simp)) (fun s14 Γ14 hW14 hg14=>?_)
      refine ai ?_;refine gE ?_
      refine gT func43 fun w' hS=>?_
      exact dR (pre:=[_,_,_]) (by rw [hE];rfl) rfl hW14 (fun _ h=>hg14 (hg13 (hg12 (List.mem_cons_of_mem _ (hg10 (hg9 (by simp [h]))))))) hS
     · -- the first part
      refine gS (gR ?_);refine al Jb I9 0 ?_;refine aq Ja 0 ?_;refine aw bh ?_;refine gE ?_
      refine gC (fun hc=>?_) fun hc=>?_
      ·
       have h10:nd.op=10:=by simpa using hc
       refine gR ?_
       iterate 2 refine ah ?_
       iterate 2 refine ai ?_
       refine gE ?_
       exact K3 () _ _ (by rw [if_pos h10,if_pos h10];repeat (first|exact bB.nil|refine bB.cons rfl ?_)) (fun _ _ hS=>hS)
      have h10:¬nd.op=10:=by simpa using hc
      refine gK ?_
      exact K3 () _ _ (by rw [if_neg h10,if_neg h10];repeat (first|exact bB.nil|refine bB.cons rfl ?_)) (fun _ _ hS=>hS)
    have h910:¬(nd.op=9∨nd.op=10):=by simpa using hc
    have hE:aF af false t σ=aX af (jt false t) [] σ:=by
      rw [hfo] at h56 h910
      cases t with
      |leaf op i e g=>rw [aF]
      |un op i e g a=>rw [aF,if_neg (show ¬(op=9∨op=10) from h910)]
      |bin op i e g a c=>exact absurd hnf.1 h56
    refine gK (dQ (gS (gR ?_)))
    iterate 2 refine ah ?_
    refine ab.bu (pre:=[_]) (hR':=[]) hH hW5 (List.nil_sublist _) rfl rfl rfl rfl rfl (fun _ _=>JI _ _) (fun w Y' hS=>by exact lZ bw _ _ x5 _ w (by simp) hf5 h5 hz5) (fun s8 Γ8 hW8 hg8=>?_)
    refine ai ?_;refine gE ?_
    refine gT func43 fun w' hS=>?_
    exact dR (pre:=[_]) hE rfl hW8 (fun _ h=>hg8 (hG h)) hS
   · -- the first part
    refine gS (gR ?_);refine aw bh ?_;refine ai ?_;refine gE ?_
    refine gC (fun hc=>?_) fun hc=>?_
    ·
     have h9:nd.op=9:=by simpa using hc
     have hd:decide (nd.op=9∨nd.op=10)=true:=decide_eq_true (.inl h9)
     refine gK ?_
     exact K2 () _ _ (by rw [hd];repeat (first|exact bB.nil|refine bB.cons (by first|rfl|exact congrArg (fun b=>some (Value.bool b)) (by simpa using hc)) ?_)) (fun _ _ hS=>hS)
    have h9:¬nd.op=9:=by simpa using hc
    have hd:decide (nd.op=9∨nd.op=10)=decide (nd.op=10):=decide_eq_decide.2 ⟨fun h=>h.resolve_left h9,.inr⟩
    refine gR ?_;refine aw bh ?_;refine ai ?_;refine gE ?_
    exact K2 () _ _ (by rw [hd];repeat (first|exact bB.nil|refine bB.cons rfl ?_)) (fun _ _ hS=>hS)
  · -- the first part
   refine gS (gR ?_);refine aw bh ?_;refine ai ?_;refine gE ?_
   refine gC (fun hc=>?_) fun hc=>?_
   ·
    have h9:nd.op=5:=by simpa using hc
    have hd:decide (nd.op=5∨nd.op=6)=true:=decide_eq_true (.inl h9)
    refine gK ?_
    exact K () _ _ (by rw [hd];repeat (first|exact bB.nil|refine bB.cons (by first|rfl|exact congrArg (fun b=>some (Value.bool b)) (by simpa using hc)) ?_)) (fun _ _ hS=>hS)
   have h9:¬nd.op=5:=by simpa using hc
   have hd:decide (nd.op=5∨nd.op=6)=decide (nd.op=6):=decide_eq_decide.2 ⟨fun h=>h.resolve_left h9,.inr⟩
   refine gR ?_;refine aw bh ?_;refine ai ?_;refine gE ?_
   exact K () _ _ (by rw [hd];repeat (first|exact bB.nil|refine bB.cons rfl ?_)) (fun _ _ hS=>hS)
set_option maxRecDepth 8000 in
theorem xt (bw:Nat):∀(n:Nat) (t:Tr),SizeOf.sizeOf t<n→mr t→∀(Γ:List FV) (σ:Sg) (x:FV) (w:World),x∈Γ→Cf x.f t→
    XW bw Γ σ 45 [.pointer (some ⟨bw,0,none⟩),x.v] w [] (aF af true t σ):=by
  intro n
  induction n with
  |zero=>intro t h;omega
  |succ n IHn=>
  intro t hsz hnf Γ σ x w hx hcF
  have hxp:=hcF.pos
  have hlt:x.f.length - 1<x.f.length:=by omega
  have hxl:x.f.length≤maxLen:=aC hcF.eq
  have hok:=hcF.ok
  obtain ⟨hfo,hfi,_⟩:=hcF.Bo hlt
  obtain ⟨nd,hnd⟩:∃nd,nd=x.f[x.f.length - 1]:=⟨_,rfl⟩
  rw [←hnd] at hfo hfi
  have hoo:=nL hok
  refine rq.of func45 rfl rfl (fun s hW hH=>?_)
  refine gS (gR ?_);refine ai ?_;refine gE (gS (gS (gR ?_)));refine ah ?_;refine kk ?_;refine al JS I9 1 ?_;refine aq Ja 0 ?_;refine aw gO ?_;refine gE ?_
  refine gC (fun hc=>?_) fun hc=>?_
  ·
   have hb:σ.bad=true:=by
     cases hb:σ.bad with
     |true=>rfl
     |false=>rw [hb] at hc;simp at hc
   refine gS (gR ?_);refine ai ?_;refine gE ?_
   refine gT func45 fun w' hS=>?_
   exact dR (pre:=[]) (ll hb) rfl hW (fun _ h=>h) hS
  refine gK (gS (gR ?_));refine ah ?_
  refine ab.xZ (pre:=[]) (nd:=nd) (c:=x.f) hW rfl rfl rfl rfl rfl (fun _ _=>call73 _ _) (fun w Y' hS=>by rw [hnd];exact pd x hlt w (hW.fa (pre:=[]) hx hS) hxl) (fun xa xb s1 hxa hxb hW1=>?_)
  refine ah ?_
  iterate 3 refine fW ?_
  refine ab.eN rfl rfl rfl (fun _=>Jq _) (fun b5=>?_)
  refine ab.dG rfl rfl rfl rfl Jd 0 rfl rfl rfl rfl ?_
  iterate 2 refine ai ?_
  refine gE (gS (gR ?_))
  iterate 2 refine ah ?_
  refine ab.uw (pre:=[_]) (u:=eR t) hW1 rfl rfl rfl rfl rfl (fun _ _=>call74 _ _) (fun w Y' hS=>by exact ry x t w (hW1.fa (pre:=[_]) (by simp [hx]) hS) hcF.eq hok) (fun x3 s3 hf3 hW3=>?_)
  refine ab.iD (pre:=[_]) (u:=jt true t) hW3 rfl rfl rfl rfl rfl (fun _ _=>call28 _ _) (fun w Y' hS=>by exact B0 x x3 t (eR t) w (hW3.fa (pre:=[_]) (by simp [hx]) hS) hcF.eq hok (hW3.fa (pre:=[_]) (by simp) hS) hf3 hoo) (fun x5 s5 hf5 hz5 hW5=>?_)
  have h5:(jt true t).ok:=jD hok hoo
  have hG:Γ⊆x5::x3::xa::xb::Γ:=fun _ h=>by simp [h]
  refine ai ?_;refine gE (gS (gS (gR ?_)));refine al Jb I9 0 ?_;refine aq Ja 0 ?_;refine gE (gB (gS ?_))
  refine ab.jL (α:=Unit) (fun _=>[(0,.pointer (some ⟨bw,0,none⟩)),(1,x.v),(5,.pointer (some ⟨b5,0,none⟩)),(6,xa.v),(7,xb.v),(8,x5.v),(31,.int .i64 nd.op),(32,.bool (decide (nd.op=5∨nd.op=6)))]) (fun _=>[(some b5,.cells (NV.cells nd).toArray 66 (0,0))]++cd 73 48 (xE σ.bad) bw s5) (fun _=>?_) (fun K=>?_)
  · -- what comes behind
   refine gC (fun hc=>?_) fun hc=>?_
   ·
    have h56:nd.op=5∨nd.op=6:=by simpa using hc
    rw [hfo] at h56
    obtain ⟨op,i,e,g,a,c,rfl⟩:∃op i e g a c,t=.bin op i e g a c:=by
      cases t with
      |leaf op i e g=>have h1:op≤3:=hnf;have h2:op=5∨op=6:=h56;omega
      |un op i e g a=>have h2:op=5∨op=6:=h56;rcases hnf with ⟨h3,_⟩|⟨h3,_⟩<;>omega
      |bin op i e g a c=>exact ⟨op,i,e,g,a,c,rfl⟩
    have hcA:Cf xa.f a:=by rw [hxa,hnd];exact hcF.wM hlt (by rcases h56 with h|h<;>rw [h]<;>decide)
    have hcC:Cf xb.f c:=by
      have h1:=hcF.uE hlt (h56.elim .inl (fun h=>.inr (.inl h)))
      rw [show vF (some (Tr.bin op i e g a c))=some c from if_pos (h56.elim .inl (fun h=>.inr (.inl h)))] at h1
      rw [hxb,hnd];exact h1
    have hsA:SizeOf.sizeOf a<n:=by simp at hsz;omega
    have hsC:SizeOf.sizeOf c<n:=by simp at hsz;omega
    refine gS (gR ?_)
    iterate 2 refine ah ?_
    refine ab.bu (pre:=[_]) (hR':=[]) hH hW5 (List.nil_sublist _) rfl rfl rfl rfl rfl (fun _ _=>call45 _ _) (fun w Y' hS=>by exact IHn a hsA hnf.2.1 _ σ xa w (by simp) hcA) (fun s6 Γ6 hW6 hg6=>?_)
    refine ai ?_;refine gE (gS (gR ?_))
    iterate 2 refine ah ?_
    refine ab.bu (pre:=[_]) (hR':=[]) hH hW6 (List.nil_sublist _) rfl rfl rfl rfl rfl (fun _ _=>call45 _ _) (fun w Y' hS=>by exact IHn c hsC hnf.2.2 _ _ xb w (hg6 (by simp)) hcC) (fun s7 Γ7 hW7 hg7=>?_)
    refine ai ?_;refine gE (gS (gR ?_))
    iterate 4 refine ah ?_
    refine ab.eh (c:=[_,_]) rfl rfl rfl rfl Jg I9 Jv rfl rfl (fun b45=>?_)
    refine ab.bu (pre:=[_,_]) (hR':=[(some b45,ob bK 3 (iL [(aF af true a σ).1,(aF af true c (aF af true a σ).2).1]) [])]) hH hW7 (.cons_cons _ (List.nil_sublist _)) rfl rfl rfl rfl rfl (fun _ _=>JI _ _) (fun w Y' hS=>bC bw _ _ x5 _ (some b45) [(aF af true a σ).1,(aF af true c (aF af true a σ).2).1] 2 [] w (hg7 (hg6 (by simp))) hf5 h5 hz5 (fun e=>by cases e) (fun hb n hn=>by
      simp only [List.mem_cons,List.not_mem_nil,or_false] at hn
      rcases hn with rfl|rfl
      · exact (dU.le ig hb).1
      exact (dU hb).1) (by simp)) (fun s8 Γ8 hW8 hg8=>?_)
    refine ai ?_;refine gE ?_
    refine gT func45 fun w' hS=>?_
    exact dR (pre:=[_,_]) (by rw [aF]) rfl hW8 (fun _ h=>hg8 (hg7 (hg6 (hG h)))) hS
   have h56:¬(nd.op=5∨nd.op=6):=by simpa using hc
   refine gS ?_
   refine ab.jL (α:=Unit) (fun _=>[(0,.pointer (some ⟨bw,0,none⟩)),(1,x.v),(5,.pointer (some ⟨b5,0,none⟩)),(6,xa.v),(7,xb.v),(8,x5.v),(31,.int .i64 nd.op),(47,.bool (decide (nd.op=9∨nd.op=10)))]) (fun _=>[(some b5,.cells (NV.cells nd).toArray 66 (0,0))]++cd 73 48 (xE σ.bad) bw s5) (fun _=>?_) (fun K2=>?_)
   · -- what comes behind
    refine gC (fun hc=>?_) fun hc=>?_
    ·
     have h910:nd.op=9∨nd.op=10:=by simpa using hc
     obtain ⟨op,i,e,g,a,rfl⟩:∃op i e g a,t=.un op i e g a:=by
       rw [hfo] at h910
       cases t with
       |leaf op i e g=>have h1:op≤3:=hnf;have h2:op=9∨op=10:=h910;omega
       |un op i e g a=>exact ⟨op,i,e,g,a,rfl⟩
       |bin op i e g a c=>have h2:op=9∨op=10:=h910;have h3:=hnf.1;omega
     have hop:nd.op=op:=hfo
     have ho2:op=9∨op=10:=by rw [←hop];exact h910
     have hni:nd.i=i:=hfi
     subst hni
     have hi4:0≤nd.i∧nd.i<4:=(mQ hok ho2).1
     have hnA:mr a:=by
       rcases hnf with ⟨h,_⟩|⟨_,h⟩
       · omega
       exact h
     have hao:a.ok:=hok.2.2.2.2
     have hcA:Cf xa.f a:=by rw [hxa,hnd];exact hcF.wM hlt (by show 4≤op;omega)
     have hsA:SizeOf.sizeOf a<n:=by simp at hsz;omega
     have hE:aF af true (.un op nd.i e g a) σ=pJ af true op nd.i a (.un op nd.i e g a) (aF af true a σ).1 (aF af true a σ).2:=by rw [aF,if_pos ho2]
     have hoa:=nL hao
     refine gS (gR ?_)
     iterate 2 refine ah ?_
     refine ab.uw (pre:=[_]) (u:=eR a) hW5 rfl rfl rfl rfl rfl (fun _ _=>call74 _ _) (fun w Y' hS=>by exact ry xa a w (hW5.fa (pre:=[_]) (by simp) hS) hcA.eq hao) (fun x6 s6 hf6 hW6=>?_)
     iterate 2 refine ai ?_
     refine gE (gS ?_)
     refine ab.jL (α:=Unit) (fun _=>[(0,.pointer (some ⟨bw,0,none⟩)),(1,x.v),(5,.pointer (some ⟨b5,0,none⟩)),(6,xa.v),(7,xb.v),(8,x5.v),(11,((if nd.op=10 then x6 else xa)).v),(12,((if nd.op=10 then xa else x6)).v)]) (fun _=>[(some b5,.cells (NV.cells nd).toArray 66 (0,0))]++cd 73 48 (xE σ.bad) bw s6) (fun _=>?_) (fun K3=>?_)
     · -- what comes behind
      obtain ⟨U,hU⟩:∃U,U=(if nd.op=10 then x6 else xa):=⟨_,rfl⟩
      obtain ⟨V,hV⟩:∃V,V=(if nd.op=10 then xa else x6):=⟨_,rfl⟩
      rw [←hU,←hV]
      have hUm:∀{G:List FV},x6∈G→xa∈G→U∈G∧V∈G:=fun h1 h2=>by rw [hU,hV];split<;>exact ⟨by assumption,by assumption⟩
      have hUf:U.f=bT (uT op a):=by
        rw [hU,hop]
        rcases ho2 with h|h
        · rw [if_neg (by omega),uT,if_pos h];exact hcA.eq
        rw [if_pos h,uT,if_neg (by omega)];exact hf6
      have hVf:V.f=bT (vT op a):=by
        rw [hV,hop]
        rcases ho2 with h|h
        · rw [if_neg (by omega),vT,if_pos h];exact hf6
        rw [if_pos h,vT,if_neg (by omega)];exact hcA.eq
      have hUo:(uT op a).ok:=by
        unfold uT;split
        · exact hao
        exact hoa
      have hVo:(vT op a).ok:=by
        unfold vT;split
        · exact hoa
        exact hao
      have hnV:=bA hVo
      refine gS (gR ?_)
      iterate 2 refine ah ?_
      refine ab.iD (pre:=[_]) (u:=aE (vT op a)) hW6 rfl rfl rfl rfl rfl (fun _ _=>Jy _ _) (fun w Y' hS=>by exact gQ V _ w (hW6.fa (pre:=[_]) (hUm (by simp) (by simp)).2 hS) hVf hVo) (fun x7 s7 hf7 hz7 hW7=>?_)
      refine ah ?_
      refine ab.iD (pre:=[_]) (u:=aR (aE (vT op a)) (uT op a)) hW7 rfl rfl rfl rfl rfl (fun _ _=>JC _ _) (fun w Y' hS=>by exact fF x7 U _ _ w (hW7.fa (pre:=[_]) (by simp) hS) hf7 hnV (hW7.fa (pre:=[_]) (hUm (by simp) (by simp)).1 hS) hUf hUo) (fun x8 s8 hf8 hz8 hW8=>?_)
      have h8:=dB hnV hUo
      iterate 2 refine ah ?_
      refine ab.bu (pre:=[_]) (hR':=[]) hH hW8 (List.nil_sublist _) rfl rfl rfl rfl rfl (fun _ _=>call45 _ _) (fun w Y' hS=>by exact IHn a hsA hnA _ σ xa w (by simp) hcA) (fun s9 Γ9 hW9 hg9=>?_)
      refine ab.eh (c:=[_]) rfl rfl rfl rfl Jg I9 Jv rfl rfl (fun b66=>?_)
      refine ab.bu (pre:=[_,_]) (hR':=[(some b66,ob bK 3 (iL [(aF af true a σ).1]) [])]) hH hW9 (.cons_cons _ (List.nil_sublist _)) rfl rfl rfl rfl rfl (fun _ _=>JI _ _) (fun w Y' hS=>bC bw _ _ x8 _ (some b66) [(aF af true a σ).1] 1 [] w (hg9 (by simp)) hf8 h8 hz8 (fun e=>by cases e) (fun hb n hn=>by rw [List.mem_singleton.1 hn];exact (dU hb).1) (by simp)) (fun s10 Γ10 hW10 hg10=>?_)
      have hx6:x6∈Γ10:=hg10 (hg9 (by simp))
      have hxa2:xa∈Γ10:=hg10 (hg9 (by simp))
      have hx5:x5∈Γ10:=hg10 (hg9 (by simp))
      refine ai ?_;refine gE (gS ?_)
      refine ab.jG 10 (([(some b5,.cells (NV.cells nd).toArray 66 (0,0))])) mixed ?_
      refine cV 0 (ae.mv rfl rfl rfl rfl) ?_
      refine cV 1 (ae.aH rfl rfl rfl rfl Jb rfl (by exact I9) 1 rfl) ?_
      refine cV 2 (ae.dw rfl rfl rfl rfl Ja 0 rfl rfl) ?_
      refine cV 3 (ae.mv rfl rfl rfl rfl) ?_
      refine cV 5 (ae.mv rfl rfl rfl rfl) ?_
      refine cV 6 (ae.mv rfl rfl rfl rfl) ?_
      refine aG.iD (i:=4) (pre:=[_,_]) (u:=aE (vT op a)) hW10 (.cons _ (.cons_cons _ (List.nil_sublist _))) rfl rfl rfl rfl rfl rfl (fun _ _=>Jy _ _) (fun w Y' hS=>by exact gQ V _ w (hW10.fa (pre:=[_,_]) (hUm hx6 hxa2).2 hS) hVf hVo) (fun x9 p9 hf9 hz9 hW11=>?_)
      refine aG.bu (i:=7) (pre:=[_,_]) (hR':=[]) hH hW11 (List.nil_sublist _) (.cons _ (.cons_cons _ (List.nil_sublist _))) rfl rfl rfl rfl rfl rfl (fun _ _=>call75 _ _) (fun w Y' hS=>by exact rA bw _ _ nd.i x9 U (aE (vT op a)) (uT op a) _ w hi4 (by simp) hf9 hnV (hUm (by simp [hx6]) (by simp [hxa2])).1 hUf hUo) (fun s12 Γ12 hW12 hg12=>?_)
      have hx6:x6∈Γ12:=hg12 (by simp [hx6])
      have hxa2:xa∈Γ12:=hg12 (by simp [hxa2])
      have hx5:x5∈Γ12:=hg12 (by simp [hx5])
      refine cV 8 (ae.fh rfl rfl rfl rfl) ?_
      refine aG.done rfl ?_
      refine gE (gS (gR ?_))
      iterate 4 refine ah ?_
      refine al Jb I9 1 ?_;refine aq Ja 1 ?_;refine ah ?_
      refine ab.bu (pre:=[_,_]) (hR':=[]) hH hW12 (List.nil_sublist _) rfl rfl rfl rfl rfl (fun _ _=>call76 _ _) (fun w Y' hS=>by exact oP bw _ _ nd.i V _ w hi4 (hUm hx6 hxa2).2 hVf hVo) (fun s13 Γ13 hW13 hg13=>?_)
      refine ab.eh (c:=[_,_]) rfl rfl rfl rfl Jg I9 Jv rfl rfl (fun b84=>?_)
      refine ab.bu (pre:=[_,_,_]) (hR':=[(some b84,ob bK 3 (iL [(gH af nd.i (aE (vT op a)) (uT op a) (aX af (aR (aE (vT op a)) (uT op a)) [(aF af true a σ).1] (aF af true a σ).2).1 (aX af (aR (aE (vT op a)) (uT op a)) [(aF af true a σ).1] (aF af true a σ).2).2).1,(dS af nd.i (vT op a) (gH af nd.i (aE (vT op a)) (uT op a) (aX af (aR (aE (vT op a)) (uT op a)) [(aF af true a σ).1] (aF af true a σ).2).1 (aX af (aR (aE (vT op a)) (uT op a)) [(aF af true a σ).1] (aF af true a σ).2).2).2).1]) [])]) hH hW13 (.cons_cons _ (List.nil_sublist _)) rfl rfl rfl rfl rfl (fun _ _=>JI _ _) (fun w Y' hS=>bC bw _ _ x5 _ (some b84) [(gH af nd.i (aE (vT op a)) (uT op a) (aX af (aR (aE (vT op a)) (uT op a)) [(aF af true a σ).1] (aF af true a σ).2).1 (aX af (aR (aE (vT op a)) (uT op a)) [(aF af true a σ).1] (aF af true a σ).2).2).1,(dS af nd.i (vT op a) (gH af nd.i (aE (vT op a)) (uT op a) (aX af (aR (aE (vT op a)) (uT op a)) [(aF af true a σ).1] (aF af true a σ).2).1 (aX af (aR (aE (vT op a)) (uT op a)) [(aF af true a σ).1] (aF af true a σ).2).2).2).1] 2 [] w (hg13 hx5) hf5 h5 hz5 (fun e=>by cases e) (fun hb n hn=>by
        simp only [List.mem_cons,List.not_mem_nil,or_false] at hn
        rcases hn with rfl|rfl
        · exact (lq.le jC hb).1
        exact (kZ hb).1) (by simp)) (fun s14 Γ14 hW14 hg14=>?_)
      refine ai ?_;refine gE ?_
      refine gT func45 fun w' hS=>?_
      exact dR (pre:=[_,_,_]) (by rw [hE];rfl) rfl hW14 (fun _ h=>hg14 (hg13 (hg12 (List.mem_cons_of_mem _ (hg10 (hg9 (by simp [h]))))))) hS
     · -- the first part
      refine gS (gR ?_);refine al Jb I9 0 ?_;refine aq Ja 0 ?_;refine aw bh ?_;refine gE ?_
      refine gC (fun hc=>?_) fun hc=>?_
      ·
       have h10:nd.op=10:=by simpa using hc
       refine gR ?_
       iterate 2 refine ah ?_
       iterate 2 refine ai ?_
       refine gE ?_
       exact K3 () _ _ (by rw [if_pos h10,if_pos h10];repeat (first|exact bB.nil|refine bB.cons rfl ?_)) (fun _ _ hS=>hS)
      have h10:¬nd.op=10:=by simpa using hc
      refine gK ?_
      exact K3 () _ _ (by rw [if_neg h10,if_neg h10];repeat (first|exact bB.nil|refine bB.cons rfl ?_)) (fun _ _ hS=>hS)
    have h910:¬(nd.op=9∨nd.op=10):=by simpa using hc
    have hE:aF af true t σ=aX af (jt true t) [] σ:=by
      rw [hfo] at h56 h910
      cases t with
      |leaf op i e g=>rw [aF]
      |un op i e g a=>rw [aF,if_neg (show ¬(op=9∨op=10) from h910)]
      |bin op i e g a c=>exact absurd hnf.1 h56
    refine gK (dQ (gS (gR ?_)))
    iterate 2 refine ah ?_
    refine ab.bu (pre:=[_]) (hR':=[]) hH hW5 (List.nil_sublist _) rfl rfl rfl rfl rfl (fun _ _=>JI _ _) (fun w Y' hS=>by exact lZ bw _ _ x5 _ w (by simp) hf5 h5 hz5) (fun s8 Γ8 hW8 hg8=>?_)
    refine ai ?_;refine gE ?_
    refine gT func45 fun w' hS=>?_
    exact dR (pre:=[_]) hE rfl hW8 (fun _ h=>hg8 (hG h)) hS
   · -- the first part
    refine gS (gR ?_);refine aw bh ?_;refine ai ?_;refine gE ?_
    refine gC (fun hc=>?_) fun hc=>?_
    ·
     have h9:nd.op=9:=by simpa using hc
     have hd:decide (nd.op=9∨nd.op=10)=true:=decide_eq_true (.inl h9)
     refine gK ?_
     exact K2 () _ _ (by rw [hd];repeat (first|exact bB.nil|refine bB.cons (by first|rfl|exact congrArg (fun b=>some (Value.bool b)) (by simpa using hc)) ?_)) (fun _ _ hS=>hS)
    have h9:¬nd.op=9:=by simpa using hc
    have hd:decide (nd.op=9∨nd.op=10)=decide (nd.op=10):=decide_eq_decide.2 ⟨fun h=>h.resolve_left h9,.inr⟩
    refine gR ?_;refine aw bh ?_;refine ai ?_;refine gE ?_
    exact K2 () _ _ (by rw [hd];repeat (first|exact bB.nil|refine bB.cons rfl ?_)) (fun _ _ hS=>hS)
  · -- the first part
   refine gS (gR ?_);refine aw bh ?_;refine ai ?_;refine gE ?_
   refine gC (fun hc=>?_) fun hc=>?_
   ·
    have h9:nd.op=5:=by simpa using hc
    have hd:decide (nd.op=5∨nd.op=6)=true:=decide_eq_true (.inl h9)
    refine gK ?_
    exact K () _ _ (by rw [hd];repeat (first|exact bB.nil|refine bB.cons (by first|rfl|exact congrArg (fun b=>some (Value.bool b)) (by simpa using hc)) ?_)) (fun _ _ hS=>hS)
   have h9:¬nd.op=5:=by simpa using hc
   have hd:decide (nd.op=5∨nd.op=6)=decide (nd.op=6):=decide_eq_decide.2 ⟨fun h=>h.resolve_left h9,.inr⟩
   refine gR ?_;refine aw bh ?_;refine ai ?_;refine gE ?_
   exact K () _ _ (by rw [hd];repeat (first|exact bB.nil|refine bB.cons rfl ?_)) (fun _ _ hS=>hS)
end Go.Proofs.YtnfmegcknckahaaGreatDoor
namespace Go.Proofs.YtnfmegcknckahaaGreatDoor
open Go.RowKit Go.Proofs.Wit Tryz
set_option maxRecDepth 8000 in
theorem v7 (a:Option Addr) (ca:Nat) (f:List NV) (w:World) (ha:FA w a f) (hf:aV f=0):Cn Tryz.prog 72 [.slice a f.length ca] w (fun v _=>v=.bool (decide (∀n∈f,ew f n))):=by
  have hok:=aA.1 hf
  have hfl:=hok.len
  have hOn:=hok.nodes
  refine Cn.of func72 rfl rfl ?_
  refine gS (gR ?_);refine ai ?_;refine gE (gS (gS (gR ?_)));refine ah ?_;refine dY Ji ?_;refine ah ?_;refine gE (gB ?_)
  refine ab.loop (σ:=Nat) (fun k=>[(0,.slice a f.length ca),(5,.slice a f.length ca),(6,.int .i64 f.length),(7,.int .i64 k)]) (fun _=>[]) (fun k=>k≤f.length∧∀(j:Nat) (hj:j<f.length),j<k→ew f f[j]) (fun k=>f.length - k) 0 ⟨Nat.zero_le _,fun j hj h=>absurd h (Nat.not_lt_zero _)⟩ ⟨rfl,rfl,rfl,rfl,trivial⟩ (List.Sublist.refl _) (fun k hI IH=>?_)
  obtain ⟨hk,hall⟩:=hI
  refine gS (gR ?_);refine aw jl ?_;refine gE (gS ?_)
  refine gC (fun hc=>?_) fun hc=>?_
  ·
   have hlt:k<f.length:=by simpa using hc
   obtain ⟨n,hn⟩:∃n,n=f[k]:=⟨_,rfl⟩
   have hbad:¬ew f n→decide (∀n∈f,ew f n)=false:=fun h=>decide_eq_false (fun e=>h (by rw [hn];exact e _ (List.getElem_mem hlt)))
   have hgood:ew f n→k+1≤f.length∧∀(j:Nat) (hj:j<f.length),j<k+1→ew f f[j]:=fun h=>⟨hlt,fun j hj hjk=>by
     by_cases e:j=k
     · subst e;rw [←hn];exact h
     exact hall j hj (by omega)⟩
   refine gK (gS (gB (gS (gR ?_))))
   refine ab.v (ae.ez rfl rfl rfl rfl rfl Ji Jd ⟨_,(ha).at_⟩ (aD (enc:=NV.cells) (sz:=6) (fun _=>rfl)) (by decide) (k) ⟨rfl,hlt⟩) ?_
   refine ab.v (ae.nR (cs:=NV.cells f[k]) rfl rfl rfl rfl Jt Jd (fun w _ hS=>Sl.many (enc:=NV.cells) (sz:=6) (ha.ay hS.ext).at_ (fun _=>rfl) hlt)) ?_
   rw [←hn]
   refine ab.eN rfl rfl rfl (fun _=>Jq _) (fun b4=>?_)
   refine ab.dG rfl rfl rfl rfl Jd 0 rfl rfl rfl rfl ?_
   refine gE (gS (gR ?_));refine al Jb I9 0 ?_;refine aq Ja 0 ?_;refine gE (gB (gS ?_))
   refine ab.jL (α:=Unit) (fun _=>[(0,.slice a f.length ca),(5,.slice a f.length ca),(6,.int .i64 f.length),(7,.int .i64 k),(4,.pointer (some ⟨b4,0,none⟩)),(12,.int .i64 n.op),(13,.bool (decide (n.op=1∨n.op=2∨n.op=3∨n.op=5∨n.op=6∨n.op=9∨n.op=10)))]) (fun _=>[(some b4,.cells (NV.cells n).toArray 66 (0,0))]) (fun _=>?_) (fun K=>?_)
   · -- what comes behind
    refine gC (fun hc=>?_) fun hc=>?_
    ·
     have h1:n.op=1∨n.op=2∨n.op=3∨n.op=5∨n.op=6∨n.op=9∨n.op=10:=by simpa using hc
     refine gK (dQ (dQ (gR ?_)));refine df rfl rfl rfl rfl (cD (by omega)) ?_;refine ah ?_;refine gE ?_
     exact IH (k+1) _ _ (hgood (.inl h1)) (by omega) ⟨rfl,rfl,rfl,rfl,trivial⟩ (List.nil_sublist _)
    have h1:¬(n.op=1∨n.op=2∨n.op=3∨n.op=5∨n.op=6∨n.op=9∨n.op=10):=by simpa using hc
    refine gS (gR ?_);refine aw bh ?_;refine ai ?_;refine gE ?_
    refine gC (fun hc=>?_) fun hc=>?_
    ·
     have h4:n.op=4:=by simpa using hc
     have hok2:=hOn k hlt
     rw [←hn] at hok2
     have hx:=hok2.x (by rw [h4];rfl)
     obtain ⟨kx,hkx⟩:∃kx:Nat,n.x=(kx:Int):=⟨n.x.toNat,by omega⟩
     have hxl:kx<f.length:=by omega
     have hnx:nd f n.x=f[kx]:=by rw [hkx,dI hxl]
     refine gS (gR ?_);refine ah ?_;refine al Jb I9 4 ?_;refine aq Ja 0 ?_
     refine ab.v (ae.ez rfl rfl rfl rfl rfl Ji Jd ⟨_,(ha).at_⟩ (aD (enc:=NV.cells) (sz:=6) (fun _=>rfl)) (by decide) (kx) ⟨hkx,hxl⟩) ?_
     refine ab.v (ae.fQ rfl rfl rfl rfl Jb rfl I9 ((kx)*6+0) rfl) ?_
     refine ab.v (ae.ld rfl rfl rfl rfl Ja (fun w _ hS=>Sl.kO (enc:=NV.cells) (sz:=6) ((ha).ay hS.ext).at_ (fun _=>rfl) hxl rfl)) ?_
     refine aw gO ?_;refine gE ?_
     refine gC (fun hc=>?_) fun hc=>?_
     ·
      have h3:¬f[kx].op=3:=by simpa using hc
      refine gS (gR ?_);refine ai ?_;refine gE ?_
      refine gT func72 fun w' hS=>?_
      exact ⟨hS.ext,by rw [hbad (fun h=>h3 (hnx ▸ (h.elim (fun g=>absurd g h1) (fun g=>g.2))))];rfl⟩
     have h3:f[kx].op=3:=by simpa using hc
     refine gK (dQ (dQ (gR ?_)));refine df rfl rfl rfl rfl (cD (by omega)) ?_;refine ah ?_;refine gE ?_
     exact IH (k+1) _ _ (hgood (.inr ⟨h4,by rw [hnx];exact h3⟩)) (by omega) ⟨rfl,rfl,rfl,rfl,trivial⟩ (List.nil_sublist _)
    have h4:¬n.op=4:=by simpa using hc
    refine gS (gR ?_);refine ai ?_;refine gE ?_
    refine gT func72 fun w' hS=>?_
    exact ⟨hS.ext,by rw [hbad (fun h=>h.elim (fun g=>absurd g h1) (fun g=>absurd g.1 h4))];rfl⟩
   · -- the first part
    refine gS (gR ?_);refine aw bh ?_;refine ai ?_;refine gE ?_
    refine gC (fun hc=>?_) fun hc=>?_
    ·
     have e:n.op=1:=by simpa using hc
     have hd:decide (n.op=1∨n.op=2∨n.op=3∨n.op=5∨n.op=6∨n.op=9∨n.op=10)=true:=decide_eq_true (by omega)
     refine gK ?_
     exact K () _ _ (by rw [hd];repeat (first|exact bB.nil|refine bB.cons (by first|rfl|exact congrArg (fun b=>some (Value.bool b)) (by simpa using hc)) ?_)) (fun _ _ hS=>hS)
    have e1:¬n.op=1:=by simpa using hc
    refine gS (gR ?_);refine aw bh ?_;refine ai ?_;refine gE ?_
    refine gC (fun hc=>?_) fun hc=>?_
    ·
     have e:n.op=2:=by simpa using hc
     have hd:decide (n.op=1∨n.op=2∨n.op=3∨n.op=5∨n.op=6∨n.op=9∨n.op=10)=true:=decide_eq_true (by omega)
     refine gK ?_
     exact K () _ _ (by rw [hd];repeat (first|exact bB.nil|refine bB.cons (by first|rfl|exact congrArg (fun b=>some (Value.bool b)) (by simpa using hc)) ?_)) (fun _ _ hS=>hS)
    have e2:¬n.op=2:=by simpa using hc
    refine gS (gR ?_);refine aw bh ?_;refine ai ?_;refine gE ?_
    refine gC (fun hc=>?_) fun hc=>?_
    ·
     have e:n.op=3:=by simpa using hc
     have hd:decide (n.op=1∨n.op=2∨n.op=3∨n.op=5∨n.op=6∨n.op=9∨n.op=10)=true:=decide_eq_true (by omega)
     refine gK ?_
     exact K () _ _ (by rw [hd];repeat (first|exact bB.nil|refine bB.cons (by first|rfl|exact congrArg (fun b=>some (Value.bool b)) (by simpa using hc)) ?_)) (fun _ _ hS=>hS)
    have e3:¬n.op=3:=by simpa using hc
    refine gS (gR ?_);refine aw bh ?_;refine ai ?_;refine gE ?_
    refine gC (fun hc=>?_) fun hc=>?_
    ·
     have e:n.op=5:=by simpa using hc
     have hd:decide (n.op=1∨n.op=2∨n.op=3∨n.op=5∨n.op=6∨n.op=9∨n.op=10)=true:=decide_eq_true (by omega)
     refine gK ?_
     exact K () _ _ (by rw [hd];repeat (first|exact bB.nil|refine bB.cons (by first|rfl|exact congrArg (fun b=>some (Value.bool b)) (by simpa using hc)) ?_)) (fun _ _ hS=>hS)
    have e5:¬n.op=5:=by simpa using hc
    refine gS (gR ?_);refine aw bh ?_;refine ai ?_;refine gE ?_
    refine gC (fun hc=>?_) fun hc=>?_
    ·
     have e:n.op=6:=by simpa using hc
     have hd:decide (n.op=1∨n.op=2∨n.op=3∨n.op=5∨n.op=6∨n.op=9∨n.op=10)=true:=decide_eq_true (by omega)
     refine gK ?_
     exact K () _ _ (by rw [hd];repeat (first|exact bB.nil|refine bB.cons (by first|rfl|exact congrArg (fun b=>some (Value.bool b)) (by simpa using hc)) ?_)) (fun _ _ hS=>hS)
    have e6:¬n.op=6:=by simpa using hc
    refine gS (gR ?_);refine aw bh ?_;refine ai ?_;refine gE ?_
    refine gC (fun hc=>?_) fun hc=>?_
    ·
     have e:n.op=9:=by simpa using hc
     have hd:decide (n.op=1∨n.op=2∨n.op=3∨n.op=5∨n.op=6∨n.op=9∨n.op=10)=true:=decide_eq_true (by omega)
     refine gK ?_
     exact K () _ _ (by rw [hd];repeat (first|exact bB.nil|refine bB.cons (by first|rfl|exact congrArg (fun b=>some (Value.bool b)) (by simpa using hc)) ?_)) (fun _ _ hS=>hS)
    have e9:¬n.op=9:=by simpa using hc
    have hd:decide (n.op=1∨n.op=2∨n.op=3∨n.op=5∨n.op=6∨n.op=9∨n.op=10)=decide (n.op=10):=decide_eq_decide.2 ⟨fun h=>by omega,fun h=>by omega⟩
    refine gR ?_;refine aw bh ?_;refine ai ?_;refine gE ?_
    exact K () _ _ (by rw [hd];repeat (first|exact bB.nil|refine bB.cons rfl ?_)) (fun _ _ hS=>hS)
  have hge:¬k<f.length:=by simpa using hc
  refine ab.exit rfl (gS (gR ?_))
  refine ai ?_;refine gE ?_
  refine gT func72 fun w' hS=>?_
  exact ⟨hS.ext,by rw [decide_eq_true (fun n hn=>by obtain ⟨j,hj,rfl⟩:=List.mem_iff_getElem.1 hn;exact hall j hj (by omega))];rfl⟩
theorem tO {f c:List NV} (h:aV f=0) (hc:c=aj f):Cf c (aO f):=by
 have hC:gI c:=by rw [hc];exact gI.aj h
 have:=Cf.of (aA.1 h).top (by rw [←dt h,←hc];exact hC.len)
 rwa [←dt h,←hc] at this
set_option maxRecDepth 8000 in
theorem sC (gf:FuncId) (ei:Bool) (hcf:∀args w,(callFunc gf args).run Tryz.prog w=.ok (.enter gf args) w) (hg:∀(bw:Nat) (t:Tr),mr t→∀(Γ:List FV) (σ:Sg) (x:FV) (w:World),x∈Γ→Cf x.f t→XW bw Γ σ gf [.pointer (some ⟨bw,0,none⟩),x.v] w [] (aF af ei t σ)) (x:FV) (w:World) (ha:FA w x.a x.f) (hl:x.f.length≤maxLen):
    Cn Tryz.prog 42 [x.v,.func (.func gf) #[] #[]] w (fun v w'=>∃sv ls,v=.tuple #[sv,.int .i64 (oq ei x.f)]∧gZ 66 48 w w' sv ls∧(oq ei x.f=0→ls.map LV.d=A6 ei x.f)∧(oq ei x.f≠0→ls=[])):=by
  refine Cn.of func42 rfl rfl ?_
  refine gS (gR ?_)
  iterate 2 refine ai ?_
  refine gE (gS (gS (gR ?_)));refine ah ?_
  refine gP rfl rfl rfl rfl rfl call54 (fun w _ hS=>(by exact fR x.a x.c x.f w (ha.ay hS.ext) hl)) ?_
  refine ai ?_;refine gE (gS (gR ?_));refine ah ?_;refine aw gO ?_;refine gE ?_
  refine gC (fun hc=>?_) fun hc=>?_
  ·
   have h1:aV x.f≠0:=by simpa using hc
   have hE:oq ei x.f=aV x.f:=if_pos h1
   refine gS (gR ?_);refine ah ?_
   iterate 2 refine ai ?_
   refine gE ?_
   refine gT func42 fun w' hS=>?_
   exact ⟨hS.ext,_,[],by rw [hE];rfl,gZ.nil,fun h=>absurd (hE ▸ h) h1,fun _=>rfl⟩
  have h1:aV x.f=0:=by simpa using hc
  obtain ⟨c,hcE⟩:∃c,c=aj x.f:=⟨_,rfl⟩
  have hC:gI c:=by rw [hcE];exact gI.aj h1
  have hcc:Cf c (aO x.f):=tO h1 hcE
  refine gK (gS (gR ?_));refine ah ?_
  refine gM rfl rfl rfl rfl rfl call55 (fun w _ hS=>(by exact dZ x.a x.c x.f w (ha.ay hS.ext) hl)) ?_
  rintro v w1 w2 Y' hS he ho
  rw [fN,←hcE] at ho
  obtain ⟨qc,capc,spc,rfl,hqc,hcapc,hS'⟩:=ak hS he ho
  refine ⟨_,hS',?_⟩
  refine ai ?_;refine gE (gS (gS (gR ?_)));refine ah ?_
  refine gP rfl rfl rfl rfl rfl call72 (fun w _ hS=>(by exact v7 (qc.map (fun b=>⟨b,0,none⟩)) capc c w (aL hS 0 rfl (fun e=>(hqc e).1)) hC.iY)) ?_
  refine fe bG ?_;refine gE ?_
  refine gC (fun hc=>?_) fun hc=>?_
  ·
   have h2:¬∀n∈c,ew c n:=by simpa using hc
   have hE:oq ei x.f=10:=by rw [oq,if_neg (by simp [h1]),←hcE,if_pos h2]
   refine gS (gR ?_)
   iterate 2 refine ai ?_
   refine gE ?_
   refine gT func42 fun w' hS=>?_
   exact ⟨hS.ext,_,[],by rw [hE];rfl,gZ.nil,fun h=>absurd (hE ▸ h) (by decide),fun _=>rfl⟩
  have h2:∀n∈c,ew c n:=by simpa using hc
  have hnf:mr (aO x.f):=by
    have:=(oO.mk hC.iY h2).top
    rwa [hcc.top] at this
  have hE:oq ei x.f=if (aF af ei (aO x.f) ⟨[],false⟩).2.bad=true then 8 else 0:=by rw [oq,if_neg (by simp [h1]),←hcE,if_neg (fun h=>h h2)]
  obtain ⟨y,hy⟩:∃y:FV,y=⟨qc.map (fun b=>⟨b,0,none⟩),capc,c⟩:=⟨_,rfl⟩
  have hyv:cK qc c.length capc=y.v:=by rw [hy];cases qc<;>rfl
  have hW0:ff 66 [y] ⟨[],false⟩ ⟨none,0,[],[],[(qc,eO 66 c spc)]⟩:=by
    refine ⟨fun _=>⟨rfl,rfl⟩,rfl,rfl,Nat.zero_le _,fun z hz=>?_,?_,?_⟩
    · rw [List.mem_singleton.1 hz,hy];exact ⟨⟨qc,spc,List.mem_cons_self ..,rfl,fun e=>(hqc e).1⟩,hcc.eq ▸ gz⟩
    all_goals (intro _ h;cases h)
  rw [hyv]
  refine gK (gS (gR ?_))
  refine ab.v (ae.eM rfl rfl rfl rfl (bd73 (c:=[_,_]) rfl)) ?_
  refine ab.bx rfl rfl rfl rfl (fun b19=>?_)
  refine ai ?_;refine gE (gS (gR ?_))
  iterate 3 refine ah ?_
  refine ab.cQ (vt 48 [] []) ?_
  refine ab.pick (pre:=[_,_,_]) (pre':=cd 73 48 (xE false) b19 ⟨none,0,[],[],[(qc,eO 66 c spc)]⟩) [1,0,2] (by decide) rfl ?_
  refine ab.qg (ef:=xE) (pre:=[]) (hR':=[]) hW0 (List.nil_sublist _) rfl rfl rfl rfl rfl hcf (fun w Y' hS=>hg b19 _ hnf _ _ y w (List.mem_singleton.2 rfl) (by rw [hy];exact hcc)) (fun s1 Γ1 hW1 hg1=>?_)
  refine gE (gS (gS (gR ?_)));refine ah ?_;refine kk ?_;refine al JS I9 1 ?_;refine aq Ja 0 ?_;refine aw gO ?_;refine gE ?_
  refine gC (fun hc=>?_) fun hc=>?_
  ·
   have hb:(aF af ei (aO x.f) ⟨[],false⟩).2.bad=true:=by
     cases hb:(aF af ei (aO x.f) ⟨[],false⟩).2.bad with
     |true=>rfl
     |false=>rw [hb] at hc;simp at hc
   rw [if_pos hb] at hE
   have hE8:(if (aF af ei (aO x.f) ⟨[],false⟩).2.bad=true then (8:Int) else 0)=8:=if_pos hb
   refine gS ?_
   refine ab.draw 6 mixed rfl ?_
   refine mH ?_;refine xi ?_;refine mI JS I9 1 ?_;refine xj Ja 0 ?_
   iterate 2 refine AF ?_
   refine aM.nil ?_
   refine gE ?_
   refine gT func42 fun w' hS=>?_
   exact ⟨hS.ext,_,[],by rw [hE,←hE8];rfl,gZ.nil,fun h=>absurd (hE ▸ h) (by decide),fun _=>rfl⟩
  have hb:(aF af ei (aO x.f) ⟨[],false⟩).2.bad=false:=by
    cases hb:(aF af ei (aO x.f) ⟨[],false⟩).2.bad with
    |false=>rfl
    |true=>rw [hb] at hc;simp at hc
  rw [if_neg (by rw [hb];simp)] at hE
  refine gK (gS (gR ?_));refine ah ?_;refine kk ?_;refine al JS J0 0 ?_;refine aq isAgg31 0 ?_
  iterate 2 refine ai ?_
  refine gE ?_
  refine gT func42 fun w' hS=>?_
  exact ⟨hS.ext,_,s1.ls,by rw [hE];rfl,hW1.own (pre:=[]) hS,fun _=>hW1.Bw,fun h=>absurd hE h⟩
theorem jy (x:FV) (w:World) (ha:FA w x.a x.f) (hl:x.f.length≤maxLen):
  Cn Tryz.prog 15 [x.v] w (fun v w'=>∃sv ls,v=.tuple #[sv,.int .i64 (oq false x.f)]∧gZ 66 48 w w' sv ls∧(oq false x.f=0→ls.map LV.d=A6 false x.f)∧(oq false x.f≠0→ls=[])):=by
 refine Cn.of func15 rfl rfl ?_
 refine gS (gR ?_)
 iterate 2 refine ai ?_
 refine gE (gS (gR ?_));refine ah ?_
 refine gM rfl rfl rfl rfl rfl call42 (fun w _ hS=>(by exact sC 43 false (fun _ _=>call43 _ _) (fun bw t hn Γ σ x w hx hc=>xu bw (SizeOf.sizeOf t+1) t (Nat.lt_succ_self _) hn Γ σ x w hx hc) x w (ha.ay hS.ext) hl)) ?_
 rintro v w1 w2 Y' hS he ⟨sv,ls,rfl,⟨q,cap,sp,H,rfl,hq,ao,hnew,hin⟩,h1,h2⟩
 refine ⟨_,hS.eU he hnew,?_⟩
 iterate 2 refine fW ?_
 iterate 2 refine ai ?_
 refine gE ?_
 refine gT func15 fun w' hS=>?_
 exact ⟨hS.ext,_,ls,rfl,⟨q,cap,sp,H,rfl,hq,ao,(gm.of hS).sub (List.sublist_append_left _ _),hin⟩,h1,h2⟩
theorem qH (x:FV) (w:World) (ha:FA w x.a x.f) (hl:x.f.length≤maxLen):
  Cn Tryz.prog 17 [x.v] w (fun v w'=>∃sv ls,v=.tuple #[sv,.int .i64 (oq true x.f)]∧gZ 66 48 w w' sv ls∧(oq true x.f=0→ls.map LV.d=A6 true x.f)∧(oq true x.f≠0→ls=[])):=by
 refine Cn.of func17 rfl rfl ?_
 refine gS (gR ?_)
 iterate 2 refine ai ?_
 refine gE (gS (gR ?_));refine ah ?_
 refine gM rfl rfl rfl rfl rfl call42 (fun w _ hS=>(by exact sC 45 true (fun _ _=>call45 _ _) (fun bw t hn Γ σ x w hx hc=>xt bw (SizeOf.sizeOf t+1) t (Nat.lt_succ_self _) hn Γ σ x w hx hc) x w (ha.ay hS.ext) hl)) ?_
 rintro v w1 w2 Y' hS he ⟨sv,ls,rfl,⟨q,cap,sp,H,rfl,hq,ao,hnew,hin⟩,h1,h2⟩
 refine ⟨_,hS.eU he hnew,?_⟩
 iterate 2 refine fW ?_
 iterate 2 refine ai ?_
 refine gE ?_
 refine gT func17 fun w' hS=>?_
 exact ⟨hS.ext,_,ls,rfl,⟨q,cap,sp,H,rfl,hq,ao,(gm.of hS).sub (List.sublist_append_left _ _),hin⟩,h1,h2⟩
end Go.Proofs.YtnfmegcknckahaaGreatDoor
