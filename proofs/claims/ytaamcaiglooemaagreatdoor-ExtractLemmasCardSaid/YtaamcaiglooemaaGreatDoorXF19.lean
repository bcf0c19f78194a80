/- What calls of the program return, under the conditions that each theorem states. -/
import Derived.Test.YtaamcaiglooemaaGreatDoorXF17
import Derived.Test.YtaamcaiglooemaaGreatDoorXF18
set_option maxRecDepth 100000
set_option maxHeartbeats 4000000
namespace Go.Proofs.YtaamcaiglooemaaGreatDoor
open Go.RowKit Go.Proofs.Wit Tryz
theorem pw (x:FV) (t:Tr) (w:World) (ha:FA w x.a x.f) (hf:x.f=bT t) (p:t.ok):Cn Tryz.prog 76 [x.v] w (fun v w'=>av 72 w w' v (bT (aF t))):=by
 refine Cn.of func76 rfl rfl ?_;refine gY ?_;refine ab.v (af.bM (bd72 (c:=[_,_,_,_,_,_]) rfl)) ?_;refine gY ?_;refine aY call119 (fun w _ h=>(by exact og 4 0 0 0 x.a x.c x.f t w (by decide) rfl rfl rfl (ha.au h.ext) hf p)) ?_;rintro v D C E h he ho;obtain ⟨q,cap,sp,rfl,hq,aj,m⟩:=ai h he ho;refine ⟨_,m,?_⟩;refine gY ?_;refine gT func76 fun w' h=>?_;exact ⟨h.ext,av.mk h 0 rfl rfl hq aj⟩
theorem kh (i:Int) (hi:0≤i∧i<4) (x:FV) (t:Tr) (w:World) (ha:FA w x.a x.f) (hf:x.f=bT t) (p:t.ok):Cn Tryz.prog 73 [.int .i64 i,x.v] w (fun v w'=>av 72 w w' v (bT (ar i t))):=by
 refine Cn.of func73 rfl rfl ?_;refine gY ?_;refine ab.v (af.bM (bd72 (c:=[_,_,_,_,_,_]) rfl)) ?_;refine gY ?_;refine aY call119 (fun w _ h=>(by exact og 9 i 0 0 x.a x.c x.f t w (by decide) rfl rfl (rJ hi) (ha.au h.ext) hf p)) ?_;rintro v D C E h he ho;obtain ⟨q,cap,sp,rfl,hq,aj,m⟩:=ai h he ho;refine ⟨_,m,?_⟩;refine gY ?_;refine gT func73 fun w' h=>?_;exact ⟨h.ext,av.mk h 0 rfl rfl hq aj⟩
theorem py (x y:FV) (t u:Tr) (w:World) (ha:FA w x.a x.f) (hf:x.f=bT t) (p:t.ok) (hb:FA w y.a y.f) (hg:y.f=bT u) (hu:u.ok):Cn Tryz.prog 126 [x.v,y.v] w (fun v w'=>av 72 w w' v (bT (jG t u))):=by
 refine Cn.of func126 rfl rfl ?_;refine gY ?_;refine ab.v (af.bM (bd72 (c:=[_,_,_,_,_,_]) rfl)) ?_;refine gY ?_;refine aY call118 (fun w _ h=>(by exact kL 5 0 0 0 x.a x.c x.f t y.a y.c y.f u w (by decide) rfl rfl (ha.au h.ext) hf p (hb.au h.ext) hg hu)) ?_;rintro v D C E h he ho;obtain ⟨q,cap,sp,rfl,hq,aj,m⟩:=ai h he ho;refine ⟨_,m,?_⟩;refine gY ?_;refine gT func126 fun w' h=>?_;exact ⟨h.ext,av.mk h 0 rfl rfl hq aj⟩
theorem tm (x y:FV) (t u:Tr) (w:World) (ha:FA w x.a x.f) (hf:x.f=bT t) (p:t.ok) (hb:FA w y.a y.f) (hg:y.f=bT u) (hu:u.ok):Cn Tryz.prog 140 [x.v,y.v] w (fun v w'=>av 72 w w' v (bT (.bin 6 0 0 0 t u))):=by
 refine Cn.of func140 rfl rfl ?_;refine gY ?_;refine ab.v (af.bM (bd72 (c:=[_,_,_,_,_,_]) rfl)) ?_;refine gY ?_;refine aY call118 (fun w _ h=>(by exact kL 6 0 0 0 x.a x.c x.f t y.a y.c y.f u w (by decide) rfl rfl (ha.au h.ext) hf p (hb.au h.ext) hg hu)) ?_;rintro v D C E h he ho;obtain ⟨q,cap,sp,rfl,hq,aj,m⟩:=ai h he ho;refine ⟨_,m,?_⟩;refine gY ?_;refine gT func140 fun w' h=>?_;exact ⟨h.ext,av.mk h 0 rfl rfl hq aj⟩
theorem px (x y:FV) (t u:Tr) (w:World) (ha:FA w x.a x.f) (hf:x.f=bT t) (p:t.ok) (hb:FA w y.a y.f) (hg:y.f=bT u) (hu:u.ok):Cn Tryz.prog 72 [x.v,y.v] w (fun v w'=>av 72 w w' v (bT (aL t u))):=by
 refine Cn.of func72 rfl rfl ?_;refine gY ?_;refine ab.v (af.bM (bd72 (c:=[_,_,_,_,_,_]) rfl)) ?_;refine gY ?_;refine aY call118 (fun w _ h=>(by exact kL 7 0 0 0 x.a x.c x.f t y.a y.c y.f u w (by decide) rfl rfl (ha.au h.ext) hf p (hb.au h.ext) hg hu)) ?_;rintro v D C E h he ho;obtain ⟨q,cap,sp,rfl,hq,aj,m⟩:=ai h he ho;refine ⟨_,m,?_⟩;refine gY ?_;refine gT func72 fun w' h=>?_;exact ⟨h.ext,av.mk h 0 rfl rfl hq aj⟩
end Go.Proofs.YtaamcaiglooemaaGreatDoor
