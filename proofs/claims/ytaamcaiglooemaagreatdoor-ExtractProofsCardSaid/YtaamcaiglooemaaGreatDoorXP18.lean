/- What calls return, each under its own conditions. -/
import Derived.Test.YtaamcaiglooemaaGreatDoorXP16
import Derived.Test.YtaamcaiglooemaaGreatDoorXP17
set_option maxRecDepth 100000
set_option maxHeartbeats 40000000
namespace Go.Proofs.YtaamcaiglooemaaGreatDoor
open Go.RowKit Go.Proofs.Wit Tryz
theorem m4(x:FV)(t:Tr)(w:aB)(ha:FA w x.a x.f)(hf:x.f=bT t)(m:t.ok):Qqa 76 [x.v] w (λv w'=>fi 72 w w' v (bT (fH t))):=by
 refine gH func76 ?_;refine gY ?_;refine eQ.v (eS.gX (bd72 (c:=[_,_,_,_,_,_]) rfl)) ?_;refine ml call119 (λw _ h=>(by exact tI 4 0 0 0 x.a x.c x.f t w aI rfl rfl rfl (ha.eY h.ext) hf m)) λq cap sp _ _ hq eV p=>?_;refine eX func76 λw' h=>?_;exact⟨h.ext,fi.mk h 0 rfl rfl hq eV⟩
theorem kp(i:Int)(hi:0<=i/\i<4)(x:FV)(t:Tr)(w:aB)(ha:FA w x.a x.f)(hf:x.f=bT t)(m:t.ok):Qqa 73 [aS i,x.v] w (λv w'=>fi 72 w w' v (bT (fe i t))):=by
 refine gH func73 ?_;refine gY ?_;refine eQ.v (eS.gX (bd72 (c:=[_,_,_,_,_,_]) rfl)) ?_;refine ml call119 (λw _ h=>(by exact tI 9 i 0 0 x.a x.c x.f t w aI rfl rfl (wZ hi) (ha.eY h.ext) hf m)) λq cap sp _ _ hq eV p=>?_;refine eX func73 λw' h=>?_;exact⟨h.ext,fi.mk h 0 rfl rfl hq eV⟩
theorem tc(x y:FV)(t u:Tr)(w:aB)(ha:FA w x.a x.f)(hf:x.f=bT t)(m:t.ok)(hb:FA w y.a y.f)(hg:y.f=bT u)(hu:u.ok):Qqa 126 [x.v,y.v] w (λv w'=>fi 72 w w' v (bT (oI t u))):=by
 refine gH func126 ?_;refine gY ?_;refine eQ.v (eS.gX (bd72 (c:=[_,_,_,_,_,_]) rfl)) ?_;refine ml call118 (λw _ h=>(by exact p4 5 0 0 0 x.a x.c x.f t y.a y.c y.f u w aI rfl rfl (ha.eY h.ext) hf m (hb.eY h.ext) hg hu)) λq cap sp _ _ hq eV p=>?_;refine eX func126 λw' h=>?_;exact⟨h.ext,fi.mk h 0 rfl rfl hq eV⟩
theorem yi(x y:FV)(t u:Tr)(w:aB)(ha:FA w x.a x.f)(hf:x.f=bT t)(m:t.ok)(hb:FA w y.a y.f)(hg:y.f=bT u)(hu:u.ok):Qqa 140 [x.v,y.v] w (λv w'=>fi 72 w w' v (bT (.bin 6 0 0 0 t u))):=by
 refine gH func140 ?_;refine gY ?_;refine eQ.v (eS.gX (bd72 (c:=[_,_,_,_,_,_]) rfl)) ?_;refine ml call118 (λw _ h=>(by exact p4 6 0 0 0 x.a x.c x.f t y.a y.c y.f u w aI rfl rfl (ha.eY h.ext) hf m (hb.eY h.ext) hg hu)) λq cap sp _ _ hq eV p=>?_;refine eX func140 λw' h=>?_;exact⟨h.ext,fi.mk h 0 rfl rfl hq eV⟩
theorem mz(x y:FV)(t u:Tr)(w:aB)(ha:FA w x.a x.f)(hf:x.f=bT t)(m:t.ok)(hb:FA w y.a y.f)(hg:y.f=bT u)(hu:u.ok):Qqa 72 [x.v,y.v] w (λv w'=>fi 72 w w' v (bT (fO t u))):=by
 refine gH func72 ?_;refine gY ?_;refine eQ.v (eS.gX (bd72 (c:=[_,_,_,_,_,_]) rfl)) ?_;refine ml call118 (λw _ h=>(by exact p4 7 0 0 0 x.a x.c x.f t y.a y.c y.f u w aI rfl rfl (ha.eY h.ext) hf m (hb.eY h.ext) hg hu)) λq cap sp _ _ hq eV p=>?_;refine eX func72 λw' h=>?_;exact⟨h.ext,fi.mk h 0 rfl rfl hq eV⟩
theorem Gn(a:ae)(M:Nat)(f:List NV)(b:ae)(K:Nat)(g:List NV)(w:aB)(ha:FA w a f)(hb:FA w b g)(N:f.length<=maxLen)(C:g.length<=maxLen):Qqa 184 [.slice a f.length M,.slice b g.length K] w (λv _=>v=.bool (nU f g)):=by
  refine gH func184 ?_;refine gj call50 (λw _ m=>(by exact qJ a M f w (ha.eY m.ext) N)) ?_;refine fh 8 (λh1:fX f=0=>?_) λh1:fX f≠0=>?_;refine gj call50 (λw _ m=>(by exact qJ b K g w (hb.eY m.ext) C)) ?_;refine fh 13 (λh2:fX g=0=>?_) λh2:fX g≠0=>?_;refine gO call51 (λw _ m=>(by exact ny a M f w (ha.eY m.ext) N)) ?_;rintro v Q P X m he ho;rw[jR]at ho;obtain⟨W,D,S,rfl,F,J,p⟩:=fy m he ho;refine⟨_,p,?_⟩;refine gO call51 (λw _ m=>(by exact ny b K g w (hb.eY m.ext) C)) ?_;rintro v Q P X m he ho;rw[jR]at ho;obtain⟨T,ll,pk,rfl,E,kh,p⟩:=fy m he ho;refine⟨_,p,?_⟩;refine sE call29 (λw _ m=>(by exact tK (W.map aP) D (eT f) (T.map aP) ll (eT g) w (fL m 1 rfl (λe=>(F e).1)) (fL m 0 rfl (λe=>(E e).1)) (by have:=ug f;unfold maxLen;omega))) ?_;refine eX func184 λw' m=>?_;refine⟨m.ext,?_⟩;unfold nU;rw[decide_eq_decide.2 (show(eT f=eT g)↔(fX f=0/\fX g=0/\eT f=eT g)from⟨λh=>⟨h1,h2,h⟩,λh=>h.2.2⟩)];rfl;refine eX func184 λw' m=>?_;exact⟨m.ext,by rw[nU,dY (λh=>h2 h.2.1)];rfl⟩;refine eX func184 λw' m=>?_;exact⟨m.ext,by rw[nU,dY (λh=>h1 h.1)];rfl⟩
end Go.Proofs.YtaamcaiglooemaaGreatDoor
