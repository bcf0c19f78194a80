/- What calls of the program return, under the conditions that each theorem states. -/
import Derived.Test.YtnfmegcknckahaaGreatDoorXO18
import Derived.Test.YtnfmegcknckahaaGreatDoorXO13
import Derived.Test.YtnfmegcknckahaaGreatDoorXO19
import Derived.Test.YtnfmegcknckahaaGreatDoorXO15
import Derived.Test.YtnfmegcknckahaaGreatDoorXO03
import Derived.Test.YtnfmegcknckahaaGreatDoorXO04
import Derived.Test.YtnfmegcknckahaaGreatDoorXO16
import Derived.Test.YtnfmegcknckahaaGreatDoorXO17
import Derived.Test.YtnfmegcknckahaaGreatDoorXO12
namespace Go.Proofs.YtnfmegcknckahaaGreatDoor
open Go.RowKit Go.Proofs.Wit Tryz
theorem DD:(Tryz.prog.info? 4).map (fun i=>(i.zero,i.size,i.bytes))=some (some (Value.bool false),1,1):=by kernel_rfl
def iL (o:List Nat):List Int:=o.map (fun j:Nat=>(j:Int))
theorem iE {o:List Nat}:(iL o).length=o.length:=by simp [iL]
theorem oX {o:List Nat} {j:Nat}:iL (o++[j])=iL o++[(j:Int)]:=by simp [iL]
theorem nS {o:List Nat} {k:Nat} (hk:k<o.length):(iL o).getD k 0=(o[k]:Int):=by simp [iL,List.getD_eq_getElem?_getD,hk]
/-- the state of the walk -/
structure KS where
  q:Option Nat
  cap:Nat
  sp:List Value
  o:List Nat
  s:List Bool
  bs:Nat
  jO:Nat
  oT:List Value
  st:List Nat
def KS.L (z:KS) (a:Option Addr) (n ca:Nat) (b11:Nat):Fl:=[(0,.slice a n ca),(3,cK z.q (iL z.o).length z.cap),(4,.slice (some ⟨b11,0,none⟩) n n),(5,cK (some z.bs) (iL z.st).length z.jO)]
def KS.H (z:KS) (b11:Nat):Hl:=[(z.q,ob bK 3 (iL z.o) z.sp),(some b11,ob Value.bool 4 z.s []),(some z.bs,ob bK 3 (iL z.st) z.oT)]
structure KS.I (z:KS) (c:List NV) (r:Nat):Prop where
  tk:Tk c r z.s z.o z.st
  hq:z.q=none→z.o.length=0∧z.cap=0
  ao:((iL z.o).map bK++z.sp).length=z.cap
  gN:((iL z.st).map bK++z.oT).length=z.jO
  mV:z.st.length≤2*z.o.length+1
end Go.Proofs.YtnfmegcknckahaaGreatDoor
namespace Go.Proofs.YtnfmegcknckahaaGreatDoor
open Go.RowKit Go.Proofs.Wit Tryz
theorem uH:(Tryz.prog.info? 3).map (fun i=>(i.zero,i.size,i.bytes))=some (some (bK 0),1,8):=by kernel_rfl
end Go.Proofs.YtnfmegcknckahaaGreatDoor
namespace Go.Proofs.YtnfmegcknckahaaGreatDoor
open Go.RowKit Go.Proofs.Wit Tryz
theorem dM (a:Option Addr) (ca:Nat) (f:List NV) (b:Option Addr) (cb:Nat) (g:List NV) (w:World) (ha:FA w a f) (hb:FA w b g) (hl:f.length≤maxLen) (hl2:g.length≤maxLen):Cn Tryz.prog 26 [.slice a f.length ca,.slice b g.length cb] w (fun v _=>v=.bool (jA f g)):=by
  refine Cn.of func26 rfl rfl ?_
  refine gS (gR ?_);refine ai ?_;refine gE (gS (gR ?_));refine ah ?_
  refine gP rfl rfl rfl rfl rfl call54 (fun w _ hS=>(by exact fR a ca f w (ha.ay hS.ext) hl)) ?_
  refine aw bh ?_;refine ah ?_
  refine eD 8 (fun hc=>?_) fun hc=>?_
  ·
   have h1:aV f=0:=by simpa using hc
   refine ah ?_
   refine gP rfl rfl rfl rfl rfl call54 (fun w _ hS=>(by exact fR b cb g w (hb.ay hS.ext) hl2)) ?_
   refine aw bh ?_;refine cz ?_;refine ah ?_
   refine eD 13 (fun hc=>?_) fun hc=>?_
   ·
    have h2:aV g=0:=by simpa using hc
    refine ah ?_
    refine gM rfl rfl rfl rfl rfl call55 (fun w _ hS=>(by exact dZ a ca f w (ha.ay hS.ext) hl)) ?_
    rintro v w1 w2 Y' hS he ho
    rw [fN] at ho
    obtain ⟨q1,cap1,sp1,rfl,hq1,hcap1,hS'⟩:=ak hS he ho
    refine ⟨_,hS',?_⟩
    refine ah ?_
    refine gM rfl rfl rfl rfl rfl call55 (fun w _ hS=>(by exact dZ b cb g w (hb.ay hS.ext) hl2)) ?_
    rintro v w1 w2 Y' hS he ho
    rw [fN] at ho
    obtain ⟨q2,jO,oT,rfl,hq2,gN,hS'⟩:=ak hS he ho
    refine ⟨_,hS',?_⟩
    refine gP rfl rfl rfl rfl rfl call61 (fun w _ hS=>(by exact sO (q1.map (fun b=>⟨b,0,none⟩)) cap1 (aj f) (q2.map (fun b=>⟨b,0,none⟩)) jO (aj g) w (aL hS 1 rfl (fun e=>(hq1 e).1)) (aL hS 0 rfl (fun e=>(hq2 e).1)) (by have:=p3 f;unfold maxLen;omega))) ?_
    refine cz ?_;refine ai ?_;refine gE ?_
    refine gT func26 fun w' hS=>?_
    refine ⟨hS.ext,?_⟩
    unfold jA
    rw [decide_eq_decide.2 (show (aj f=aj g)↔(aV f=0∧aV g=0∧aj f=aj g) from ⟨fun h=>⟨h1,h2,h⟩,fun h=>h.2.2⟩)];rfl
   have h2:aV g≠0:=by simpa using hc
   iterate 5 refine cy ?_
   refine bE ?_;refine ai ?_;refine gE ?_
   refine gT func26 fun w' hS=>?_
   exact ⟨hS.ext,by rw [show jA f g=false from decide_eq_false (fun e=>h2 e.2.1)];rfl⟩
  have h1:aV f≠0:=by simpa using hc
  iterate 3 refine cy ?_
  refine bE ?_;refine ah ?_
  iterate 5 refine cy ?_
  refine bE ?_;refine ai ?_;refine gE ?_
  refine gT func26 fun w' hS=>?_
  exact ⟨hS.ext,by rw [show jA f g=false from decide_eq_false (fun e=>h1 e.1)];rfl⟩
theorem fX (x:FV) (t:Tr) (w:World) (ha:FA w x.a x.f) (hf:x.f=bT t) (ht:t.ok):Cn Tryz.prog 24 [x.v] w (fun v w'=>aI 66 w w' v (bT (aE t))):=by
 have:=sW x.a x.c x.f w ha (aC hf)
 rw [show aQ ⟨4,0,0,0,0,0⟩ [x.f]=bT (aE t) from by rw [hf];exact ji ht (by decide) rfl rfl rfl] at this
 exact this
theorem iS (i:Int) (hi:0≤i∧i<4) (x:FV) (t:Tr) (w:World) (ha:FA w x.a x.f) (hf:x.f=bT t) (ht:t.ok):Cn Tryz.prog 32 [.int .i64 i,x.v] w (fun v w'=>aI 66 w w' v (bT (ar i t))):=by
 have:=rP i x.a x.c x.f w ha (aC hf)
 rw [show aQ ⟨9,i,0,0,0,0⟩ [x.f]=bT (ar i t) from by rw [hf];exact ji ht (by decide) rfl rfl (rW hi)] at this
 exact this
theorem tE (g:Int) (hg:1≤g∧g<16) (x:FV) (t:Tr) (w:World) (ha:FA w x.a x.f) (hf:x.f=bT t) (ht:t.ok):Cn Tryz.prog 180 [.int .i64 g,x.v] w (fun v w'=>aI 66 w w' v (bT (rj g t))):=by
 have:=vJ g x.a x.c x.f w ha (aC hf)
 rw [show aQ ⟨11,0,0,g,0,0⟩ [x.f]=bT (rj g t) from by rw [hf];exact ji ht (by decide) rfl rfl (yV hg)] at this
 exact this
theorem pQ (x y:FV) (t u:Tr) (w:World) (ha:FA w x.a x.f) (hf:x.f=bT t) (ht:t.ok) (hb:FA w y.a y.f) (hg:y.f=bT u) (hu:u.ok):Cn Tryz.prog 27 [x.v,y.v] w (fun v w'=>aI 66 w w' v (bT (ju t u))):=by
 have:=nq x.a x.c x.f y.a y.c y.f w ha (aC hf) hb (aC hg)
 rw [show aQ ⟨5,0,0,0,0,0⟩ [x.f,y.f]=bT (ju t u) from by rw [hf,hg];exact dx ht hu (by decide) rfl rfl] at this
 exact this
theorem jd (x y:FV) (t u:Tr) (w:World) (ha:FA w x.a x.f) (hf:x.f=bT t) (ht:t.ok) (hb:FA w y.a y.f) (hg:y.f=bT u) (hu:u.ok):Cn Tryz.prog 34 [x.v,y.v] w (fun v w'=>aI 66 w w' v (bT (aR t u))):=by
 have:=yL x.a x.c x.f y.a y.c y.f w ha (aC hf) hb (aC hg)
 rw [show aQ ⟨7,0,0,0,0,0⟩ [x.f,y.f]=bT (aR t u) from by rw [hf,hg];exact dx ht hu (by decide) rfl rfl] at this
 exact this
theorem uK (x y:FV) (t u:Tr) (w:World) (ha:FA w x.a x.f) (hf:x.f=bT t) (ht:t.ok) (hb:FA w y.a y.f) (hg:y.f=bT u) (hu:u.ok):Cn Tryz.prog 118 [x.v,y.v] w (fun v w'=>aI 66 w w' v (bT (nF t u))):=by
 have:=Cg x.a x.c x.f y.a y.c y.f w ha (aC hf) hb (aC hg)
 rw [show aQ ⟨8,0,0,0,0,0⟩ [x.f,y.f]=bT (nF t u) from by rw [hf,hg];exact dx ht hu (by decide) rfl rfl] at this
 exact this
def Ei (w w':World) (v:Value) (o:Option Tr):Prop:=∃(qa:Option Nat) (ca:Nat) (fa:List NV) (spa:List Value),
 v=.tuple #[.int .i64 (FB o),cK qa fa.length ca,.bool (kK o==9)]∧(qa=none→fa.length=0∧ca=0)∧gm w w' [(qa,eO 66 fa spa)]∧Bf fa (gL o)
theorem mU (a:Option Addr) (ca:Nat) (f:List NV) (o:Option Tr) (w:World) (ha:FA w a f) (hf:Bf f o):
  Cn Tryz.prog 238 [.slice a f.length ca] w (fun v w'=>Ei w w' v o):=by
 refine Cn.of func238 rfl rfl ?_
 refine gS (gR ?_)
 iterate 3 refine ai ?_
 refine gE (gS (gR ?_));refine ah ?_
 refine gM rfl rfl rfl rfl rfl JX (fun w _ hS=>(by exact fJ a ca f o w (ha.ay hS.ext) hf)) ?_
 rintro v w1 w2 Y' hS he ⟨nd,qa,ca,fa,spa,qb,cb,fb,spb,rfl,hqa,hqb,hnew,hBa,hBb,hop,hi,hg⟩
 refine ⟨_,hS.eU he hnew,?_⟩
 refine ah ?_
 iterate 3 refine fW ?_
 refine ab.eN rfl rfl rfl (fun _=>Jq _) (fun b5=>?_)
 refine ab.dG rfl rfl rfl rfl Jd 0 rfl rfl rfl rfl ?_
 iterate 2 refine ai ?_
 refine gE (gS ?_)
 refine ab.draw 9 mixed rfl ?_
 refine mI Jb I9 1 ?_;refine xj Ja 0 ?_;refine mH ?_;refine mI Jb I9 0 ?_;refine xj Ja 0 ?_;refine CT bh ?_
 iterate 3 refine AF ?_
 refine aM.nil ?_
 refine gE ?_
 refine gT func238 fun w' hS=>?_
 exact ⟨hS.ext,qa,ca,fa,spa,by rw [←hi,←hop];rfl,hqa,(gm.of hS).sub (.cons _ (.cons_cons _ (List.nil_sublist _))),hBa⟩
end Go.Proofs.YtnfmegcknckahaaGreatDoor
namespace Go.Proofs.YtnfmegcknckahaaGreatDoor
open Go.RowKit Go.Proofs.Wit Tryz
set_option maxRecDepth 8000 in
theorem D7 (a:Option Addr) (ca:Nat) (f:List NV) (t:Tr) (w:World) (ha:FA w a f) (hf:Cf f t):
    Cn Tryz.prog 225 [.slice a f.length ca] w (fun v _=>∃b,v=.bool b∧(b=true↔El t)):=by
  refine Cn.of func225 rfl rfl ?_
  refine gS (gR ?_);refine ai ?_;refine gE (gS (gR ?_));refine ah ?_
  refine gM rfl rfl rfl rfl rfl JX (fun w _ hS=>(by exact fJ a ca f (some t) w (ha.ay hS.ext) hf)) ?_
  rintro v w1 w2 Y' hS he ⟨nd,qa,cA,fa,spa,qb,cb,fb,spb,rfl,hqa,hqb,hnew,hBa,hBb,hop,hi,hg⟩
  refine ⟨_,hS.eU he hnew,?_⟩
  refine ah ?_
  iterate 3 refine fW ?_
  refine ab.eN rfl rfl rfl (fun _=>Jq _) (fun b3=>?_)
  refine ab.dG rfl rfl rfl rfl Jd 0 rfl rfl rfl rfl ?_
  iterate 2 refine ai ?_
  refine gE (gS (gR ?_));refine ah ?_
  refine gM rfl rfl rfl rfl rfl call238 (fun w _ hS=>(by exact mU (qa.map (fun b=>⟨b,0,none⟩)) cA fa (gL (some t)) w (aL hS 1 rfl (fun e=>(hqa e).1)) hBa)) ?_
  rintro v w1 w2 Y' hS he ⟨qk,ck,fk,spk,rfl,hqk,hnew,hBk⟩
  refine ⟨_,hS.eU he hnew,?_⟩
  refine ah ?_
  iterate 3 refine fW ?_
  iterate 3 refine ai ?_
  refine gE (gS (gS (gR ?_)));refine ah ?_;refine fe bG ?_;refine gE ?_
  refine gC (fun hc=>?_) fun hc=>?_
  ·
   have hno:¬kK (gL (some t))=9:=by simpa using hc
   refine gS (gR ?_);refine ai ?_;refine gE ?_
   refine gT func225 fun w' hS=>?_
   exact ⟨hS.ext,false,rfl,fun h=>(by cases h),fun h=>absurd h.gd.1 hno⟩
  have h9:kK (gL (some t))=9:=by simpa using hc
  obtain ⟨i,G,hA,hi0,hG⟩:=(hJ.of hf.ok).a.kn h9 (.inl rfl)
  rw [hA] at hBk hBa⊢
  have hBk':Bf fk (some G):=hBk
  have hBa':Cf fa (ar i G):=hBa
  refine gK (gS (gR ?_));refine ah ?_
  refine gM rfl rfl rfl rfl rfl JX (fun w _ hS=>(by exact fJ (qk.map (fun b=>⟨b,0,none⟩)) ck fk (some G) w (aL hS 0 rfl (fun e=>(hqk e).1)) hBk')) ?_
  rintro v w1 w2 Y' hS he ⟨nd2,qa2,cA2,fa2,spa2,qb2,cb2,fb2,spb2,rfl,hqa2,hqb2,hnew,hBa2,hBb2,hop2,hi2,hg2⟩
  refine ⟨_,hS.eU he hnew,?_⟩
  refine ah ?_
  iterate 3 refine fW ?_
  refine ab.eN rfl rfl rfl (fun _=>Jq _) (fun b9=>?_)
  refine ab.dG rfl rfl rfl rfl Jd 0 rfl rfl rfl rfl ?_
  iterate 2 refine ai ?_
  refine gE (gS (gR ?_));refine al Jb I9 0 ?_;refine aq Ja 0 ?_;refine aw bh ?_;refine ah ?_
  refine eD 35 (fun hc=>?_) fun hc=>?_
  ·
   have h7:kK (some G)=7:=by rw [←hop2];simpa using hc
   obtain ⟨p,q,hpq,hp,hq⟩:=(hJ.of hG).bn h7 (.inr (.inr (.inl rfl)))
   obtain rfl:=Option.some.inj hpq
   have hBp:Cf fa2 p:=hBa2
   have hBq:Cf fb2 q:=hBb2
   iterate 4 refine ah ?_
   refine gM rfl rfl rfl rfl rfl JA (fun w _ hS=>(by exact iS i hi0 ⟨(qa2.map (fun b=>⟨b,0,none⟩)),cA2,fa2⟩ p w (aL hS 1 rfl (fun e=>(hqa2 e).1)) hBp.eq hp)) ?_
   rintro v w1 w2 Y' hS he ho
   obtain ⟨r1,cr1,spr1,rfl,hr1,hcr1,hS'⟩:=ak hS he ho
   refine ⟨_,hS',?_⟩
   iterate 2 refine ah ?_
   refine gM rfl rfl rfl rfl rfl JA (fun w _ hS=>(by exact iS i hi0 ⟨(qb2.map (fun b=>⟨b,0,none⟩)),cb2,fb2⟩ q w (aL hS 3 rfl (fun e=>(hqb2 e).1)) hBq.eq hq)) ?_
   rintro v w1 w2 Y' hS he ho
   obtain ⟨r2,cr2,spr2,rfl,hr2,hcr2,hS'⟩:=ak hS he ho
   refine ⟨_,hS',?_⟩
   refine gM rfl rfl rfl rfl rfl JC (fun w _ hS=>(by exact jd ⟨(r1.map (fun b=>⟨b,0,none⟩)),cr1,bT (ar i p)⟩ ⟨(r2.map (fun b=>⟨b,0,none⟩)),cr2,bT (ar i q)⟩ (ar i p) (ar i q) w (aL hS 1 rfl (fun e=>(hr1 e).1)) rfl (bt hi0 hp) (aL hS 0 rfl (fun e=>(hr2 e).1)) rfl (bt hi0 hq))) ?_
   rintro v w1 w2 Y' hS he ho
   obtain ⟨r3,cr3,spr3,rfl,hr3,hcr3,hS'⟩:=ak hS he ho
   refine ⟨_,hS',?_⟩
   refine gM rfl rfl rfl rfl rfl JC (fun w _ hS=>(by exact jd ⟨(qa.map (fun b=>⟨b,0,none⟩)),cA,fa⟩ ⟨(r3.map (fun b=>⟨b,0,none⟩)),cr3,bT (aR (ar i p) (ar i q))⟩ (ar i (aR p q)) (aR (ar i p) (ar i q)) w (aL hS 8 rfl (fun e=>(hqa e).1)) hBa'.eq (bt hi0 hG) (aL hS 0 rfl (fun e=>(hr3 e).1)) rfl (dB (bt hi0 hp) (bt hi0 hq)))) ?_
   rintro v w1 w2 Y' hS he ho
   obtain ⟨r4,cr4,spr4,rfl,hr4,hcr4,hS'⟩:=ak hS he ho
   refine ⟨_,hS',?_⟩
   refine gP rfl rfl rfl rfl rfl call26 (fun w _ hS=>(by exact dM a ca f (r4.map (fun b=>⟨b,0,none⟩)) cr4 _ w (ha.ay hS.ext) (aL hS 0 rfl (fun e=>(hr4 e).1)) (aC hf.eq) (aC rfl))) ?_
   refine cz ?_;refine ai ?_;refine gE ?_
   refine gT func225 fun w' hS=>?_
   exact ⟨hS.ext,_,rfl,by rw [dn hf (dB (bt hi0 hG) (dB (bt hi0 hp) (bt hi0 hq))),decide_eq_true_eq];exact El.iff hA⟩
  have hno:¬kK (some G)=7:=by rw [←hop2];simpa using hc
  iterate 11 refine cy ?_
  refine bE ?_;refine ai ?_;refine gE ?_
  refine gT func225 fun w' hS=>?_
  exact ⟨hS.ext,false,rfl,fun h=>(by cases h),fun h=>absurd (by have:=h.gd.2;rw [hA] at this;exact this) hno⟩
theorem EM (i:Int) (x:FV) (w:World):Cn Tryz.prog 228 [.int .i64 i,x.v] w (fun v _=>v=x.v):=by
 refine Cn.of func228 rfl rfl ?_
 refine gS (gR ?_);refine ai ?_;refine gE (gS (gR ?_));refine ah ?_;refine ai ?_;refine gE ?_
 refine gT func228 fun w' hS=>?_
 exact ⟨hS.ext,rfl⟩
theorem EO (i:Int) (hi0:0≤i∧i<4) (x:FV) (t:Tr) (w:World) (ha:FA w x.a x.f) (hf:x.f=bT t) (ht:t.ok):Cn Tryz.prog 230 [.int .i64 i,x.v] w (fun v w'=>aI 66 w w' v (bT (ar i (ar i t)))):=by
 refine Cn.of func230 rfl rfl ?_
 refine gS (gR ?_);refine ai ?_;refine gE (gS (gR ?_))
 iterate 3 refine ah ?_
 refine gM rfl rfl rfl rfl rfl JA (fun w _ hS=>(by exact iS i hi0 x t w (ha.ay hS.ext) hf ht)) ?_
 rintro v w1 w2 Y' hS he ho
 obtain ⟨r1,cr1,spr1,rfl,hr1,hcr1,hS'⟩:=ak hS he ho
 refine ⟨_,hS',?_⟩
 refine gM rfl rfl rfl rfl rfl JA (fun w _ hS=>(by exact iS i hi0 ⟨(r1.map (fun b=>⟨b,0,none⟩)),cr1,bT (ar i t)⟩ (ar i t) w (aL hS 0 rfl (fun e=>(hr1 e).1)) rfl (bt hi0 ht))) ?_
 rintro v w1 w2 Y' hS he ho
 obtain ⟨r2,cr2,spr2,rfl,hr2,hcr2,hS'⟩:=ak hS he ho
 refine ⟨_,hS',?_⟩
 refine ai ?_;refine gE ?_
 refine gT func230 fun w' hS=>?_
 exact ⟨hS.ext,aI.mk hS 0 rfl rfl hr2 hcr2⟩
theorem EN (i:Int) (hi0:0≤i∧i<4) (x:FV) (t:Tr) (w:World) (ha:FA w x.a x.f) (hf:x.f=bT t) (ht:t.ok):Cn Tryz.prog 233 [.int .i64 i,x.v] w (fun v w'=>aI 66 w w' v (bT (aE (ar i (aE t))))):=by
 refine Cn.of func233 rfl rfl ?_
 refine gS (gR ?_);refine ai ?_;refine gE (gS (gR ?_))
 iterate 2 refine ah ?_
 refine gM rfl rfl rfl rfl rfl Jy (fun w _ hS=>(by exact fX x t w (ha.ay hS.ext) hf ht)) ?_
 rintro v w1 w2 Y' hS he ho
 obtain ⟨r1,cr1,spr1,rfl,hr1,hcr1,hS'⟩:=ak hS he ho
 refine ⟨_,hS',?_⟩
 refine gM rfl rfl rfl rfl rfl JA (fun w _ hS=>(by exact iS i hi0 ⟨(r1.map (fun b=>⟨b,0,none⟩)),cr1,bT (aE t)⟩ (aE t) w (aL hS 0 rfl (fun e=>(hr1 e).1)) rfl (bA ht))) ?_
 rintro v w1 w2 Y' hS he ho
 obtain ⟨r2,cr2,spr2,rfl,hr2,hcr2,hS'⟩:=ak hS he ho
 refine ⟨_,hS',?_⟩
 refine gM rfl rfl rfl rfl rfl Jy (fun w _ hS=>(by exact fX ⟨(r2.map (fun b=>⟨b,0,none⟩)),cr2,bT (ar i (aE t))⟩ (ar i (aE t)) w (aL hS 0 rfl (fun e=>(hr2 e).1)) rfl (bt hi0 (bA ht)))) ?_
 rintro v w1 w2 Y' hS he ho
 obtain ⟨r3,cr3,spr3,rfl,hr3,hcr3,hS'⟩:=ak hS he ho
 refine ⟨_,hS',?_⟩
 refine ai ?_;refine gE ?_
 refine gT func233 fun w' hS=>?_
 exact ⟨hS.ext,aI.mk hS 0 rfl rfl hr3 hcr3⟩
set_option maxRecDepth 8000 in
theorem Ba (a:Option Addr) (ca:Nat) (f:List NV) (t:Tr) (w:World) (ha:FA w a f) (hf:Cf f t):
    Cn Tryz.prog 227 [.slice a f.length ca,.func (.func 228) #[] #[]] w (fun v _=>∃b,v=.bool b∧(b=true↔Cw t)):=by
  refine Cn.of func227 rfl rfl ?_
  refine gS (gR ?_);refine ai ?_;refine gE (gS (gR ?_));refine ah ?_
  refine gM rfl rfl rfl rfl rfl JX (fun w _ hS=>(by exact fJ a ca f (some t) w (ha.ay hS.ext) hf)) ?_
  rintro v w1 w2 Y' hS he ⟨nd,qa,cA,fa,spa,qb,cb,fb,spb,rfl,hqa,hqb,hnew,hBa,hBb,hop,hi,hg⟩
  refine ⟨_,hS.eU he hnew,?_⟩
  refine ah ?_
  iterate 3 refine fW ?_
  refine ab.eN rfl rfl rfl (fun _=>Jq _) (fun b5=>?_)
  refine ab.dG rfl rfl rfl rfl Jd 0 rfl rfl rfl rfl ?_
  iterate 2 refine ai ?_
  refine gE (gS (gR ?_));refine ah ?_
  refine gM rfl rfl rfl rfl rfl call238 (fun w _ hS=>(by exact mU (qa.map (fun b=>⟨b,0,none⟩)) cA fa (gL (some t)) w (aL hS 1 rfl (fun e=>(hqa e).1)) hBa)) ?_
  rintro v w1 w2 Y' hS he ⟨qk,ck,fk,spk,rfl,hqk,hnew,hBk⟩
  refine ⟨_,hS.eU he hnew,?_⟩
  refine ah ?_
  iterate 3 refine fW ?_
  iterate 3 refine ai ?_
  refine gE (gS (gR ?_))
  iterate 2 refine ah ?_
  refine eD 24 (fun hc=>?_) fun hc=>?_
  ·
   have h9:kK (gL (some t))=9:=by simpa using hc
   obtain ⟨i,G,hA,hi0,hG⟩:=(hJ.of hf.ok).a.kn h9 (.inl rfl)
   rw [hA] at hBk hBa⊢
   have hBk':Cf fk G:=hBk
   have hBa':Cf fa (ar i G):=hBa
   iterate 5 refine ah ?_
   refine gM rfl rfl rfl rfl rfl call228 (fun w _ hS=>(by exact EM i ⟨(qk.map (fun b=>⟨b,0,none⟩)),ck,fk⟩ w)) ?_
   rintro v w1 w2 Y' hS he rfl
   refine ⟨_,hS.later he,?_⟩
   refine gM rfl rfl rfl rfl rfl JC (fun w _ hS=>(by exact jd ⟨(qa.map (fun b=>⟨b,0,none⟩)),cA,fa⟩ ⟨(qk.map (fun b=>⟨b,0,none⟩)),ck,fk⟩ (ar i G) G w (aL hS 2 rfl (fun e=>(hqa e).1)) hBa'.eq (bt hi0 hG) (aL hS 0 rfl (fun e=>(hqk e).1)) hBk'.eq hG)) ?_
   rintro v w1 w2 Y' hS he ho
   obtain ⟨r4,cr4,spr4,rfl,hr4,hcr4,hS'⟩:=ak hS he ho
   refine ⟨_,hS',?_⟩
   refine gP rfl rfl rfl rfl rfl call26 (fun w _ hS=>(by exact dM a ca f (r4.map (fun b=>⟨b,0,none⟩)) cr4 _ w (ha.ay hS.ext) (aL hS 0 rfl (fun e=>(hr4 e).1)) (aC hf.eq) (aC rfl))) ?_
   refine cz ?_;refine ai ?_;refine gE ?_
   refine gT func227 fun w' hS=>?_
   exact ⟨hS.ext,_,rfl,by rw [dn hf (dB (bt hi0 hG) hG),decide_eq_true_eq];exact Cw.iff hA⟩
  have hno:¬kK (gL (some t))=9:=by simpa using hc
  iterate 8 refine cy ?_
  refine bE ?_;refine ai ?_;refine gE ?_
  refine gT func227 fun w' hS=>?_
  exact ⟨hS.ext,false,rfl,fun h=>(by cases h),fun h=>absurd h.gd hno⟩
theorem D5 (a:Option Addr) (ca:Nat) (f:List NV) (t:Tr) (w:World) (ha:FA w a f) (hf:Cf f t):
  Cn Tryz.prog 226 [.slice a f.length ca] w (fun v _=>∃b,v=.bool b∧(b=true↔Cw t)):=by
 refine Cn.of func226 rfl rfl ?_
 refine gS (gR ?_);refine ai ?_;refine gE (gS (gR ?_));refine ah ?_
 refine gM rfl rfl rfl rfl rfl call227 (fun w _ hS=>(by exact Ba a ca f t w (ha.ay hS.ext) hf)) ?_
 rintro v w1 w2 Y' hS he ⟨b,rfl,hb⟩
 refine ⟨_,hS.later he,?_⟩
 refine ai ?_;refine gE ?_
 refine gT func226 fun w' hS=>?_
 exact ⟨hS.ext,b,rfl,hb⟩
set_option maxRecDepth 8000 in
theorem Bc (a:Option Addr) (ca:Nat) (f:List NV) (t:Tr) (w:World) (ha:FA w a f) (hf:Cf f t):
    Cn Tryz.prog 227 [.slice a f.length ca,.func (.func 230) #[] #[]] w (fun v _=>∃b,v=.bool b∧(b=true↔Cz t)):=by
  refine Cn.of func227 rfl rfl ?_
  refine gS (gR ?_);refine ai ?_;refine gE (gS (gR ?_));refine ah ?_
  refine gM rfl rfl rfl rfl rfl JX (fun w _ hS=>(by exact fJ a ca f (some t) w (ha.ay hS.ext) hf)) ?_
  rintro v w1 w2 Y' hS he ⟨nd,qa,cA,fa,spa,qb,cb,fb,spb,rfl,hqa,hqb,hnew,hBa,hBb,hop,hi,hg⟩
  refine ⟨_,hS.eU he hnew,?_⟩
  refine ah ?_
  iterate 3 refine fW ?_
  refine ab.eN rfl rfl rfl (fun _=>Jq _) (fun b5=>?_)
  refine ab.dG rfl rfl rfl rfl Jd 0 rfl rfl rfl rfl ?_
  iterate 2 refine ai ?_
  refine gE (gS (gR ?_));refine ah ?_
  refine gM rfl rfl rfl rfl rfl call238 (fun w _ hS=>(by exact mU (qa.map (fun b=>⟨b,0,none⟩)) cA fa (gL (some t)) w (aL hS 1 rfl (fun e=>(hqa e).1)) hBa)) ?_
  rintro v w1 w2 Y' hS he ⟨qk,ck,fk,spk,rfl,hqk,hnew,hBk⟩
  refine ⟨_,hS.eU he hnew,?_⟩
  refine ah ?_
  iterate 3 refine fW ?_
  iterate 3 refine ai ?_
  refine gE (gS (gR ?_))
  iterate 2 refine ah ?_
  refine eD 24 (fun hc=>?_) fun hc=>?_
  ·
   have h9:kK (gL (some t))=9:=by simpa using hc
   obtain ⟨i,G,hA,hi0,hG⟩:=(hJ.of hf.ok).a.kn h9 (.inl rfl)
   rw [hA] at hBk hBa⊢
   have hBk':Cf fk G:=hBk
   have hBa':Cf fa (ar i G):=hBa
   iterate 5 refine ah ?_
   refine gM rfl rfl rfl rfl rfl call230 (fun w _ hS=>(by exact EO i hi0 ⟨(qk.map (fun b=>⟨b,0,none⟩)),ck,fk⟩ G w (aL hS 0 rfl (fun e=>(hqk e).1)) hBk'.eq hG)) ?_
   rintro v w1 w2 Y' hS he ho
   obtain ⟨r3,cr3,spr3,rfl,hr3,hcr3,hS'⟩:=ak hS he ho
   refine ⟨_,hS',?_⟩
   refine gM rfl rfl rfl rfl rfl JC (fun w _ hS=>(by exact jd ⟨(qa.map (fun b=>⟨b,0,none⟩)),cA,fa⟩ ⟨(r3.map (fun b=>⟨b,0,none⟩)),cr3,bT (ar i (ar i G))⟩ (ar i G) (ar i (ar i G)) w (aL hS 3 rfl (fun e=>(hqa e).1)) hBa'.eq (bt hi0 hG) (aL hS 0 rfl (fun e=>(hr3 e).1)) rfl (bt hi0 (bt hi0 hG)))) ?_
   rintro v w1 w2 Y' hS he ho
   obtain ⟨r4,cr4,spr4,rfl,hr4,hcr4,hS'⟩:=ak hS he ho
   refine ⟨_,hS',?_⟩
   refine gP rfl rfl rfl rfl rfl call26 (fun w _ hS=>(by exact dM a ca f (r4.map (fun b=>⟨b,0,none⟩)) cr4 _ w (ha.ay hS.ext) (aL hS 0 rfl (fun e=>(hr4 e).1)) (aC hf.eq) (aC rfl))) ?_
   refine cz ?_;refine ai ?_;refine gE ?_
   refine gT func227 fun w' hS=>?_
   exact ⟨hS.ext,_,rfl,by rw [dn hf (dB (bt hi0 hG) (bt hi0 (bt hi0 hG))),decide_eq_true_eq];exact Cz.iff hA⟩
  have hno:¬kK (gL (some t))=9:=by simpa using hc
  iterate 8 refine cy ?_
  refine bE ?_;refine ai ?_;refine gE ?_
  refine gT func227 fun w' hS=>?_
  exact ⟨hS.ext,false,rfl,fun h=>(by cases h),fun h=>absurd h.gd hno⟩
theorem Ec (a:Option Addr) (ca:Nat) (f:List NV) (t:Tr) (w:World) (ha:FA w a f) (hf:Cf f t):
  Cn Tryz.prog 229 [.slice a f.length ca] w (fun v _=>∃b,v=.bool b∧(b=true↔Cz t)):=by
 refine Cn.of func229 rfl rfl ?_
 refine gS (gR ?_);refine ai ?_;refine gE (gS (gR ?_));refine ah ?_
 refine gM rfl rfl rfl rfl rfl call227 (fun w _ hS=>(by exact Bc a ca f t w (ha.ay hS.ext) hf)) ?_
 rintro v w1 w2 Y' hS he ⟨b,rfl,hb⟩
 refine ⟨_,hS.later he,?_⟩
 refine ai ?_;refine gE ?_
 refine gT func229 fun w' hS=>?_
 exact ⟨hS.ext,b,rfl,hb⟩
set_option maxRecDepth 8000 in
theorem Bb (a:Option Addr) (ca:Nat) (f:List NV) (t:Tr) (w:World) (ha:FA w a f) (hf:Cf f t):
    Cn Tryz.prog 227 [.slice a f.length ca,.func (.func 233) #[] #[]] w (fun v _=>∃b,v=.bool b∧(b=true↔Cy t)):=by
  refine Cn.of func227 rfl rfl ?_
  refine gS (gR ?_);refine ai ?_;refine gE (gS (gR ?_));refine ah ?_
  refine gM rfl rfl rfl rfl rfl JX (fun w _ hS=>(by exact fJ a ca f (some t) w (ha.ay hS.ext) hf)) ?_
  rintro v w1 w2 Y' hS he ⟨nd,qa,cA,fa,spa,qb,cb,fb,spb,rfl,hqa,hqb,hnew,hBa,hBb,hop,hi,hg⟩
  refine ⟨_,hS.eU he hnew,?_⟩
  refine ah ?_
  iterate 3 refine fW ?_
  refine ab.eN rfl rfl rfl (fun _=>Jq _) (fun b5=>?_)
  refine ab.dG rfl rfl rfl rfl Jd 0 rfl rfl rfl rfl ?_
  iterate 2 refine ai ?_
  refine gE (gS (gR ?_));refine ah ?_
  refine gM rfl rfl rfl rfl rfl call238 (fun w _ hS=>(by exact mU (qa.map (fun b=>⟨b,0,none⟩)) cA fa (gL (some t)) w (aL hS 1 rfl (fun e=>(hqa e).1)) hBa)) ?_
  rintro v w1 w2 Y' hS he ⟨qk,ck,fk,spk,rfl,hqk,hnew,hBk⟩
  refine ⟨_,hS.eU he hnew,?_⟩
  refine ah ?_
  iterate 3 refine fW ?_
  iterate 3 refine ai ?_
  refine gE (gS (gR ?_))
  iterate 2 refine ah ?_
  refine eD 24 (fun hc=>?_) fun hc=>?_
  ·
   have h9:kK (gL (some t))=9:=by simpa using hc
   obtain ⟨i,G,hA,hi0,hG⟩:=(hJ.of hf.ok).a.kn h9 (.inl rfl)
   rw [hA] at hBk hBa⊢
   have hBk':Cf fk G:=hBk
   have hBa':Cf fa (ar i G):=hBa
   iterate 5 refine ah ?_
   refine gM rfl rfl rfl rfl rfl call233 (fun w _ hS=>(by exact EN i hi0 ⟨(qk.map (fun b=>⟨b,0,none⟩)),ck,fk⟩ G w (aL hS 0 rfl (fun e=>(hqk e).1)) hBk'.eq hG)) ?_
   rintro v w1 w2 Y' hS he ho
   obtain ⟨r3,cr3,spr3,rfl,hr3,hcr3,hS'⟩:=ak hS he ho
   refine ⟨_,hS',?_⟩
   refine gM rfl rfl rfl rfl rfl JC (fun w _ hS=>(by exact jd ⟨(qa.map (fun b=>⟨b,0,none⟩)),cA,fa⟩ ⟨(r3.map (fun b=>⟨b,0,none⟩)),cr3,bT (aE (ar i (aE G)))⟩ (ar i G) (aE (ar i (aE G))) w (aL hS 3 rfl (fun e=>(hqa e).1)) hBa'.eq (bt hi0 hG) (aL hS 0 rfl (fun e=>(hr3 e).1)) rfl (bA (bt hi0 (bA hG))))) ?_
   rintro v w1 w2 Y' hS he ho
   obtain ⟨r4,cr4,spr4,rfl,hr4,hcr4,hS'⟩:=ak hS he ho
   refine ⟨_,hS',?_⟩
   refine gP rfl rfl rfl rfl rfl call26 (fun w _ hS=>(by exact dM a ca f (r4.map (fun b=>⟨b,0,none⟩)) cr4 _ w (ha.ay hS.ext) (aL hS 0 rfl (fun e=>(hr4 e).1)) (aC hf.eq) (aC rfl))) ?_
   refine cz ?_;refine ai ?_;refine gE ?_
   refine gT func227 fun w' hS=>?_
   exact ⟨hS.ext,_,rfl,by rw [dn hf (dB (bt hi0 hG) (bA (bt hi0 (bA hG)))),decide_eq_true_eq];exact Cy.iff hA⟩
  have hno:¬kK (gL (some t))=9:=by simpa using hc
  iterate 8 refine cy ?_
  refine bE ?_;refine ai ?_;refine gE ?_
  refine gT func227 fun w' hS=>?_
  exact ⟨hS.ext,false,rfl,fun h=>(by cases h),fun h=>absurd h.gd hno⟩
theorem D9 (a:Option Addr) (ca:Nat) (f:List NV) (t:Tr) (w:World) (ha:FA w a f) (hf:Cf f t):
  Cn Tryz.prog 232 [.slice a f.length ca] w (fun v _=>∃b,v=.bool b∧(b=true↔Cy t)):=by
 refine Cn.of func232 rfl rfl ?_
 refine gS (gR ?_);refine ai ?_;refine gE (gS (gR ?_));refine ah ?_
 refine gM rfl rfl rfl rfl rfl call227 (fun w _ hS=>(by exact Bb a ca f t w (ha.ay hS.ext) hf)) ?_
 rintro v w1 w2 Y' hS he ⟨b,rfl,hb⟩
 refine ⟨_,hS.later he,?_⟩
 refine ai ?_;refine gE ?_
 refine gT func232 fun w' hS=>?_
 exact ⟨hS.ext,b,rfl,hb⟩
set_option maxRecDepth 8000 in
theorem Eb (a:Option Addr) (ca:Nat) (f:List NV) (t:Tr) (w:World) (ha:FA w a f) (hf:Cf f t):
    Cn Tryz.prog 231 [.slice a f.length ca] w (fun v _=>∃b,v=.bool b∧(b=true↔Eo t)):=by
  refine Cn.of func231 rfl rfl ?_
  refine gS (gR ?_);refine ai ?_;refine gE (gS (gR ?_));refine ah ?_
  refine gM rfl rfl rfl rfl rfl JX (fun w _ hS=>(by exact fJ a ca f (some t) w (ha.ay hS.ext) hf)) ?_
  rintro v w1 w2 Y' hS he ⟨nd,qa,cA,fa,spa,qb,cb,fb,spb,rfl,hqa,hqb,hnew,hBa,hBb,hop,hi,hg⟩
  refine ⟨_,hS.eU he hnew,?_⟩
  refine ah ?_
  iterate 3 refine fW ?_
  refine ab.eN rfl rfl rfl (fun _=>Jq _) (fun b3=>?_)
  refine ab.dG rfl rfl rfl rfl Jd 0 rfl rfl rfl rfl ?_
  iterate 2 refine ai ?_
  refine gE (gS (gR ?_));refine ah ?_
  refine gM rfl rfl rfl rfl rfl JX (fun w _ hS=>(by exact fJ (qa.map (fun b=>⟨b,0,none⟩)) cA fa (gL (some t)) w (aL hS 1 rfl (fun e=>(hqa e).1)) hBa)) ?_
  rintro v w1 w2 Y' hS he ⟨nd2,qa2,cA2,fa2,spa2,qb2,cb2,fb2,spb2,rfl,hqa2,hqb2,hnew,hBa2,hBb2,hop2,hi2,hg2⟩
  refine ⟨_,hS.eU he hnew,?_⟩
  refine ah ?_
  iterate 3 refine fW ?_
  refine ab.eN rfl rfl rfl (fun _=>Jq _) (fun b6=>?_)
  refine ab.dG rfl rfl rfl rfl Jd 0 rfl rfl rfl rfl ?_
  iterate 2 refine ai ?_
  refine gE (gS (gR ?_));refine ah ?_
  refine gM rfl rfl rfl rfl rfl call238 (fun w _ hS=>(by exact mU (qa2.map (fun b=>⟨b,0,none⟩)) cA2 fa2 (gL (gL (some t))) w (aL hS 1 rfl (fun e=>(hqa2 e).1)) hBa2)) ?_
  rintro v w1 w2 Y' hS he ⟨qk,ck,fk,spk,rfl,hqk,hnew,hBk⟩
  refine ⟨_,hS.eU he hnew,?_⟩
  refine ah ?_
  iterate 3 refine fW ?_
  iterate 3 refine ai ?_
  refine gE (gS (gR ?_))
  iterate 2 refine ah ?_
  refine eD 31 (fun hc=>?_) fun hc=>?_
  ·
   have h9:kK (gL (gL (some t)))=9:=by simpa using hc
   obtain ⟨i,G,hA,hi0,hG⟩:=(hJ.of hf.ok).a.a.kn h9 (.inl rfl)
   rw [hA] at hBa2⊢
   have hBa':Cf fa2 (ar i G):=hBa2
   iterate 2 refine ah ?_
   refine gM rfl rfl rfl rfl rfl Jy (fun w _ hS=>(by exact fX ⟨(qa2.map (fun b=>⟨b,0,none⟩)),cA2,fa2⟩ (ar i G) w (aL hS 2 rfl (fun e=>(hqa2 e).1)) hBa'.eq (bt hi0 hG))) ?_
   rintro v w1 w2 Y' hS he ho
   obtain ⟨r1,cr1,spr1,rfl,hr1,hcr1,hS'⟩:=ak hS he ho
   refine ⟨_,hS',?_⟩
   iterate 2 refine ah ?_
   refine gM rfl rfl rfl rfl rfl Jy (fun w _ hS=>(by exact fX ⟨(qa2.map (fun b=>⟨b,0,none⟩)),cA2,fa2⟩ (ar i G) w (aL hS 3 rfl (fun e=>(hqa2 e).1)) hBa'.eq (bt hi0 hG))) ?_
   rintro v w1 w2 Y' hS he ho
   obtain ⟨r2,cr2,spr2,rfl,hr2,hcr2,hS'⟩:=ak hS he ho
   refine ⟨_,hS',?_⟩
   refine gM rfl rfl rfl rfl rfl JA (fun w _ hS=>(by exact iS i hi0 ⟨(r2.map (fun b=>⟨b,0,none⟩)),cr2,bT (aE (ar i G))⟩ (aE (ar i G)) w (aL hS 0 rfl (fun e=>(hr2 e).1)) rfl (bA (bt hi0 hG)))) ?_
   rintro v w1 w2 Y' hS he ho
   obtain ⟨r3,cr3,spr3,rfl,hr3,hcr3,hS'⟩:=ak hS he ho
   refine ⟨_,hS',?_⟩
   refine gM rfl rfl rfl rfl rfl JC (fun w _ hS=>(by exact jd ⟨(r1.map (fun b=>⟨b,0,none⟩)),cr1,bT (aE (ar i G))⟩ ⟨(r3.map (fun b=>⟨b,0,none⟩)),cr3,bT (ar i (aE (ar i G)))⟩ (aE (ar i G)) (ar i (aE (ar i G))) w (aL hS 2 rfl (fun e=>(hr1 e).1)) rfl (bA (bt hi0 hG)) (aL hS 0 rfl (fun e=>(hr3 e).1)) rfl (bt hi0 (bA (bt hi0 hG))))) ?_
   rintro v w1 w2 Y' hS he ho
   obtain ⟨r4,cr4,spr4,rfl,hr4,hcr4,hS'⟩:=ak hS he ho
   refine ⟨_,hS',?_⟩
   refine gP rfl rfl rfl rfl rfl call26 (fun w _ hS=>(by exact dM a ca f (r4.map (fun b=>⟨b,0,none⟩)) cr4 _ w (ha.ay hS.ext) (aL hS 0 rfl (fun e=>(hr4 e).1)) (aC hf.eq) (aC rfl))) ?_
   refine cz ?_;refine ai ?_;refine gE ?_
   refine gT func231 fun w' hS=>?_
   exact ⟨hS.ext,_,rfl,by rw [dn hf (dB (bA (bt hi0 hG)) (bt hi0 (bA (bt hi0 hG)))),decide_eq_true_eq];exact Eo.iff hA⟩
  have hno:¬kK (gL (gL (some t)))=9:=by simpa using hc
  iterate 9 refine cy ?_
  refine bE ?_;refine ai ?_;refine gE ?_
  refine gT func231 fun w' hS=>?_
  exact ⟨hS.ext,false,rfl,fun h=>(by cases h),fun h=>absurd h.gd hno⟩
set_option maxRecDepth 8000 in
theorem D6 (a:Option Addr) (ca:Nat) (f:List NV) (t:Tr) (w:World) (ha:FA w a f) (hf:Cf f t):
    Cn Tryz.prog 234 [.slice a f.length ca] w (fun v _=>∃b,v=.bool b∧(b=true↔Ek t)):=by
  refine Cn.of func234 rfl rfl ?_
  refine gS (gR ?_);refine ai ?_;refine gE (gS (gR ?_));refine ah ?_
  refine gM rfl rfl rfl rfl rfl JX (fun w _ hS=>(by exact fJ a ca f (some t) w (ha.ay hS.ext) hf)) ?_
  rintro v w1 w2 Y' hS he ⟨nd,qa,cA,fa,spa,qb,cb,fb,spb,rfl,hqa,hqb,hnew,hBa,hBb,hop,hi,hg⟩
  refine ⟨_,hS.eU he hnew,?_⟩
  refine ah ?_
  iterate 3 refine fW ?_
  refine ab.eN rfl rfl rfl (fun _=>Jq _) (fun b3=>?_)
  refine ab.dG rfl rfl rfl rfl Jd 0 rfl rfl rfl rfl ?_
  iterate 2 refine ai ?_
  refine gE (gS (gR ?_));refine ah ?_
  refine gM rfl rfl rfl rfl rfl JX (fun w _ hS=>(by exact fJ (qa.map (fun b=>⟨b,0,none⟩)) cA fa (gL (some t)) w (aL hS 1 rfl (fun e=>(hqa e).1)) hBa)) ?_
  rintro v w1 w2 Y' hS he ⟨nd2,qa2,cA2,fa2,spa2,qb2,cb2,fb2,spb2,rfl,hqa2,hqb2,hnew,hBa2,hBb2,hop2,hi2,hg2⟩
  refine ⟨_,hS.eU he hnew,?_⟩
  refine ah ?_
  iterate 3 refine fW ?_
  refine ab.eN rfl rfl rfl (fun _=>Jq _) (fun b6=>?_)
  refine ab.dG rfl rfl rfl rfl Jd 0 rfl rfl rfl rfl ?_
  iterate 2 refine ai ?_
  refine gE (gS ?_)
  refine ab.dK 17 mixed ?_
  refine cV 0 (ae.aH rfl rfl rfl rfl Jb rfl (by exact I9) 0 rfl) ?_
  refine cV 1 (ae.dw rfl rfl rfl rfl Ja 0 rfl rfl) ?_
  refine cV 2 (ae.bin rfl rfl rfl rfl bh rfl) ?_
  refine cV 3 (ae.mv rfl rfl rfl rfl) ?_
  refine aG.cases (d:=24) rfl (fun hc=>?_) (fun hc=>?_)
  ·
   have h10:kK (gL (some t))=10:=by rw [←hop2];simpa using hc
   obtain ⟨i,G,hA,hi0,hG⟩:=(hJ.of hf.ok).a.kn h10 (.inr rfl)
   obtain rfl:nd2.i=i:=by rw [hi2,hA];rfl
   rw [hA] at hBa hBa2
   have hBa':Cf fa (gi nd2.i G):=hBa
   have hB2':Cf fa2 G:=hBa2
   have hpo:(gi nd2.i G).ok:=hBa'.ok
   refine cV 4 (ae.mv rfl rfl rfl rfl) ?_
   refine cV 5 (ae.mv rfl rfl rfl rfl) ?_
   refine cV 6 (ae.aH rfl rfl rfl rfl Jb rfl (by exact I9) 1 rfl) ?_
   refine cV 7 (ae.dw rfl rfl rfl rfl Ja 0 rfl rfl) ?_
   refine cV 8 (ae.mv rfl rfl rfl rfl) ?_
   refine aG.call (i:=9) _ rfl rfl rfl rfl rfl rfl (fun _ _=>Jy _ _) (fun w _ hS=>(by exact fX ⟨(qa2.map (fun b=>⟨b,0,none⟩)),cA2,fa2⟩ G w (aL hS 1 rfl (fun e=>(hqa2 e).1)) hB2'.eq hG)) ?_
   rintro v w1 w2 Y' hS he ho
   obtain ⟨r1,cr1,spr1,rfl,hr1,hcr1,hS'⟩:=ak hS he ho
   refine ⟨_,hS',sM,?_⟩
   refine aG.call (i:=10) _ rfl rfl rfl rfl rfl rfl (fun _ _=>JA _ _) (fun w _ hS=>(by exact iS nd2.i hi0 ⟨(r1.map (fun b=>⟨b,0,none⟩)),cr1,bT (aE G)⟩ (aE G) w (aL hS 0 rfl (fun e=>(hr1 e).1)) rfl (bA hG))) ?_
   rintro v w1 w2 Y' hS he ho
   obtain ⟨r2,cr2,spr2,rfl,hr2,hcr2,hS'⟩:=ak hS he ho
   refine ⟨_,hS',sM,?_⟩
   refine aG.call (i:=11) _ rfl rfl rfl rfl rfl rfl (fun _ _=>Jy _ _) (fun w _ hS=>(by exact fX ⟨(r2.map (fun b=>⟨b,0,none⟩)),cr2,bT (ar nd2.i (aE G))⟩ (ar nd2.i (aE G)) w (aL hS 0 rfl (fun e=>(hr2 e).1)) rfl (bt hi0 (bA hG)))) ?_
   rintro v w1 w2 Y' hS he ho
   obtain ⟨r3,cr3,spr3,rfl,hr3,hcr3,hS'⟩:=ak hS he ho
   refine ⟨_,hS',sM,?_⟩
   refine aG.call (i:=12) _ rfl rfl rfl rfl rfl rfl (fun _ _=>call118 _ _) (fun w _ hS=>(by exact uK ⟨(qa.map (fun b=>⟨b,0,none⟩)),cA,fa⟩ ⟨(r3.map (fun b=>⟨b,0,none⟩)),cr3,bT (aE (ar nd2.i (aE G)))⟩ (gi nd2.i G) (aE (ar nd2.i (aE G))) w (aL hS 7 rfl (fun e=>(hqa e).1)) hBa'.eq hpo (aL hS 0 rfl (fun e=>(hr3 e).1)) rfl (bA (bt hi0 (bA hG))))) ?_
   rintro v w1 w2 Y' hS he ho
   obtain ⟨r4,cr4,spr4,rfl,hr4,hcr4,hS'⟩:=ak hS he ho
   refine ⟨_,hS',sM,?_⟩
   refine aG.cC (i:=13) rfl rfl rfl rfl rfl rfl (fun _ _=>call26 _ _) (fun w _ hS=>(by exact dM a ca f (r4.map (fun b=>⟨b,0,none⟩)) cr4 _ w (ha.ay hS.ext) (aL hS 0 rfl (fun e=>(hr4 e).1)) (aC hf.eq) (aC rfl))) sL ?_
   refine cV 14 (ae.aT rfl rfl rfl rfl rfl) ?_
   refine cV 15 (ae.fh rfl rfl rfl rfl) ?_
   refine aG.done rfl ?_
   refine gE ?_
   refine gT func234 fun w' hS=>?_
   exact ⟨hS.ext,_,rfl,by rw [dn hf (tC hpo (bA (bt hi0 (bA hG)))),decide_eq_true_eq];exact Ek.iff hA⟩
  have hno:¬kK (gL (some t))=10:=by rw [←hop2];simpa using hc
  refine cN 4 ?_
  refine cN 5 ?_
  refine cN 6 ?_
  refine cN 7 ?_
  refine cN 8 ?_
  refine cN 9 ?_
  refine cN 10 ?_
  refine cN 11 ?_
  refine cN 12 ?_
  refine cN 13 ?_
  refine cV 14 (ae.de rfl rfl rfl rfl rfl) ?_
  refine cV 15 (ae.fh rfl rfl rfl rfl) ?_
  refine aG.done rfl ?_
  refine gE ?_
  refine gT func234 fun w' hS=>?_
  exact ⟨hS.ext,false,rfl,fun h=>(by cases h),fun h=>absurd h.gd hno⟩
set_option maxRecDepth 8000 in
theorem Ea (a:Option Addr) (ca:Nat) (f:List NV) (t:Tr) (w:World) (ha:FA w a f) (hf:Cf f t):
    Cn Tryz.prog 236 [.slice a f.length ca] w (fun v _=>∃b,v=.bool b∧(b=true↔En t)):=by
  refine Cn.of func236 rfl rfl ?_
  refine gS (gR ?_);refine ai ?_;refine gE (gS (gR ?_));refine ah ?_
  refine gM rfl rfl rfl rfl rfl JX (fun w _ hS=>(by exact fJ a ca f (some t) w (ha.ay hS.ext) hf)) ?_
  rintro v w1 w2 Y' hS he ⟨nd,qa,cA,fa,spa,qb,cb,fb,spb,rfl,hqa,hqb,hnew,hBa,hBb,hop,hi,hg⟩
  refine ⟨_,hS.eU he hnew,?_⟩
  refine ah ?_
  iterate 3 refine fW ?_
  refine ab.eN rfl rfl rfl (fun _=>Jq _) (fun b3=>?_)
  refine ab.dG rfl rfl rfl rfl Jd 0 rfl rfl rfl rfl ?_
  iterate 2 refine ai ?_
  refine gE (gS (gR ?_));refine ah ?_
  refine gM rfl rfl rfl rfl rfl JX (fun w _ hS=>(by exact fJ (qa.map (fun b=>⟨b,0,none⟩)) cA fa (gL (some t)) w (aL hS 1 rfl (fun e=>(hqa e).1)) hBa)) ?_
  rintro v w1 w2 Y' hS he ⟨nd2,qa2,cA2,fa2,spa2,qb2,cb2,fb2,spb2,rfl,hqa2,hqb2,hnew,hBa2,hBb2,hop2,hi2,hg2⟩
  refine ⟨_,hS.eU he hnew,?_⟩
  refine ah ?_
  iterate 3 refine fW ?_
  refine ab.eN rfl rfl rfl (fun _=>Jq _) (fun b6=>?_)
  refine ab.dG rfl rfl rfl rfl Jd 0 rfl rfl rfl rfl ?_
  iterate 2 refine ai ?_
  refine gE (gS ?_)
  refine ab.dK 19 mixed ?_
  refine cV 0 (ae.aH rfl rfl rfl rfl Jb rfl (by exact I9) 0 rfl) ?_
  refine cV 1 (ae.dw rfl rfl rfl rfl Ja 0 rfl rfl) ?_
  refine cV 2 (ae.bin rfl rfl rfl rfl bh rfl) ?_
  refine cV 3 (ae.mv rfl rfl rfl rfl) ?_
  refine aG.cases (d:=24) rfl (fun hc=>?_) (fun hc=>?_)
  ·
   have h13:kK (gL (some t))=13:=by rw [←hop2];simpa using hc
   obtain ⟨g,p,q,hA,hg0,hp,hq⟩:=(hJ.of hf.ok).a.co h13
   obtain rfl:nd2.g=g:=by rw [hg2,hA];rfl
   rw [hA] at hBa hBa2 hBb2
   have hBa':Cf fa (nh nd2.g p q):=hBa
   have hBp:Cf fa2 p:=hBa2
   have hBq:Cf fb2 q:=hBb2
   have hco:(nh nd2.g p q).ok:=hBa'.ok
   refine cV 4 (ae.mv rfl rfl rfl rfl) ?_
   refine cV 5 (ae.mv rfl rfl rfl rfl) ?_
   refine cV 6 (ae.aH rfl rfl rfl rfl Jb rfl (by exact I9) 3 rfl) ?_
   refine cV 7 (ae.dw rfl rfl rfl rfl Ja 0 rfl rfl) ?_
   refine cV 8 (ae.mv rfl rfl rfl rfl) ?_
   refine cV 9 (ae.mv rfl rfl rfl rfl) ?_
   refine cV 10 (ae.mv rfl rfl rfl rfl) ?_
   refine aG.call (i:=11) _ rfl rfl rfl rfl rfl rfl (fun _ _=>call27 _ _) (fun w _ hS=>(by exact pQ ⟨(qb2.map (fun b=>⟨b,0,none⟩)),cb2,fb2⟩ ⟨(qa.map (fun b=>⟨b,0,none⟩)),cA,fa⟩ q (nh nd2.g p q) w (aL hS 2 rfl (fun e=>(hqb2 e).1)) hBq.eq hq (aL hS 4 rfl (fun e=>(hqa e).1)) hBa'.eq hco)) ?_
   rintro v w1 w2 Y' hS he ho
   obtain ⟨r1,cr1,spr1,rfl,hr1,hcr1,hS'⟩:=ak hS he ho
   refine ⟨_,hS',sM,?_⟩
   refine aG.call (i:=12) _ rfl rfl rfl rfl rfl rfl (fun _ _=>JC _ _) (fun w _ hS=>(by exact jd ⟨(qa2.map (fun b=>⟨b,0,none⟩)),cA2,fa2⟩ ⟨(r1.map (fun b=>⟨b,0,none⟩)),cr1,bT (ju q (nh nd2.g p q))⟩ p (ju q (nh nd2.g p q)) w (aL hS 2 rfl (fun e=>(hqa2 e).1)) hBp.eq hp (aL hS 0 rfl (fun e=>(hr1 e).1)) rfl (fU hq hco))) ?_
   rintro v w1 w2 Y' hS he ho
   obtain ⟨r2,cr2,spr2,rfl,hr2,hcr2,hS'⟩:=ak hS he ho
   refine ⟨_,hS',sM,?_⟩
   refine aG.call (i:=13) _ rfl rfl rfl rfl rfl rfl (fun _ _=>call180 _ _) (fun w _ hS=>(by exact tE nd2.g hg0 ⟨(r2.map (fun b=>⟨b,0,none⟩)),cr2,bT (aR p (ju q (nh nd2.g p q)))⟩ (aR p (ju q (nh nd2.g p q))) w (aL hS 0 rfl (fun e=>(hr2 e).1)) rfl (dB hp (fU hq hco)))) ?_
   rintro v w1 w2 Y' hS he ho
   obtain ⟨r3,cr3,spr3,rfl,hr3,hcr3,hS'⟩:=ak hS he ho
   refine ⟨_,hS',sM,?_⟩
   refine aG.call (i:=14) _ rfl rfl rfl rfl rfl rfl (fun _ _=>call118 _ _) (fun w _ hS=>(by exact uK ⟨(qa.map (fun b=>⟨b,0,none⟩)),cA,fa⟩ ⟨(r3.map (fun b=>⟨b,0,none⟩)),cr3,bT (rj nd2.g (aR p (ju q (nh nd2.g p q))))⟩ (nh nd2.g p q) (rj nd2.g (aR p (ju q (nh nd2.g p q)))) w (aL hS 7 rfl (fun e=>(hqa e).1)) hBa'.eq hco (aL hS 0 rfl (fun e=>(hr3 e).1)) rfl (vK hg0 (dB hp (fU hq hco))))) ?_
   rintro v w1 w2 Y' hS he ho
   obtain ⟨r4,cr4,spr4,rfl,hr4,hcr4,hS'⟩:=ak hS he ho
   refine ⟨_,hS',sM,?_⟩
   refine aG.cC (i:=15) rfl rfl rfl rfl rfl rfl (fun _ _=>call26 _ _) (fun w _ hS=>(by exact dM a ca f (r4.map (fun b=>⟨b,0,none⟩)) cr4 _ w (ha.ay hS.ext) (aL hS 0 rfl (fun e=>(hr4 e).1)) (aC hf.eq) (aC rfl))) sL ?_
   refine cV 16 (ae.aT rfl rfl rfl rfl rfl) ?_
   refine cV 17 (ae.fh rfl rfl rfl rfl) ?_
   refine aG.done rfl ?_
   refine gE ?_
   refine gT func236 fun w' hS=>?_
   exact ⟨hS.ext,_,rfl,by rw [dn hf (tC hco (vK hg0 (dB hp (fU hq hco)))),decide_eq_true_eq];exact En.iff hA⟩
  have hno:¬kK (gL (some t))=13:=by rw [←hop2];simpa using hc
  refine cN 4 ?_
  refine cN 5 ?_
  refine cN 6 ?_
  refine cN 7 ?_
  refine cN 8 ?_
  refine cN 9 ?_
  refine cN 10 ?_
  refine cN 11 ?_
  refine cN 12 ?_
  refine cN 13 ?_
  refine cN 14 ?_
  refine cN 15 ?_
  refine cV 16 (ae.de rfl rfl rfl rfl rfl) ?_
  refine cV 17 (ae.fh rfl rfl rfl rfl) ?_
  refine aG.done rfl ?_
  refine gE ?_
  refine gT func236 fun w' hS=>?_
  exact ⟨hS.ext,false,rfl,fun h=>(by cases h),fun h=>absurd h.gd hno⟩
end Go.Proofs.YtnfmegcknckahaaGreatDoor
namespace Go.Proofs.YtnfmegcknckahaaGreatDoor
open Go.RowKit Go.Proofs.Wit Tryz
theorem Dz:(Tryz.prog.info? 22).map (fun i=>(i.zero,i.size,i.bytes))=some (some (Value.slice none 0 0),1,24):=by kernel_rfl
set_option maxRecDepth 8000 in
theorem D8 (a:Option Addr) (ca:Nat) (f:List NV) (t:Tr) (w:World) (ha:FA w a f) (hf:Cf f t):
    Cn Tryz.prog 235 [.slice a f.length ca] w (fun v _=>∃b,v=.bool b∧(b=true↔Em t)):=by
  obtain ⟨i1,hi1,hz1,hsz1,hby1⟩:=info_parts Dz
  refine Cn.of func235 rfl rfl ?_
  refine gS (gR ?_);refine ai ?_;refine gE (gS (gR ?_));refine ah ?_
  refine gM rfl rfl rfl rfl rfl JX (fun w _ hS=>(by exact fJ a ca f (some t) w (ha.ay hS.ext) hf)) ?_
  rintro v w1 w2 Y' hS he ⟨nd,qa,cA,fa,spa,qb,cb,fb,spb,rfl,hqa,hqb,hnew,hBa,hBb,hop,hi,hg⟩
  refine ⟨_,hS.eU he hnew,?_⟩
  refine ah ?_
  iterate 3 refine fW ?_
  refine ab.eN rfl rfl rfl (fun _=>Jq _) (fun b3=>?_)
  refine ab.dG rfl rfl rfl rfl Jd 0 rfl rfl rfl rfl ?_
  iterate 2 refine ai ?_
  refine gE (gS (gR ?_));refine ah ?_
  refine gM rfl rfl rfl rfl rfl JX (fun w _ hS=>(by exact fJ (qa.map (fun b=>⟨b,0,none⟩)) cA fa (gL (some t)) w (aL hS 1 rfl (fun e=>(hqa e).1)) hBa)) ?_
  rintro v w1 w2 Y' hS he ⟨nd2,qa2,cA2,fa2,spa2,qb2,cb2,fb2,spb2,rfl,hqa2,hqb2,hnew,hBa2,hBb2,hop2,hi2,hg2⟩
  refine ⟨_,hS.eU he hnew,?_⟩
  refine ah ?_
  iterate 3 refine fW ?_
  refine ab.eN rfl rfl rfl (fun _=>Jq _) (fun b6=>?_)
  refine ab.dG rfl rfl rfl rfl Jd 0 rfl rfl rfl rfl ?_
  iterate 2 refine ai ?_
  refine gE (gS (gS (gR ?_)));refine al Jb I9 0 ?_;refine aq Ja 0 ?_;refine aw gO ?_;refine gE ?_
  refine gC (fun hc=>?_) fun hc=>?_
  ·
   have hno:¬kK (gL (some t))=11:=by rw [←hop2];simpa using hc
   refine gS (gR ?_);refine ai ?_;refine gE ?_
   refine gT func235 fun w' hS=>?_
   exact ⟨hS.ext,false,rfl,fun h=>(by cases h),fun h=>absurd h.gd hno⟩
  have h11:kK (gL (some t))=11:=by rw [←hop2];simpa using hc
  obtain ⟨g,p,hA,hg0,hp⟩:=(hJ.of hf.ok).a.ev h11
  obtain ⟨gn,rfl⟩:∃gn:Nat,g=(gn:Int):=⟨g.toNat,by omega⟩
  obtain ⟨op2,i2,e2,g2,x2,y2⟩:=nd2
  obtain rfl:g2=(gn:Int):=by rw [hA] at hg2;exact hg2
  rw [hA] at hBa hBa2
  have hBa':Cf fa (rj gn p):=hBa
  have hBp:Cf fa2 p:=hBa2
  refine gK (gS (gR ?_));refine ai ?_;refine gE (gS (gS (gR ?_)));refine ah ?_;refine gE (gB ?_)
  refine ab.cQ (ob FV.v 22 [] []) ?_
  refine ab.pick (pre':=[(some b6,.cells (NV.cells ⟨op2,i2,e2,gn,x2,y2⟩).toArray 66 (0,0)),(qa2,eO 66 fa2 spa2),(qa,eO 66 fa spa),(none,ob FV.v 22 [] [])]) [1,2,5,0] (by decide) rfl ?_
  refine ab.loop (σ:=Nat×Option Nat×Nat×List FV×List Value×Hl) (fun z=>[(0,.slice a f.length ca),(4,cK qa fa.length cA),(6,.pointer (some ⟨b6,0,none⟩)),(7,cK qa2 fa2.length cA2),(9,cK z.2.1 z.2.2.2.1.length z.2.2.1),(26,.int .i64 z.1)])
    (fun z=>[(some b6,.cells (NV.cells ⟨op2,i2,e2,gn,x2,y2⟩).toArray 66 (0,0)),(qa2,eO 66 fa2 spa2),(qa,eO 66 fa spa),(z.2.1,ob FV.v 22 z.2.2.2.1 z.2.2.2.2.1)]++z.2.2.2.2.2)
    (fun z=>z.1≤4∧(z.2.1=none→z.2.2.2.1.length=0∧z.2.2.1=0)∧(z.2.2.2.1.map FV.v++z.2.2.2.2.1).length=z.2.2.1∧(∀g∈z.2.2.2.1,g.In 66 z.2.2.2.2.2)∧z.2.2.2.1.map FV.f=(B9 gn z.1 p).map bT)
    (fun z=>4 - z.1) (0,none,0,[],[],[]) ⟨Nat.zero_le _,fun _=>⟨rfl,rfl⟩,rfl,(fun _ h=>by cases h),rfl⟩ ⟨rfl,rfl,rfl,rfl,rfl,rfl,trivial⟩ (List.Sublist.refl _) (fun z hI IH=>?_)
  obtain ⟨k,q,cap,gs,sp,H⟩:=z
  obtain ⟨hk,hq,ao,hin,hgs⟩:=hI
  dsimp only at hk hq ao hin hgs IH⊢
  have hgl:gs.length≤4:=by
    have h1:=congrArg List.length hgs
    have h2:=@zH gn k
    simp only [List.length_map,B9] at h1
    omega
  refine gS (gR ?_);refine aw jl ?_;refine gE (gS ?_)
  refine gC (fun hc=>?_) fun hc=>?_
  ·
   have hk4:k<4:=by simp at hc;omega
   have hdv:gn / 2^k≤gn:=Nat.div_le_self _ _
   refine gK (gS (gB (gS (gR ?_))));refine ah ?_;refine ai ?_;refine gE (gS (gR ?_));refine al Jb I9 3 ?_;refine aq Ja 0 ?_;refine ah ?_
   refine df rfl rfl rfl rfl (Cm (x:=gn) (j:=k) rfl (by omega) (by omega)) ?_
   refine df rfl rfl rfl rfl (zA (by omega)) ?_;refine aw bh ?_;refine gE ?_
   refine gC (fun hc=>?_) fun hc=>?_
   ·
    have h1:gb gn k=1:=by
      have:((gn / 2^k%2:Nat):Int)=1:=by simpa using hc
      show gn / 2^k%2=1
      omega
    refine gR ?_
    iterate 3 refine ah ?_
    refine gM rfl rfl rfl rfl rfl JA (fun w _ hS=>(by exact iS (k:Int) (by omega) ⟨(qa2.map (fun b=>⟨b,0,none⟩)),cA2,fa2⟩ p w (aL hS 1 rfl (fun e=>(hqa2 e).1)) hBp.eq hp)) ?_
    rintro v w1 w2 Y' hS he ho
    obtain ⟨qf,capf,spf,rfl,hqf,hcapf,hS'⟩:=ak hS he ho
    refine ⟨_,hS',?_⟩
    refine ab.eh (c:=[_]) rfl rfl rfl rfl Jo Jj Jx rfl rfl (fun b39=>?_)
    refine ab.oh FV.v (news:=[⟨qf.map (fun b=>⟨b,0,none⟩),capf,bT (ar (k:Int) p)⟩]) (spn:=[]) (xs:=gs) (sp:=sp) (q:=q) rfl rfl rfl rfl rfl Jo hi1 hz1 hsz1 rfl hq 5 rfl 0 rfl ao rfl (by decide) (fun _=>rfl) (by simp [maxLen];omega) (by simp [hby1];omega) (fun b' sp' cap' hlen=>?_)
    refine ai ?_;refine gE (dQ (gR ?_));refine df rfl rfl rfl rfl (cD (by omega)) ?_;refine ah ?_;refine gE ?_
    refine ab.aT (pre:=[_,_,_,_,_,_]) (pre':=[_,_,_,_,_]) H [2,3,4,5,1] (by decide) rfl ?_
    refine IH (k+1,some b',cap',gs++[⟨qf.map (fun b=>⟨b,0,none⟩),capf,bT (ar (k:Int) p)⟩],sp',(qf,eO 66 (bT (ar (k:Int) p)) spf)::H) _ _ ⟨hk4,(fun e=>by cases e),hlen,fun g hg=>?_,?_⟩ (by dsimp only;omega) ⟨rfl,rfl,rfl,rfl,rfl,rfl,trivial⟩ (List.Sublist.refl _)
    · rcases List.mem_append.1 hg with hg|hg
      · exact (hin g hg).mono (List.subset_cons_self _ _)
      · rw [List.mem_singleton.1 hg];exact ⟨qf,spf,List.mem_cons_self ..,rfl,hqf,hcapf⟩
    dsimp only;rw [List.map_append,hgs,B9,B9,zG h1,List.map_append,List.map_append];rfl
   have h1:gb gn k≠1:=by
     have:¬((gn / 2^k%2:Nat):Int)=1:=by simpa using hc
     show ¬gn / 2^k%2=1
     omega
   refine gK (dQ (gR ?_));refine df rfl rfl rfl rfl (cD (by omega)) ?_;refine ah ?_;refine gE ?_
   exact IH (k+1,q,cap,gs,sp,H) _ _ ⟨hk4,hq,ao,hin,by dsimp only;rw [hgs,B9,B9,BQ h1]⟩ (by dsimp only;omega) ⟨rfl,rfl,rfl,rfl,rfl,rfl,trivial⟩ (List.Sublist.refl _)
  have hge:¬k<4:=by simp at hc;omega
  obtain rfl:k=4:=by omega
  have hcg:gs.length≤cap:=by rw [←ao,List.length_append,List.length_map];omega
  have hok4:=yG (g:=gn) (Nat.le_refl 4) hp
  have hfl:∀g∈gs,g.f.length≤maxLen:=fun g hg=>by
    have h5:g.f∈gs.map FV.f:=List.mem_map_of_mem hg
    rw [hgs] at h5
    obtain ⟨u,_,e⟩:=List.mem_map.1 h5
    exact aC e.symm
  have hall:jP (gs.map FV.f)=bT (w9 gn p):=by rw [hgs];exact rm hok4
  refine ab.exit rfl (gS (gR ?_))
  iterate 3 refine ah ?_
  refine gM rfl rfl rfl rfl rfl call30 (fun w _ hS=>(by exact zE (q.map (fun b=>⟨b,0,none⟩)) cap gs w (xN hS 3 rfl (fun e=>(hq e).1)) (fun g hg=>((hin g hg).mono (List.subset_append_right [_,_,_,_] H)).at hS) hfl (by unfold maxLen;omega) hcg)) ?_
  rintro v w1 w2 Y' hS he ho
  rw [hall] at ho
  obtain ⟨r1,cr1,spr1,rfl,hr1,hcr1,hS'⟩:=ak hS he ho
  refine ⟨_,hS',?_⟩
  refine gM rfl rfl rfl rfl rfl call118 (fun w _ hS=>(by exact uK ⟨(qa.map (fun b=>⟨b,0,none⟩)),cA,fa⟩ ⟨(r1.map (fun b=>⟨b,0,none⟩)),cr1,bT (w9 gn p)⟩ (rj gn p) (w9 gn p) w (aL hS 3 rfl (fun e=>(hqa e).1)) hBa'.eq hBa'.ok (aL hS 0 rfl (fun e=>(hr1 e).1)) rfl (vY hp))) ?_
  rintro v w1 w2 Y' hS he ho
  obtain ⟨r4,cr4,spr4,rfl,hr4,hcr4,hS'⟩:=ak hS he ho
  refine ⟨_,hS',?_⟩
  refine gP rfl rfl rfl rfl rfl call26 (fun w _ hS=>(by exact dM a ca f (r4.map (fun b=>⟨b,0,none⟩)) cr4 _ w (ha.ay hS.ext) (aL hS 0 rfl (fun e=>(hr4 e).1)) (aC hf.eq) (aC rfl))) ?_
  refine ai ?_;refine gE ?_
  refine gT func235 fun w' hS=>?_
  exact ⟨hS.ext,_,rfl,by rw [dn hf (tC hBa'.ok (vY hp)),decide_eq_true_eq];exact Em.iff hA⟩
end Go.Proofs.YtnfmegcknckahaaGreatDoor
namespace Go.Proofs.YtnfmegcknckahaaGreatDoor
open Go.RowKit Go.Proofs.Wit Tryz
set_option maxRecDepth 8000 in
theorem wO (a:Option Addr) (ca:Nat) (f:List NV) (t:Tr) (b:Option Addr) (cB:Nat) (g:List NV) (w:World) (ha:FA w a f) (hf:Cf f t) (hb:FA w b g) (hg0:aV g=0) (hgl:g.length≤maxLen):
    Cn Tryz.prog 157 [.slice a f.length ca,.slice b g.length cB] w (fun v _=>∃b,v=.bool b∧(b=true↔Cx (aO g) t)):=by
  refine Cn.of func157 rfl rfl ?_
  refine gS (gR ?_);refine ai ?_;refine gE (gS (gR ?_));refine ah ?_
  refine gM rfl rfl rfl rfl rfl JX (fun w _ hS=>(by exact fJ a ca f (some t) w (ha.ay hS.ext) hf)) ?_
  rintro v w1 w2 Y' hS he ⟨nd,qa,cA,fa,spa,qb,cb,fb,spb,rfl,hqa,hqb,hnew,hBa,hBb,hop,hi,hg⟩
  refine ⟨_,hS.eU he hnew,?_⟩
  refine ah ?_
  iterate 3 refine fW ?_
  refine ab.eN rfl rfl rfl (fun _=>Jq _) (fun b5=>?_)
  refine ab.dG rfl rfl rfl rfl Jd 0 rfl rfl rfl rfl ?_
  iterate 2 refine ai ?_
  refine gE (gS (gR ?_));refine ah ?_
  refine gM rfl rfl rfl rfl rfl JX (fun w _ hS=>(by exact fJ (qb.map (fun b=>⟨b,0,none⟩)) cb fb (vF (some t)) w (aL hS 2 rfl (fun e=>(hqb e).1)) hBb)) ?_
  rintro v w1 w2 Y' hS he ⟨nd2,qa2,cA2,fa2,spa2,qb2,cb2,fb2,spb2,rfl,hqa2,hqb2,hnew,hBa2,hBb2,hop2,hi2,hg2⟩
  refine ⟨_,hS.eU he hnew,?_⟩
  refine ah ?_
  iterate 3 refine fW ?_
  refine ab.eN rfl rfl rfl (fun _=>Jq _) (fun b8=>?_)
  refine ab.dG rfl rfl rfl rfl Jd 0 rfl rfl rfl rfl ?_
  iterate 2 refine ai ?_
  refine gE (gS ?_)
  refine ab.dK 26 mixed ?_
  refine cV 0 (ae.aH rfl rfl rfl rfl Jb rfl (by exact I9) 0 rfl) ?_
  refine cV 1 (ae.dw rfl rfl rfl rfl Ja 0 rfl rfl) ?_
  refine cV 2 (ae.bin rfl rfl rfl rfl bh rfl) ?_
  refine cV 3 (ae.mv rfl rfl rfl rfl) ?_
  refine aG.cases (d:=26) rfl (fun hc=>?_) (fun hc=>?_)
  ·
   have h13:kK (vF (some t))=13:=by rw [←hop2];simpa using hc
   obtain ⟨gr,p,q,hA,hgr,hp,hq⟩:=(hJ.of hf.ok).b.co h13
   obtain ⟨z,hz⟩:=yH hA
   have hzo:z.ok:=(hJ.of hf.ok).a z hz
   obtain rfl:nd2.g=gr:=by rw [hg2,hA];rfl
   rw [hA] at hBb hBa2 hBb2
   rw [hz] at hBa
   have hBz:Cf fa z:=hBa
   have hBc:Cf fb (nh nd2.g p q):=hBb
   have hBp:Cf fa2 p:=hBa2
   have hBq:Cf fb2 q:=hBb2
   have hco:(nh nd2.g p q).ok:=hBc.ok
   have hiff:=Cx.iff (u:=aO g) hz hA
   refine cV 4 (ae.mv rfl rfl rfl rfl) ?_
   refine cV 5 (ae.mv rfl rfl rfl rfl) ?_
   refine cV 6 (ae.mv rfl rfl rfl rfl) ?_
   refine aG.call (i:=7) _ rfl rfl rfl rfl rfl rfl (fun _ _=>JC _ _) (fun w _ hS=>(by exact jd ⟨(qa.map (fun b=>⟨b,0,none⟩)),cA,fa⟩ ⟨(qb.map (fun b=>⟨b,0,none⟩)),cb,fb⟩ z (nh nd2.g p q) w (aL hS 4 rfl (fun e=>(hqa e).1)) hBz.eq hzo (aL hS 5 rfl (fun e=>(hqb e).1)) hBc.eq hco)) ?_
   rintro v w1 w2 Y' hS he ho
   obtain ⟨r1,cr1,spr1,rfl,hr1,hcr1,hS'⟩:=ak hS he ho
   refine ⟨_,hS',sM,?_⟩
   refine aG.cC (i:=8) rfl rfl rfl rfl rfl rfl (fun _ _=>call26 _ _) (fun w _ hS=>(by exact dM a ca f (r1.map (fun b=>⟨b,0,none⟩)) cr1 _ w (ha.ay hS.ext) (aL hS 0 rfl (fun e=>(hr1 e).1)) (aC hf.eq) (aC rfl))) sL ?_
   refine cV 9 (ae.aT rfl rfl rfl rfl rfl) ?_
   refine cV 10 (ae.mv rfl rfl rfl rfl) ?_
   refine aG.cases (d:=33) rfl (fun hc=>?_) (fun hc=>?_)
   ·
    have ht1:t=aR z (nh nd2.g p q):=by rw [dn hf (dB hzo hco)] at hc;exact of_decide_eq_true hc
    refine cV 11 (ae.mv rfl rfl rfl rfl) ?_
    refine cV 12 (ae.mv rfl rfl rfl rfl) ?_
    refine cV 13 (ae.aH rfl rfl rfl rfl Jb rfl (by exact I9) 3 rfl) ?_
    refine cV 14 (ae.dw rfl rfl rfl rfl Ja 0 rfl rfl) ?_
    refine cV 15 (ae.mv rfl rfl rfl rfl) ?_
    refine cV 16 (ae.mv rfl rfl rfl rfl) ?_
    refine cV 17 (ae.mv rfl rfl rfl rfl) ?_
    refine aG.call (i:=18) _ rfl rfl rfl rfl rfl rfl (fun _ _=>call27 _ _) (fun w _ hS=>(by exact pQ ⟨(qb2.map (fun b=>⟨b,0,none⟩)),cb2,fb2⟩ ⟨(qa.map (fun b=>⟨b,0,none⟩)),cA,fa⟩ q z w (aL hS 3 rfl (fun e=>(hqb2 e).1)) hBq.eq hq (aL hS 5 rfl (fun e=>(hqa e).1)) hBz.eq hzo)) ?_
    rintro v w1 w2 Y' hS he ho
    obtain ⟨r2,cr2,spr2,rfl,hr2,hcr2,hS'⟩:=ak hS he ho
    refine ⟨_,hS',sM,?_⟩
    refine aG.call (i:=19) _ rfl rfl rfl rfl rfl rfl (fun _ _=>JC _ _) (fun w _ hS=>(by exact jd ⟨(qa2.map (fun b=>⟨b,0,none⟩)),cA2,fa2⟩ ⟨(r2.map (fun b=>⟨b,0,none⟩)),cr2,bT (ju q z)⟩ p (ju q z) w (aL hS 3 rfl (fun e=>(hqa2 e).1)) hBp.eq hp (aL hS 0 rfl (fun e=>(hr2 e).1)) rfl (fU hq hzo))) ?_
    rintro v w1 w2 Y' hS he ho
    obtain ⟨r3,cr3,spr3,rfl,hr3,hcr3,hS'⟩:=ak hS he ho
    refine ⟨_,hS',sM,?_⟩
    refine aG.call (i:=20) _ rfl rfl rfl rfl rfl rfl (fun _ _=>call180 _ _) (fun w _ hS=>(by exact tE nd2.g hgr ⟨(r3.map (fun b=>⟨b,0,none⟩)),cr3,bT (aR p (ju q z))⟩ (aR p (ju q z)) w (aL hS 0 rfl (fun e=>(hr3 e).1)) rfl (dB hp (fU hq hzo)))) ?_
    rintro v w1 w2 Y' hS he ho
    obtain ⟨r4,cr4,spr4,rfl,hr4,hcr4,hS'⟩:=ak hS he ho
    refine ⟨_,hS',sM,?_⟩
    refine aG.call (i:=21) _ rfl rfl rfl rfl rfl rfl (fun _ _=>JC _ _) (fun w _ hS=>(by exact jd ⟨(qa.map (fun b=>⟨b,0,none⟩)),cA,fa⟩ ⟨(r4.map (fun b=>⟨b,0,none⟩)),cr4,bT (rj nd2.g (aR p (ju q z)))⟩ z (rj nd2.g (aR p (ju q z))) w (aL hS 8 rfl (fun e=>(hqa e).1)) hBz.eq hzo (aL hS 0 rfl (fun e=>(hr4 e).1)) rfl (vK hgr (dB hp (fU hq hzo))))) ?_
    rintro v w1 w2 Y' hS he ho
    obtain ⟨r5,cr5,spr5,rfl,hr5,hcr5,hS'⟩:=ak hS he ho
    refine ⟨_,hS',sM,?_⟩
    refine aG.cC (i:=22) rfl rfl rfl rfl rfl rfl (fun _ _=>call26 _ _) (fun w _ hS=>(by exact dM b cB g (r5.map (fun b=>⟨b,0,none⟩)) cr5 _ w (hb.ay hS.ext) (aL hS 0 rfl (fun e=>(hr5 e).1)) hgl (aC rfl))) sL ?_
    refine cV 23 (ae.aT rfl rfl rfl rfl rfl) ?_
    refine cV 24 (ae.fh rfl rfl rfl rfl) ?_
    refine aG.done rfl ?_
    refine gE ?_
    refine gT func157 fun w' hS=>?_
    exact ⟨hS.ext,_,rfl,by rw [pv hg0 (dB hzo (vK hgr (dB hp (fU hq hzo)))),decide_eq_true_eq];exact ⟨fun h=>hiff.1 ⟨ht1,h⟩,fun h=>(hiff.2 h).2⟩⟩
   have hno:¬t=aR z (nh nd2.g p q):=by rw [dn hf (dB hzo hco)] at hc;exact of_decide_eq_false hc
   refine cN 11 ?_
   refine cN 12 ?_
   refine cN 13 ?_
   refine cN 14 ?_
   refine cN 15 ?_
   refine cN 16 ?_
   refine cN 17 ?_
   refine cN 18 ?_
   refine cN 19 ?_
   refine cN 20 ?_
   refine cN 21 ?_
   refine cN 22 ?_
   refine cV 23 (ae.de rfl rfl rfl rfl rfl) ?_
   refine cV 24 (ae.fh rfl rfl rfl rfl) ?_
   refine aG.done rfl ?_
   refine gE ?_
   refine gT func157 fun w' hS=>?_
   exact ⟨hS.ext,false,rfl,fun h=>(by cases h),fun h=>absurd (hiff.2 h).1 hno⟩
  have hno:¬kK (vF (some t))=13:=by rw [←hop2];simpa using hc
  refine cN 4 ?_
  refine cN 5 ?_
  refine cN 6 ?_
  refine cN 7 ?_
  refine cN 8 ?_
  refine cV 9 (ae.de rfl rfl rfl rfl rfl) ?_
  refine cV 10 (ae.mv rfl rfl rfl rfl) ?_
  refine cN 11 ?_
  refine cN 12 ?_
  refine cN 13 ?_
  refine cN 14 ?_
  refine cN 15 ?_
  refine cN 16 ?_
  refine cN 17 ?_
  refine cN 18 ?_
  refine cN 19 ?_
  refine cN 20 ?_
  refine cN 21 ?_
  refine cN 22 ?_
  refine cV 23 (ae.de rfl rfl rfl rfl rfl) ?_
  refine cV 24 (ae.fh rfl rfl rfl rfl) ?_
  refine aG.done rfl ?_
  refine gE ?_
  refine gT func157 fun w' hS=>?_
  exact ⟨hS.ext,false,rfl,fun h=>(by cases h),fun h=>absurd h.gd hno⟩
end Go.Proofs.YtnfmegcknckahaaGreatDoor
namespace Go.Proofs.YtnfmegcknckahaaGreatDoor
open Go.RowKit Go.Proofs.Wit Tryz
theorem yQ (n:NV) (op:Int) (w:World):Cn Tryz.prog 192 [n.v,qJ op] w (fun v _=>v=.int .i64 (xl op)):=by
 refine Cn.of func192 rfl rfl ?_
 refine gS (gR ?_)
 refine ab.bx rfl rfl rfl rfl (fun b2=>?_)
 refine ab.bx rfl rfl rfl rfl (fun b3=>?_)
 refine ai ?_;refine gE (gS (gR ?_));refine al Jf I9 6 ?_;refine aq Ja 0 ?_;refine ai ?_;refine gE ?_
 refine gT func192 fun w' hS=>?_
 exact ⟨hS.ext,rfl⟩
set_option maxRecDepth 4000 in
theorem yN (a:Option Addr) (ca:Nat) (f:List NV) (w:World) (ha:FA w a f) (hl:f.length≤maxLen):Cn Tryz.prog 191 [.slice a f.length ca,.func (.func 192) #[] #[]] w (fun v _=>v=.int .i64 (kM (aj f))):=by
  have hcl:=p3 f
  refine Cn.of func191 rfl rfl ?_
  refine gS (gR ?_);refine ai ?_;refine gE (gS (gR ?_));refine ai ?_;refine gE (gS (gS (gR ?_)));refine ah ?_
  refine gM rfl rfl rfl rfl rfl call55 (fun w _ hS=>dZ a ca f w (ha.ay hS.ext) hl) ?_
  rintro v w1 w2 Y' hS he ho
  rw [fN] at ho
  obtain ⟨q,cap,sp,rfl,hq,ao,hS'⟩:=ak hS he ho
  refine ⟨_,hS',?_⟩
  refine dY Ji ?_;refine ah ?_;refine gE (gB ?_)
  refine ab.loop (σ:=Nat) (fun k=>[(1,.func (.func 192) #[] #[]),(5,.int .i64 (kM ((aj f).take k))),(11,cK q (aj f).length cap),(12,.int .i64 (aj f).length),(13,.int .i64 k)]) (fun _=>[(q,eO 66 (aj f) sp)]) (fun k=>k≤(aj f).length) (fun k=>(aj f).length - k) 0 (Nat.zero_le _) ⟨rfl,rfl,rfl,rfl,rfl,trivial⟩ (List.Sublist.refl _) (fun k hk IH=>?_)
  refine gS (gR ?_);refine aw jl ?_;refine gE (gS ?_)
  refine gC (fun hc=>?_) fun hc=>?_
  ·
   have hm:k<(aj f).length:=by simpa using hc
   obtain ⟨b,rfl⟩:∃b,q=some b:=by
     cases q with
     |none=>have:=(hq rfl).1;omega
     |some b=>exact ⟨b,rfl⟩
   have h1:=rU ((aj f).take k)
   have h2:=rV (aj f)[k].op
   have h3:=yS (aj f)[k]
   have ht:kM ((aj f).take (k+1))=kM ((aj f).take k)|||zT (aj f)[k]:=by rw [List.take_succ_eq_append_getElem hm,rf]
   refine gK (gS (gB (gS (gR ?_))))
   refine ab.v (ae.dV rfl rfl rfl rfl rfl Ji Jd k ⟨rfl,hm⟩) ?_
   refine ab.v (ae.nR (cs:=NV.cells (aj f)[k]) rfl rfl rfl rfl Jt Jd (fun w _ hS=>Sl.many (enc:=NV.cells) (sz:=6) (a:=some ⟨b,0,none⟩) (Sl.dg (hS.get (j:=0) rfl)) (fun _=>rfl) hm)) ?_
   refine ab.eN rfl rfl rfl (fun _=>Jq _) (fun b7=>?_)
   refine ab.dG rfl rfl rfl rfl Jd 0 rfl rfl rfl rfl ?_
   refine gE (gS (gR ?_));refine al Jb I9 0 ?_;refine aq Ja 0 ?_
   refine gP rfl rfl rfl rfl rfl call105 (fun w _ hS=>(by exact gV (aj f)[k].op w)) ?_
   refine ah ?_
   iterate 2 refine fW ?_
   refine ab.eN rfl rfl rfl (fun _=>JZ _) (fun b8=>?_)
   refine ab.dG rfl rfl rfl rfl Jl 0 rfl rfl rfl rfl ?_
   refine ai ?_;refine gE (gR ?_)
   iterate 2 refine ah ?_
   refine ab.v (ae.iR rfl rfl rfl rfl Jt 1 rfl Jd rfl) ?_
   refine ab.v (ae.iR rfl rfl rfl rfl JK 0 rfl Jl rfl) ?_
   refine gP rfl rfl rfl rfl rfl call192 (fun w _ hS=>(by have:=yQ (aj f)[k] (aj f)[k].op w;rw [←h3] at this;exact this)) ?_
   refine df rfl rfl rfl rfl (G5 h1 (by omega) ht) ?_;refine ai ?_;refine gE (dQ (gR ?_));refine df rfl rfl rfl rfl (cD (by omega)) ?_;refine ah ?_;refine gE ?_
   exact IH (k+1) _ _ hm (by omega) ⟨rfl,rfl,rfl,rfl,rfl,trivial⟩ (.cons _ (.cons _ (List.Sublist.refl _)))
  have hge:¬k<(aj f).length:=by simpa using hc
  obtain rfl:k=(aj f).length:=by omega
  rw [List.take_length]
  refine ab.exit rfl (gS (gR ?_))
  refine ah ?_;refine ai ?_;refine gE ?_
  refine gT func191 fun w' hS=>?_
  exact ⟨hS.ext,rfl⟩
theorem Bl (a:Option Addr) (ca:Nat) (f:List NV) (w:World) (ha:FA w a f) (hl:f.length≤maxLen):Cn Tryz.prog 154 [.slice a f.length ca] w (fun v _=>v=.int .i64 (kM (aj f))):=by
 refine Cn.of func154 rfl rfl ?_
 refine gS (gR ?_);refine ai ?_;refine gE (gS (gR ?_));refine ah ?_
 refine gP rfl rfl rfl rfl rfl call191 (fun w _ hS=>(by exact yN a ca f w (ha.ay hS.ext) hl)) ?_
 refine ai ?_;refine gE ?_
 refine gT func154 fun w' hS=>?_
 exact ⟨hS.ext,rfl⟩
end Go.Proofs.YtnfmegcknckahaaGreatDoor
namespace Go.Proofs.YtnfmegcknckahaaGreatDoor
open Go.RowKit Go.Proofs.Wit Tryz
theorem mS (a:Option Addr) (ca:Nat) (xs:List Int) (w:World) (ha:jU w a xs) (hx:∀x∈xs,0≤x∧x<64) (hl:xs.length≤64):
    Cn Tryz.prog 156 [.slice a xs.length ca] w (fun v _=>v=U (lk xs)):=by
  refine Cn.of func156 rfl rfl ?_
  refine gS (gR ?_)
  refine ab.v (ae.fh (v:=U 0#64) rfl rfl rfl rfl) ?_
  refine gE (gS (gS (gR ?_)));refine ah ?_;refine dY Jg ?_;refine ah ?_;refine gE (gB ?_)
  refine ab.loop (σ:=Nat) (fun k=>[(2,U (lk (xs.take k))),(5,.slice a xs.length ca),(6,.int .i64 xs.length),(7,.int .i64 k)]) (fun _=>[]) (fun k=>k≤xs.length) (fun k=>xs.length - k) 0 (Nat.zero_le _) ⟨rfl,rfl,rfl,rfl,trivial⟩ .slnil (fun k hI IH=>?_)
  refine gS (gR ?_);refine aw jl ?_;refine gE (gS ?_)
  refine gC (fun hc=>?_) fun hc=>?_
  ·
   have hlt:k<xs.length:=by simpa using hc
   obtain ⟨h0,h64⟩:=hx xs[k] (List.getElem_mem hlt)
   refine gK (gS (gB (gS (gR ?_))))
   refine ab.v (ae.idx rfl rfl rfl rfl rfl Jg I9 ⟨_,ha⟩ (by simp) (k) ⟨rfl,by simpa using hlt⟩) ?_
   refine ab.v (ae.ld rfl rfl rfl rfl Ja (fun w _ hS=>(jU.ay ha hS.ext).at (k) hlt)) ?_
   refine ai ?_;refine gE (gR ?_)
   iterate 2 refine ah ?_
   refine ab.v (ae.bin (a:=U 1#64) rfl rfl rfl rfl (lS xs[k].toNat (by omega)) rfl) ?_
   refine aw ql ?_;refine ai ?_;refine gE (dQ (gR ?_));refine df rfl rfl rfl rfl (cD (by omega)) ?_;refine ah ?_;refine gE ?_
   exact IH (k+1) _ _ hlt (by omega) ⟨by rw [List.take_succ_eq_append_getElem hlt,wG];rfl,rfl,rfl,rfl,trivial⟩ .slnil
  have hge:¬k<xs.length:=by simpa using hc
  obtain rfl:k=xs.length:=by omega
  rw [List.take_length]
  refine ab.exit rfl (gS (gR ?_))
  refine ah ?_;refine ai ?_;refine gE ?_
  refine gT func156 fun w' hS=>?_
  exact ⟨hS.ext,rfl⟩
theorem DG (l r:Int) (w:World) (hl:0≤l∧l≤6):Cn Tryz.prog 109 [.int .i64 l,.int .i64 r] w (fun v _=>v=.bool (cg l r)):=by
  refine Cn.of func109 rfl rfl ?_
  refine gS (gR ?_);refine ai ?_;refine gE (gS (gR ?_))
  refine ab.v (ae.fh (v:=U 18446744073709551615#64) rfl rfl rfl rfl) ?_
  refine gE (gS ?_)
  refine ab.jL (α:=Unit) (fun _=>[(0,.int .i64 l),(5,U (if r=3 then lk [2,4,6] else if r=4 then lk [3,4,5,6] else if r=5 then lk [5,6] else if r=6 then lk [1,5] else BitVec.allOnes 64))]) (fun _=>[]) (fun _=>?_) (fun K=>?_)
  · -- what comes behind
   refine gS (gR ?_)
   iterate 2 refine ah ?_
   refine df rfl rfl rfl rfl (BM l.toNat (by omega)) ?_
   refine ab.v (ae.bin (b:=U 1#64) rfl rfl rfl rfl D4 rfl) ?_
   refine ab.v (ae.bin (b:=U 1#64) rfl rfl rfl rfl w8 rfl) ?_
   refine ai ?_;refine gE ?_
   refine gT func109 fun w' hS=>?_
   exact ⟨hS.ext,by rw [Fx hl];rfl⟩
  · -- the first part
   refine gS (gR ?_);refine ah ?_;refine gE (gB (gS (gR ?_)));refine aw bh ?_;refine ai ?_;refine gE ?_
   refine gC (fun hc=>?_) fun hc=>?_
   ·
    have hr3:r=3:=by simpa using hc
    refine gR ?_
    refine ab.eh (c:=[_,_,_]) rfl rfl rfl rfl Jg I9 Jv rfl rfl (fun b9=>?_)
    refine gP rfl rfl rfl rfl rfl call156 (fun w _ hS=>(by exact mS (some ⟨b9,0,none⟩) 3 [2,4,6] w (Sl.dg (hS.get (j:=0) rfl)) (by decide) (by decide))) ?_
    refine ai ?_;refine gE (dQ ?_)
    exact K () _ _ (by rw [if_pos hr3];repeat (first|exact bB.nil|refine bB.cons rfl ?_)) (fun _ _ hS=>hS.dH (List.nil_sublist _))
   have hr3:¬r=3:=by simpa using hc
   refine gS (gR ?_);refine aw bh ?_;refine ai ?_;refine gE ?_
   refine gC (fun hc=>?_) fun hc=>?_
   ·
    have hr4:r=4:=by simpa using hc
    refine gR ?_
    refine ab.eh (c:=[_,_,_,_]) rfl rfl rfl rfl Jg I9 Jv rfl rfl (fun b13=>?_)
    refine gP rfl rfl rfl rfl rfl call156 (fun w _ hS=>(by exact mS (some ⟨b13,0,none⟩) 4 [3,4,5,6] w (Sl.dg (hS.get (j:=0) rfl)) (by decide) (by decide))) ?_
    refine ai ?_;refine gE (dQ ?_)
    exact K () _ _ (by rw [if_neg (by omega),if_pos hr4];repeat (first|exact bB.nil|refine bB.cons rfl ?_)) (fun _ _ hS=>hS.dH (List.nil_sublist _))
   have hr4:¬r=4:=by simpa using hc
   refine gS (gR ?_);refine aw bh ?_;refine ai ?_;refine gE ?_
   refine gC (fun hc=>?_) fun hc=>?_
   ·
    have hr5:r=5:=by simpa using hc
    refine gR ?_
    refine ab.eh (c:=[_,_]) rfl rfl rfl rfl Jg I9 Jv rfl rfl (fun b17=>?_)
    refine gP rfl rfl rfl rfl rfl call156 (fun w _ hS=>(by exact mS (some ⟨b17,0,none⟩) 2 [5,6] w (Sl.dg (hS.get (j:=0) rfl)) (by decide) (by decide))) ?_
    refine ai ?_;refine gE (dQ ?_)
    exact K () _ _ (by rw [if_neg (by omega),if_neg (by omega),if_pos hr5];repeat (first|exact bB.nil|refine bB.cons rfl ?_)) (fun _ _ hS=>hS.dH (List.nil_sublist _))
   have hr5:¬r=5:=by simpa using hc
   refine gS (gR ?_);refine aw bh ?_;refine ai ?_;refine gE ?_
   refine gC (fun hc=>?_) fun hc=>?_
   ·
    have hr6:r=6:=by simpa using hc
    refine gR ?_
    refine ab.eh (c:=[_,_]) rfl rfl rfl rfl Jg I9 Jv rfl rfl (fun b21=>?_)
    refine gP rfl rfl rfl rfl rfl call156 (fun w _ hS=>(by exact mS (some ⟨b21,0,none⟩) 2 [1,5] w (Sl.dg (hS.get (j:=0) rfl)) (by decide) (by decide))) ?_
    refine ai ?_;refine gE (dQ ?_)
    exact K () _ _ (by rw [if_neg (by omega),if_neg (by omega),if_neg (by omega),if_pos hr6];repeat (first|exact bB.nil|refine bB.cons rfl ?_)) (fun _ _ hS=>hS.dH (List.nil_sublist _))
   have hr6:¬r=6:=by simpa using hc
   refine gK (dQ ?_)
   exact K () _ _ (by rw [if_neg hr3,if_neg hr4,if_neg hr5,if_neg hr6];repeat (first|exact bB.nil|refine bB.cons rfl ?_)) (fun _ _ hS=>hS)
theorem Al (l:Int) (w:World):Cn Tryz.prog 59 [.int .i64 l] w (fun v _=>v=.bool (decide (0≤l∧l≤6))):=by
  refine Cn.of func59 rfl rfl ?_
  refine gS (gR ?_);refine ai ?_;refine gE (gS (gR ?_));refine ah ?_;refine aw oN ?_;refine ah ?_
  refine eD 5 (fun hc=>?_) fun hc=>?_
  ·
   have h1:0≤l:=by simpa using hc
   refine ah ?_;refine aw G7 ?_;refine cz ?_;refine ai ?_;refine gE ?_
   refine gT func59 fun w' hS=>?_
   exact ⟨hS.ext,by simp [h1];rfl⟩
  have h1:¬0≤l:=by simp at hc;omega
  iterate 2 refine cy ?_
  refine bE ?_;refine ai ?_;refine gE ?_
  refine gT func59 fun w' hS=>?_
  exact ⟨hS.ext,by simp [h1];rfl⟩
theorem yT (a:Option Addr) (ca:Nat) (f:List NV) (w:World) (ha:FA w a f) (hl:f.length≤maxLen):Cn Tryz.prog 107 [.slice a f.length ca] w (fun v _=>v=.int .i64 (fE f)):=by
  refine Cn.of func107 rfl rfl ?_
  refine gS (gR ?_);refine ai ?_;refine gE (gS (gS (gR ?_)));refine ah ?_
  refine gP rfl rfl rfl rfl rfl call54 (fun w _ hS=>(by exact fR a ca f w (ha.ay hS.ext) hl)) ?_
  refine ai ?_;refine gE (gS (gR ?_));refine ah ?_;refine aw gO ?_;refine gE ?_
  refine gC (fun hc=>?_) fun hc=>?_
  ·
   have h1:aV f≠0:=by simpa using hc
   refine gS (gR ?_);refine ah ?_;refine ai ?_;refine gE ?_
   refine gT func107 fun w' hS=>?_
   exact ⟨hS.ext,by rw [fE,if_pos h1];rfl⟩
  have h1:aV f=0:=by simpa using hc
  refine gK (gS (gS (gR ?_)));refine ah ?_
  refine gP rfl rfl rfl rfl rfl call154 (fun w _ hS=>(by exact Bl a ca f w (ha.ay hS.ext) hl)) ?_
  refine df rfl rfl rfl rfl (zz (rU _) (by omega:(11:Nat)<512)) ?_
  refine aw gO ?_;refine gE ?_
  refine gC (fun hc=>?_) fun hc=>?_
  ·
   have h3:kh (kM (aj f)) 11≠0:=by
     have:((kh (kM (aj f)) 11:Nat):Int)≠0:=by simpa using hc
     omega
   refine gS (gR ?_);refine ai ?_;refine gE ?_
   refine gT func107 fun w' hS=>?_
   exact ⟨hS.ext,by rw [fE,if_neg (by simp [h1]),if_pos h3];rfl⟩
  have h3:kh (kM (aj f)) 11=0:=by
    have:((kh (kM (aj f)) 11:Nat):Int)=0:=by simpa using hc
    omega
  refine gK (gS (gR ?_));refine ai ?_;refine gE ?_
  refine gT func107 fun w' hS=>?_
  exact ⟨hS.ext,by rw [fE,if_neg (by simp [h1]),if_neg (by simp [h3])];rfl⟩
theorem uk (r:Int) (w:World):Cn Tryz.prog 155 [.int .i64 r] w (fun v _=>v=.int .i64 (ed r)):=by
  refine Cn.of func155 rfl rfl ?_
  refine gS (gR ?_);refine ai ?_;refine gE (gS (gS (gR ?_)));refine ah ?_;refine gE (gB (gS (gR ?_)));refine aw bh ?_;refine ai ?_;refine gE ?_
  refine gC (fun hc=>?_) fun hc=>?_
  ·
   have h1:r=10:=by simpa using hc
   refine gS (gR ?_);refine ai ?_;refine gE ?_
   refine gT func155 fun w' hS=>?_
   exact ⟨hS.ext,by rw [ed,if_pos h1];rfl⟩
  have h1:¬r=10:=by simpa using hc
  refine gS (gS (gR ?_));refine aw bh ?_;refine ai ?_;refine gE ?_
  refine gC (fun hc=>?_) fun hc=>?_
  ·
   have h2:r=11:=by simpa using hc
   refine gK ?_
   refine ab.cond rfl (fun _=>?_) (fun hc=>by exfalso;simp [h2] at hc)
   refine gS (gR ?_);refine ai ?_;refine gE ?_
   refine gT func155 fun w' hS=>?_
   exact ⟨hS.ext,by rw [ed,if_neg h1,if_pos (.inl h2)];rfl⟩
  have h2:¬r=11:=by simpa using hc
  refine gR ?_;refine aw bh ?_;refine ai ?_;refine gE ?_
  refine gC (fun hc=>?_) fun hc=>?_
  ·
   have h3:r=12:=by simpa using hc
   refine gS (gR ?_);refine ai ?_;refine gE ?_
   refine gT func155 fun w' hS=>?_
   exact ⟨hS.ext,by rw [ed,if_neg h1,if_pos (.inr h3)];rfl⟩
  have h3:¬r=12:=by simpa using hc
  refine gK (dQ (gS (gR ?_)));refine ai ?_;refine gE ?_
  refine gT func155 fun w' hS=>?_
  exact ⟨hS.ext,by rw [ed,if_neg h1,if_neg (by omega)];rfl⟩
end Go.Proofs.YtnfmegcknckahaaGreatDoor
