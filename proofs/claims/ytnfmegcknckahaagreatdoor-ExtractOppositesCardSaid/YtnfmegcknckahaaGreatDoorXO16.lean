/- What calls of the program return, under the conditions that each theorem states. -/
import Derived.Test.YtnfmegcknckahaaGreatDoorXO14
import Derived.Test.YtnfmegcknckahaaGreatDoorXO15
import Derived.Test.YtnfmegcknckahaaGreatDoorXO03
import Derived.Test.YtnfmegcknckahaaGreatDoorXO04
import Derived.Test.YtnfmegcknckahaaGreatDoorXO06
import Derived.Test.YtnfmegcknckahaaGreatDoorXO05
namespace Go.Proofs.YtnfmegcknckahaaGreatDoor
open Go.RowKit Go.Proofs.Wit Tryz
def Ga (w w':World) (v:Value) (o:Option Tr):Prop:=∃(nd:NV) (qa:Option Nat) (ca:Nat) (fa:List NV) (spa:List Value) (qb:Option Nat) (cb:Nat) (fb:List NV) (spb:List Value),
 v=.tuple #[nd.v,cK qa fa.length ca,cK qb fb.length cb]∧(qa=none→fa.length=0∧ca=0)∧(qb=none→fb.length=0∧cb=0)∧gm w w' [(qa,eO 66 fa spa),(qb,eO 66 fb spb)]∧
 Bf fa (gL o)∧Bf fb (vF o)∧nd.op=kK o∧nd.i=FB o∧nd.g=GR o
set_option maxRecDepth 8000 in
theorem fJ (a:Option Addr) (ca:Nat) (f:List NV) (o:Option Tr) (w:World) (ha:FA w a f) (hf:Bf f o):
    Cn Tryz.prog 193 [.slice a f.length ca] w (fun v w'=>Ga w w' v o):=by
  have hl:=hf.max
  have hfl:=hf.le
  refine Cn.of func193 rfl rfl ?_
  refine gS (gR ?_)
  refine ab.eN rfl rfl rfl (fun _=>Jq _) (fun b2=>?_)
  iterate 2 refine ai ?_
  refine gE (gS (gS (gR ?_)));refine ah ?_;refine dY Ji ?_;refine aw bh ?_;refine gE ?_
  refine gC (fun hc=>?_) fun hc=>?_
  ·
   obtain rfl:o=none:=by
     cases o with
     |none=>rfl
     |some t=>have:=Cf.pos (show Cf f t from hf);have:f.length=0:=by simpa using hc
              omega
   refine ab.fH Tryz.f193 func193 _ (aP.cell rfl Jt Jd (j:=0) rfl rfl (aP.tmp rfl (aP.tmp rfl aP.nil))) (fun w' hS=>?_)
   exact ⟨hS.ext,⟨0,0,0,0,0,0⟩,none,0,[],[],none,0,[],[],rfl,fun _=>⟨rfl,rfl⟩,fun _=>⟨rfl,rfl⟩,gm.H9,rfl,rfl,rfl,rfl,rfl⟩
  have hp:0<f.length:=by
    have:¬f.length=0:=by simpa using hc
    omega
  obtain ⟨t,rfl⟩:∃t,o=some t:=by
    cases o with
    |none=>rw [show f=[] from hf] at hp;exact absurd hp (by decide)
    |some t=>exact ⟨t,rfl⟩
  have hF:Cf f t:=hf
  have hlt:f.length - 1<f.length:=by omega
  refine gK (gS (gR ?_))
  iterate 2 refine ah ?_
  refine dY Ji ?_
  refine df rfl rfl rfl rfl (iH (c:=((f.length - 1:Nat):Int)) (by omega) (by omega)) ?_
  refine ab.v (ae.ez rfl rfl rfl rfl rfl Ji Jd ⟨_,(ha).at_⟩ (aD (enc:=NV.cells) (sz:=6) (fun _=>rfl)) (by decide) ((f.length - 1)) ⟨rfl,hlt⟩) ?_
  refine ab.v (ae.nR (cs:=NV.cells f[f.length - 1]) rfl rfl rfl rfl Jt Jd (fun w _ hS=>Sl.many (enc:=NV.cells) (sz:=6) (ha.ay hS.ext).at_ (fun _=>rfl) hlt)) ?_
  obtain ⟨hfo,hfi,hfg⟩:=hF.Bo hlt
  refine ab.dG rfl rfl rfl rfl Jd 0 rfl rfl rfl rfl ?_
  refine gE (gS ?_)
  refine ab.jL (α:={z:Option Nat×Nat×List NV×List Value // (z.1=none→z.2.2.1.length=0∧z.2.1=0)∧Bf z.2.2.1 (gL (some t))}) (fun z=>[(0,.slice a f.length ca),(2,.pointer (some ⟨b2,0,none⟩)),(3,cK z.1.1 z.1.2.2.1.length z.1.2.1),(4,.slice none 0 0)]) (fun z=>[(z.1.1,eO 66 z.1.2.2.1 z.1.2.2.2),(some b2,.cells (NV.cells f[f.length - 1]).toArray 66 (0,0))]) (fun z=>?_) (fun K=>?_)
  · -- what comes behind
   obtain ⟨⟨qa,capa,fa,spa⟩,hqa,hBa⟩:=z
   dsimp only at hqa hBa⊢
   refine gS ?_
   refine ab.jL (α:={z:Option Nat×Nat×List NV×List Value // (z.1=none→z.2.2.1.length=0∧z.2.1=0)∧Bf z.2.2.1 (vF (some t))}) (fun z=>[(0,.slice a f.length ca),(2,.pointer (some ⟨b2,0,none⟩)),(3,cK qa fa.length capa),(4,cK z.1.1 z.1.2.2.1.length z.1.2.1)]) (fun z=>[(z.1.1,eO 66 z.1.2.2.1 z.1.2.2.2),(qa,eO 66 fa spa),(some b2,.cells (NV.cells f[f.length - 1]).toArray 66 (0,0))]) (fun z=>?_) (fun K2=>?_)
   · -- what comes behind
    obtain ⟨⟨qb,capb,fb,spb⟩,hqb,hBb⟩:=z
    dsimp only at hqb hBb⊢
    refine gS (gR ?_)
    refine ab.v (ae.iR rfl rfl rfl rfl Jt 2 rfl Jd rfl) ?_
    iterate 2 refine ah ?_
    refine ab.dG rfl rfl rfl rfl Jd 2 rfl rfl rfl rfl ?_
    iterate 2 refine ai ?_
    refine gE ?_
    refine ab.fH Tryz.f193 func193 _ (aP.cell rfl Jt Jd (j:=2) rfl rfl (aP.tmp rfl (aP.tmp rfl aP.nil))) (fun w' hS=>?_)
    exact ⟨hS.ext,f[f.length - 1],qa,capa,fa,spa,qb,capb,fb,spb,rfl,hqa,hqb,((gm.of (hS.aT (pre:=[_,_]) (pre':=[(qa,eO 66 fa spa),(qb,eO 66 fb spb)]) (HR:=[_]) [1,0] (by decide) rfl)).sub (.cons_cons _ (.cons_cons _ (.cons _ .slnil)))),hBa,hBb,hfo,hfi,hfg⟩
   · -- the first part
    refine gS (gR ?_);refine al Jb I9 0 ?_;refine aq Ja 1 ?_;refine gE (gB (gS (gS (gR ?_))));refine aw bh ?_;refine ai ?_;refine gE ?_
    refine gC (fun hc=>?_) fun hc=>?_
    ·
     have e5:f[f.length - 1].op=5:=by simpa using hc
     refine gK ?_
     refine ab.cond rfl (fun _=>?_) (fun hc=>by exfalso;simp [e5] at hc)
     refine gR ?_;refine ah ?_;refine al Jb I9 5 ?_;refine aq Ja 1 ?_
     refine gM rfl rfl rfl rfl rfl call86 (fun w _ hS=>(by exact iF a ca f f[f.length - 1].y w (ha.ay hS.ext) hl)) ?_
     rintro v w1 w2 Y' hS he ho
     obtain ⟨qb,capb,spb,rfl,hqb,hcapb,hS'⟩:=ak hS he ho
     refine ⟨_,hS',?_⟩
     refine ai ?_;refine gE (dQ ?_)
     exact K2 ⟨(qb,capb,_,spb),hqb,hF.uE hlt (by rw [←hfo];omega)⟩ _ _ sF (fun _ _ hS=>hS)
    have e5:¬f[f.length - 1].op=5:=by simpa using hc
    refine gS (gR ?_);refine aw bh ?_;refine ai ?_;refine gE ?_
    refine gC (fun hc=>?_) fun hc=>?_
    ·
     have e6:f[f.length - 1].op=6:=by simpa using hc
     refine gK ?_
     refine ab.cond rfl (fun _=>?_) (fun hc=>by exfalso;simp [e6] at hc)
     refine gR ?_;refine ah ?_;refine al Jb I9 5 ?_;refine aq Ja 1 ?_
     refine gM rfl rfl rfl rfl rfl call86 (fun w _ hS=>(by exact iF a ca f f[f.length - 1].y w (ha.ay hS.ext) hl)) ?_
     rintro v w1 w2 Y' hS he ho
     obtain ⟨qb,capb,spb,rfl,hqb,hcapb,hS'⟩:=ak hS he ho
     refine ⟨_,hS',?_⟩
     refine ai ?_;refine gE (dQ ?_)
     exact K2 ⟨(qb,capb,_,spb),hqb,hF.uE hlt (by rw [←hfo];omega)⟩ _ _ sF (fun _ _ hS=>hS)
    have e6:¬f[f.length - 1].op=6:=by simpa using hc
    refine gS (gR ?_);refine aw bh ?_;refine ai ?_;refine gE ?_
    refine gC (fun hc=>?_) fun hc=>?_
    ·
     have e7:f[f.length - 1].op=7:=by simpa using hc
     refine gK ?_
     refine ab.cond rfl (fun _=>?_) (fun hc=>by exfalso;simp [e7] at hc)
     refine gR ?_;refine ah ?_;refine al Jb I9 5 ?_;refine aq Ja 1 ?_
     refine gM rfl rfl rfl rfl rfl call86 (fun w _ hS=>(by exact iF a ca f f[f.length - 1].y w (ha.ay hS.ext) hl)) ?_
     rintro v w1 w2 Y' hS he ho
     obtain ⟨qb,capb,spb,rfl,hqb,hcapb,hS'⟩:=ak hS he ho
     refine ⟨_,hS',?_⟩
     refine ai ?_;refine gE (dQ ?_)
     exact K2 ⟨(qb,capb,_,spb),hqb,hF.uE hlt (by rw [←hfo];omega)⟩ _ _ sF (fun _ _ hS=>hS)
    have e7:¬f[f.length - 1].op=7:=by simpa using hc
    refine gS (gR ?_);refine aw bh ?_;refine ai ?_;refine gE ?_
    refine gC (fun hc=>?_) fun hc=>?_
    ·
     have e8:f[f.length - 1].op=8:=by simpa using hc
     refine gK ?_
     refine ab.cond rfl (fun _=>?_) (fun hc=>by exfalso;simp [e8] at hc)
     refine gR ?_;refine ah ?_;refine al Jb I9 5 ?_;refine aq Ja 1 ?_
     refine gM rfl rfl rfl rfl rfl call86 (fun w _ hS=>(by exact iF a ca f f[f.length - 1].y w (ha.ay hS.ext) hl)) ?_
     rintro v w1 w2 Y' hS he ho
     obtain ⟨qb,capb,spb,rfl,hqb,hcapb,hS'⟩:=ak hS he ho
     refine ⟨_,hS',?_⟩
     refine ai ?_;refine gE (dQ ?_)
     exact K2 ⟨(qb,capb,_,spb),hqb,hF.uE hlt (by rw [←hfo];omega)⟩ _ _ sF (fun _ _ hS=>hS)
    have e8:¬f[f.length - 1].op=8:=by simpa using hc
    refine gR ?_;refine aw bh ?_;refine ai ?_;refine gE ?_
    refine gC (fun hc=>?_) fun hc=>?_
    ·
     have e13:f[f.length - 1].op=13:=by simpa using hc
     refine gR ?_;refine ah ?_;refine al Jb I9 5 ?_;refine aq Ja 1 ?_
     refine gM rfl rfl rfl rfl rfl call86 (fun w _ hS=>(by exact iF a ca f f[f.length - 1].y w (ha.ay hS.ext) hl)) ?_
     rintro v w1 w2 Y' hS he ho
     obtain ⟨qb,capb,spb,rfl,hqb,hcapb,hS'⟩:=ak hS he ho
     refine ⟨_,hS',?_⟩
     refine ai ?_;refine gE (dQ ?_)
     exact K2 ⟨(qb,capb,_,spb),hqb,hF.uE hlt (by rw [←hfo];omega)⟩ _ _ sF (fun _ _ hS=>hS)
    have e13:¬f[f.length - 1].op=13:=by simpa using hc
    refine gK (dQ ?_)
    exact K2 ⟨(none,0,[],[]),fun _=>⟨rfl,rfl⟩,by rw [yI (by rw [←hfo];omega)];rfl⟩ _ _ sF (fun _ _ hS=>hS.cQ)
  · -- the first part
   refine gS (gR ?_);refine al Jb I9 0 ?_;refine aq Ja 0 ?_;refine aw oN ?_;refine gE ?_
   refine gC (fun hc=>?_) fun hc=>?_
   ·
    have h4:4≤f[f.length - 1].op:=by simpa using hc
    refine gR ?_;refine ah ?_;refine al Jb I9 4 ?_;refine aq Ja 0 ?_
    refine gM rfl rfl rfl rfl rfl call86 (fun w _ hS=>(by exact iF a ca f f[f.length - 1].x w (ha.ay hS.ext) hl)) ?_
    rintro v w1 w2 Y' hS he ho
    obtain ⟨qa,capa,spa,rfl,hqa,hcapa,hS'⟩:=ak hS he ho
    refine ⟨_,hS',?_⟩
    refine ai ?_;refine gE ?_
    exact K ⟨(qa,capa,_,spa),hqa,hF.wM hlt (by rw [←hfo];exact h4)⟩ _ _ sF (fun _ _ hS=>hS)
   have h4:¬4≤f[f.length - 1].op:=by simpa using hc
   refine gK ?_
   exact K ⟨(none,0,[],[]),fun _=>⟨rfl,rfl⟩,by rw [yJ hF.ok (by rw [←hfo];exact h4)];rfl⟩ _ _ sF (fun _ _ hS=>hS.cQ)
end Go.Proofs.YtnfmegcknckahaaGreatDoor
namespace Go.Proofs.YtnfmegcknckahaaGreatDoor
open Go.RowKit Go.Proofs.Wit Tryz
theorem u5 {op:Int} (h:1≤op∧op≤21):cF op=decide (4≤op):=by
 rcases nG h with rfl|rfl|rfl|rfl|rfl|rfl|rfl|rfl|rfl|rfl|rfl|rfl|rfl|rfl|rfl|rfl|rfl|rfl|rfl|rfl|rfl<;>rfl
theorem tQ (op:Int) (w:World) (h:1≤op∧op≤21):Cn Tryz.prog 151 [.int .i64 op] w (fun v _=>v=.bool (cm op)):=by
  refine Cn.of func151 rfl rfl ?_
  refine gS (gR ?_);refine ai ?_;refine gE (gS (gS (gR ?_)));refine ah ?_;refine gE (gB (gS (gS (gR ?_))));refine aw bh ?_;refine ai ?_;refine gE ?_
  refine gC (fun hc=>?_) fun hc=>?_
  ·
   have h0:op=5:=by simpa using hc
   refine gK ?_
   refine gC (fun hc=>?_) fun hc=>?_
   ·
    refine gS (gR ?_);refine ai ?_;refine gE ?_
    refine gT func151 fun w' hS=>?_
    exact ⟨hS.ext,by rw [h0];rfl⟩
   exact absurd hc (by rw [h0];decide)
  have h0:¬op=5:=by simpa using hc
  refine gS (gR ?_);refine aw bh ?_;refine ai ?_;refine gE ?_
  refine gC (fun hc=>?_) fun hc=>?_
  ·
   have h1:op=6:=by simpa using hc
   refine gK ?_
   refine gC (fun hc=>?_) fun hc=>?_
   ·
    refine gS (gR ?_);refine ai ?_;refine gE ?_
    refine gT func151 fun w' hS=>?_
    exact ⟨hS.ext,by rw [h1];rfl⟩
   exact absurd hc (by rw [h1];decide)
  have h1:¬op=6:=by simpa using hc
  refine gS (gR ?_);refine aw bh ?_;refine ai ?_;refine gE ?_
  refine gC (fun hc=>?_) fun hc=>?_
  ·
   have h2:op=7:=by simpa using hc
   refine gK ?_
   refine gC (fun hc=>?_) fun hc=>?_
   ·
    refine gS (gR ?_);refine ai ?_;refine gE ?_
    refine gT func151 fun w' hS=>?_
    exact ⟨hS.ext,by rw [h2];rfl⟩
   exact absurd hc (by rw [h2];decide)
  have h2:¬op=7:=by simpa using hc
  refine gS (gR ?_);refine aw bh ?_;refine ai ?_;refine gE ?_
  refine gC (fun hc=>?_) fun hc=>?_
  ·
   have h3:op=8:=by simpa using hc
   refine gK ?_
   refine gC (fun hc=>?_) fun hc=>?_
   ·
    refine gS (gR ?_);refine ai ?_;refine gE ?_
    refine gT func151 fun w' hS=>?_
    exact ⟨hS.ext,by rw [h3];rfl⟩
   exact absurd hc (by rw [h3];decide)
  have h3:¬op=8:=by simpa using hc
  refine gS (gR ?_);refine aw bh ?_;refine ai ?_;refine gE ?_
  refine gC (fun hc=>?_) fun hc=>?_
  ·
   have h4:op=13:=by simpa using hc
   refine gK ?_
   refine gC (fun hc=>?_) fun hc=>?_
   ·
    refine gS (gR ?_);refine ai ?_;refine gE ?_
    refine gT func151 fun w' hS=>?_
    exact ⟨hS.ext,by rw [h4];rfl⟩
   exact absurd hc (by rw [h4];decide)
  have h4:¬op=13:=by simpa using hc
  refine gS (gR ?_);refine aw bh ?_;refine ai ?_;refine gE ?_
  refine gC (fun hc=>?_) fun hc=>?_
  ·
   have h5:op=14:=by simpa using hc
   refine gK ?_
   refine gC (fun hc=>?_) fun hc=>?_
   ·
    refine gS (gR ?_);refine ai ?_;refine gE ?_
    refine gT func151 fun w' hS=>?_
    exact ⟨hS.ext,by rw [h5];rfl⟩
   exact absurd hc (by rw [h5];decide)
  have h5:¬op=14:=by simpa using hc
  refine gS (gR ?_);refine aw bh ?_;refine ai ?_;refine gE ?_
  refine gC (fun hc=>?_) fun hc=>?_
  ·
   have h6:op=16:=by simpa using hc
   refine gK ?_
   refine gC (fun hc=>?_) fun hc=>?_
   ·
    refine gS (gR ?_);refine ai ?_;refine gE ?_
    refine gT func151 fun w' hS=>?_
    exact ⟨hS.ext,by rw [h6];rfl⟩
   exact absurd hc (by rw [h6];decide)
  have h6:¬op=16:=by simpa using hc
  refine gS (gR ?_);refine aw bh ?_;refine ai ?_;refine gE ?_
  refine gC (fun hc=>?_) fun hc=>?_
  ·
   have h7:op=19:=by simpa using hc
   refine gK ?_
   refine gC (fun hc=>?_) fun hc=>?_
   ·
    refine gS (gR ?_);refine ai ?_;refine gE ?_
    refine gT func151 fun w' hS=>?_
    exact ⟨hS.ext,by rw [h7];rfl⟩
   exact absurd hc (by rw [h7];decide)
  have h7:¬op=19:=by simpa using hc
  refine gR ?_;refine aw bh ?_;refine ai ?_;refine gE ?_
  refine gC (fun hc=>?_) fun hc=>?_
  ·
   have h8:op=21:=by simpa using hc
   refine gS (gR ?_);refine ai ?_;refine gE ?_
   refine gT func151 fun w' hS=>?_
   exact ⟨hS.ext,by rw [h8];rfl⟩
  have h8:¬op=21:=by simpa using hc
  refine gK (dQ (gS (gR ?_)));refine ai ?_;refine gE ?_
  refine gT func151 fun w' hS=>?_
  have hn:cm op=false:=by
    rcases nG h with rfl|rfl|rfl|rfl|rfl|rfl|rfl|rfl|rfl|rfl|rfl|rfl|rfl|rfl|rfl|rfl|rfl|rfl|rfl|rfl|rfl<;>first|rfl|omega
  exact ⟨hS.ext,by rw [hn];rfl⟩
set_option maxRecDepth 8000 in
theorem wq (op i e g x y:Int) (a b:FV) (ta tb:Tr) (w:World) (hop:1≤op∧op≤21) (hf:eX op i e g=0) (ha:Cu w (cF op) a ta) (hb:Cu w (cm op) b tb):Cn Tryz.prog 152 [NV.v ⟨op,i,e,g,x,y⟩,a.v,b.v] w (fun v w'=>aI 66 w w' v (bT (jT op i e g ta tb))):=by
  have hF:=gx hf
  refine Cn.of JM rfl rfl ?_
  refine gS (gR ?_)
  refine ab.bx rfl rfl rfl rfl (fun b3=>?_)
  refine ai ?_;refine gE (gS (gS (gR ?_)));refine al Jb I9 0 ?_;refine aq Ja 0 ?_;refine gE (gB (gS (gR ?_)));refine aw bh ?_;refine ai ?_;refine gE ?_
  refine gC (fun hc=>?_) fun hc=>?_
  ·
   obtain rfl:op=2:=by simpa using hc
   refine gS (gR ?_)
   refine gM rfl rfl rfl rfl rfl call150 (fun w _ hS=>(by exact vI w)) ?_
   rintro v w1 w2 Y' hS he ho
   rw [show aQ ⟨2,0,0,0,0,0⟩ []=bT (jT 2 i e g ta tb) from zt hop rfl hf (hF.i0 rfl).symm (hF.e0 (by decide)).symm (hF.g0 rfl).symm] at ho
   obtain ⟨q,cap,sp,rfl,hq,ao,hS'⟩:=ak hS he ho
   refine ⟨_,hS',?_⟩
   refine ai ?_;refine gE ?_
   refine gT JM fun w' hS=>?_
   exact ⟨hS.ext,aI.mk hS 0 rfl rfl hq ao⟩
  have h2:¬op=2:=by simpa using hc
  refine gS (gR ?_);refine aw bh ?_;refine ai ?_;refine gE ?_
  refine gC (fun hc=>?_) fun hc=>?_
  ·
   obtain rfl:op=3:=by simpa using hc
   refine gS (gR ?_);refine al Jb I9 1 ?_;refine aq Ja 0 ?_
   refine gM rfl rfl rfl rfl rfl call31 (fun w _ hS=>(by exact yY i w)) ?_
   rintro v w1 w2 Y' hS he ho
   rw [show aQ ⟨3,i,0,0,0,0⟩ []=bT (jT 3 i e g ta tb) from zt hop rfl hf rfl (hF.e0 (by decide)).symm (hF.g0 rfl).symm] at ho
   obtain ⟨q,cap,sp,rfl,hq,ao,hS'⟩:=ak hS he ho
   refine ⟨_,hS',?_⟩
   refine ai ?_;refine gE ?_
   refine gT JM fun w' hS=>?_
   exact ⟨hS.ext,aI.mk hS 0 rfl rfl hq ao⟩
  have h3:¬op=3:=by simpa using hc
  refine gS (gR ?_);refine aw bh ?_;refine ai ?_;refine gE ?_
  refine gC (fun hc=>?_) fun hc=>?_
  ·
   obtain rfl:op=4:=by simpa using hc
   refine gS (gR ?_);refine ah ?_
   refine gM rfl rfl rfl rfl rfl Jy (fun w _ hS=>(by exact sW a.a a.c a.f w ((ha rfl).1.ay hS.ext) (ha.len rfl))) ?_
   rintro v w1 w2 Y' hS he ho
   rw [show aQ ⟨4,0,0,0,0,0⟩ [a.f]=bT (jT 4 i e g ta tb) from nk hop rfl rfl hf (hF.i0 rfl).symm (hF.e0 (by decide)).symm (hF.g0 rfl).symm (ha rfl).2] at ho
   obtain ⟨q,cap,sp,rfl,hq,ao,hS'⟩:=ak hS he ho
   refine ⟨_,hS',?_⟩
   refine ai ?_;refine gE ?_
   refine gT JM fun w' hS=>?_
   exact ⟨hS.ext,aI.mk hS 0 rfl rfl hq ao⟩
  have h4:¬op=4:=by simpa using hc
  refine gS (gR ?_);refine aw bh ?_;refine ai ?_;refine gE ?_
  refine gC (fun hc=>?_) fun hc=>?_
  ·
   obtain rfl:op=5:=by simpa using hc
   refine gS (gR ?_)
   iterate 2 refine ah ?_
   refine gM rfl rfl rfl rfl rfl call27 (fun w _ hS=>(by exact nq a.a a.c a.f b.a b.c b.f w ((ha rfl).1.ay hS.ext) (ha.len rfl) ((hb rfl).1.ay hS.ext) (hb.len rfl))) ?_
   rintro v w1 w2 Y' hS he ho
   rw [show aQ ⟨5,0,0,0,0,0⟩ [a.f,b.f]=bT (jT 5 i e g ta tb) from nj hop rfl hf (hF.i0 rfl).symm (hF.e0 (by decide)).symm (hF.g0 rfl).symm (ha rfl).2 (hb rfl).2] at ho
   obtain ⟨q,cap,sp,rfl,hq,ao,hS'⟩:=ak hS he ho
   refine ⟨_,hS',?_⟩
   refine ai ?_;refine gE ?_
   refine gT JM fun w' hS=>?_
   exact ⟨hS.ext,aI.mk hS 0 rfl rfl hq ao⟩
  have h5:¬op=5:=by simpa using hc
  refine gS (gR ?_);refine aw bh ?_;refine ai ?_;refine gE ?_
  refine gC (fun hc=>?_) fun hc=>?_
  ·
   obtain rfl:op=6:=by simpa using hc
   refine gS (gR ?_)
   iterate 2 refine ah ?_
   refine gM rfl rfl rfl rfl rfl call28 (fun w _ hS=>(by exact uo a.a a.c a.f b.a b.c b.f w ((ha rfl).1.ay hS.ext) (ha.len rfl) ((hb rfl).1.ay hS.ext) (hb.len rfl))) ?_
   rintro v w1 w2 Y' hS he ho
   rw [show aQ ⟨6,0,0,0,0,0⟩ [a.f,b.f]=bT (jT 6 i e g ta tb) from nj hop rfl hf (hF.i0 rfl).symm (hF.e0 (by decide)).symm (hF.g0 rfl).symm (ha rfl).2 (hb rfl).2] at ho
   obtain ⟨q,cap,sp,rfl,hq,ao,hS'⟩:=ak hS he ho
   refine ⟨_,hS',?_⟩
   refine ai ?_;refine gE ?_
   refine gT JM fun w' hS=>?_
   exact ⟨hS.ext,aI.mk hS 0 rfl rfl hq ao⟩
  have h6:¬op=6:=by simpa using hc
  refine gS (gR ?_);refine aw bh ?_;refine ai ?_;refine gE ?_
  refine gC (fun hc=>?_) fun hc=>?_
  ·
   obtain rfl:op=7:=by simpa using hc
   refine gS (gR ?_)
   iterate 2 refine ah ?_
   refine gM rfl rfl rfl rfl rfl JC (fun w _ hS=>(by exact yL a.a a.c a.f b.a b.c b.f w ((ha rfl).1.ay hS.ext) (ha.len rfl) ((hb rfl).1.ay hS.ext) (hb.len rfl))) ?_
   rintro v w1 w2 Y' hS he ho
   rw [show aQ ⟨7,0,0,0,0,0⟩ [a.f,b.f]=bT (jT 7 i e g ta tb) from nj hop rfl hf (hF.i0 rfl).symm (hF.e0 (by decide)).symm (hF.g0 rfl).symm (ha rfl).2 (hb rfl).2] at ho
   obtain ⟨q,cap,sp,rfl,hq,ao,hS'⟩:=ak hS he ho
   refine ⟨_,hS',?_⟩
   refine ai ?_;refine gE ?_
   refine gT JM fun w' hS=>?_
   exact ⟨hS.ext,aI.mk hS 0 rfl rfl hq ao⟩
  have h7:¬op=7:=by simpa using hc
  refine gS (gR ?_);refine aw bh ?_;refine ai ?_;refine gE ?_
  refine gC (fun hc=>?_) fun hc=>?_
  ·
   obtain rfl:op=8:=by simpa using hc
   refine gS (gR ?_)
   iterate 2 refine ah ?_
   refine gM rfl rfl rfl rfl rfl call118 (fun w _ hS=>(by exact Cg a.a a.c a.f b.a b.c b.f w ((ha rfl).1.ay hS.ext) (ha.len rfl) ((hb rfl).1.ay hS.ext) (hb.len rfl))) ?_
   rintro v w1 w2 Y' hS he ho
   rw [show aQ ⟨8,0,0,0,0,0⟩ [a.f,b.f]=bT (jT 8 i e g ta tb) from nj hop rfl hf (hF.i0 rfl).symm (hF.e0 (by decide)).symm (hF.g0 rfl).symm (ha rfl).2 (hb rfl).2] at ho
   obtain ⟨q,cap,sp,rfl,hq,ao,hS'⟩:=ak hS he ho
   refine ⟨_,hS',?_⟩
   refine ai ?_;refine gE ?_
   refine gT JM fun w' hS=>?_
   exact ⟨hS.ext,aI.mk hS 0 rfl rfl hq ao⟩
  have h8:¬op=8:=by simpa using hc
  refine gS (gR ?_);refine aw bh ?_;refine ai ?_;refine gE ?_
  refine gC (fun hc=>?_) fun hc=>?_
  ·
   obtain rfl:op=9:=by simpa using hc
   refine gS (gR ?_);refine al Jb I9 1 ?_;refine aq Ja 0 ?_;refine ah ?_
   refine gM rfl rfl rfl rfl rfl JA (fun w _ hS=>(by exact rP i a.a a.c a.f w ((ha rfl).1.ay hS.ext) (ha.len rfl))) ?_
   rintro v w1 w2 Y' hS he ho
   rw [show aQ ⟨9,i,0,0,0,0⟩ [a.f]=bT (jT 9 i e g ta tb) from nk hop rfl rfl hf rfl (hF.e0 (by decide)).symm (hF.g0 rfl).symm (ha rfl).2] at ho
   obtain ⟨q,cap,sp,rfl,hq,ao,hS'⟩:=ak hS he ho
   refine ⟨_,hS',?_⟩
   refine ai ?_;refine gE ?_
   refine gT JM fun w' hS=>?_
   exact ⟨hS.ext,aI.mk hS 0 rfl rfl hq ao⟩
  have h9:¬op=9:=by simpa using hc
  refine gS (gR ?_);refine aw bh ?_;refine ai ?_;refine gE ?_
  refine gC (fun hc=>?_) fun hc=>?_
  ·
   obtain rfl:op=10:=by simpa using hc
   refine gS (gR ?_);refine al Jb I9 1 ?_;refine aq Ja 0 ?_;refine ah ?_
   refine gM rfl rfl rfl rfl rfl call35 (fun w _ hS=>(by exact um i a.a a.c a.f w ((ha rfl).1.ay hS.ext) (ha.len rfl))) ?_
   rintro v w1 w2 Y' hS he ho
   rw [show aQ ⟨10,i,0,0,0,0⟩ [a.f]=bT (jT 10 i e g ta tb) from nk hop rfl rfl hf rfl (hF.e0 (by decide)).symm (hF.g0 rfl).symm (ha rfl).2] at ho
   obtain ⟨q,cap,sp,rfl,hq,ao,hS'⟩:=ak hS he ho
   refine ⟨_,hS',?_⟩
   refine ai ?_;refine gE ?_
   refine gT JM fun w' hS=>?_
   exact ⟨hS.ext,aI.mk hS 0 rfl rfl hq ao⟩
  have h10:¬op=10:=by simpa using hc
  refine gS (gR ?_);refine aw bh ?_;refine ai ?_;refine gE ?_
  refine gC (fun hc=>?_) fun hc=>?_
  ·
   obtain rfl:op=11:=by simpa using hc
   refine gS (gR ?_);refine al Jb I9 3 ?_;refine aq Ja 0 ?_;refine ah ?_
   refine gM rfl rfl rfl rfl rfl call180 (fun w _ hS=>(by exact vJ g a.a a.c a.f w ((ha rfl).1.ay hS.ext) (ha.len rfl))) ?_
   rintro v w1 w2 Y' hS he ho
   rw [show aQ ⟨11,0,0,g,0,0⟩ [a.f]=bT (jT 11 i e g ta tb) from nk hop rfl rfl hf (hF.i0 rfl).symm (hF.e0 (by decide)).symm rfl (ha rfl).2] at ho
   obtain ⟨q,cap,sp,rfl,hq,ao,hS'⟩:=ak hS he ho
   refine ⟨_,hS',?_⟩
   refine ai ?_;refine gE ?_
   refine gT JM fun w' hS=>?_
   exact ⟨hS.ext,aI.mk hS 0 rfl rfl hq ao⟩
  have h11:¬op=11:=by simpa using hc
  refine gS (gR ?_);refine aw bh ?_;refine ai ?_;refine gE ?_
  refine gC (fun hc=>?_) fun hc=>?_
  ·
   obtain rfl:op=12:=by simpa using hc
   refine gS (gR ?_);refine al Jb I9 3 ?_;refine aq Ja 0 ?_;refine ah ?_
   refine gM rfl rfl rfl rfl rfl call181 (fun w _ hS=>(by exact Bt g a.a a.c a.f w ((ha rfl).1.ay hS.ext) (ha.len rfl))) ?_
   rintro v w1 w2 Y' hS he ho
   rw [show aQ ⟨12,0,0,g,0,0⟩ [a.f]=bT (jT 12 i e g ta tb) from nk hop rfl rfl hf (hF.i0 rfl).symm (hF.e0 (by decide)).symm rfl (ha rfl).2] at ho
   obtain ⟨q,cap,sp,rfl,hq,ao,hS'⟩:=ak hS he ho
   refine ⟨_,hS',?_⟩
   refine ai ?_;refine gE ?_
   refine gT JM fun w' hS=>?_
   exact ⟨hS.ext,aI.mk hS 0 rfl rfl hq ao⟩
  have h12:¬op=12:=by simpa using hc
  refine gS (gR ?_);refine aw bh ?_;refine ai ?_;refine gE ?_
  refine gC (fun hc=>?_) fun hc=>?_
  ·
   obtain rfl:op=13:=by simpa using hc
   refine gS (gR ?_);refine al Jb I9 3 ?_;refine aq Ja 0 ?_
   iterate 2 refine ah ?_
   refine gM rfl rfl rfl rfl rfl call182 (fun w _ hS=>(by exact wY g a.a a.c a.f b.a b.c b.f w ((ha rfl).1.ay hS.ext) (ha.len rfl) ((hb rfl).1.ay hS.ext) (hb.len rfl))) ?_
   rintro v w1 w2 Y' hS he ho
   rw [show aQ ⟨13,0,0,g,0,0⟩ [a.f,b.f]=bT (jT 13 i e g ta tb) from nj hop rfl hf (hF.i0 rfl).symm (hF.e0 (by decide)).symm rfl (ha rfl).2 (hb rfl).2] at ho
   obtain ⟨q,cap,sp,rfl,hq,ao,hS'⟩:=ak hS he ho
   refine ⟨_,hS',?_⟩
   refine ai ?_;refine gE ?_
   refine gT JM fun w' hS=>?_
   exact ⟨hS.ext,aI.mk hS 0 rfl rfl hq ao⟩
  have h13:¬op=13:=by simpa using hc
  refine gS (gR ?_);refine aw bh ?_;refine ai ?_;refine gE ?_
  refine gC (fun hc=>?_) fun hc=>?_
  ·
   obtain rfl:op=14:=by simpa using hc
   refine gS (gR ?_);refine al Jb I9 1 ?_;refine aq Ja 0 ?_
   iterate 2 refine ah ?_
   refine gM rfl rfl rfl rfl rfl call183 (fun w _ hS=>(by exact zu i a.a a.c a.f b.a b.c b.f w ((ha rfl).1.ay hS.ext) (ha.len rfl) ((hb rfl).1.ay hS.ext) (hb.len rfl))) ?_
   rintro v w1 w2 Y' hS he ho
   rw [show aQ ⟨14,i,0,0,0,0⟩ [a.f,b.f]=bT (jT 14 i e g ta tb) from nj hop rfl hf rfl (hF.e0 (by decide)).symm (hF.g0 rfl).symm (ha rfl).2 (hb rfl).2] at ho
   obtain ⟨q,cap,sp,rfl,hq,ao,hS'⟩:=ak hS he ho
   refine ⟨_,hS',?_⟩
   refine ai ?_;refine gE ?_
   refine gT JM fun w' hS=>?_
   exact ⟨hS.ext,aI.mk hS 0 rfl rfl hq ao⟩
  have h14:¬op=14:=by simpa using hc
  refine gS (gR ?_);refine aw bh ?_;refine ai ?_;refine gE ?_
  refine gC (fun hc=>?_) fun hc=>?_
  ·
   obtain rfl:op=15:=by simpa using hc
   refine gS (gR ?_);refine al Jb I9 1 ?_;refine aq Ja 0 ?_;refine ah ?_
   refine gM rfl rfl rfl rfl rfl call184 (fun w _ hS=>(by exact CR i a.a a.c a.f w ((ha rfl).1.ay hS.ext) (ha.len rfl))) ?_
   rintro v w1 w2 Y' hS he ho
   rw [show aQ ⟨15,i,0,0,0,0⟩ [a.f]=bT (jT 15 i e g ta tb) from nk hop rfl rfl hf rfl (hF.e0 (by decide)).symm (hF.g0 rfl).symm (ha rfl).2] at ho
   obtain ⟨q,cap,sp,rfl,hq,ao,hS'⟩:=ak hS he ho
   refine ⟨_,hS',?_⟩
   refine ai ?_;refine gE ?_
   refine gT JM fun w' hS=>?_
   exact ⟨hS.ext,aI.mk hS 0 rfl rfl hq ao⟩
  have h15:¬op=15:=by simpa using hc
  refine gS (gR ?_);refine aw bh ?_;refine ai ?_;refine gE ?_
  refine gC (fun hc=>?_) fun hc=>?_
  ·
   obtain rfl:op=16:=by simpa using hc
   refine gS (gR ?_)
   iterate 2 refine ah ?_
   refine gM rfl rfl rfl rfl rfl call185 (fun w _ hS=>(by exact u3 a.a a.c a.f b.a b.c b.f w ((ha rfl).1.ay hS.ext) (ha.len rfl) ((hb rfl).1.ay hS.ext) (hb.len rfl))) ?_
   rintro v w1 w2 Y' hS he ho
   rw [show aQ ⟨16,0,0,0,0,0⟩ [a.f,b.f]=bT (jT 16 i e g ta tb) from nj hop rfl hf (hF.i0 rfl).symm (hF.e0 (by decide)).symm (hF.g0 rfl).symm (ha rfl).2 (hb rfl).2] at ho
   obtain ⟨q,cap,sp,rfl,hq,ao,hS'⟩:=ak hS he ho
   refine ⟨_,hS',?_⟩
   refine ai ?_;refine gE ?_
   refine gT JM fun w' hS=>?_
   exact ⟨hS.ext,aI.mk hS 0 rfl rfl hq ao⟩
  have h16:¬op=16:=by simpa using hc
  refine gS (gR ?_);refine aw bh ?_;refine ai ?_;refine gE ?_
  refine gC (fun hc=>?_) fun hc=>?_
  ·
   obtain rfl:op=17:=by simpa using hc
   refine gS (gR ?_);refine al Jb I9 1 ?_;refine aq Ja 0 ?_;refine al Jb I9 2 ?_;refine aq Ja 0 ?_;refine ah ?_
   refine gM rfl rfl rfl rfl rfl call186 (fun w _ hS=>(by exact FX i e a.a a.c a.f w ((ha rfl).1.ay hS.ext) (ha.len rfl))) ?_
   rintro v w1 w2 Y' hS he ho
   rw [show aQ ⟨17,i,e,0,0,0⟩ [a.f]=bT (jT 17 i e g ta tb) from nk hop rfl rfl hf rfl rfl (hF.g0 rfl).symm (ha rfl).2] at ho
   obtain ⟨q,cap,sp,rfl,hq,ao,hS'⟩:=ak hS he ho
   refine ⟨_,hS',?_⟩
   refine ai ?_;refine gE ?_
   refine gT JM fun w' hS=>?_
   exact ⟨hS.ext,aI.mk hS 0 rfl rfl hq ao⟩
  have h17:¬op=17:=by simpa using hc
  refine gS (gR ?_);refine aw bh ?_;refine ai ?_;refine gE ?_
  refine gC (fun hc=>?_) fun hc=>?_
  ·
   obtain rfl:op=18:=by simpa using hc
   refine gS (gR ?_);refine ah ?_
   refine gM rfl rfl rfl rfl rfl call187 (fun w _ hS=>(by exact Db a.a a.c a.f w ((ha rfl).1.ay hS.ext) (ha.len rfl))) ?_
   rintro v w1 w2 Y' hS he ho
   rw [show aQ ⟨18,0,0,0,0,0⟩ [a.f]=bT (jT 18 i e g ta tb) from nk hop rfl rfl hf (hF.i0 rfl).symm (hF.e0 (by decide)).symm (hF.g0 rfl).symm (ha rfl).2] at ho
   obtain ⟨q,cap,sp,rfl,hq,ao,hS'⟩:=ak hS he ho
   refine ⟨_,hS',?_⟩
   refine ai ?_;refine gE ?_
   refine gT JM fun w' hS=>?_
   exact ⟨hS.ext,aI.mk hS 0 rfl rfl hq ao⟩
  have h18:¬op=18:=by simpa using hc
  refine gS (gR ?_);refine aw bh ?_;refine ai ?_;refine gE ?_
  refine gC (fun hc=>?_) fun hc=>?_
  ·
   obtain rfl:op=19:=by simpa using hc
   refine gS (gR ?_)
   iterate 2 refine ah ?_
   refine gM rfl rfl rfl rfl rfl call188 (fun w _ hS=>(by exact z9 a.a a.c a.f b.a b.c b.f w ((ha rfl).1.ay hS.ext) (ha.len rfl) ((hb rfl).1.ay hS.ext) (hb.len rfl))) ?_
   rintro v w1 w2 Y' hS he ho
   rw [show aQ ⟨19,0,0,0,0,0⟩ [a.f,b.f]=bT (jT 19 i e g ta tb) from nj hop rfl hf (hF.i0 rfl).symm (hF.e0 (by decide)).symm (hF.g0 rfl).symm (ha rfl).2 (hb rfl).2] at ho
   obtain ⟨q,cap,sp,rfl,hq,ao,hS'⟩:=ak hS he ho
   refine ⟨_,hS',?_⟩
   refine ai ?_;refine gE ?_
   refine gT JM fun w' hS=>?_
   exact ⟨hS.ext,aI.mk hS 0 rfl rfl hq ao⟩
  have h19:¬op=19:=by simpa using hc
  refine gS (gR ?_);refine aw bh ?_;refine ai ?_;refine gE ?_
  refine gC (fun hc=>?_) fun hc=>?_
  ·
   obtain rfl:op=20:=by simpa using hc
   refine gS (gR ?_);refine ah ?_
   refine gM rfl rfl rfl rfl rfl call189 (fun w _ hS=>(by exact CX a.a a.c a.f w ((ha rfl).1.ay hS.ext) (ha.len rfl))) ?_
   rintro v w1 w2 Y' hS he ho
   rw [show aQ ⟨20,0,0,0,0,0⟩ [a.f]=bT (jT 20 i e g ta tb) from nk hop rfl rfl hf (hF.i0 rfl).symm (hF.e0 (by decide)).symm (hF.g0 rfl).symm (ha rfl).2] at ho
   obtain ⟨q,cap,sp,rfl,hq,ao,hS'⟩:=ak hS he ho
   refine ⟨_,hS',?_⟩
   refine ai ?_;refine gE ?_
   refine gT JM fun w' hS=>?_
   exact ⟨hS.ext,aI.mk hS 0 rfl rfl hq ao⟩
  have h20:¬op=20:=by simpa using hc
  refine gS (gR ?_);refine aw bh ?_;refine ai ?_;refine gE ?_
  refine gC (fun hc=>?_) fun hc=>?_
  ·
   obtain rfl:op=21:=by simpa using hc
   refine gS (gR ?_)
   iterate 2 refine ah ?_
   refine gM rfl rfl rfl rfl rfl call190 (fun w _ hS=>(by exact Aw a.a a.c a.f b.a b.c b.f w ((ha rfl).1.ay hS.ext) (ha.len rfl) ((hb rfl).1.ay hS.ext) (hb.len rfl))) ?_
   rintro v w1 w2 Y' hS he ho
   rw [show aQ ⟨21,0,0,0,0,0⟩ [a.f,b.f]=bT (jT 21 i e g ta tb) from nj hop rfl hf (hF.i0 rfl).symm (hF.e0 (by decide)).symm (hF.g0 rfl).symm (ha rfl).2 (hb rfl).2] at ho
   obtain ⟨q,cap,sp,rfl,hq,ao,hS'⟩:=ak hS he ho
   refine ⟨_,hS',?_⟩
   refine ai ?_;refine gE ?_
   refine gT JM fun w' hS=>?_
   exact ⟨hS.ext,aI.mk hS 0 rfl rfl hq ao⟩
  have h21:¬op=21:=by simpa using hc
  obtain rfl:op=1:=by omega
  refine gK (dQ (gS (gR ?_)))
  refine gM rfl rfl rfl rfl rfl call65 (fun w _ hS=>(by exact ua w)) ?_
  rintro v w1 w2 Y' hS he ho
  rw [show aQ ⟨1,0,0,0,0,0⟩ []=bT (jT 1 i e g ta tb) from zt hop rfl hf (hF.i0 rfl).symm (hF.e0 (by decide)).symm (hF.g0 rfl).symm] at ho
  obtain ⟨q,cap,sp,rfl,hq,ao,hS'⟩:=ak hS he ho
  refine ⟨_,hS',?_⟩
  refine ai ?_;refine gE ?_
  refine gT JM fun w' hS=>?_
  exact ⟨hS.ext,aI.mk hS 0 rfl rfl hq ao⟩
theorem px (n:NV) (a b:FV) (ta tb:Tr) (w:World) (hop:1≤n.op∧n.op≤21) (hf:eX n.op n.i n.e n.g=0) (ha:Cu w (cF n.op) a ta) (hb:Cu w (cm n.op) b tb):Cn Tryz.prog 152 [n.v,a.v,b.v] w (fun v w'=>aI 66 w w' v (bT (jT n.op n.i n.e n.g ta tb))):=wq n.op n.i n.e n.g n.x n.y a b ta tb w hop hf ha hb
end Go.Proofs.YtnfmegcknckahaaGreatDoor
namespace Go.Proofs.YtnfmegcknckahaaGreatDoor
open Go.RowKit Go.Proofs.Wit Tryz
theorem G6 {a b:NV}:kD Tryz.prog .neq 66 a.v b.v (.bool (a !=b)):=by
 obtain ⟨fs,hu,hfs⟩:=vu
 exact BN hu hfs underlying3 Ja xI DJ
end Go.Proofs.YtnfmegcknckahaaGreatDoor
namespace Go.Proofs.YtnfmegcknckahaaGreatDoor
open Go.RowKit Go.Proofs.Wit Tryz
theorem Dh (a:Option Addr) (ca:Nat) (f:List NV) (w:World):Cn Tryz.prog 56 [.slice a f.length ca] w (fun v _=>v=.tuple #[if f=[] then .slice none 0 0 else .slice a f.length ca,.int .i64 (if f=[] then 8 else 0)]):=by
  refine Cn.of func56 rfl rfl ?_
  refine gS (gR ?_)
  iterate 2 refine ai ?_
  refine gE (gS (gS (gR ?_)));refine ah ?_;refine dY Ji ?_;refine aw bh ?_;refine gE ?_
  refine gC (fun hc=>?_) fun hc=>?_
  ·
   have h0:f=[]:=List.eq_nil_of_length_eq_zero (by simpa using hc)
   refine gS (gR ?_)
   iterate 2 refine ai ?_
   refine gE ?_
   refine gT func56 fun w' hS=>?_
   exact ⟨hS.ext,by rw [if_pos h0,if_pos h0];rfl⟩
  have h0:f≠[]:=fun e=>by rw [e] at hc;simp at hc
  refine gK (gS (gR ?_));refine ah ?_
  iterate 2 refine ai ?_
  refine gE ?_
  refine gT func56 fun w' hS=>?_
  exact ⟨hS.ext,by rw [if_neg h0,if_neg h0];rfl⟩
theorem sO (a:Option Addr) (ca:Nat) (f:List NV) (b:Option Addr) (cb:Nat) (g:List NV) (w:World) (ha:FA w a f) (hb:FA w b g) (hl:f.length≤maxLen):
    Cn Tryz.prog 61 [.slice a f.length ca,.slice b g.length cb] w (fun v _=>v=.bool (decide (f=g))):=by
  unfold maxLen at hl
  refine Cn.of func61 rfl rfl ?_
  refine gS (gR ?_);refine ai ?_;refine gE (gS (gS (gR ?_)));refine ah ?_;refine dY Ji ?_;refine ah ?_;refine dY Ji ?_;refine aw gO ?_;refine gE ?_
  refine gC (fun hc=>?_) fun hc=>?_
  ·
   have h1:f.length≠g.length:=by simp at hc;omega
   refine gS (gR ?_);refine ai ?_;refine gE ?_
   refine gT func61 fun w' hS=>?_
   exact ⟨hS.ext,by rw [decide_eq_false (fun e=>h1 (by rw [e]))];rfl⟩
  have h1:f.length=g.length:=by simp at hc;omega
  refine gK (gS (gS (gR ?_)));refine ah ?_;refine dY Ji ?_;refine ah ?_;refine gE (gB ?_)
  refine ab.loop (σ:=Nat) (fun k=>[(0,.slice a f.length ca),(1,.slice b g.length cb),(12,.int .i64 f.length),(13,.int .i64 k)]) (fun _=>[]) (fun k=>k≤f.length∧f.take k=g.take k) (fun k=>f.length - k) 0 ⟨Nat.zero_le _,rfl⟩ ⟨rfl,rfl,rfl,rfl,trivial⟩ .slnil (fun k hI IH=>?_)
  obtain ⟨hk,hz⟩:=hI
  refine gS (gR ?_);refine aw jl ?_;refine gE (gS ?_)
  refine gC (fun hc=>?_) fun hc=>?_
  ·
   have hlt:k<f.length:=by simpa using hc
   have hlt2:k<g.length:=by omega
   refine gK (gS (gB (gS (gR ?_))));refine ah ?_;refine ai ?_;refine gE (gS ?_)
   refine ab.draw 9 mixed rfl ?_
   iterate 2 refine mH ?_
   refine aM.v (ae.ez rfl rfl rfl rfl rfl Ji Jd ⟨_,(ha).at_⟩ (aD (enc:=NV.cells) (sz:=6) (fun _=>rfl)) (by decide) (k) ⟨rfl,hlt⟩) ?_
   refine aM.v (ae.nR (cs:=NV.cells f[k]) rfl rfl rfl rfl Jt Jd (fun w _ hS=>Sl.many (enc:=NV.cells) (sz:=6) (ha.ay hS.ext).at_ (fun _=>rfl) hlt)) ?_
   iterate 2 refine mH ?_
   refine aM.v (ae.ez rfl rfl rfl rfl rfl Ji Jd ⟨_,(hb).at_⟩ (aD (enc:=NV.cells) (sz:=6) (fun _=>rfl)) (by decide) (k) ⟨rfl,hlt2⟩) ?_
   refine aM.v (ae.nR (cs:=NV.cells g[k]) rfl rfl rfl rfl Jt Jd (fun w _ hS=>Sl.many (enc:=NV.cells) (sz:=6) (hb.ay hS.ext).at_ (fun _=>rfl) hlt2)) ?_
   refine aM.v (ae.bin rfl rfl rfl rfl (G6 (a:=f[k]) (b:=g[k])) rfl) ?_
   refine aM.nil ?_
   refine gE ?_
   refine gC (fun hc=>?_) fun hc=>?_
   ·
    have h3:f[k]≠g[k]:=by simpa using hc
    refine gS (gR ?_);refine ai ?_;refine gE ?_
    refine gT func61 fun w' hS=>?_
    exact ⟨hS.ext,by rw [decide_eq_false (fun e=>h3 (by subst e;rfl))];rfl⟩
   have h3:f[k]=g[k]:=by simpa using hc
   refine gK (dQ (gR ?_));refine df rfl rfl rfl rfl (cD (by omega)) ?_;refine ah ?_;refine gE ?_
   exact IH (k+1) _ _ ⟨hlt,by rw [List.take_succ_eq_append_getElem hlt,List.take_succ_eq_append_getElem hlt2,hz,h3]⟩ (by omega) ⟨rfl,rfl,rfl,rfl,trivial⟩ .slnil
  have hge:¬k<f.length:=by simpa using hc
  obtain rfl:k=f.length:=by omega
  have he:f=g:=by rw [List.take_length,h1,List.take_length] at hz;exact hz
  refine ab.exit rfl (gS (gR ?_))
  refine ai ?_;refine gE ?_
  refine gT func61 fun w' hS=>?_
  exact ⟨hS.ext,by rw [decide_eq_true he];rfl⟩
end Go.Proofs.YtnfmegcknckahaaGreatDoor
