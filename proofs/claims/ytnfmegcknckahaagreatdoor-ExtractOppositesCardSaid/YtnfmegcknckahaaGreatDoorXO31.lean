/- What calls of the program return, under the conditions that each theorem states. -/
import Derived.Test.YtnfmegcknckahaaGreatDoorXO24
import Derived.Test.YtnfmegcknckahaaGreatDoorXO28
import Derived.Test.YtnfmegcknckahaaGreatDoorXO30
import Derived.Test.YtnfmegcknckahaaGreatDoorXO03
import Derived.Test.YtnfmegcknckahaaGreatDoorXO04
import Derived.Test.YtnfmegcknckahaaGreatDoorXO02
import Derived.Test.YtnfmegcknckahaaGreatDoorXO18
namespace Go.Proofs.YtnfmegcknckahaaGreatDoor
open Go.RowKit Go.Proofs.Wit Tryz
theorem xO (l:Int) (w:World):Cn Tryz.prog 96 [.int .i64 l] w (fun v _=>v=.bool (decide (0≤l∧l≤6))):=by
  refine Cn.of func96 rfl rfl ?_
  refine gS (gR ?_);refine ai ?_;refine gE (gS (gR ?_));refine ah ?_;refine aw oN ?_;refine ah ?_
  refine eD 5 (fun hc=>?_) fun hc=>?_
  ·
   have h1:0≤l:=by simpa using hc
   refine ah ?_;refine aw G7 ?_;refine cz ?_;refine ai ?_;refine gE ?_
   refine gT func96 fun w' hS=>?_
   exact ⟨hS.ext,by simp [jX,h1]⟩
  have h1:¬0≤l:=by simpa using hc
  iterate 2 refine cy ?_
  refine bE ?_;refine ai ?_;refine gE ?_
  refine gT func96 fun w' hS=>?_
  exact ⟨hS.ext,by simp [jX,h1]⟩
theorem qN (s:ax) (i:Int) (w:World):Cn Tryz.prog 63 [U s,.int .i64 i] w (fun v _=>v=.bool (eT s i)):=by
  refine Cn.of func63 rfl rfl ?_
  refine gS (gR ?_);refine ai ?_;refine gE (gS (gR ?_));refine ah ?_;refine aw oN ?_;refine ah ?_
  refine eD 7 (fun hc=>?_) fun hc=>?_
  ·
   have h1:0≤i:=by simpa using hc
   refine ah ?_;refine aw jl ?_;refine cz ?_;refine ah ?_
   refine eD 11 (fun hc=>?_) fun hc=>?_
   ·
    have h2:i<64:=by simpa using hc
    iterate 2 refine ah ?_
    refine df rfl rfl rfl rfl (BM i.toNat (by omega)) ?_
    refine ab.v (ae.bin (b:=U 1#64) rfl rfl rfl rfl D4 rfl) ?_
    refine ab.v (ae.bin (b:=U 1#64) rfl rfl rfl rfl w8 rfl) ?_
    refine cz ?_;refine ai ?_;refine gE ?_
    refine gT func63 fun w' hS=>?_
    exact ⟨hS.ext,by rw [rR];simp [jX,eT,h1,h2]⟩
   have h2:¬i<64:=by simpa using hc
   iterate 5 refine cy ?_
   refine bE ?_;refine ai ?_;refine gE ?_
   refine gT func63 fun w' hS=>?_
   exact ⟨hS.ext,by simp [jX,eT,h2]⟩
  have h1:¬0≤i:=by simpa using hc
  iterate 2 refine cy ?_
  refine bE ?_;refine ah ?_
  iterate 5 refine cy ?_
  refine bE ?_;refine ai ?_;refine gE ?_
  refine gT func63 fun w' hS=>?_
  exact ⟨hS.ext,by simp [jX,eT,h1]⟩
theorem wj (a:Option Addr) (ca:Nat) (b:List NV) (s:ax) (w:World) (h0:0<b.length) (h64:b.length≤64):Cn Tryz.prog 142 [.slice a b.length ca,U s] w (fun v _=>v=.bool (Dw b s)):=by
 refine Cn.of func142 rfl rfl ?_
 refine gS (gR ?_);refine ai ?_;refine gE (gS (gR ?_))
 iterate 2 refine ah ?_
 refine dY Ji ?_
 refine df rfl rfl rfl rfl (iH (c:=((64 - b.length:Nat):Int)) (by omega) (by omega)) ?_
 refine ab.v (ae.bin (a:=U 18446744073709551615#64) rfl rfl rfl rfl (BM (64 - b.length) rfl) rfl) ?_
 refine aw ik ?_
 refine ab.v (ae.bin (b:=U 0#64) rfl rfl rfl rfl w8 rfl) ?_
 refine ai ?_;refine gE ?_
 refine gT func142 fun w' hS=>?_
 exact ⟨hS.ext,rfl⟩
set_option maxRecDepth 4000 in
theorem wi (a:Option Addr) (ca:Nat) (b:List NV) (n:NV) (w:World) (ha:FA w a b) (hn:n.op=4→0≤n.x∧n.x<b.length):Cn Tryz.prog 141 [.slice a b.length ca,n.v] w (fun v _=>v=.bool (decide (ew b n))):=by
  refine Cn.of func141 rfl rfl ?_
  refine gS (gR ?_)
  refine ab.bx rfl rfl rfl rfl (fun b3=>?_)
  refine ai ?_;refine gE (gS (gS (gR ?_)));refine al Jb I9 0 ?_;refine aq Ja 0 ?_;refine gE (gB (gS (gS (gR ?_))));refine aw bh ?_;refine ai ?_;refine gE ?_
  refine gC (fun hc=>?_) fun hc=>?_
  ·
   have h1:n.op=1:=by simpa using hc
   refine gK ?_
   refine gC (fun hc=>?_) fun hc=>?_
   ·
    skip
    refine gS (gR ?_);refine ai ?_;refine gE ?_
    refine gT func141 fun w' hS=>?_
    exact ⟨hS.ext,by rw [decide_eq_true (show ew b n from .inl (by omega))];rfl⟩
   have e1:¬n.op=1:=by simpa using hc
   exact absurd h1 e1
  have h1:¬n.op=1:=by simpa using hc
  refine gS (gR ?_);refine aw bh ?_;refine ai ?_;refine gE ?_
  refine gC (fun hc=>?_) fun hc=>?_
  ·
   have h2:n.op=2:=by simpa using hc
   refine gK ?_
   refine gC (fun hc=>?_) fun hc=>?_
   ·
    skip
    refine gS (gR ?_);refine ai ?_;refine gE ?_
    refine gT func141 fun w' hS=>?_
    exact ⟨hS.ext,by rw [decide_eq_true (show ew b n from .inl (by omega))];rfl⟩
   have e1:¬n.op=2:=by simpa using hc
   exact absurd h2 e1
  have h2:¬n.op=2:=by simpa using hc
  refine gS (gR ?_);refine aw bh ?_;refine ai ?_;refine gE ?_
  refine gC (fun hc=>?_) fun hc=>?_
  ·
   have h3:n.op=3:=by simpa using hc
   refine gK ?_
   refine gC (fun hc=>?_) fun hc=>?_
   ·
    skip
    refine gS (gR ?_);refine ai ?_;refine gE ?_
    refine gT func141 fun w' hS=>?_
    exact ⟨hS.ext,by rw [decide_eq_true (show ew b n from .inl (by omega))];rfl⟩
   have e1:¬n.op=3:=by simpa using hc
   exact absurd h3 e1
  have h3:¬n.op=3:=by simpa using hc
  refine gS (gR ?_);refine aw bh ?_;refine ai ?_;refine gE ?_
  refine gC (fun hc=>?_) fun hc=>?_
  ·
   have h5:n.op=5:=by simpa using hc
   refine gK ?_
   refine gC (fun hc=>?_) fun hc=>?_
   ·
    skip
    refine gS (gR ?_);refine ai ?_;refine gE ?_
    refine gT func141 fun w' hS=>?_
    exact ⟨hS.ext,by rw [decide_eq_true (show ew b n from .inl (by omega))];rfl⟩
   have e1:¬n.op=5:=by simpa using hc
   exact absurd h5 e1
  have h5:¬n.op=5:=by simpa using hc
  refine gS (gR ?_);refine aw bh ?_;refine ai ?_;refine gE ?_
  refine gC (fun hc=>?_) fun hc=>?_
  ·
   have h6:n.op=6:=by simpa using hc
   refine gK ?_
   refine gC (fun hc=>?_) fun hc=>?_
   ·
    skip
    refine gS (gR ?_);refine ai ?_;refine gE ?_
    refine gT func141 fun w' hS=>?_
    exact ⟨hS.ext,by rw [decide_eq_true (show ew b n from .inl (by omega))];rfl⟩
   have e1:¬n.op=6:=by simpa using hc
   exact absurd h6 e1
  have h6:¬n.op=6:=by simpa using hc
  refine gS (gR ?_);refine aw bh ?_;refine ai ?_;refine gE ?_
  refine gC (fun hc=>?_) fun hc=>?_
  ·
   have h9:n.op=9:=by simpa using hc
   refine gK ?_
   refine gC (fun hc=>?_) fun hc=>?_
   ·
    skip
    refine gS (gR ?_);refine ai ?_;refine gE ?_
    refine gT func141 fun w' hS=>?_
    exact ⟨hS.ext,by rw [decide_eq_true (show ew b n from .inl (by omega))];rfl⟩
   have e1:¬n.op=9:=by simpa using hc
   exact absurd h9 e1
  have h9:¬n.op=9:=by simpa using hc
  refine gR ?_;refine aw bh ?_;refine ai ?_;refine gE ?_
  refine gC (fun hc=>?_) fun hc=>?_
  ·
   have h10:n.op=10:=by simpa using hc
   refine gS (gR ?_);refine ai ?_;refine gE ?_
   refine gT func141 fun w' hS=>?_
   exact ⟨hS.ext,by rw [decide_eq_true (show ew b n from .inl (by omega))];rfl⟩
  have h10:¬n.op=10:=by simpa using hc
  refine gS (gR ?_);refine aw bh ?_;refine ai ?_;refine gE ?_
  refine gC (fun hc=>?_) fun hc=>?_
  ·
   have h4:n.op=4:=by simpa using hc
   obtain ⟨x0,x1⟩:=hn h4
   obtain ⟨k,hk⟩:∃k:Nat,n.x=(k:Int):=⟨n.x.toNat,by omega⟩
   have hkl:k<b.length:=by omega
   have hnd:nd b n.x=b[k]:=by rw [hk,dI hkl]
   refine gS (gR ?_);refine ah ?_;refine al Jb I9 4 ?_;refine aq Ja 0 ?_
   refine ab.v (ae.ez rfl rfl rfl rfl rfl Ji Jd ⟨_,(ha).at_⟩ (aD (enc:=NV.cells) (sz:=6) (fun _=>rfl)) (by decide) (k) ⟨hk,hkl⟩) ?_
   refine ab.v (ae.fQ rfl rfl rfl rfl Jb rfl I9 ((k)*6+0) rfl) ?_
   refine ab.v (ae.ld rfl rfl rfl rfl Ja (fun w _ hS=>Sl.kO (enc:=NV.cells) (sz:=6) ((ha).ay hS.ext).at_ (fun _=>rfl) hkl rfl)) ?_
   refine aw bh ?_;refine ai ?_;refine gE ?_
   refine gT func141 fun w' hS=>?_
   exact ⟨hS.ext,by rw [jX];congr 1;rw [Bool.eq_iff_iff,beq_iff_eq,decide_eq_true_eq,ew,hnd];omega⟩
  have h4:¬n.op=4:=by simpa using hc
  refine gK (dQ (gS (gR ?_)));refine ai ?_;refine gE ?_
  refine gT func141 fun w' hS=>?_
  exact ⟨hS.ext,by rw [decide_eq_false (show ¬ew b n from by unfold ew;omega)];rfl⟩
set_option maxRecDepth 4000 in
theorem Ax (a:Option Addr) (ca:Nat) (b:List NV) (w:World) (ha:FA w a b) (hl:b.length≤maxLen):Cn Tryz.prog 97 [.slice a b.length ca] w (fun v _=>v=.int .i64 (kf b)):=by
  refine Cn.of func97 rfl rfl ?_
  refine gS (gR ?_);refine ai ?_;refine gE (gS (gS (gR ?_)));refine ah ?_
  refine gP rfl rfl rfl rfl rfl call54 (fun w _ hS=>(by exact fR a ca b w (ha.ay hS.ext) hl)) ?_
  refine ai ?_;refine gE (gS (gR ?_));refine ah ?_;refine aw gO ?_;refine gE ?_
  refine gC (fun hc=>?_) fun hc=>?_
  ·
   have h1:aV b≠0:=by simpa using hc
   refine gS (gR ?_);refine ah ?_;refine ai ?_;refine gE ?_
   refine gT func97 fun w' hS=>?_
   exact ⟨hS.ext,by rw [kf,if_pos h1];rfl⟩
  have h1:aV b=0:=by simpa using hc
  refine gK (gS (gS (gR ?_)));refine ah ?_;refine dY Ji ?_;refine aw w6 ?_;refine gE ?_
  refine gC (fun hc=>?_) fun hc=>?_
  ·
   have h2:64<b.length:=by simp at hc;omega
   refine gS (gR ?_);refine ai ?_;refine gE ?_
   refine gT func97 fun w' hS=>?_
   exact ⟨hS.ext,by rw [kf,if_neg (by simp [h1]),if_pos h2];rfl⟩
  have h2:¬64<b.length:=by simp at hc;omega
  have hO:=(aA.1 h1).nodes
  refine gK (gS (gS (gR ?_)));refine ah ?_;refine dY Ji ?_;refine ah ?_;refine gE (gB ?_)
  refine ab.loop (σ:=Nat) (fun k=>[(0,.slice a b.length ca),(14,.slice a b.length ca),(15,.int .i64 b.length),(16,.int .i64 k)]) (fun _=>[]) (fun k=>k≤b.length∧∀(j:Nat) (hj:j<b.length),j<k→ew b b[j]) (fun k=>b.length - k) 0 ⟨Nat.zero_le _,fun j _ h=>absurd h (Nat.not_lt_zero _)⟩ ⟨rfl,rfl,rfl,rfl,trivial⟩ .slnil (fun k hI IH=>?_)
  obtain ⟨hk,hpre⟩:=hI
  refine gS (gR ?_);refine aw jl ?_;refine gE (gS ?_)
  refine gC (fun hc=>?_) fun hc=>?_
  ·
   have hlt:k<b.length:=by simpa using hc
   refine gK (gS (gB (gS (gR ?_))))
   refine ab.v (ae.ez rfl rfl rfl rfl rfl Ji Jd ⟨_,(ha).at_⟩ (aD (enc:=NV.cells) (sz:=6) (fun _=>rfl)) (by decide) (k) ⟨rfl,hlt⟩) ?_
   refine ab.v (ae.nR (cs:=NV.cells b[k]) rfl rfl rfl rfl Jt Jd (fun w _ hS=>Sl.many (enc:=NV.cells) (sz:=6) (ha.ay hS.ext).at_ (fun _=>rfl) hlt)) ?_
   refine ab.eN rfl rfl rfl (fun _=>Jq _) (fun b5=>?_)
   refine ab.dG rfl rfl rfl rfl Jd 0 rfl rfl rfl rfl ?_
   refine gE (gS (gR ?_));refine ah ?_
   refine ab.v (ae.iR rfl rfl rfl rfl Jt 0 rfl Jd rfl) ?_
   refine gP rfl rfl rfl rfl rfl call141 (fun w _ hS=>(by exact wi a ca b b[k] w (ha.ay hS.ext) (fun h4=>by have:=(hO k hlt).x (by rw [h4];rfl);omega))) ?_
   refine fe bG ?_;refine gE ?_
   refine gC (fun hc=>?_) fun hc=>?_
   ·
    have hn:¬ew b b[k]:=by simpa using hc
    refine gS (gR ?_);refine ai ?_;refine gE ?_
    refine gT func97 fun w' hS=>?_
    exact ⟨hS.ext,by rw [kf,if_neg (by simp [h1]),if_neg h2,if_neg (fun h=>hn (h _ (List.getElem_mem hlt)))];rfl⟩
   have hn:ew b b[k]:=by simpa using hc
   refine gK (dQ (gR ?_));refine df rfl rfl rfl rfl (cD (by omega)) ?_;refine ah ?_;refine gE ?_
   refine IH (k+1) _ _ ⟨hlt,fun j hj hjk=>?_⟩ (by omega) ⟨rfl,rfl,rfl,rfl,trivial⟩ (List.nil_sublist _)
   by_cases e:j=k
   · subst e;exact hn
   exact hpre j hj (by omega)
  have hge:¬k<b.length:=by simpa using hc
  refine ab.exit rfl (gS (gR ?_))
  refine ai ?_;refine gE ?_
  refine gT func97 fun w' hS=>?_
  exact ⟨hS.ext,by rw [kf,if_neg (by simp [h1]),if_neg h2,if_pos (fun n hn=>by
  obtain ⟨j,hj,rfl⟩:=List.mem_iff_getElem.1 hn
  exact hpre j hj (by omega))];rfl⟩
theorem rK {t:Tr} {o:List NV} {e:Int} (ht:t.ok) (h:BY (bT (aE t)) o e):o=bT (eR t):=by
 by_cases hf:Fit (aE t)
 ·have hc:=Cf.wz (bA ht) (kF.1 hf)
  rcases h with ⟨h1,_⟩|⟨_,h2,_⟩
  ·exact absurd hc.iY h1
  rw [h2,hc.top,pB hf]
  show bT (if (4:Int)=4 then ((aN t).2,(aN t).1) else _).1=_
  rw [if_pos rfl]
 have hb:bT (aE t)=[]:=Classical.byContradiction fun h=>hf (kF.2 h)
 rw [eR,if_neg hf,hb]
 rcases h with ⟨_,h2,_⟩|⟨h1,_⟩
 ·exact h2
 rw [hb] at h1;exact absurd h1 (by decide)
theorem zx (t:Tr):(bT t).length≤maxLen:=by
 unfold bT maxLen
 split
 ·simp
 omega
theorem CO (x:FV) (t:Tr) (w:World) (ha:FA w x.a x.f) (hf:x.f=bT t) (ht:t.ok):Cn Tryz.prog 98 [x.v] w (fun v w'=>aI 66 w w' v (bT (eR t))):=by
 refine Cn.of func98 rfl rfl ?_
 refine gS (gR ?_);refine ai ?_;refine gE (gS (gR ?_));refine ah ?_
 refine gM rfl rfl rfl rfl rfl Jy (fun w _ hS=>(by exact fX x t w (ha.ay hS.ext) hf ht)) ?_
 rintro v w1 w2 Y' hS he ho
 obtain ⟨q,cap,sp,rfl,hq,ao,hS'⟩:=ak hS he ho
 refine ⟨_,hS',?_⟩
 refine gM rfl rfl rfl rfl rfl call23 (fun w _ hS=>(by exact yq (q.map (fun b=>⟨b,0,none⟩)) cap (bT (aE t)) w (aL hS 0 rfl (fun e=>(hq e).1)) (zx _))) ?_
 rintro v w1 w2 Y' hS he ⟨sv,o,e,rfl,ho,hN⟩
 obtain rfl:=rK ht hN
 obtain ⟨q2,jO,oT,rfl,hq2,gN,hS'⟩:=ak hS he ho
 refine ⟨_,hS',?_⟩
 refine ah ?_
 iterate 2 refine fW ?_
 iterate 2 refine ai ?_
 refine gE (gS (gR ?_));refine ah ?_;refine ai ?_;refine gE ?_
 refine gT func98 fun w' hS=>?_
 exact ⟨hS.ext,aI.mk hS 0 rfl rfl hq2 gN⟩
end Go.Proofs.YtnfmegcknckahaaGreatDoor
namespace Go.Proofs.YtnfmegcknckahaaGreatDoor
open Go.RowKit Go.Proofs.Wit Tryz
theorem we {b:List NV} (hb:aY b) {i:Nat} (hi:i<b.length):fw b (i:Int)=bT (aa b i)∧Cf (bT (aa b i)) (aa b i):=by
 have hc:Cf (bT (aa b i)) (aa b i):=Cf.wz (hb.ok hi) (kF.1 (hb.fit hi).2)
 refine ⟨?_,hc⟩
 rw [hc.can.1,fw,if_neg (by rw [hb.iY];omega),Int.toNat_natCast]
set_option maxRecDepth 8000 in
theorem xQ (a:Option Addr) (ca:Nat) (b:List NV) (w:World) (ha:FA w a b) (hb:aY b):
    Cn Tryz.prog 62 [.slice a b.length ca] w (fun v w'=>∃gs,BW 66 22 w w' v gs∧gs.map FV.f=(List.range b.length).map (fun i=>bT (aa b i))):=by
  obtain ⟨i1,hi1,hz1,hsz1,hby1⟩:=info_parts DA
  have hlen:=hb.len
  refine Cn.of func62 rfl rfl ?_
  refine gS (gR ?_);refine ai ?_;refine gE (gS (gR ?_));refine ai ?_;refine gE (gS (gS (gR ?_)));refine ah ?_;refine dY Ji ?_;refine ah ?_;refine gE (gB ?_)
  refine ab.cQ (ob FV.v 22 [] []) ?_
  refine ab.loop (σ:=Nat×Option Nat×Nat×List FV×List Value×Hl) (fun z=>[(0,.slice a b.length ca),(3,cK z.2.1 z.2.2.2.1.length z.2.2.1),(6,.int .i64 b.length),(7,.int .i64 z.1)])
    (fun z=>[(z.2.1,ob FV.v 22 z.2.2.2.1 z.2.2.2.2.1)]++z.2.2.2.2.2)
    (fun z=>z.1≤b.length∧(z.2.1=none→z.2.2.2.1.length=0∧z.2.2.1=0)∧(z.2.2.2.1.map FV.v++z.2.2.2.2.1).length=z.2.2.1∧(∀g∈z.2.2.2.1,g.In 66 z.2.2.2.2.2)∧z.2.2.2.1.map FV.f=(List.range z.1).map (fun i=>bT (aa b i)))
    (fun z=>b.length - z.1) (0,none,0,[],[],[]) ⟨Nat.zero_le _,fun _=>⟨rfl,rfl⟩,rfl,(fun _ h=>by cases h),rfl⟩ ⟨rfl,rfl,rfl,rfl,trivial⟩ (List.Sublist.refl _) (fun z hI IH=>?_)
  obtain ⟨k,q,cap,gs,sp,H⟩:=z
  obtain ⟨hk,hq,ao,hin,hgs⟩:=hI
  dsimp only at hk hq ao hin hgs IH⊢
  have hgl:gs.length=k:=by
    have h1:=congrArg List.length hgs
    simpa using h1
  refine gS (gR ?_);refine aw jl ?_;refine gE (gS ?_)
  refine gC (fun hc=>?_) fun hc=>?_
  ·
   have hlt:k<b.length:=by simp at hc;omega
   obtain ⟨hsb,hcf⟩:=we hb hlt
   refine gK (gS (gB (gS (gR ?_))));refine ah ?_;refine ai ?_;refine gE (gR ?_)
   iterate 3 refine ah ?_
   refine gM rfl rfl rfl rfl rfl call86 (fun w _ hS=>(by exact iF a ca b (k:Int) w (ha.ay hS.ext) (by unfold maxLen;omega))) ?_
   rintro v w1 w2 Y' hS he ho
   rw [hsb] at ho
   obtain ⟨qf,capf,spf,rfl,hqf,hcapf,hS'⟩:=ak hS he ho
   refine ⟨_,hS',?_⟩
   refine ab.eh (c:=[_]) rfl rfl rfl rfl Jo Jj Jx rfl rfl (fun b14=>?_)
   refine ab.oh FV.v (news:=[⟨qf.map (fun b=>⟨b,0,none⟩),capf,bT (aa b k)⟩]) (spn:=[]) (xs:=gs) (sp:=sp) (q:=q) rfl rfl rfl rfl rfl Jo hi1 hz1 hsz1 rfl hq 2 rfl 0 rfl ao rfl (by decide) (fun _=>rfl) (by simp [maxLen];omega) (by simp [hby1];omega) (fun b' sp' cap' hlen=>?_)
   refine ai ?_;refine gE (dQ (gR ?_));refine df rfl rfl rfl rfl (cD (by omega)) ?_;refine ah ?_;refine gE ?_
   refine ab.aT (pre:=[_,_,_]) (pre':=[_,_]) H [2,1] (by decide) rfl ?_
   refine IH (k+1,some b',cap',gs++[⟨qf.map (fun b=>⟨b,0,none⟩),capf,bT (aa b k)⟩],sp',(qf,eO 66 (bT (aa b k)) spf)::H) _ _ ⟨hlt,(fun e=>by cases e),hlen,fun g hg=>?_,?_⟩ (by dsimp only;omega) ⟨rfl,rfl,rfl,rfl,trivial⟩ (List.Sublist.refl _)
   · rcases List.mem_append.1 hg with hg|hg
     · exact (hin g hg).mono (List.subset_cons_self _ _)
     · rw [List.mem_singleton.1 hg];exact ⟨qf,spf,List.mem_cons_self ..,rfl,hqf,hcapf⟩
   dsimp only;rw [List.map_append,hgs,List.range_succ,List.map_append];rfl
  have hge:¬k<b.length:=by simp at hc;omega
  obtain rfl:k=b.length:=by omega
  refine ab.exit rfl (gS (gR ?_))
  refine ah ?_;refine ai ?_;refine gE ?_
  refine gT func62 fun w' hS=>?_
  exact ⟨hS.ext,gs,BW.mk hS (List.Sublist.refl _) hq ao hin,hgs⟩
theorem DZ (bg:Nat) (x g:FV) (w:World) (hb:w.heap[bg]?=some (.cells #[g.v] 22 (0,0))) (hg:FA w g.a g.f) (hx:FA w x.a x.f) (hl:g.f.length≤maxLen):
  Cn Tryz.prog 100 [x.v,.pointer (some ⟨bg,0,none⟩)] w (fun v _=>v=.bool (decide (g.f=x.f))):=by
 have HB:∀{w':World} {j:Nat} {u:Value},Ex [] w w'→(#[g.v]:Array Value)[j]?=some u→w'.cell? ⟨bg,j,none⟩=some u:=fun e h=>Ex.cell e hb h
 refine Cn.of func100 rfl rfl ?_
 refine gS (gR ?_);refine ai ?_;refine gE (gS (gR ?_))
 refine ab.v (ae.ld (p:=⟨bg,0,none⟩) rfl rfl rfl rfl Jn (fun w _ hS=>HB hS.ext rfl)) ?_
 refine ah ?_
 refine gP rfl rfl rfl rfl rfl call61 (fun w _ hS=>(by exact sO g.a g.c g.f x.a x.c x.f w (hg.ay hS.ext) (hx.ay hS.ext) hl)) ?_
 refine ai ?_;refine gE ?_
 refine gT func100 fun w' hS=>?_
 exact ⟨hS.ext,rfl⟩
theorem Fs (bg:Nat) (g:FV) (a:Option Addr) (ca:Nat) (xs:List FV) (w:World) (ha:qF w a xs) (hl:xs.length≤maxLen) (hfa:∀x∈xs,FA w x.a x.f) (hb:w.heap[bg]?=some (.cells #[g.v] 22 (0,0))) (hg:FA w g.a g.f) (hgl:g.f.length≤maxLen):
    Cn Tryz.prog 99 [.slice a xs.length ca,.func (.func 100) ([]:List Value).toArray ([.pointer (some ⟨bg,0,none⟩)]:List Value).toArray] w (fun v _=>∃j:Int,v=.int .i64 j∧((j=-1∧∀x∈xs,g.f≠x.f)∨∃(k:Nat) (x:FV),j=k∧xs[k]?=some x∧g.f=x.f∧∀i y,i<k→xs[i]?=some y→g.f≠y.f)):=by
  have hl':=hl
  unfold maxLen at hl'
  refine Cn.of func99 rfl rfl ?_
  refine gS (gR ?_);refine ai ?_;refine gE (gS (gS (gR ?_)));refine ah ?_;refine dY Jo ?_;refine ah ?_;refine gE (gB ?_)
  refine ab.loop (σ:=Nat) (fun k=>[(0,.slice a xs.length ca),(1,.func (.func 100) ([]:List Value).toArray ([.pointer (some ⟨bg,0,none⟩)]:List Value).toArray),(7,.int .i64 xs.length),(8,.int .i64 k)]) (fun _=>[])
    (fun k=>k≤xs.length∧∀i y,i<k→xs[i]?=some y→g.f≠y.f) (fun k=>xs.length - k) 0 ⟨Nat.zero_le _,fun i y hi=>by omega⟩ ⟨rfl,rfl,rfl,rfl,trivial⟩ .slnil (fun k hI IH=>?_)
  obtain ⟨hk,hno⟩:=hI
  refine gS (gR ?_);refine aw jl ?_;refine gE (gS ?_)
  refine gC (fun hc=>?_) fun hc=>?_
  ·
   have hlt:k<xs.length:=by simpa using hc
   refine gK (gS (gB (gS (gR ?_))));refine ah ?_;refine ai ?_;refine gE (gS (gR ?_))
   iterate 3 refine ah ?_
   refine ab.v (ae.idx rfl rfl rfl rfl rfl Jo Jj ⟨_,ha⟩ (by simp) (k) ⟨rfl,by simpa using hlt⟩) ?_
   refine ab.v (ae.ld rfl rfl rfl rfl Jn (fun w _ hS=>(qF.ay ha hS.ext).at (k) hlt)) ?_
   refine ab.uW (fs:=[]) rfl rfl rfl rfl rfl (fun _ _=>call100 _ _) (fun w _ hS=>by exact DZ bg xs[k] g w (hS.ext.gG hb) (hg.ay hS.ext) ((hfa _ (List.getElem_mem hlt)).ay hS.ext) hgl) ?_
   refine gE ?_
   refine gC (fun hc=>?_) fun hc=>?_
   ·
    have he:g.f=xs[k].f:=by simpa using hc
    refine gS (gR ?_);refine ah ?_;refine ai ?_;refine gE ?_
    refine gT func99 fun w' hS=>?_
    exact ⟨hS.ext,_,rfl,.inr ⟨k,xs[k],rfl,List.getElem?_eq_getElem hlt,he,hno⟩⟩
   have he:¬g.f=xs[k].f:=by simpa using hc
   refine gK (dQ (gR ?_));refine df rfl rfl rfl rfl (cD (by omega)) ?_;refine ah ?_;refine gE ?_
   exact IH (k+1) _ _ ⟨hlt,fun i y hi hy=>by
   by_cases e:i=k
   · subst e;rw [List.getElem?_eq_getElem hlt] at hy;cases hy;exact he
   exact hno i y (by omega) hy⟩ (by omega) ⟨rfl,rfl,rfl,rfl,trivial⟩ .slnil
  have hge:¬k<xs.length:=by simpa using hc
  obtain rfl:k=xs.length:=by omega
  refine ab.exit rfl (gS (gR ?_))
  refine ai ?_;refine gE ?_
  refine gT func99 fun w' hS=>?_
  exact ⟨hS.ext,_,rfl,.inl ⟨rfl,fun x hx=>by
  obtain ⟨i,hi,e⟩:=List.mem_iff_getElem.1 hx
  exact hno i x hi (by rw [List.getElem?_eq_getElem hi,e])⟩⟩
theorem i6 {b:List NV} {i:Nat}:tA b (i:Int)=aa b i:=by unfold tA;rw [Int.toNat_natCast]
/-- the search gives the negation -/
theorem Dc {b:List NV} (hb:aY b) {i:Nat} (hi:i<b.length) {gs:List FV} {gf:List NV} (hg:gf=bT (eR (aa b i))) (hgs:gs.map FV.f=(List.range b.length).map (fun i=>bT (aa b i))) {j:Int} (h:(j=-1∧∀x∈gs,gf≠x.f)∨∃(k:Nat) (x:FV),j=k∧gs[k]?=some x∧gf=x.f∧∀i y,i<k→gs[i]?=some y→gf≠y.f):j=jw b i:=by
 have hlen:gs.length=b.length:=by have:=congrArg List.length hgs;simpa using this
 have hat:∀(k:Nat) (hk:k<gs.length),gs[k].f=bT (aa b k):=fun k hk=>by
  have h1:(gs.map FV.f)[k]?=some gs[k].f:=by rw [List.getElem?_map,List.getElem?_eq_getElem hk];rfl
  rw [hgs,List.getElem?_map,List.getElem?_range (by omega)] at h1
  exact (Option.some.inj h1).symm
 have hokO:=nL (hb.ok hi)
 have heq:∀k,k<b.length→(gf=bT (aa b k)↔aa b k=eR (aa b i)):=fun k hk=>by
  have hc:=(we hb hk).2
  rw [hg]
  constructor
  ·intro e
   have hne:bT (eR (aa b i))≠[]:=by rw [e];exact hc.ne
   have h2:=(Cf.wz hokO hne).top
   rw [e,hc.top] at h2;exact h2
  intro e;rw [e]
 rcases h with ⟨rfl,h⟩|⟨k,x,rfl,h1,h2,h3⟩
 ·refine (wE (fun k hk e=>?_)).symm
  have hkg:k<gs.length:=by omega
  rw [i6] at e
  exact h gs[k] (List.getElem_mem hkg) (((heq k hk).2 e).trans (hat k hkg).symm)
 obtain ⟨hk,rfl⟩:=List.getElem?_eq_some_iff.1 h1
 have hkb:k<b.length:=by omega
 refine (qT hkb (by rw [i6];exact (heq k hkb).1 (h2.trans (hat k hk))) (fun j hj e=>?_)).symm
 rw [i6] at e
 have hjb:j<b.length:=by omega
 have hjg:j<gs.length:=by omega
 exact h3 j gs[j] hj (List.getElem?_eq_getElem hjg) (((heq j hjb).2 e).trans (hat j hjg).symm)
end Go.Proofs.YtnfmegcknckahaaGreatDoor
namespace Go.Proofs.YtnfmegcknckahaaGreatDoor
open Go.RowKit Go.Proofs.Wit Tryz
set_option maxRecDepth 8000 in
theorem pr (l:Int) (a:Option Addr) (ca:Nat) (b:List NV) (s:ax) (ag:Int) (w:World) (ha:FA w a b) (hb:aY b):
    Cn Tryz.prog 147 [.int .i64 l,.slice a b.length ca,U s,.int .i64 ag] w (fun v _=>v=U (lz l b s ag)):=by
  have hlen:=hb.len
  refine Cn.of func147 rfl rfl ?_
  refine gS (gR ?_)
  refine ab.v (ae.fh (v:=U 0#64) rfl rfl rfl rfl) ?_
  refine gE (gS ?_)
  refine ab.lF (α:={p:Bool // p=true↔tq l}) []
    (fun z=>[(0,.int .i64 l),(1,.slice a b.length ca),(2,U s),(3,.int .i64 ag),(9,.bool z.1)])
    (fun z=>[]) (fun z=>?_) (fun K=>?_)
  · -- what comes behind the region
   obtain ⟨tr,htr⟩:=z
   dsimp only at htr⊢
   refine gE (gS ?_)
   refine ab.lF (α:={p:Bool // p=true↔uP l}) []
     (fun z=>[(0,.int .i64 l),(1,.slice a b.length ca),(2,U s),(3,.int .i64 ag),(9,.bool tr),(10,.bool z.1)])
     (fun z=>[]) (fun z=>?_) (fun K=>?_)
   · -- what comes behind the region
    obtain ⟨eu,heu⟩:=z
    dsimp only at heu⊢
    refine gE (gS (gR ?_))
    refine ab.v (ae.fh (v:=U 0#64) rfl rfl rfl rfl) ?_
    refine gE (gS (gS (gR ?_)));refine ah ?_;refine dY Ji ?_;refine ah ?_;refine gE (gB ?_)
    refine ab.loop (σ:=Nat) (fun k=>[(2,U s),(3,.int .i64 ag),(9,.bool tr),(10,.bool eu),(11,U (ly l b s ag k)),(34,.slice a b.length ca),(35,.int .i64 b.length),(36,.int .i64 k)]) (fun _=>[]) (fun k=>k≤b.length) (fun k=>b.length - k) 0 (Nat.zero_le _) ⟨rfl,rfl,rfl,rfl,rfl,rfl,rfl,rfl,trivial⟩ .slnil (fun k hk IH=>?_)
    refine gS (gR ?_);refine aw jl ?_;refine gE (gS ?_)
    refine gC (fun hc=>?_) fun hc=>?_
    ·
     have hlt:k<b.length:=by simpa using hc
     have hnd:nd b k=b[k]:=dI hlt
     have hstep:ly l b s ag (k+1)=if eT s k=true∧b[k].i=ag then ly l b s ag k|||w4 l b k else ly l b s ag k:=by rw [ly,hnd]
     have hcn:w4 l b k=(if b[k].op=9 then bW b[k].x else 0#64)|||(if (b[k].op=9∧tq l)∨(b[k].op=10∧uP l) then bW k else 0#64):=by rw [w4,hnd]
     have hx9:b[k].op=9→0≤b[k].x∧b[k].x<k:=fun h=>by have:=hb.x hlt (by rw [hnd];omega);rw [hnd] at this;exact this
     have hbk:bW (k:Int)=1#64<<<k:=by unfold bW;rw [Int.toNat_natCast]
     refine gK (gS (gB (gS (gR ?_))));refine ah ?_
     refine ab.v (ae.ez rfl rfl rfl rfl rfl Ji Jd ⟨_,(ha).at_⟩ (aD (enc:=NV.cells) (sz:=6) (fun _=>rfl)) (by decide) (k) ⟨rfl,hlt⟩) ?_
     refine ab.v (ae.nR (cs:=NV.cells b[k]) rfl rfl rfl rfl Jt Jd (fun w _ hS=>Sl.many (enc:=NV.cells) (sz:=6) (ha.ay hS.ext).at_ (fun _=>rfl) hlt)) ?_
     refine ab.eN rfl rfl rfl (fun _=>Jq _) (fun b13=>?_)
     refine ai ?_
     refine ab.dG rfl rfl rfl rfl Jd 0 rfl rfl rfl rfl ?_
     refine gE (gS (gS (gR ?_)))
     iterate 2 refine ah ?_
     refine gP rfl rfl rfl rfl rfl call63 (fun w _ hS=>(by exact qN s (k:Int) w)) ?_
     refine fe bG ?_;refine ah ?_
     refine eD 45 (fun hc=>?_) fun hc=>?_
     ·
      have hh:¬eT s k=true:=by simpa using hc
      iterate 4 refine cy ?_
      refine cz ?_;refine gE (ab.bX rfl (ab.exit rfl (gR ?_)));refine df rfl rfl rfl rfl (cD (by omega)) ?_;refine ah ?_;refine gE ?_
      exact IH (k+1) _ _ hlt (by omega) ⟨rfl,rfl,rfl,rfl,(by rw [hstep,if_neg (fun h=>hh h.1)];rfl),rfl,rfl,rfl,trivial⟩ (List.nil_sublist _)
     have hh:eT s k=true:=by simpa using hc
     refine al Jb I9 1 ?_;refine aq Ja 0 ?_;refine ah ?_;refine aw gO ?_;refine bE ?_;refine gE ?_
     refine gC (fun hc=>?_) fun hc=>?_
     ·
      have hi:¬b[k].i=ag:=by simpa using hc
      refine ab.exit rfl (gR ?_)
      refine df rfl rfl rfl rfl (cD (by omega)) ?_;refine ah ?_;refine gE ?_
      exact IH (k+1) _ _ hlt (by omega) ⟨rfl,rfl,rfl,rfl,(by rw [hstep,if_neg (fun h=>hi h.2)];rfl),rfl,rfl,rfl,trivial⟩ (List.nil_sublist _)
     have hi:b[k].i=ag:=by simpa using hc
     have hp:=(⟨hh,hi⟩:eT s k=true∧b[k].i=ag)
     refine gK (gB (gS (gR ?_)));refine al Jb I9 0 ?_;refine aq Ja 0 ?_;refine aw bh ?_;refine ah ?_
     refine eD 55 (fun hc=>?_) fun hc=>?_
     ·
      have h9:b[k].op=9:=by simpa using hc
      obtain ⟨x0,x1⟩:=hx9 h9
      have hbx:bW b[k].x=1#64<<<b[k].x.toNat:=rfl
      refine ah ?_;refine cz ?_;refine ai ?_;refine gE ?_
      refine gC (fun hc=>?_) fun hc=>?_
      ·
       have ht:tq l:=htr.1 hc
       refine ab.draw 8 mixed rfl ?_
       refine mH ?_;refine mI Jb I9 4 ?_;refine xj Ja 0 ?_
       refine aM.v (ae.bin (a:=U 1#64) rfl rfl rfl rfl (lS b[k].x.toNat (by omega)) rfl) ?_
       refine mH ?_
       refine aM.v (ae.bin (a:=U 1#64) rfl rfl rfl rfl (lS k rfl) rfl) ?_
       iterate 2 refine CT ql ?_
       refine aM.nil ?_
       refine ai ?_;refine gE (dQ (dQ (gR ?_)));refine df rfl rfl rfl rfl (cD (by omega)) ?_;refine ah ?_;refine gE ?_
       exact IH (k+1) _ _ hlt (by omega) ⟨rfl,rfl,rfl,rfl,(by rw [hstep,if_pos hp,hcn,if_pos h9,if_pos (.inl ⟨h9,ht⟩),hbk,hbx];rfl),rfl,rfl,rfl,trivial⟩ (List.nil_sublist _)
      have ht:¬tq l:=fun h=>by have:=htr.2 h;rw [show tr=false from hc] at this;cases this
      refine gS (gR ?_);refine al Jb I9 0 ?_;refine aq Ja 0 ?_;refine aw bh ?_;refine ai ?_;refine gE ?_
      refine gC (fun hc=>?_) fun hc=>?_
      ·
       skip
       refine gR ?_;refine ah ?_;refine al Jb I9 4 ?_;refine aq Ja 0 ?_
       refine ab.v (ae.bin (a:=U 1#64) rfl rfl rfl rfl (lS b[k].x.toNat (by omega)) rfl) ?_
       refine aw ql ?_;refine ai ?_;refine gE (dQ (dQ (gR ?_)));refine df rfl rfl rfl rfl (cD (by omega)) ?_;refine ah ?_;refine gE ?_
       exact IH (k+1) _ _ hlt (by omega) ⟨rfl,rfl,rfl,rfl,(by rw [hstep,if_pos hp,hcn,if_pos h9,if_neg (fun h=>by rcases h with h|h;exact ht h.2;omega),hbx,BitVec.or_zero];rfl),rfl,rfl,rfl,trivial⟩ (List.nil_sublist _)
      have e9:¬b[k].op=9:=by simpa using hc
      exact absurd h9 e9
     have h9:¬b[k].op=9:=by simpa using hc
     refine cy ?_;refine bE ?_;refine ai ?_;refine gE (ab.gj rfl (gS (gR ?_)));refine al Jb I9 0 ?_;refine aq Ja 0 ?_;refine aw bh ?_;refine ai ?_;refine gE ?_
     refine gC (fun hc=>?_) fun hc=>?_
     ·
      have e9:b[k].op=9:=by simpa using hc
      exact absurd e9 h9
     skip
     refine gS (gR ?_);refine al Jb I9 0 ?_;refine aq Ja 0 ?_;refine aw bh ?_;refine ah ?_
     refine eD 79 (fun hc=>?_) fun hc=>?_
     ·
      have h10:b[k].op=10:=by simpa using hc
      refine ah ?_;refine cz ?_;refine ai ?_;refine gE ?_
      refine gC (fun hc=>?_) fun hc=>?_
      ·
       have ht:uP l:=heu.1 hc
       refine gR ?_
       iterate 2 refine ah ?_
       refine ab.v (ae.bin (a:=U 1#64) rfl rfl rfl rfl (lS k rfl) rfl) ?_
       refine aw ql ?_;refine ai ?_;refine gE (dQ (dQ (gR ?_)));refine df rfl rfl rfl rfl (cD (by omega)) ?_;refine ah ?_;refine gE ?_
       exact IH (k+1) _ _ hlt (by omega) ⟨rfl,rfl,rfl,rfl,(by rw [hstep,if_pos hp,hcn,if_neg h9,if_pos (.inr ⟨h10,ht⟩),hbk,BitVec.zero_or];rfl),rfl,rfl,rfl,trivial⟩ (List.nil_sublist _)
      have ht:¬uP l:=fun h=>by have:=heu.2 h;rw [show eu=false from hc] at this;cases this
      refine gK (dQ (dQ (gR ?_)));refine df rfl rfl rfl rfl (cD (by omega)) ?_;refine ah ?_;refine gE ?_
      exact IH (k+1) _ _ hlt (by omega) ⟨rfl,rfl,rfl,rfl,(by rw [hstep,if_pos hp,hcn,if_neg h9,if_neg (fun h=>by rcases h with h|h;exact h9 h.1;exact ht h.2),BitVec.or_zero,BitVec.or_zero];rfl),rfl,rfl,rfl,trivial⟩ (List.nil_sublist _)
     have h10:¬b[k].op=10:=by simpa using hc
     refine cy ?_;refine bE ?_;refine ai ?_;refine gE (ab.gj rfl (gK (dQ (dQ (gR ?_)))));refine df rfl rfl rfl rfl (cD (by omega)) ?_;refine ah ?_;refine gE ?_
     exact IH (k+1) _ _ hlt (by omega) ⟨rfl,rfl,rfl,rfl,(by rw [hstep,if_pos hp,hcn,if_neg h9,if_neg (fun h=>by rcases h with h|h;exact h9 h.1;exact h10 h.1),BitVec.or_zero,BitVec.or_zero];rfl),rfl,rfl,rfl,trivial⟩ (List.nil_sublist _)
    have hge:¬k<b.length:=by simpa using hc
    obtain rfl:k=b.length:=by omega
    refine ab.exit rfl (gS (gR ?_))
    refine ah ?_;refine ai ?_;refine gE ?_
    refine gT func147 fun w' hS=>?_
    exact ⟨hS.ext,rfl⟩
   · -- the region
    refine gR ?_;refine ah ?_;refine aw bh ?_;refine ah ?_
    refine eD 30 (fun hc=>?_) fun hc=>?_
    ·
     have e5:l=5:=by simpa using hc
     iterate 2 refine cy ?_
     refine cz ?_;refine ai ?_
     exact K ⟨true,by unfold uP;simp;omega⟩ _ _ sF (fun _ _ hS=>hS)
    have e5:¬l=5:=by simpa using hc
    refine ah ?_;refine aw bh ?_;refine bE ?_;refine ai ?_
    exact K ⟨l==6,by unfold uP;simp;omega⟩ _ _ sF (fun _ _ hS=>hS)
  · -- the region
   refine gR ?_;refine ah ?_;refine aw bh ?_;refine ah ?_
   refine eD 16 (fun hc=>?_) fun hc=>?_
   ·
    have e3:l=3:=by simpa using hc
    iterate 2 refine cy ?_
    refine cz ?_;refine ah ?_
    iterate 2 refine cy ?_
    refine cz ?_;refine ah ?_
    iterate 2 refine cy ?_
    refine cz ?_;refine ai ?_
    exact K ⟨true,by unfold tq;simp;omega⟩ _ _ sF (fun _ _ hS=>hS)
   have e3:¬l=3:=by simpa using hc
   refine ah ?_;refine aw bh ?_;refine bE ?_;refine ah ?_
   refine eD 20 (fun hc=>?_) fun hc=>?_
   ·
    have e4:l=4:=by simpa using hc
    iterate 2 refine cy ?_
    refine cz ?_;refine ah ?_
    iterate 2 refine cy ?_
    refine cz ?_;refine ai ?_
    exact K ⟨true,by unfold tq;simp;omega⟩ _ _ sF (fun _ _ hS=>hS)
   have e4:¬l=4:=by simpa using hc
   refine ah ?_;refine aw bh ?_;refine bE ?_;refine ah ?_
   refine eD 24 (fun hc=>?_) fun hc=>?_
   ·
    have e5:l=5:=by simpa using hc
    iterate 2 refine cy ?_
    refine cz ?_;refine ai ?_
    exact K ⟨true,by unfold tq;simp;omega⟩ _ _ sF (fun _ _ hS=>hS)
   have e5:¬l=5:=by simpa using hc
   refine ah ?_;refine aw bh ?_;refine bE ?_;refine ai ?_
   exact K ⟨l==6,by unfold tq;simp;omega⟩ _ _ sF (fun _ _ hS=>hS)
end Go.Proofs.YtnfmegcknckahaaGreatDoor
