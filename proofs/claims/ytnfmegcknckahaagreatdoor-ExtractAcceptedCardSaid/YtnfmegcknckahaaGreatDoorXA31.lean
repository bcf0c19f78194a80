/- What calls of the program return, under the conditions that each theorem states. -/
import Derived.Test.YtnfmegcknckahaaGreatDoorXA24
import Derived.Test.YtnfmegcknckahaaGreatDoorXA28
import Derived.Test.YtnfmegcknckahaaGreatDoorXA30
import Derived.Test.YtnfmegcknckahaaGreatDoorXA03
import Derived.Test.YtnfmegcknckahaaGreatDoorXA04
import Derived.Test.YtnfmegcknckahaaGreatDoorXA02
import Derived.Test.YtnfmegcknckahaaGreatDoorXA18
namespace Go.Proofs.YtnfmegcknckahaaGreatDoor
open Go.RowKit Go.Proofs.Wit Tryz
theorem xX (l:Int) (w:World):Cn Tryz.prog 96 [.int .i64 l] w (fun v _=>v=.bool (decide (0≤l∧l≤6))):=by
  refine Cn.of func96 rfl rfl ?_
  refine gS (gR ?_);refine ai ?_;refine gE (gS (gR ?_));refine ah ?_;refine aw oT ?_;refine ah ?_
  refine eC 5 (fun hc=>?_) fun hc=>?_
  ·
   have h1:0≤l:=by simpa using hc
   refine ah ?_;refine aw Hm ?_;refine cF ?_;refine ai ?_;refine gE ?_
   refine gT func96 fun w' hS=>?_
   exact ⟨hS.ext,by simp [j8,h1]⟩
  have h1:¬0≤l:=by simpa using hc
  iterate 2 refine cD ?_
  refine bB ?_;refine ai ?_;refine gE ?_
  refine gT func96 fun w' hS=>?_
  exact ⟨hS.ext,by simp [j8,h1]⟩
theorem py (s:aB) (i:Int) (w:World):Cn Tryz.prog 63 [U s,.int .i64 i] w (fun v _=>v=.bool (eT s i)):=by
  refine Cn.of func63 rfl rfl ?_
  refine gS (gR ?_);refine ai ?_;refine gE (gS (gR ?_));refine ah ?_;refine aw oT ?_;refine ah ?_
  refine eC 7 (fun hc=>?_) fun hc=>?_
  ·
   have h1:0≤i:=by simpa using hc
   refine ah ?_;refine aw iX ?_;refine cF ?_;refine ah ?_
   refine eC 11 (fun hc=>?_) fun hc=>?_
   ·
    have h2:i<64:=by simpa using hc
    iterate 2 refine ah ?_
    refine db rfl rfl rfl rfl (B1 i.toNat (by omega)) ?_
    refine ab.v (ae.bin (b:=U 1#64) rfl rfl rfl rfl Ef rfl) ?_
    refine ab.v (ae.bin (b:=U 1#64) rfl rfl rfl rfl xk rfl) ?_
    refine cF ?_;refine ai ?_;refine gE ?_
    refine gT func63 fun w' hS=>?_
    exact ⟨hS.ext,by rw [rW];simp [j8,eT,h1,h2]⟩
   have h2:¬i<64:=by simpa using hc
   iterate 5 refine cD ?_
   refine bB ?_;refine ai ?_;refine gE ?_
   refine gT func63 fun w' hS=>?_
   exact ⟨hS.ext,by simp [j8,eT,h2]⟩
  have h1:¬0≤i:=by simpa using hc
  iterate 2 refine cD ?_
  refine bB ?_;refine ah ?_
  iterate 5 refine cD ?_
  refine bB ?_;refine ai ?_;refine gE ?_
  refine gT func63 fun w' hS=>?_
  exact ⟨hS.ext,by simp [j8,eT,h1]⟩
theorem wA (a:Option Addr) (ca:Nat) (b:List NV) (s:aB) (w:World) (h0:0<b.length) (h64:b.length≤64):Cn Tryz.prog 142 [.slice a b.length ca,U s] w (fun v _=>v=.bool (DK b s)):=by
 refine Cn.of func142 rfl rfl ?_
 refine gS (gR ?_);refine ai ?_;refine gE (gS (gR ?_))
 iterate 2 refine ah ?_
 refine dM Jr ?_
 refine db rfl rfl rfl rfl (iQ (c:=((64 - b.length:Nat):Int)) (by omega) (by omega)) ?_
 refine ab.v (ae.bin (a:=U 18446744073709551615#64) rfl rfl rfl rfl (B1 (64 - b.length) rfl) rfl) ?_
 refine aw iu ?_
 refine ab.v (ae.bin (b:=U 0#64) rfl rfl rfl rfl xk rfl) ?_
 refine ai ?_;refine gE ?_
 refine gT func142 fun w' hS=>?_
 exact ⟨hS.ext,rfl⟩
set_option maxRecDepth 4000 in
theorem wz (a:Option Addr) (ca:Nat) (b:List NV) (n:NV) (w:World) (ha:FA w a b) (hn:n.op=4→0≤n.x∧n.x<b.length):Cn Tryz.prog 141 [.slice a b.length ca,n.v] w (fun v _=>v=.bool (decide (eG b n))):=by
  refine Cn.of func141 rfl rfl ?_
  refine gS (gR ?_)
  refine ab.bx rfl rfl rfl rfl (fun b3=>?_)
  refine ai ?_;refine gE (gS (gS (gR ?_)));refine al Jk Ji 0 ?_;refine aq Jj 0 ?_;refine gE (gB (gS (gS (gR ?_))));refine aw bd ?_;refine ai ?_;refine gE ?_
  refine gC (fun hc=>?_) fun hc=>?_
  ·
   have h1:n.op=1:=by simpa using hc
   refine gK ?_
   refine gC (fun hc=>?_) fun hc=>?_
   ·
    skip
    refine gS (gR ?_);refine ai ?_;refine gE ?_
    refine gT func141 fun w' hS=>?_
    exact ⟨hS.ext,by rw [decide_eq_true (show eG b n from .inl (by omega))];rfl⟩
   have e1:¬n.op=1:=by simpa using hc
   exact absurd h1 e1
  have h1:¬n.op=1:=by simpa using hc
  refine gS (gR ?_);refine aw bd ?_;refine ai ?_;refine gE ?_
  refine gC (fun hc=>?_) fun hc=>?_
  ·
   have h2:n.op=2:=by simpa using hc
   refine gK ?_
   refine gC (fun hc=>?_) fun hc=>?_
   ·
    skip
    refine gS (gR ?_);refine ai ?_;refine gE ?_
    refine gT func141 fun w' hS=>?_
    exact ⟨hS.ext,by rw [decide_eq_true (show eG b n from .inl (by omega))];rfl⟩
   have e1:¬n.op=2:=by simpa using hc
   exact absurd h2 e1
  have h2:¬n.op=2:=by simpa using hc
  refine gS (gR ?_);refine aw bd ?_;refine ai ?_;refine gE ?_
  refine gC (fun hc=>?_) fun hc=>?_
  ·
   have h3:n.op=3:=by simpa using hc
   refine gK ?_
   refine gC (fun hc=>?_) fun hc=>?_
   ·
    skip
    refine gS (gR ?_);refine ai ?_;refine gE ?_
    refine gT func141 fun w' hS=>?_
    exact ⟨hS.ext,by rw [decide_eq_true (show eG b n from .inl (by omega))];rfl⟩
   have e1:¬n.op=3:=by simpa using hc
   exact absurd h3 e1
  have h3:¬n.op=3:=by simpa using hc
  refine gS (gR ?_);refine aw bd ?_;refine ai ?_;refine gE ?_
  refine gC (fun hc=>?_) fun hc=>?_
  ·
   have h5:n.op=5:=by simpa using hc
   refine gK ?_
   refine gC (fun hc=>?_) fun hc=>?_
   ·
    skip
    refine gS (gR ?_);refine ai ?_;refine gE ?_
    refine gT func141 fun w' hS=>?_
    exact ⟨hS.ext,by rw [decide_eq_true (show eG b n from .inl (by omega))];rfl⟩
   have e1:¬n.op=5:=by simpa using hc
   exact absurd h5 e1
  have h5:¬n.op=5:=by simpa using hc
  refine gS (gR ?_);refine aw bd ?_;refine ai ?_;refine gE ?_
  refine gC (fun hc=>?_) fun hc=>?_
  ·
   have h6:n.op=6:=by simpa using hc
   refine gK ?_
   refine gC (fun hc=>?_) fun hc=>?_
   ·
    skip
    refine gS (gR ?_);refine ai ?_;refine gE ?_
    refine gT func141 fun w' hS=>?_
    exact ⟨hS.ext,by rw [decide_eq_true (show eG b n from .inl (by omega))];rfl⟩
   have e1:¬n.op=6:=by simpa using hc
   exact absurd h6 e1
  have h6:¬n.op=6:=by simpa using hc
  refine gS (gR ?_);refine aw bd ?_;refine ai ?_;refine gE ?_
  refine gC (fun hc=>?_) fun hc=>?_
  ·
   have h9:n.op=9:=by simpa using hc
   refine gK ?_
   refine gC (fun hc=>?_) fun hc=>?_
   ·
    skip
    refine gS (gR ?_);refine ai ?_;refine gE ?_
    refine gT func141 fun w' hS=>?_
    exact ⟨hS.ext,by rw [decide_eq_true (show eG b n from .inl (by omega))];rfl⟩
   have e1:¬n.op=9:=by simpa using hc
   exact absurd h9 e1
  have h9:¬n.op=9:=by simpa using hc
  refine gR ?_;refine aw bd ?_;refine ai ?_;refine gE ?_
  refine gC (fun hc=>?_) fun hc=>?_
  ·
   have h10:n.op=10:=by simpa using hc
   refine gS (gR ?_);refine ai ?_;refine gE ?_
   refine gT func141 fun w' hS=>?_
   exact ⟨hS.ext,by rw [decide_eq_true (show eG b n from .inl (by omega))];rfl⟩
  have h10:¬n.op=10:=by simpa using hc
  refine gS (gR ?_);refine aw bd ?_;refine ai ?_;refine gE ?_
  refine gC (fun hc=>?_) fun hc=>?_
  ·
   have h4:n.op=4:=by simpa using hc
   obtain ⟨x0,x1⟩:=hn h4
   obtain ⟨k,hk⟩:∃k:Nat,n.x=(k:Int):=⟨n.x.toNat,by omega⟩
   have hkl:k<b.length:=by omega
   have hnd:nd b n.x=b[k]:=by rw [hk,dH hkl]
   refine gS (gR ?_);refine ah ?_;refine al Jk Ji 4 ?_;refine aq Jj 0 ?_
   refine ab.v (ae.ed rfl rfl rfl rfl rfl Jr Jm ⟨_,(ha).at_⟩ (ax (enc:=NV.cells) (sz:=6) (fun _=>rfl)) (by decide) (k) ⟨hk,hkl⟩) ?_
   refine ab.v (ae.fM rfl rfl rfl rfl Jk rfl Ji ((k)*6+0) rfl) ?_
   refine ab.v (ae.ld rfl rfl rfl rfl Jj (fun w _ hS=>Sl.kU (enc:=NV.cells) (sz:=6) ((ha).ay hS.ext).at_ (fun _=>rfl) hkl rfl)) ?_
   refine aw bd ?_;refine ai ?_;refine gE ?_
   refine gT func141 fun w' hS=>?_
   exact ⟨hS.ext,by rw [j8];congr 1;rw [Bool.eq_iff_iff,beq_iff_eq,decide_eq_true_eq,eG,hnd];omega⟩
  have h4:¬n.op=4:=by simpa using hc
  refine gK (dO (gS (gR ?_)));refine ai ?_;refine gE ?_
  refine gT func141 fun w' hS=>?_
  exact ⟨hS.ext,by rw [decide_eq_false (show ¬eG b n from by unfold eG;omega)];rfl⟩
set_option maxRecDepth 4000 in
theorem AM (a:Option Addr) (ca:Nat) (b:List NV) (w:World) (ha:FA w a b) (hl:b.length≤maxLen):Cn Tryz.prog 97 [.slice a b.length ca] w (fun v _=>v=.int .i64 (ko b)):=by
  refine Cn.of func97 rfl rfl ?_
  refine gS (gR ?_);refine ai ?_;refine gE (gS (gS (gR ?_)));refine ah ?_
  refine gP rfl rfl rfl rfl rfl call54 (fun w _ hS=>(by exact fV a ca b w (ha.ay hS.ext) hl)) ?_
  refine ai ?_;refine gE (gS (gR ?_));refine ah ?_;refine aw gJ ?_;refine gE ?_
  refine gC (fun hc=>?_) fun hc=>?_
  ·
   have h1:aW b≠0:=by simpa using hc
   refine gS (gR ?_);refine ah ?_;refine ai ?_;refine gE ?_
   refine gT func97 fun w' hS=>?_
   exact ⟨hS.ext,by rw [ko,if_pos h1];rfl⟩
  have h1:aW b=0:=by simpa using hc
  refine gK (gS (gS (gR ?_)));refine ah ?_;refine dM Jr ?_;refine aw vf ?_;refine gE ?_
  refine gC (fun hc=>?_) fun hc=>?_
  ·
   have h2:64<b.length:=by simp at hc;omega
   refine gS (gR ?_);refine ai ?_;refine gE ?_
   refine gT func97 fun w' hS=>?_
   exact ⟨hS.ext,by rw [ko,if_neg (by simp [h1]),if_pos h2];rfl⟩
  have h2:¬64<b.length:=by simp at hc;omega
  have hO:=(aA.1 h1).nodes
  refine gK (gS (gS (gR ?_)));refine ah ?_;refine dM Jr ?_;refine ah ?_;refine gE (gB ?_)
  refine ab.loop (σ:=Nat) (fun k=>[(0,.slice a b.length ca),(14,.slice a b.length ca),(15,.int .i64 b.length),(16,.int .i64 k)]) (fun _=>[]) (fun k=>k≤b.length∧∀(j:Nat) (hj:j<b.length),j<k→eG b b[j]) (fun k=>b.length - k) 0 ⟨Nat.zero_le _,fun j _ h=>absurd h (Nat.not_lt_zero _)⟩ ⟨rfl,rfl,rfl,rfl,trivial⟩ .slnil (fun k hI IH=>?_)
  obtain ⟨hk,hpre⟩:=hI
  refine gS (gR ?_);refine aw iX ?_;refine gE (gS ?_)
  refine gC (fun hc=>?_) fun hc=>?_
  ·
   have hlt:k<b.length:=by simpa using hc
   refine gK (gS (gB (gS (gR ?_))))
   refine ab.v (ae.ed rfl rfl rfl rfl rfl Jr Jm ⟨_,(ha).at_⟩ (ax (enc:=NV.cells) (sz:=6) (fun _=>rfl)) (by decide) (k) ⟨rfl,hlt⟩) ?_
   refine ab.v (ae.nV (cs:=NV.cells b[k]) rfl rfl rfl rfl JD Jm (fun w _ hS=>Sl.many (enc:=NV.cells) (sz:=6) (ha.ay hS.ext).at_ (fun _=>rfl) hlt)) ?_
   refine ab.eO rfl rfl rfl (fun _=>JA _) (fun b5=>?_)
   refine ab.dF rfl rfl rfl rfl Jm 0 rfl rfl rfl rfl ?_
   refine gE (gS (gR ?_));refine ah ?_
   refine ab.v (ae.iA rfl rfl rfl rfl JD 0 rfl Jm rfl) ?_
   refine gP rfl rfl rfl rfl rfl call141 (fun w _ hS=>(by exact wz a ca b b[k] w (ha.ay hS.ext) (fun h4=>by have:=(hO k hlt).x (by rw [h4];rfl);omega))) ?_
   refine eZ bG ?_;refine gE ?_
   refine gC (fun hc=>?_) fun hc=>?_
   ·
    have hn:¬eG b b[k]:=by simpa using hc
    refine gS (gR ?_);refine ai ?_;refine gE ?_
    refine gT func97 fun w' hS=>?_
    exact ⟨hS.ext,by rw [ko,if_neg (by simp [h1]),if_neg h2,if_neg (fun h=>hn (h _ (List.getElem_mem hlt)))];rfl⟩
   have hn:eG b b[k]:=by simpa using hc
   refine gK (dO (gR ?_));refine db rfl rfl rfl rfl (cz (by omega)) ?_;refine ah ?_;refine gE ?_
   refine IH (k+1) _ _ ⟨hlt,fun j hj hjk=>?_⟩ (by omega) ⟨rfl,rfl,rfl,rfl,trivial⟩ (List.nil_sublist _)
   by_cases e:j=k
   · subst e;exact hn
   exact hpre j hj (by omega)
  have hge:¬k<b.length:=by simpa using hc
  refine ab.exit rfl (gS (gR ?_))
  refine ai ?_;refine gE ?_
  refine gT func97 fun w' hS=>?_
  exact ⟨hS.ext,by rw [ko,if_neg (by simp [h1]),if_neg h2,if_pos (fun n hn=>by
  obtain ⟨j,hj,rfl⟩:=List.mem_iff_getElem.1 hn
  exact hpre j hj (by omega))];rfl⟩
theorem vF {t:Tr} {o:List NV} {e:Int} (ht:t.ok) (h:Gn (bT (aE t)) o e):o=bT (fg t):=by
 by_cases hf:Fit (aE t)
 ·have hc:=Cf.yt (bA ht) (p3.1 hf)
  rcases h with ⟨h1,_⟩|⟨_,h2,_⟩
  ·exact absurd hc.jD h1
  rw [h2,hc.top,pH hf]
  show bT (if (4:Int)=4 then ((aN t).2,(aN t).1) else _).1=_
  rw [if_pos rfl]
 have hb:bT (aE t)=[]:=Classical.byContradiction fun h=>hf (p3.2 h)
 rw [fg,if_neg hf,hb]
 rcases h with ⟨_,h2,_⟩|⟨h1,_⟩
 ·exact h2
 rw [hb] at h1;exact absurd h1 (by decide)
theorem zL (t:Tr):(bT t).length≤maxLen:=by
 unfold bT maxLen
 split
 ·simp
 omega
theorem C2 (x:FV) (t:Tr) (w:World) (ha:FA w x.a x.f) (hf:x.f=bT t) (ht:t.ok):Cn Tryz.prog 98 [x.v] w (fun v w'=>aH 66 w w' v (bT (fg t))):=by
 refine Cn.of func98 rfl rfl ?_
 refine gS (gR ?_);refine ai ?_;refine gE (gS (gR ?_));refine ah ?_
 refine gM rfl rfl rfl rfl rfl JJ (fun w _ hS=>(by exact fL x t w (ha.ay hS.ext) hf ht)) ?_
 rintro v w1 w2 Y' hS he ho
 obtain ⟨q,cap,sp,rfl,hq,ao,hS'⟩:=ak hS he ho
 refine ⟨_,hS',?_⟩
 refine gM rfl rfl rfl rfl rfl call23 (fun w _ hS=>(by exact Cm (q.map (fun b=>⟨b,0,none⟩)) cap (bT (aE t)) w (aL hS 0 rfl (fun e=>(hq e).1)) (zL _))) ?_
 rintro v w1 w2 Y' hS he ⟨sv,o,e,rfl,ho,hN⟩
 obtain rfl:=vF ht hN
 obtain ⟨q2,jV,oY,rfl,hq2,gO,hS'⟩:=ak hS he ho
 refine ⟨_,hS',?_⟩
 refine ah ?_
 iterate 2 refine fZ ?_
 iterate 2 refine ai ?_
 refine gE (gS (gR ?_));refine ah ?_;refine ai ?_;refine gE ?_
 refine gT func98 fun w' hS=>?_
 exact ⟨hS.ext,aH.mk hS 0 rfl rfl hq2 gO⟩
end Go.Proofs.YtnfmegcknckahaaGreatDoor
namespace Go.Proofs.YtnfmegcknckahaaGreatDoor
open Go.RowKit Go.Proofs.Wit Tryz
theorem wv {b:List NV} (hb:aX b) {i:Nat} (hi:i<b.length):fz b (i:Int)=bT (aa b i)∧Cf (bT (aa b i)) (aa b i):=by
 have hc:Cf (bT (aa b i)) (aa b i):=Cf.yt (hb.ok hi) (p3.1 (hb.fit hi).2)
 refine ⟨?_,hc⟩
 rw [hc.can.1,fz,if_neg (by rw [hb.jD];omega),Int.toNat_natCast]
set_option maxRecDepth 8000 in
theorem sV (a:Option Addr) (ca:Nat) (b:List NV) (w:World) (ha:FA w a b) (hb:aX b):
    Cn Tryz.prog 62 [.slice a b.length ca] w (fun v w'=>∃gs,z6 66 22 w w' v gs∧gs.map FV.f=(List.range b.length).map (fun i=>bT (aa b i))):=by
  obtain ⟨i1,hi1,hz1,hsz1,hby1⟩:=info_parts yW
  have hlen:=hb.len
  refine Cn.of func62 rfl rfl ?_
  refine gS (gR ?_);refine ai ?_;refine gE (gS (gR ?_));refine ai ?_;refine gE (gS (gS (gR ?_)));refine ah ?_;refine dM Jr ?_;refine ah ?_;refine gE (gB ?_)
  refine ab.cJ (ob FV.v 22 [] []) ?_
  refine ab.loop (σ:=Nat×Option Nat×Nat×List FV×List Value×Hl) (fun z=>[(0,.slice a b.length ca),(3,cQ z.2.1 z.2.2.2.1.length z.2.2.1),(6,.int .i64 b.length),(7,.int .i64 z.1)])
    (fun z=>[(z.2.1,ob FV.v 22 z.2.2.2.1 z.2.2.2.2.1)]++z.2.2.2.2.2)
    (fun z=>z.1≤b.length∧(z.2.1=none→z.2.2.2.1.length=0∧z.2.2.1=0)∧(z.2.2.2.1.map FV.v++z.2.2.2.2.1).length=z.2.2.1∧(∀g∈z.2.2.2.1,g.In 66 z.2.2.2.2.2)∧z.2.2.2.1.map FV.f=(List.range z.1).map (fun i=>bT (aa b i)))
    (fun z=>b.length - z.1) (0,none,0,[],[],[]) ⟨Nat.zero_le _,fun _=>⟨rfl,rfl⟩,rfl,(fun _ h=>by cases h),rfl⟩ ⟨rfl,rfl,rfl,rfl,trivial⟩ (List.Sublist.refl _) (fun z hI IH=>?_)
  obtain ⟨k,q,cap,gs,sp,H⟩:=z
  obtain ⟨hk,hq,ao,hin,hgs⟩:=hI
  dsimp only at hk hq ao hin hgs IH⊢
  have hgl:gs.length=k:=by
    have h1:=congrArg List.length hgs
    simpa using h1
  refine gS (gR ?_);refine aw iX ?_;refine gE (gS ?_)
  refine gC (fun hc=>?_) fun hc=>?_
  ·
   have hlt:k<b.length:=by simp at hc;omega
   obtain ⟨hsb,hcf⟩:=wv hb hlt
   refine gK (gS (gB (gS (gR ?_))));refine ah ?_;refine ai ?_;refine gE (gR ?_)
   iterate 3 refine ah ?_
   refine gM rfl rfl rfl rfl rfl call86 (fun w _ hS=>(by exact iK a ca b (k:Int) w (ha.ay hS.ext) (by unfold maxLen;omega))) ?_
   rintro v w1 w2 Y' hS he ho
   rw [hsb] at ho
   obtain ⟨qf,capf,spf,rfl,hqf,hcapf,hS'⟩:=ak hS he ho
   refine ⟨_,hS',?_⟩
   refine ab.ew (c:=[_]) rfl rfl rfl rfl Jy Js JF rfl rfl (fun b14=>?_)
   refine ab.nC FV.v (news:=[⟨qf.map (fun b=>⟨b,0,none⟩),capf,bT (aa b k)⟩]) (spn:=[]) (xs:=gs) (sp:=sp) (q:=q) rfl rfl rfl rfl rfl Jy hi1 hz1 hsz1 rfl hq 2 rfl 0 rfl ao rfl (by decide) (fun _=>rfl) (by simp [maxLen];omega) (by simp [hby1];omega) (fun b' sp' cap' hlen=>?_)
   refine ai ?_;refine gE (dO (gR ?_));refine db rfl rfl rfl rfl (cz (by omega)) ?_;refine ah ?_;refine gE ?_
   refine ab.aS (pre:=[_,_,_]) (pre':=[_,_]) H [2,1] (by decide) rfl ?_
   refine IH (k+1,some b',cap',gs++[⟨qf.map (fun b=>⟨b,0,none⟩),capf,bT (aa b k)⟩],sp',(qf,eW 66 (bT (aa b k)) spf)::H) _ _ ⟨hlt,(fun e=>by cases e),hlen,fun g hg=>?_,?_⟩ (by dsimp only;omega) ⟨rfl,rfl,rfl,rfl,trivial⟩ (List.Sublist.refl _)
   · rcases List.mem_append.1 hg with hg|hg
     · exact (hin g hg).mono (List.subset_cons_self _ _)
     · rw [List.mem_singleton.1 hg];exact ⟨qf,spf,List.mem_cons_self ..,rfl,hqf,hcapf⟩
   dsimp only;rw [List.map_append,hgs,List.range_succ,List.map_append];rfl
  have hge:¬k<b.length:=by simp at hc;omega
  obtain rfl:k=b.length:=by omega
  refine ab.exit rfl (gS (gR ?_))
  refine ah ?_;refine ai ?_;refine gE ?_
  refine gT func62 fun w' hS=>?_
  exact ⟨hS.ext,gs,z6.mk hS (List.Sublist.refl _) hq ao hin,hgs⟩
theorem Ec (bg:Nat) (x g:FV) (w:World) (hb:w.heap[bg]?=some (.cells #[g.v] 22 (0,0))) (hg:FA w g.a g.f) (hx:FA w x.a x.f) (hl:g.f.length≤maxLen):
  Cn Tryz.prog 100 [x.v,.pointer (some ⟨bg,0,none⟩)] w (fun v _=>v=.bool (decide (g.f=x.f))):=by
 have HB:∀{w':World} {j:Nat} {u:Value},Ex [] w w'→(#[g.v]:Array Value)[j]?=some u→w'.cell? ⟨bg,j,none⟩=some u:=fun e h=>Ex.cell e hb h
 refine Cn.of func100 rfl rfl ?_
 refine gS (gR ?_);refine ai ?_;refine gE (gS (gR ?_))
 refine ab.v (ae.ld (p:=⟨bg,0,none⟩) rfl rfl rfl rfl Jx (fun w _ hS=>HB hS.ext rfl)) ?_
 refine ah ?_
 refine gP rfl rfl rfl rfl rfl call61 (fun w _ hS=>(by exact sW g.a g.c g.f x.a x.c x.f w (hg.ay hS.ext) (hx.ay hS.ext) hl)) ?_
 refine ai ?_;refine gE ?_
 refine gT func100 fun w' hS=>?_
 exact ⟨hS.ext,rfl⟩
theorem FD (bg:Nat) (g:FV) (a:Option Addr) (ca:Nat) (xs:List FV) (w:World) (ha:qM w a xs) (hl:xs.length≤maxLen) (hfa:∀x∈xs,FA w x.a x.f) (hb:w.heap[bg]?=some (.cells #[g.v] 22 (0,0))) (hg:FA w g.a g.f) (hgl:g.f.length≤maxLen):
    Cn Tryz.prog 99 [.slice a xs.length ca,.func (.func 100) ([]:List Value).toArray ([.pointer (some ⟨bg,0,none⟩)]:List Value).toArray] w (fun v _=>∃j:Int,v=.int .i64 j∧((j=-1∧∀x∈xs,g.f≠x.f)∨∃(k:Nat) (x:FV),j=k∧xs[k]?=some x∧g.f=x.f∧∀i y,i<k→xs[i]?=some y→g.f≠y.f)):=by
  have hl':=hl
  unfold maxLen at hl'
  refine Cn.of func99 rfl rfl ?_
  refine gS (gR ?_);refine ai ?_;refine gE (gS (gS (gR ?_)));refine ah ?_;refine dM Jy ?_;refine ah ?_;refine gE (gB ?_)
  refine ab.loop (σ:=Nat) (fun k=>[(0,.slice a xs.length ca),(1,.func (.func 100) ([]:List Value).toArray ([.pointer (some ⟨bg,0,none⟩)]:List Value).toArray),(7,.int .i64 xs.length),(8,.int .i64 k)]) (fun _=>[])
    (fun k=>k≤xs.length∧∀i y,i<k→xs[i]?=some y→g.f≠y.f) (fun k=>xs.length - k) 0 ⟨Nat.zero_le _,fun i y hi=>by omega⟩ ⟨rfl,rfl,rfl,rfl,trivial⟩ .slnil (fun k hI IH=>?_)
  obtain ⟨hk,hno⟩:=hI
  refine gS (gR ?_);refine aw iX ?_;refine gE (gS ?_)
  refine gC (fun hc=>?_) fun hc=>?_
  ·
   have hlt:k<xs.length:=by simpa using hc
   refine gK (gS (gB (gS (gR ?_))));refine ah ?_;refine ai ?_;refine gE (gS (gR ?_))
   iterate 3 refine ah ?_
   refine ab.v (ae.idx rfl rfl rfl rfl rfl Jy Js ⟨_,ha⟩ (by simp) (k) ⟨rfl,by simpa using hlt⟩) ?_
   refine ab.v (ae.ld rfl rfl rfl rfl Jx (fun w _ hS=>(qM.ay ha hS.ext).at (k) hlt)) ?_
   refine ab.u6 (fs:=[]) rfl rfl rfl rfl rfl (fun _ _=>call100 _ _) (fun w _ hS=>by exact Ec bg xs[k] g w (hS.ext.gH hb) (hg.ay hS.ext) ((hfa _ (List.getElem_mem hlt)).ay hS.ext) hgl) ?_
   refine gE ?_
   refine gC (fun hc=>?_) fun hc=>?_
   ·
    have he:g.f=xs[k].f:=by simpa using hc
    refine gS (gR ?_);refine ah ?_;refine ai ?_;refine gE ?_
    refine gT func99 fun w' hS=>?_
    exact ⟨hS.ext,_,rfl,.inr ⟨k,xs[k],rfl,List.getElem?_eq_getElem hlt,he,hno⟩⟩
   have he:¬g.f=xs[k].f:=by simpa using hc
   refine gK (dO (gR ?_));refine db rfl rfl rfl rfl (cz (by omega)) ?_;refine ah ?_;refine gE ?_
   exact IH (k+1) _ _ ⟨hlt,fun i y hi hy=>by
   by_cases e:i=k
   · subst e;rw [List.getElem?_eq_getElem hlt] at hy;cases hy;exact he
   exact hno i y (by omega) hy⟩ (by omega) ⟨rfl,rfl,rfl,rfl,trivial⟩ .slnil
  have hge:¬k<xs.length:=by simpa using hc
  obtain rfl:k=xs.length:=by omega
  refine ab.exit rfl (gS (gR ?_))
  refine ai ?_;refine gE ?_
  refine gT func99 fun w' hS=>?_
  exact ⟨hS.ext,_,rfl,.inl ⟨rfl,fun x hx=>by
  obtain ⟨i,hi,e⟩:=List.mem_iff_getElem.1 hx
  exact hno i x hi (by rw [List.getElem?_eq_getElem hi,e])⟩⟩
theorem jg {b:List NV} {i:Nat}:tA b (i:Int)=aa b i:=by unfold tA;rw [Int.toNat_natCast]
/-- the search gives the negation -/
theorem Du {b:List NV} (hb:aX b) {i:Nat} (hi:i<b.length) {gs:List FV} {gf:List NV} (hg:gf=bT (fg (aa b i))) (hgs:gs.map FV.f=(List.range b.length).map (fun i=>bT (aa b i))) {j:Int} (h:(j=-1∧∀x∈gs,gf≠x.f)∨∃(k:Nat) (x:FV),j=k∧gs[k]?=some x∧gf=x.f∧∀i y,i<k→gs[i]?=some y→gf≠y.f):j=jC b i:=by
 have hlen:gs.length=b.length:=by have:=congrArg List.length hgs;simpa using this
 have hat:∀(k:Nat) (hk:k<gs.length),gs[k].f=bT (aa b k):=fun k hk=>by
  have h1:(gs.map FV.f)[k]?=some gs[k].f:=by rw [List.getElem?_map,List.getElem?_eq_getElem hk];rfl
  rw [hgs,List.getElem?_map,List.getElem?_range (by omega)] at h1
  exact (Option.some.inj h1).symm
 have hokO:=pG (hb.ok hi)
 have heq:∀k,k<b.length→(gf=bT (aa b k)↔aa b k=fg (aa b i)):=fun k hk=>by
  have hc:=(wv hb hk).2
  rw [hg]
  constructor
  ·intro e
   have hne:bT (fg (aa b i))≠[]:=by rw [e];exact hc.ne
   have h2:=(Cf.yt hokO hne).top
   rw [e,hc.top] at h2;exact h2
  intro e;rw [e]
 rcases h with ⟨rfl,h⟩|⟨k,x,rfl,h1,h2,h3⟩
 ·refine (wP (fun k hk e=>?_)).symm
  have hkg:k<gs.length:=by omega
  rw [jg] at e
  exact h gs[k] (List.getElem_mem hkg) (((heq k hk).2 e).trans (hat k hkg).symm)
 obtain ⟨hk,rfl⟩:=List.getElem?_eq_some_iff.1 h1
 have hkb:k<b.length:=by omega
 refine (qY hkb (by rw [jg];exact (heq k hkb).1 (h2.trans (hat k hk))) (fun j hj e=>?_)).symm
 rw [jg] at e
 have hjb:j<b.length:=by omega
 have hjg:j<gs.length:=by omega
 exact h3 j gs[j] hj (List.getElem?_eq_getElem hjg) (((heq j hjb).2 e).trans (hat j hjg).symm)
end Go.Proofs.YtnfmegcknckahaaGreatDoor
namespace Go.Proofs.YtnfmegcknckahaaGreatDoor
open Go.RowKit Go.Proofs.Wit Tryz
set_option maxRecDepth 8000 in
theorem pA (l:Int) (a:Option Addr) (ca:Nat) (b:List NV) (s:aB) (ag:Int) (w:World) (ha:FA w a b) (hb:aX b):
    Cn Tryz.prog 147 [.int .i64 l,.slice a b.length ca,U s,.int .i64 ag] w (fun v _=>v=U (lG l b s ag)):=by
  have hlen:=hb.len
  refine Cn.of func147 rfl rfl ?_
  refine gS (gR ?_)
  refine ab.v (ae.fD (v:=U 0#64) rfl rfl rfl rfl) ?_
  refine gE (gS ?_)
  refine ab.mK (α:={p:Bool // p=true↔tE l}) []
    (fun z=>[(0,.int .i64 l),(1,.slice a b.length ca),(2,U s),(3,.int .i64 ag),(9,.bool z.1)])
    (fun z=>[]) (fun z=>?_) (fun K=>?_)
  · -- what comes behind the region
   obtain ⟨tr,htr⟩:=z
   dsimp only at htr⊢
   refine gE (gS ?_)
   refine ab.mK (α:={p:Bool // p=true↔uY l}) []
     (fun z=>[(0,.int .i64 l),(1,.slice a b.length ca),(2,U s),(3,.int .i64 ag),(9,.bool tr),(10,.bool z.1)])
     (fun z=>[]) (fun z=>?_) (fun K=>?_)
   · -- what comes behind the region
    obtain ⟨eu,heu⟩:=z
    dsimp only at heu⊢
    refine gE (gS (gR ?_))
    refine ab.v (ae.fD (v:=U 0#64) rfl rfl rfl rfl) ?_
    refine gE (gS (gS (gR ?_)));refine ah ?_;refine dM Jr ?_;refine ah ?_;refine gE (gB ?_)
    refine ab.loop (σ:=Nat) (fun k=>[(2,U s),(3,.int .i64 ag),(9,.bool tr),(10,.bool eu),(11,U (lF l b s ag k)),(34,.slice a b.length ca),(35,.int .i64 b.length),(36,.int .i64 k)]) (fun _=>[]) (fun k=>k≤b.length) (fun k=>b.length - k) 0 (Nat.zero_le _) ⟨rfl,rfl,rfl,rfl,rfl,rfl,rfl,rfl,trivial⟩ .slnil (fun k hk IH=>?_)
    refine gS (gR ?_);refine aw iX ?_;refine gE (gS ?_)
    refine gC (fun hc=>?_) fun hc=>?_
    ·
     have hlt:k<b.length:=by simpa using hc
     have hnd:nd b k=b[k]:=dH hlt
     have hstep:lF l b s ag (k+1)=if eT s k=true∧b[k].i=ag then lF l b s ag k|||xi l b k else lF l b s ag k:=by rw [lF,hnd]
     have hcn:xi l b k=(if b[k].op=9 then bW b[k].x else 0#64)|||(if (b[k].op=9∧tE l)∨(b[k].op=10∧uY l) then bW k else 0#64):=by rw [xi,hnd]
     have hx9:b[k].op=9→0≤b[k].x∧b[k].x<k:=fun h=>by have:=hb.x hlt (by rw [hnd];omega);rw [hnd] at this;exact this
     have hbk:bW (k:Int)=1#64<<<k:=by unfold bW;rw [Int.toNat_natCast]
     refine gK (gS (gB (gS (gR ?_))));refine ah ?_
     refine ab.v (ae.ed rfl rfl rfl rfl rfl Jr Jm ⟨_,(ha).at_⟩ (ax (enc:=NV.cells) (sz:=6) (fun _=>rfl)) (by decide) (k) ⟨rfl,hlt⟩) ?_
     refine ab.v (ae.nV (cs:=NV.cells b[k]) rfl rfl rfl rfl JD Jm (fun w _ hS=>Sl.many (enc:=NV.cells) (sz:=6) (ha.ay hS.ext).at_ (fun _=>rfl) hlt)) ?_
     refine ab.eO rfl rfl rfl (fun _=>JA _) (fun b13=>?_)
     refine ai ?_
     refine ab.dF rfl rfl rfl rfl Jm 0 rfl rfl rfl rfl ?_
     refine gE (gS (gS (gR ?_)))
     iterate 2 refine ah ?_
     refine gP rfl rfl rfl rfl rfl call63 (fun w _ hS=>(by exact py s (k:Int) w)) ?_
     refine eZ bG ?_;refine ah ?_
     refine eC 45 (fun hc=>?_) fun hc=>?_
     ·
      have hh:¬eT s k=true:=by simpa using hc
      iterate 4 refine cD ?_
      refine cF ?_;refine gE (ab.bV rfl (ab.exit rfl (gR ?_)));refine db rfl rfl rfl rfl (cz (by omega)) ?_;refine ah ?_;refine gE ?_
      exact IH (k+1) _ _ hlt (by omega) ⟨rfl,rfl,rfl,rfl,(by rw [hstep,if_neg (fun h=>hh h.1)];rfl),rfl,rfl,rfl,trivial⟩ (List.nil_sublist _)
     have hh:eT s k=true:=by simpa using hc
     refine al Jk Ji 1 ?_;refine aq Jj 0 ?_;refine ah ?_;refine aw gJ ?_;refine bB ?_;refine gE ?_
     refine gC (fun hc=>?_) fun hc=>?_
     ·
      have hi:¬b[k].i=ag:=by simpa using hc
      refine ab.exit rfl (gR ?_)
      refine db rfl rfl rfl rfl (cz (by omega)) ?_;refine ah ?_;refine gE ?_
      exact IH (k+1) _ _ hlt (by omega) ⟨rfl,rfl,rfl,rfl,(by rw [hstep,if_neg (fun h=>hi h.2)];rfl),rfl,rfl,rfl,trivial⟩ (List.nil_sublist _)
     have hi:b[k].i=ag:=by simpa using hc
     have hp:=(⟨hh,hi⟩:eT s k=true∧b[k].i=ag)
     refine gK (gB (gS (gR ?_)));refine al Jk Ji 0 ?_;refine aq Jj 0 ?_;refine aw bd ?_;refine ah ?_
     refine eC 55 (fun hc=>?_) fun hc=>?_
     ·
      have h9:b[k].op=9:=by simpa using hc
      obtain ⟨x0,x1⟩:=hx9 h9
      have hbx:bW b[k].x=1#64<<<b[k].x.toNat:=rfl
      refine ah ?_;refine cF ?_;refine ai ?_;refine gE ?_
      refine gC (fun hc=>?_) fun hc=>?_
      ·
       have ht:tE l:=htr.1 hc
       refine ab.draw 8 mixed rfl ?_
       refine mO ?_;refine mP Jk Ji 4 ?_;refine xt Jj 0 ?_
       refine aM.v (ae.bin (a:=U 1#64) rfl rfl rfl rfl (lY b[k].x.toNat (by omega)) rfl) ?_
       refine mO ?_
       refine aM.v (ae.bin (a:=U 1#64) rfl rfl rfl rfl (lY k rfl) rfl) ?_
       iterate 2 refine C7 qv ?_
       refine aM.nil ?_
       refine ai ?_;refine gE (dO (dO (gR ?_)));refine db rfl rfl rfl rfl (cz (by omega)) ?_;refine ah ?_;refine gE ?_
       exact IH (k+1) _ _ hlt (by omega) ⟨rfl,rfl,rfl,rfl,(by rw [hstep,if_pos hp,hcn,if_pos h9,if_pos (.inl ⟨h9,ht⟩),hbk,hbx];rfl),rfl,rfl,rfl,trivial⟩ (List.nil_sublist _)
      have ht:¬tE l:=fun h=>by have:=htr.2 h;rw [show tr=false from hc] at this;cases this
      refine gS (gR ?_);refine al Jk Ji 0 ?_;refine aq Jj 0 ?_;refine aw bd ?_;refine ai ?_;refine gE ?_
      refine gC (fun hc=>?_) fun hc=>?_
      ·
       skip
       refine gR ?_;refine ah ?_;refine al Jk Ji 4 ?_;refine aq Jj 0 ?_
       refine ab.v (ae.bin (a:=U 1#64) rfl rfl rfl rfl (lY b[k].x.toNat (by omega)) rfl) ?_
       refine aw qv ?_;refine ai ?_;refine gE (dO (dO (gR ?_)));refine db rfl rfl rfl rfl (cz (by omega)) ?_;refine ah ?_;refine gE ?_
       exact IH (k+1) _ _ hlt (by omega) ⟨rfl,rfl,rfl,rfl,(by rw [hstep,if_pos hp,hcn,if_pos h9,if_neg (fun h=>by rcases h with h|h;exact ht h.2;omega),hbx,BitVec.or_zero];rfl),rfl,rfl,rfl,trivial⟩ (List.nil_sublist _)
      have e9:¬b[k].op=9:=by simpa using hc
      exact absurd h9 e9
     have h9:¬b[k].op=9:=by simpa using hc
     refine cD ?_;refine bB ?_;refine ai ?_;refine gE (ab.gD rfl (gS (gR ?_)));refine al Jk Ji 0 ?_;refine aq Jj 0 ?_;refine aw bd ?_;refine ai ?_;refine gE ?_
     refine gC (fun hc=>?_) fun hc=>?_
     ·
      have e9:b[k].op=9:=by simpa using hc
      exact absurd e9 h9
     skip
     refine gS (gR ?_);refine al Jk Ji 0 ?_;refine aq Jj 0 ?_;refine aw bd ?_;refine ah ?_
     refine eC 79 (fun hc=>?_) fun hc=>?_
     ·
      have h10:b[k].op=10:=by simpa using hc
      refine ah ?_;refine cF ?_;refine ai ?_;refine gE ?_
      refine gC (fun hc=>?_) fun hc=>?_
      ·
       have ht:uY l:=heu.1 hc
       refine gR ?_
       iterate 2 refine ah ?_
       refine ab.v (ae.bin (a:=U 1#64) rfl rfl rfl rfl (lY k rfl) rfl) ?_
       refine aw qv ?_;refine ai ?_;refine gE (dO (dO (gR ?_)));refine db rfl rfl rfl rfl (cz (by omega)) ?_;refine ah ?_;refine gE ?_
       exact IH (k+1) _ _ hlt (by omega) ⟨rfl,rfl,rfl,rfl,(by rw [hstep,if_pos hp,hcn,if_neg h9,if_pos (.inr ⟨h10,ht⟩),hbk,BitVec.zero_or];rfl),rfl,rfl,rfl,trivial⟩ (List.nil_sublist _)
      have ht:¬uY l:=fun h=>by have:=heu.2 h;rw [show eu=false from hc] at this;cases this
      refine gK (dO (dO (gR ?_)));refine db rfl rfl rfl rfl (cz (by omega)) ?_;refine ah ?_;refine gE ?_
      exact IH (k+1) _ _ hlt (by omega) ⟨rfl,rfl,rfl,rfl,(by rw [hstep,if_pos hp,hcn,if_neg h9,if_neg (fun h=>by rcases h with h|h;exact h9 h.1;exact ht h.2),BitVec.or_zero,BitVec.or_zero];rfl),rfl,rfl,rfl,trivial⟩ (List.nil_sublist _)
     have h10:¬b[k].op=10:=by simpa using hc
     refine cD ?_;refine bB ?_;refine ai ?_;refine gE (ab.gD rfl (gK (dO (dO (gR ?_)))));refine db rfl rfl rfl rfl (cz (by omega)) ?_;refine ah ?_;refine gE ?_
     exact IH (k+1) _ _ hlt (by omega) ⟨rfl,rfl,rfl,rfl,(by rw [hstep,if_pos hp,hcn,if_neg h9,if_neg (fun h=>by rcases h with h|h;exact h9 h.1;exact h10 h.1),BitVec.or_zero,BitVec.or_zero];rfl),rfl,rfl,rfl,trivial⟩ (List.nil_sublist _)
    have hge:¬k<b.length:=by simpa using hc
    obtain rfl:k=b.length:=by omega
    refine ab.exit rfl (gS (gR ?_))
    refine ah ?_;refine ai ?_;refine gE ?_
    refine gT func147 fun w' hS=>?_
    exact ⟨hS.ext,rfl⟩
   · -- the region
    refine gR ?_;refine ah ?_;refine aw bd ?_;refine ah ?_
    refine eC 30 (fun hc=>?_) fun hc=>?_
    ·
     have e5:l=5:=by simpa using hc
     iterate 2 refine cD ?_
     refine cF ?_;refine ai ?_
     exact K ⟨true,by unfold uY;simp;omega⟩ _ _ sF (fun _ _ hS=>hS)
    have e5:¬l=5:=by simpa using hc
    refine ah ?_;refine aw bd ?_;refine bB ?_;refine ai ?_
    exact K ⟨l==6,by unfold uY;simp;omega⟩ _ _ sF (fun _ _ hS=>hS)
  · -- the region
   refine gR ?_;refine ah ?_;refine aw bd ?_;refine ah ?_
   refine eC 16 (fun hc=>?_) fun hc=>?_
   ·
    have e3:l=3:=by simpa using hc
    iterate 2 refine cD ?_
    refine cF ?_;refine ah ?_
    iterate 2 refine cD ?_
    refine cF ?_;refine ah ?_
    iterate 2 refine cD ?_
    refine cF ?_;refine ai ?_
    exact K ⟨true,by unfold tE;simp;omega⟩ _ _ sF (fun _ _ hS=>hS)
   have e3:¬l=3:=by simpa using hc
   refine ah ?_;refine aw bd ?_;refine bB ?_;refine ah ?_
   refine eC 20 (fun hc=>?_) fun hc=>?_
   ·
    have e4:l=4:=by simpa using hc
    iterate 2 refine cD ?_
    refine cF ?_;refine ah ?_
    iterate 2 refine cD ?_
    refine cF ?_;refine ai ?_
    exact K ⟨true,by unfold tE;simp;omega⟩ _ _ sF (fun _ _ hS=>hS)
   have e4:¬l=4:=by simpa using hc
   refine ah ?_;refine aw bd ?_;refine bB ?_;refine ah ?_
   refine eC 24 (fun hc=>?_) fun hc=>?_
   ·
    have e5:l=5:=by simpa using hc
    iterate 2 refine cD ?_
    refine cF ?_;refine ai ?_
    exact K ⟨true,by unfold tE;simp;omega⟩ _ _ sF (fun _ _ hS=>hS)
   have e5:¬l=5:=by simpa using hc
   refine ah ?_;refine aw bd ?_;refine bB ?_;refine ai ?_
   exact K ⟨l==6,by unfold tE;simp;omega⟩ _ _ sF (fun _ _ hS=>hS)
end Go.Proofs.YtnfmegcknckahaaGreatDoor
