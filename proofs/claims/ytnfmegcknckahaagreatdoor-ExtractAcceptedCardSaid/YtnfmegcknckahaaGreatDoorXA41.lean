/- What calls of the program return, under the conditions that each theorem states. -/
import Derived.Test.YtnfmegcknckahaaGreatDoorXA37
import Derived.Test.YtnfmegcknckahaaGreatDoorXA20
import Derived.Test.YtnfmegcknckahaaGreatDoorXA24
import Derived.Test.YtnfmegcknckahaaGreatDoorXA25
import Derived.Test.YtnfmegcknckahaaGreatDoorXA04
import Derived.Test.YtnfmegcknckahaaGreatDoorXA02
import Derived.Test.YtnfmegcknckahaaGreatDoorXA38
import Derived.Test.YtnfmegcknckahaaGreatDoorXA39
import Derived.Test.YtnfmegcknckahaaGreatDoorXA13
import Derived.Test.YtnfmegcknckahaaGreatDoorXA17
import Derived.Test.YtnfmegcknckahaaGreatDoorXA29
import Derived.Test.YtnfmegcknckahaaGreatDoorXA30
import Derived.Test.YtnfmegcknckahaaGreatDoorXA40
import Derived.Test.YtnfmegcknckahaaGreatDoorXA03
namespace Go.Proofs.YtnfmegcknckahaaGreatDoor
open Go.RowKit Go.Proofs.Wit Tryz
theorem DM:(Tryz.prog.info? 41).map (fun i=>(i.zero,i.size,i.bytes))=some (some (.agg #[U 0#64,.int .i64 0,.int .i64 0,.int .i64 0,.slice none 0 0]),5,56):=by kernel_rfl
theorem DL:(Tryz.prog.info? 38).map (fun i=>(i.zero,i.size,i.bytes))=some (some (U 0#64),1,8):=by kernel_rfl
set_option maxRecDepth 8000 in
theorem vi (l:Int) (A:Option Addr) (cA:Nat) (b:List NV) (B:Option Addr) (cB:Nat) (ss:List SV) (w:World) (hA:FA w A b) (hB:ue w B ss) (hok:gZ l b (ec ss)):
    Cn Tryz.prog 36 [.agg (bL l A b.length cA B ss.length cB)] w (fun v w'=>∃v1 v2 os ws,v=.tuple #[v1,v2]∧Gm 66 41 3 w w' l b v1 v2 os ws∧ec os=dB b (ec ss)∧ws.map (fun x=>x.d.set)=cU (ec ss) (ec ss).length):=by
  obtain ⟨i1,hi1,hz1,hsz1,hby1⟩:=info_parts DQ
  obtain ⟨i2,hi2,hz2,hsz2,hby2⟩:=info_parts uP
  obtain ⟨i3,hi3,hz3,hsz3,hby3⟩:=info_parts DM
  obtain ⟨i4,hi4,hz4,hsz4,hby4⟩:=info_parts DL
  obtain ⟨L,hLd⟩:∃L,L=ec ss:=⟨_,rfl⟩
  have hL:L.length=ss.length:=by rw [hLd,cW]
  rw [←hLd] at hok⊢
  have hat:∀{k:Nat} (hk:k<ss.length),L[k]'(by omega)=ss[k].d:=fun hk=>by subst hLd;exact kI hk
  have hp0:=hok.pos
  have hp4:=hok.len
  have hb:=hok.base
  have hco:∀(k:Nat) (hk:k<ss.length),ey l b L k ss[k].d:=fun k hk=>by have:=hok.kX k (by omega);rwa [hat hk] at this
  have hfl:∀(k:Nat) (hk:k<ss.length),ss[k].d.fr.length≤2:=fun k hk=>by
    have h:=(hco k hk).2
    rcases h with ⟨_,e,_⟩|⟨_,_,_,h⟩|⟨_,_,_,h⟩|⟨_,_,_,_,h⟩|⟨_,_,_,_,h⟩|⟨_,_,_,h⟩|⟨_,_,_,_,h⟩
    · rw [e];exact Nat.zero_le _
    all_goals (rw [iy] at h;have:=h.1;simp at this;omega)
  have hfb:∀(k:Nat) (hk:k<L.length),∀j∈L[k].fr,0≤j∧j<k:=fun k hk j hj=>(hok.kX k hk).m8 hj
  have hbl:b.length≤64:=hb.len
  have hb0:0<b.length:=(aA.1 hb.jD).pos
  have hnl:ss.length - 1<ss.length:=by omega
  have hrl:ss.length - 1<(List.replicate ss.length false).length:=by simp;omega
  refine Cn.of func36 rfl rfl ?_
  refine gS (gR ?_)
  refine ab.bx rfl rfl rfl rfl (fun b1=>?_)
  refine ab.eO rfl rfl rfl (fun _=>Kb _) (fun b2=>?_)
  refine ai ?_;refine gE (gS (gR ?_));refine ai ?_;refine gE (gS (gS (gR ?_)));refine al Jv JM 2 ?_;refine aq JO 1 ?_;refine dM JG ?_;refine ah ?_;refine gE (gB ?_)
  refine ab.cJ (ob U 38 [] []) ?_
  refine ab.pick (pre:=[_,_,_]) (pre':=[(some b1,.cells (bL l A b.length cA B ss.length cB) 25 (0,0)),(some b2,.cells (bL 0 none 0 0 none 0 0) 25 (0,0)),(none,ob U 38 (eQ b L 0) [])]) [2,1,0] (by decide) rfl ?_
  refine ab.loop (σ:=Nat×Option Nat×Nat×List Value) (fun z=>[(1,.pointer (some ⟨b1,0,none⟩)),(2,.pointer (some ⟨b2,0,none⟩)),(4,cQ z.2.1 (eQ b L z.1).length z.2.2.1),(18,.slice B ss.length cB),(19,.int .i64 ss.length),(20,.int .i64 z.1)])
    (fun z=>[(some b1,.cells (bL l A b.length cA B ss.length cB) 25 (0,0)),(some b2,.cells (bL 0 none 0 0 none 0 0) 25 (0,0)),(z.2.1,ob U 38 (eQ b L z.1) z.2.2.2)])
    (fun z=>z.1≤ss.length∧(z.2.1=none→(eQ b L z.1).length=0∧z.2.2.1=0)∧((eQ b L z.1).map U++z.2.2.2).length=z.2.2.1)
    (fun z=>ss.length - z.1) (0,none,0,[]) ⟨Nat.zero_le _,fun _=>⟨rfl,rfl⟩,rfl⟩ ⟨rfl,rfl,rfl,rfl,rfl,rfl,trivial⟩ (List.Sublist.refl _) (fun z hZ IH=>?_)
  obtain ⟨k,q,cap,sp⟩:=z
  obtain ⟨hk,hq,ao⟩:=hZ
  dsimp only at hk hq ao IH⊢
  have hul:(eQ b L k).length=k:=lg (by omega)
  refine gS (gR ?_);refine aw iX ?_;refine gE (gS ?_)
  refine gC (fun hc=>?_) fun hc=>?_
  ·
   have hlt:k<ss.length:=by simpa using hc
   have hsu:eQ b L (k+1)=eQ b L k++[jR b ss[k].d (eQ b L k)]:=by rw [lL (by omega),hat hlt]
   refine gK (gS (gB (gS (gR ?_))))
   refine ab.v (ae.ed rfl rfl rfl rfl rfl JG Jw ⟨_,(hB).at_⟩ (ax (enc:=SV.cells) (sz:=5) (fun _=>rfl)) (by decide) (k) ⟨rfl,hlt⟩) ?_
   refine ab.v (ae.nV (cs:=SV.cells ss[k]) rfl rfl rfl rfl J4 Jw (fun w _ hS=>Sl.many (enc:=SV.cells) (sz:=5) (hB.ay hS.ext).at_ (fun _=>rfl) hlt)) ?_
   refine ab.eO rfl rfl rfl (fun _=>Kd _) (fun b6=>?_)
   refine ab.dF rfl rfl rfl rfl Jw 0 rfl rfl rfl rfl ?_
   refine gE (gR ?_);refine ah ?_
   refine ab.v (ae.iA rfl rfl rfl rfl JS 1 rfl Jz rfl) ?_
   refine ab.v (ae.iA rfl rfl rfl rfl J4 0 rfl Jw rfl) ?_
   refine ah ?_
   refine gP rfl rfl rfl rfl rfl call66 (fun w _ hS=>(by exact Ai l A cA b B ss.length cB ss[k] L k (q.map (fun b=>⟨b,0,none⟩)) cap (eQ b L k) w (hA.ay hS.ext) hb ((hB.y5 ss[k] (List.getElem_mem hlt)).1.ay hS.ext) (GD hS 3 rfl (fun e=>(hq e).1)) hul (hco k hlt) (hfl k hlt))) ?_
   refine ab.ew (c:=[_]) rfl rfl rfl rfl J5 JC Ka rfl rfl (fun b29=>?_)
   refine ab.nC U (news:=[jR b ss[k].d (eQ b L k)]) (spn:=[]) (xs:=eQ b L k) (sp:=sp) (q:=q) rfl rfl rfl rfl rfl J5 hi4 hz4 hsz4 rfl hq 4 rfl 0 rfl ao rfl (by decide) (fun _=>rfl) (by unfold maxLen;omega) (by rw [hby4];omega) (fun b' sp' cap' hlen=>?_)
   refine ai ?_;refine gE (dO (gR ?_));refine db rfl rfl rfl rfl (cz (by omega)) ?_;refine ah ?_;refine gE ?_
   refine ab.pick (pre:=[_,_,_,_,_]) (pre':=[_,_,_]) [2,3,4] (by decide) rfl ?_
   rw [←hsu] at hlen⊢
   exact IH (k+1,some b',cap',sp') _ _ ⟨hlt,(fun e=>by cases e),hlen⟩ (by dsimp only;omega) ⟨rfl,rfl,rfl,rfl,rfl,rfl,trivial⟩ (List.Sublist.refl _)
  have hge:¬k<ss.length:=by simpa using hc
  obtain rfl:k=ss.length:=by omega
  obtain ⟨bs,rfl⟩:∃b,q=some b:=by
    cases q with
    |none=>have:=(hq rfl).1;omega
    |some b=>exact ⟨b,rfl⟩
  rw [hul]
  have hug:∀{i:Nat},i<ss.length→(eQ b L ss.length).getD i 0#64=oV b L i:=fun hi=>mE hi (by omega)
  refine ab.exit rfl (gS (gR ?_))
  refine al Jv JM 2 ?_;refine aq JO 0 ?_;refine dM JG ?_
  refine ab.EG Value.bool false rfl rfl rfl rfl rfl JZ hi1 hz1 rfl hsz1 (by rw [hby1];omega) (by unfold maxLen;omega) (fun b35=>?_)
  refine ai ?_;refine gE (gS (gR ?_))
  iterate 2 refine ah ?_
  refine dM JZ ?_
  refine db rfl rfl rfl rfl (iQ (c:=((ss.length - 1:Nat):Int)) (by omega) (by omega)) ?_
  refine ab.v (ae.dX rfl rfl rfl rfl rfl JZ Jl (ss.length - 1) ⟨rfl,hnl⟩) ?_
  refine ab.xS Value.bool _ rfl rfl rfl rfl Jl rfl 0 rfl hrl ?_
  refine gE (gS (gS (gR ?_)));refine ah ?_;refine dM JZ ?_;refine db rfl rfl rfl rfl (oo (by omega)) ?_;refine ai ?_;refine gE (gB ?_)
  refine ab.loop (σ:=Nat×List Bool) (fun z=>[(1,.pointer (some ⟨b1,0,none⟩)),(2,.pointer (some ⟨b2,0,none⟩)),(4,cQ (some bs) ss.length cap),(7,.slice (some ⟨b35,0,none⟩) ss.length ss.length),(8,.int .i64 ((ss.length:Int) - 1 - z.1))])
    (fun z=>[(some b35,ob Value.bool 4 z.2 []),(some b1,.cells (bL l A b.length cA B ss.length cB) 25 (0,0)),(some b2,.cells (bL 0 none 0 0 none 0 0) 25 (0,0)),(some bs,ob U 38 (eQ b L ss.length) sp)])
    (fun z=>z.1≤ss.length∧zW L z.1 z.2) (fun z=>ss.length - z.1) (0,(List.replicate ss.length false).set (ss.length - 1) true) ⟨Nat.zero_le _,by have:=zW.init (ss:=L) (by omega);rw [hL] at this;exact this⟩ ⟨rfl,rfl,rfl,rfl,by dsimp only;rw [show (ss.length:Int) - 1 - ((0:Nat):Int)=(ss.length:Int) - 1 by omega];rfl,trivial⟩ (List.Sublist.refl _) (fun z hZ IH=>?_)
  obtain ⟨i,s⟩:=z
  obtain ⟨hi,hU⟩:=hZ
  dsimp only at hi hU IH⊢
  refine gS (gS (gR ?_));refine ah ?_;refine aw oT ?_;refine gE ?_
  refine gC (fun hc=>?_) fun hc=>?_
  ·
   have hlt:i<ss.length:=by simp at hc;omega
   obtain ⟨k,hkd⟩:∃k,k=ss.length - 1 - i:=⟨_,rfl⟩
   have hk:k<ss.length:=by omega
   have hki:k+1+i=ss.length:=by omega
   have hkI:(ss.length:Int) - 1 - i=(k:Int):=by omega
   have hsl:s.length=ss.length:=by rw [hU.len,hL]
   have hks:k<s.length:=by omega
   rw [hkI]
   refine gK (gS (gB (gS (gR ?_))));refine al Jv JM 2 ?_;refine aq JO 1 ?_;refine ah ?_
   refine ab.v (ae.ed rfl rfl rfl rfl rfl JG Jw ⟨_,(hB).at_⟩ (ax (enc:=SV.cells) (sz:=5) (fun _=>rfl)) (by decide) (k) ⟨rfl,hk⟩) ?_
   refine ab.v (ae.fM rfl rfl rfl rfl Jq rfl JY ((k)*5+4) rfl) ?_
   refine ab.v (ae.ld rfl rfl rfl rfl J1 (fun w _ hS=>Sl.kU (enc:=SV.cells) (sz:=5) ((hB).ay hS.ext).at_ (fun _=>rfl) hk rfl)) ?_
   refine dM Jp ?_;refine ah ?_;refine gE (gB ?_)
   refine ab.loop (σ:=Nat) (fun q=>[(1,.pointer (some ⟨b1,0,none⟩)),(2,.pointer (some ⟨b2,0,none⟩)),(4,cQ (some bs) ss.length cap),(7,.slice (some ⟨b35,0,none⟩) ss.length ss.length),(8,.int .i64 (k:Int)),(53,.slice ss[k].fa ss[k].d.fr.length ss[k].fc),(54,.int .i64 ss[k].d.fr.length),(55,.int .i64 q)])
     (fun q=>[(some b35,ob Value.bool 4 (uD (sB s k) s (ss[k].d.fr.take q)) []),(some b1,.cells (bL l A b.length cA B ss.length cB) 25 (0,0)),(some b2,.cells (bL 0 none 0 0 none 0 0) 25 (0,0)),(some bs,ob U 38 (eQ b L ss.length) sp)])
     (fun q=>q≤ss[k].d.fr.length) (fun q=>ss[k].d.fr.length - q) 0 (Nat.zero_le _) ⟨rfl,rfl,rfl,rfl,rfl,rfl,rfl,rfl,trivial⟩ (List.Sublist.refl _) (fun q hq IH2=>?_)
   refine gS (gR ?_);refine aw iX ?_;refine gE (gS ?_)
   refine gC (fun hc=>?_) fun hc=>?_
   ·
    have hq2:q<ss[k].d.fr.length:=by simpa using hc
    have hjb:=(hco k hk).m8 (List.getElem_mem hq2)
    obtain ⟨j,hj⟩:∃j:Nat,ss[k].d.fr[q]=(j:Int):=⟨ss[k].d.fr[q].toNat,by omega⟩
    obtain ⟨s1,hs1⟩:∃s1,s1=uD (sB s k) s (ss[k].d.fr.take q):=⟨_,rfl⟩
    have hs1l:s1.length=ss.length:=by rw [hs1,rR,hsl]
    have hjl:j<ss.length:=by omega
    have hjs:j<s1.length:=by omega
    have hk1:k<s1.length:=by omega
    have hfr:=(hB.y5 ss[k] (List.getElem_mem hk)).1
    have hf2:=hfl k hk
    have hsk:sB s1 k=sB s k:=by
      have hn:(k:Int)∉ss[k].d.fr.take q:=fun hm=>by have:=(hco k hk).m8 (List.mem_of_mem_take hm);omega
      rw [hs1,uv (fun i hi=>by have:=(hco k hk).m8 (List.mem_of_mem_take hi);omega)]
      simp [hn]
    have hnx:uD (sB s k) s (ss[k].d.fr.take (q+1))=s1.set j (sB s1 j||sB s k):=by
      rw [List.take_succ_eq_append_getElem hq2,yH,←hs1,hj];rfl
    rw [←hs1]
    refine gK (gS (gB (gS (gR ?_))))
    refine ab.v (ae.idx rfl rfl rfl rfl rfl Jp Ji ⟨_,hfr⟩ (by simp) (q) ⟨rfl,by simpa using hq2⟩) ?_
    refine ab.v (ae.ld rfl rfl rfl rfl Jj (fun w _ hS=>(jP.ay hfr hS.ext).at (q) hq2)) ?_
    refine ai ?_;refine gE (gR ?_)
    iterate 4 refine ah ?_
    refine ab.v (ae.dX rfl rfl rfl rfl rfl JZ Jl (j) ⟨hj,hjl⟩) ?_
    refine ab.v (ae.qH Value.bool false rfl rfl rfl rfl Jn 0 rfl hjs) ?_
    refine ah ?_
    refine eC 65 (fun hc=>?_) fun hc=>?_
    ·
     have hsj:sB s1 j=true:=hc
     iterate 4 refine cD ?_
     refine cF ?_
     refine ab.v (ae.dX rfl rfl rfl rfl rfl JZ Jl (j) ⟨hj,hjl⟩) ?_
     refine ab.xS Value.bool _ rfl rfl rfl rfl Jl rfl 0 rfl hjs ?_
     refine gE (dO (gR ?_));refine db rfl rfl rfl rfl (cz (by omega)) ?_;refine ah ?_;refine gE ?_
     exact IH2 (q+1) _ _ hq2 (by omega) ⟨rfl,rfl,rfl,rfl,rfl,rfl,rfl,rfl,trivial⟩ (by rw [hnx,hsj];exact List.Sublist.refl _)
    have hsj:sB s1 j=false:=hc
    iterate 2 refine ah ?_
    refine ab.v (ae.dX rfl rfl rfl rfl rfl JZ Jl (k) ⟨rfl,hk⟩) ?_
    refine ab.v (ae.qH Value.bool false rfl rfl rfl rfl Jn 0 rfl hk1) ?_
    refine bB ?_
    refine ab.v (ae.dX rfl rfl rfl rfl rfl JZ Jl (j) ⟨hj,hjl⟩) ?_
    refine ab.xS Value.bool _ rfl rfl rfl rfl Jl rfl 0 rfl hjs ?_
    refine gE (dO (gR ?_));refine db rfl rfl rfl rfl (cz (by omega)) ?_;refine ah ?_;refine gE ?_
    exact IH2 (q+1) _ _ hq2 (by omega) ⟨rfl,rfl,rfl,rfl,rfl,rfl,rfl,rfl,trivial⟩ (by rw [hnx,hsj,←hsk];exact List.Sublist.refl _)
   have hge:¬q<ss[k].d.fr.length:=by simpa using hc
   obtain rfl:q=ss[k].d.fr.length:=by omega
   refine ab.exit rfl (dO (gR ?_))
   refine ah ?_;refine db rfl rfl rfl rfl (oo (by omega)) ?_;refine ai ?_;refine gE ?_
   exact IH (i+1,uD (sB s k) s ss[k].d.fr) _ _ ⟨hlt,by have:=hU.step hfb (k:=k) (by omega);rw [hat hk] at this;exact this⟩ (by dsimp only;omega) ⟨rfl,rfl,rfl,rfl,by dsimp only;rw [show (ss.length:Int) - 1 - ((i+1:Nat):Int)=(k:Int) - 1 by omega];rfl,trivial⟩ (by rw [List.take_length];exact List.Sublist.refl _)
  have hge:¬i<ss.length:=by simp at hc;omega
  obtain rfl:i=ss.length:=by omega
  have hnd:∀j,j<ss.length→sB s j=dR L j:=fun j hj=>by rw [←hL] at hU;exact hU.done (by omega)
  have hsl:s.length=ss.length:=by rw [hU.len,hL]
  refine ab.exit rfl (gS ?_)
  refine ab.mK (α:=Nat×Nat×Nat×List Value) [7] (fun z=>[(1,.pointer (some ⟨b1,0,none⟩)),(2,.pointer (some ⟨b2,0,none⟩)),(4,cQ (some bs) ss.length cap),(7,.slice (some ⟨b35,0,none⟩) ss.length ss.length),(78,.agg (bL l ((some z.2.1).map (fun b=>⟨b,0,none⟩)) b.length z.2.2.1 none 0 0)),(11,.pointer (some ⟨z.1,0,none⟩))]) (fun z=>[(some z.1,.cells (bL 0 none 0 0 none 0 0) 25 (0,0)),(some z.2.1,eW 66 b z.2.2.2),(some b35,ob Value.bool 4 s []),(some b1,.cells (bL l A b.length cA B ss.length cB) 25 (0,0)),(some b2,.cells (bL 0 none 0 0 none 0 0) 25 (0,0)),(some bs,ob U 38 (eQ b L ss.length) sp)]) (fun z=>?_) (fun K=>?_)
  obtain ⟨b11,ba,ca,spa⟩:=z
  dsimp only
  · -- what comes behind the region
   refine ab.dF rfl rfl rfl rfl Jz 0 rfl rfl rfl rfl ?_
   refine gE (gS (gR ?_));refine ai ?_;refine gE (gS (gR ?_));refine ah ?_;refine dM JZ ?_
   refine ab.EG bK 0 rfl rfl rfl rfl rfl Jp hi2 hz2 rfl hsz2 (by rw [hby2];omega) (by unfold maxLen;omega) (fun b81=>?_)
   refine ai ?_;refine gE (gS (gS (gR ?_)));refine al Jv JM 2 ?_;refine aq JO 4 ?_;refine dM JG ?_;refine ah ?_;refine gE (gB ?_)
   iterate 2 refine ab.cJ (l8 41 [] []) ?_
   refine ab.pick (pre:=[_,_,_,_,_,_,_,_,_]) (pre':=[(some b81,ob bK 3 (iG L 0) []),(some b11,.cells (bL l ((some ba).map (fun b=>⟨b,0,none⟩)) b.length ca ((none:Option Nat).map (fun b=>⟨b,0,none⟩)) ([]:List SV).length 0) 25 (0,0)),(some ba,eW 66 b spa),(some b35,ob Value.bool 4 s []),(some b1,.cells (bL l A b.length cA B ss.length cB) 25 (0,0)),(some b2,.cells (bL 0 none 0 0 none 0 0) 25 (0,0)),(some bs,ob U 38 (eQ b L ss.length) sp),(none,l8 41 [] []),(none,l8 41 [] [])]) [2,3,4,5,6,7,8,0,1] (by decide) (by rw [wF,hL];rfl) ?_
   refine ab.loop (σ:=Nat×(Option Nat×Nat×List SV×List Value)×(Option Nat×Nat×List SV×List Value)×Hl) (fun z=>[(1,.pointer (some ⟨b1,0,none⟩)),(2,.pointer (some ⟨b2,0,none⟩)),(4,cQ (some bs) ss.length cap),(7,.slice (some ⟨b35,0,none⟩) ss.length ss.length),(11,.pointer (some ⟨b11,0,none⟩)),(12,cQ z.2.2.1.1 z.2.2.1.2.2.1.length z.2.2.1.2.1),(13,.slice (some ⟨b81,0,none⟩) ss.length ss.length),(83,.slice B ss.length cB),(84,.int .i64 ss.length),(85,.int .i64 z.1)])
     (fun z=>[(some b81,ob bK 3 (iG L z.1) []),(some b11,.cells (bL l ((some ba).map (fun b=>⟨b,0,none⟩)) b.length ca (z.2.1.1.map (fun b=>⟨b,0,none⟩)) z.2.1.2.2.1.length z.2.1.2.1) 25 (0,0)),(some ba,eW 66 b spa),(some b35,ob Value.bool 4 s []),(some b1,.cells (bL l A b.length cA B ss.length cB) 25 (0,0)),(some b2,.cells (bL 0 none 0 0 none 0 0) 25 (0,0)),(some bs,ob U 38 (eQ b L ss.length) sp),(z.2.1.1,l8 41 z.2.1.2.2.1 z.2.1.2.2.2),(z.2.2.1.1,l8 41 z.2.2.1.2.2.1 z.2.2.1.2.2.2)]++z.2.2.2)
     (fun z=>z.1≤ss.length∧(z.2.1.1=none→z.2.1.2.2.1.length=0∧z.2.1.2.1=0)∧(z.2.1.2.2.1.flatMap SV.cells++z.2.1.2.2.2).length=z.2.1.2.1*5∧(z.2.2.1.1=none→z.2.2.1.2.2.1.length=0∧z.2.2.1.2.1=0)∧(z.2.2.1.2.2.1.flatMap SV.cells++z.2.2.1.2.2.2).length=z.2.2.1.2.1*5∧
       ec z.2.1.2.2.1=mG b L z.1∧z.2.2.1.2.2.1.map (fun x=>x.d.set)=cU L z.1∧∀x∈z.2.1.2.2.1,x.sH 3 z.2.2.2∧x.d.fr.length≤maxLen)
     (fun z=>ss.length - z.1) (0,(none,0,[],[]),(none,0,[],[]),[]) ⟨Nat.zero_le _,fun _=>⟨rfl,rfl⟩,rfl,fun _=>⟨rfl,rfl⟩,rfl,rfl,rfl,fun _ h=>by cases h⟩ ⟨rfl,rfl,rfl,rfl,rfl,rfl,rfl,rfl,rfl,rfl,trivial⟩ (List.Sublist.refl _) (fun z hZ IH=>?_)
   obtain ⟨i,⟨qo,co,os,spo⟩,⟨qw,cw,ws,spw⟩,H⟩:=z
   obtain ⟨hi,hqo,hco1,hqw,hcw,hos,hws,hin⟩:=hZ
   dsimp only at hi hqo hco1 hqw hcw hos hws hin IH⊢
   have hol:os.length=bJ (dR L) i:=by rw [←lk (b:=b) (show i≤L.length by omega),←hos,cW]
   have hwl:ws.length=bJ (dR L) i:=by rw [←lC (show i≤L.length by omega),←hws,List.length_map]
   have hcn:bJ (dR L) i≤i:=so
   refine gS (gR ?_);refine aw iX ?_;refine gE (gS ?_)
   refine gC (fun hc=>?_) fun hc=>?_
   ·
    have hlt:i<ss.length:=by simpa using hc
    have hs:i<s.length:=by omega
    have hsu:i<(eQ b L ss.length).length:=by omega
    have hpl:i<(iG L i).length:=by rw [td];omega
    have hfr:=(hB.y5 ss[i] (List.getElem_mem hlt)).1
    have hf2:=hfl i hlt
    have hps:=j7 (b:=b) (show i<L.length by omega)
    have hfs:cU L (i+1)=if dR L i=true then cU L i++[L[i].set] else cU L i:=by rw [cU,List.getElem?_eq_getElem (by omega)]
    rw [hat hlt] at hps hfs
    refine gK (gS (gB (gS (gR ?_))));refine ah ?_
    refine ab.v (ae.ed rfl rfl rfl rfl rfl JG Jw ⟨_,(hB).at_⟩ (ax (enc:=SV.cells) (sz:=5) (fun _=>rfl)) (by decide) (i) ⟨rfl,hlt⟩) ?_
    refine ab.v (ae.nV (cs:=SV.cells ss[i]) rfl rfl rfl rfl J4 Jw (fun w _ hS=>Sl.many (enc:=SV.cells) (sz:=5) (hB.ay hS.ext).at_ (fun _=>rfl) hlt)) ?_
    refine ab.eO rfl rfl rfl (fun _=>Kd _) (fun b15=>?_)
    refine ai ?_
    refine ab.dF rfl rfl rfl rfl Jw 0 rfl rfl rfl rfl ?_
    refine gE (gS (gS (gR ?_)))
    iterate 2 refine ah ?_
    refine ab.v (ae.dX rfl rfl rfl rfl rfl JZ Jl (i) ⟨rfl,hlt⟩) ?_
    refine ab.v (ae.qH Value.bool false rfl rfl rfl rfl Jn 4 rfl hs) ?_
    refine eZ bG ?_;refine gE ?_
    refine gC (fun hc=>?_) fun hc=>?_
    ·
     have hsi:sB s i=false:=by simpa using hc
     have hn:dR L i=false:=by rw [←hnd i hlt];exact hsi
     rw [if_neg (by rw [hn];simp)] at hps hfs
     refine ab.exit rfl (gR ?_)
     refine db rfl rfl rfl rfl (cz (by omega)) ?_;refine ah ?_;refine gE ?_
     exact IH (i+1,(qo,co,os,spo),(qw,cw,ws,spw),H) _ _ ⟨hlt,hqo,hco1,hqw,hcw,by dsimp only;rw [hps];exact hos,by dsimp only;rw [hfs];exact hws,hin⟩ (by dsimp only;omega) ⟨rfl,rfl,rfl,rfl,rfl,rfl,rfl,rfl,rfl,rfl,trivial⟩ (by dsimp only;rw [wG hn];exact .cons _ (List.Sublist.refl _))
    have hsi:sB s i=true:=by simpa using hc
    have hn:dR L i=true:=by rw [←hnd i hlt];exact hsi
    rw [if_pos hn] at hps hfs
    have hNd:=ig.1 hn
    have hset:(iG L i).set i (os.length:Int)=iG L (i+1):=by rw [hol];exact yj hn
    refine gK (gS (gR ?_))
    iterate 2 refine ah ?_
    refine al Jv JM 2 ?_;refine aq JO 2 ?_;refine dM JG ?_
    refine ab.v (ae.dX rfl rfl rfl rfl rfl Jp Ji (i) ⟨rfl,hlt⟩) ?_
    skip
    refine ab.xS (Value.int .i64) _ rfl rfl rfl rfl Ji rfl 1 rfl hpl ?_
    rw [hset]
    refine gE (gS (gR ?_));refine ah ?_
    refine ab.v (ae.iA rfl rfl rfl rfl J4 0 rfl Jw rfl) ?_
    refine ab.ew (c:=[_,_,_,_,_]) rfl rfl rfl rfl JG Jw Kd rfl rfl (fun b103=>?_)
    refine ab.CB (ss:=ws) (sp:=spw) (q:=qw) (nl:=ss[i]) rfl rfl rfl rfl rfl JG hi3 hz3 hsz3 rfl hqw 10 rfl 0 rfl hcw (by unfold maxLen;omega) (by rw [hby3];omega) (fun bw spw' cw' hlw=>?_)
    refine ai ?_;refine gE (gS (gR ?_))
    iterate 2 refine ah ?_
    refine ab.v (ae.dX rfl rfl rfl rfl rfl J5 JC (i) ⟨rfl,hlt⟩) ?_
    skip
    refine ab.v (ae.qH U 0#64 rfl rfl rfl rfl JI 8 rfl hsu) ?_
    rw [hug hlt]
    refine al Jq JC 0 ?_
    refine ab.st rfl rfl rfl rfl JC rfl 1 rfl rfl ?_
    refine gE (gS ?_)
    refine ab.jS (α:=Unit) (fun _=>[(1,.pointer (some ⟨b1,0,none⟩)),(2,.pointer (some ⟨b2,0,none⟩)),(4,cQ (some bs) ss.length cap),(7,.slice (some ⟨b35,0,none⟩) ss.length ss.length),(11,.pointer (some ⟨b11,0,none⟩)),(12,cQ (some bw) (ws++[ss[i]]).length cw'),(13,.slice (some ⟨b81,0,none⟩) ss.length ss.length),(83,.slice B ss.length cB),(84,.int .i64 ss.length),(85,.int .i64 i),(14,.int .i64 i),(15,.pointer (some ⟨b15,0,none⟩))]) (fun _=>[(some b15,.cells #[U (oV b L i),.int .i64 ss[i].d.av,.int .i64 ss[i].d.on,.int .i64 (if ss[i].d.av=1∧(nd b ss[i].d.on).op=2 then 0 else ss[i].d.e),.slice ss[i].fa ss[i].d.fr.length ss[i].fc] 41 (0,0)),(some b81,ob bK 3 (iG L (i+1)) []),(some b11,.cells (bL l ((some ba).map (fun b=>⟨b,0,none⟩)) b.length ca (qo.map (fun b=>⟨b,0,none⟩)) os.length co) 25 (0,0)),(some ba,eW 66 b spa),(some b35,ob Value.bool 4 s []),(some b1,.cells (bL l A b.length cA B ss.length cB) 25 (0,0)),(some b2,.cells (bL 0 none 0 0 none 0 0) 25 (0,0)),(some bs,ob U 38 (eQ b L ss.length) sp),(qo,l8 41 os spo),(some bw,l8 41 (ws++[ss[i]]) spw')]++H) (fun _=>?_) (fun K=>?_)
    · -- what comes behind
     refine gS (gR ?_);refine al Jq JY 4 ?_;refine aq J1 0 ?_
     refine gM rfl rfl rfl rfl rfl call68 (fun w _ hS=>(by exact zy ss[i].fa ss[i].fc ss[i].d.fr w (hfr.ay hS.ext) (by omega))) ?_
     rintro v w1 w2 Y' hS he ho
     obtain ⟨qf,cf,spf,rfl,hqf,hcf,hS'⟩:=rk hS he ho
     refine ⟨_,hS',?_⟩
     refine al Jq JY 4 ?_
     refine ab.st rfl rfl rfl rfl JY rfl 1 rfl rfl ?_
     refine gE (gS (gS (gR ?_)));refine al Jq JY 4 ?_;refine aq J1 1 ?_;refine dM Jp ?_;refine ah ?_;refine gE (gB ?_)
     rw [←yd (ss:=L) (fr:=ss[i].d.fr)]
     refine ab.loop (σ:=Nat) (fun m=>[(1,.pointer (some ⟨b1,0,none⟩)),(2,.pointer (some ⟨b2,0,none⟩)),(4,cQ (some bs) ss.length cap),(7,.slice (some ⟨b35,0,none⟩) ss.length ss.length),(11,.pointer (some ⟨b11,0,none⟩)),(12,cQ (some bw) (ws++[ss[i]]).length cw'),(13,.slice (some ⟨b81,0,none⟩) ss.length ss.length),(83,.slice B ss.length cB),(84,.int .i64 ss.length),(85,.int .i64 i),(14,.int .i64 i),(15,.pointer (some ⟨b15,0,none⟩)),(129,cQ qf ss[i].d.fr.length cf),(130,.int .i64 ss[i].d.fr.length),(131,.int .i64 m)]) (fun m=>[(qf,ob bK 3 (uc L ss[i].d.fr m) spf),(some b15,.cells #[U (oV b L i),.int .i64 ss[i].d.av,.int .i64 ss[i].d.on,.int .i64 (if ss[i].d.av=1∧(nd b ss[i].d.on).op=2 then 0 else ss[i].d.e),.slice (qf.map (fun b=>⟨b,0,none⟩)) ss[i].d.fr.length cf] 41 (0,0)),(some b81,ob bK 3 (iG L (i+1)) []),(some b11,.cells (bL l ((some ba).map (fun b=>⟨b,0,none⟩)) b.length ca (qo.map (fun b=>⟨b,0,none⟩)) os.length co) 25 (0,0)),(some ba,eW 66 b spa),(some b35,ob Value.bool 4 s []),(some b1,.cells (bL l A b.length cA B ss.length cB) 25 (0,0)),(some b2,.cells (bL 0 none 0 0 none 0 0) 25 (0,0)),(some bs,ob U 38 (eQ b L ss.length) sp),(qo,l8 41 os spo),(some bw,l8 41 (ws++[ss[i]]) spw')]++H)
       (fun m=>m≤ss[i].d.fr.length) (fun m=>ss[i].d.fr.length - m) 0 (Nat.zero_le _) ⟨rfl,rfl,rfl,rfl,rfl,rfl,rfl,rfl,rfl,rfl,rfl,rfl,rfl,rfl,rfl,trivial⟩ (List.Sublist.refl _) (fun m hm IH2=>?_)
     refine gS (gR ?_);refine aw iX ?_;refine gE (gS ?_)
     refine gC (fun hc=>?_) fun hc=>?_
     ·
      have hm2:m<ss[i].d.fr.length:=by simpa using hc
      have hjb:=(hco i hlt).m8 (List.getElem_mem hm2)
      obtain ⟨j,hj⟩:∃j:Nat,ss[i].d.fr[m]=(j:Int):=⟨ss[i].d.fr[m].toNat,by omega⟩
      have hjl:j<ss.length:=by omega
      have hjp:j<(iG L (i+1)).length:=by rw [td];omega
      have hmr:m<(uc L ss[i].d.fr m).length:=by rw [AQ];exact hm2
      have hNj:Ah L j:=.fr (show i<L.length by omega) hNd (by rw [hat hlt,←hj];exact List.getElem_mem hm2)
      have hgm:(uc L ss[i].d.fr m).getD m 0=(j:Int):=by rw [C6 hm2,hj]
      have hpj:(iG L (i+1)).getD j 0=(bJ (dR L) j:Int):=yk (by omega) (by omega) hNj
      have hnx:(uc L ss[i].d.fr m).set m (bJ (dR L) j:Int)=uc L ss[i].d.fr (m+1):=by rw [←AP hm2,hj];rfl
      obtain ⟨bf,rfl⟩:∃b,qf=some b:=by
        cases qf with
        |none=>have:=(hqf rfl).1;omega
        |some b=>exact ⟨b,rfl⟩
      refine gK (gS (gB (gS (gR ?_))));refine ah ?_;refine ai ?_;refine gE ?_
      refine ab.draw 12 mixed rfl ?_
      refine mP Jq JY 4 ?_;refine xt J1 1 ?_
      iterate 2 refine mO ?_
      refine mP Jq JY 4 ?_;refine xt J1 1 ?_;refine mO ?_
      refine aM.v (ae.dX rfl rfl rfl rfl rfl Jp Ji (m) ⟨rfl,hm2⟩) ?_
      refine aM.v (ae.qH bK 0 rfl rfl rfl rfl Jj 0 rfl hmr) ?_
      refine aM.v (ae.dX rfl rfl rfl rfl rfl Jp Ji (j) ⟨hgm,hjl⟩) ?_
      refine aM.v (ae.qH bK 0 rfl rfl rfl rfl Jj 2 rfl hjp) ?_
      refine aM.v (ae.dX rfl rfl rfl rfl rfl Jp Ji (m) ⟨rfl,hm2⟩) ?_
      refine aM.nil ?_
      refine ab.xS (Value.int .i64) _ rfl rfl rfl rfl Ji rfl 0 rfl hmr ?_
      refine gE (dO (gR ?_));refine db rfl rfl rfl rfl (cz (by omega)) ?_;refine ah ?_;refine gE ?_
      exact IH2 (m+1) _ _ hm2 (by omega) ⟨rfl,rfl,rfl,rfl,rfl,rfl,rfl,rfl,rfl,rfl,rfl,rfl,rfl,rfl,rfl,trivial⟩ (by rw [←hnx,←hpj];exact List.Sublist.refl _)
     have hge:¬m<ss[i].d.fr.length:=by simpa using hc
     obtain rfl:m=ss[i].d.fr.length:=by omega
     rw [AR]
     obtain ⟨nl,hnl2⟩:∃nl:SV,nl=⟨gG b L i ss[i].d,qf.map (fun b=>⟨b,0,none⟩),cf⟩:=⟨_,rfl⟩
     have hnd2:nl.d=gG b L i ss[i].d:=by rw [hnl2]
     have hcl:SV.cells nl=[U (oV b L i),.int .i64 ss[i].d.av,.int .i64 ss[i].d.on,.int .i64 (if ss[i].d.av=1∧(nd b ss[i].d.on).op=2 then 0 else ss[i].d.e),.slice (qf.map (fun b=>⟨b,0,none⟩)) ss[i].d.fr.length cf]:=by
       rw [hnl2];simp [SV.cells,gG]
     refine ab.exit rfl (gR ?_)
     refine al Jv JM 2 ?_;refine aq JO 3 ?_
     refine ab.v (ae.iA rfl rfl rfl rfl J4 1 rfl Jw rfl) ?_
     refine ab.ew (c:=[_,_,_,_,_]) rfl rfl rfl rfl JG Jw Kd rfl rfl (fun b150=>?_)
     refine ab.CB (ss:=os) (sp:=spo) (q:=qo) (nl:=nl) rfl rfl rfl rfl rfl JG hi3 hz3 hsz3 rfl hqo 10 rfl 0 (by rw [hcl];rfl) hco1 (by unfold maxLen;omega) (by rw [hby3];omega) (fun bo spo' co' hlo=>?_)
     refine al Jv JM 2 ?_
     refine ab.st rfl rfl rfl rfl JM rfl 4 rfl rfl ?_
     refine gE (dO (gR ?_));refine db rfl rfl rfl rfl (cz (by omega)) ?_;refine ah ?_;refine gE ?_
     refine ab.aS (pre:=[_,_,_,_,_,_,_,_,_,_,_,_]) (pre':=[(some b81,ob bK 3 (iG L (i+1)) []),(some b11,.cells (bL l ((some ba).map (fun b=>⟨b,0,none⟩)) b.length ca ((some bo).map (fun b=>⟨b,0,none⟩)) (os++[nl]).length co') 25 (0,0)),(some ba,eW 66 b spa),(some b35,ob Value.bool 4 s []),(some b1,.cells (bL l A b.length cA B ss.length cB) 25 (0,0)),(some b2,.cells (bL 0 none 0 0 none 0 0) 25 (0,0)),(some bs,ob U 38 (eQ b L ss.length) sp),(some bo,l8 41 (os++[nl]) spo'),(some bw,l8 41 (ws++[ss[i]]) spw'),(qf,ob bK 3 (ss[i].d.fr.map (fun j=>((bJ (dR L) j.toNat:Nat):Int))) spf)]) H [3,4,5,6,7,8,9,10,11,1] (by decide) rfl ?_
     refine IH (i+1,(some bo,co',os++[nl],spo'),(some bw,cw',ws++[ss[i]],spw'),(qf,ob bK 3 (ss[i].d.fr.map (fun j=>((bJ (dR L) j.toNat:Nat):Int))) spf)::H) _ _ ⟨hlt,(fun e=>by cases e),hlo,(fun e=>by cases e),hlw,?_,?_,fun x hx=>?_⟩ (by dsimp only;omega) ⟨rfl,rfl,rfl,rfl,rfl,rfl,rfl,rfl,rfl,rfl,trivial⟩ (List.Sublist.refl _)
     · dsimp only;rw [show ec (os++[nl])=ec os++[nl.d] by simp,hos,hps,hnd2]
     · dsimp only;rw [List.map_append,hws,hfs];rfl
     dsimp only at hx⊢
     rcases List.mem_append.1 hx with hx|hx
     · exact ⟨(hin x hx).1.mono (List.subset_cons_self _ _),(hin x hx).2⟩
     rw [List.mem_singleton.1 hx,hnl2]
     exact ⟨⟨qf,spf,List.mem_cons_self ..,rfl,fun e=>by simp only [gG,List.length_map];exact (hqf e).1⟩,by simp only [gG,List.length_map];unfold maxLen;omega⟩
    · -- the first part
     refine gS (gR ?_);refine al Jq Ji 1 ?_;refine aq Jj 1 ?_;refine aw bd ?_;refine ah ?_
     refine eC 113 (fun hc=>?_) fun hc=>?_
     ·
      have r1:ss[i].d.av=1:=by simpa using hc
      have hol2:0≤ss[i].d.on∧ss[i].d.on<b.length:=by
        rcases (u4.1 ((u0 (hco i hlt).1 r1).1 (hco i hlt))).2 with h|h
        · obtain ⟨o,q1,q2,_⟩:=h.1.nat hb;omega
        obtain ⟨o,q1,_⟩:=fU.1 h.1;have:=h.2.1;omega
      obtain ⟨o,ho⟩:∃o:Nat,ss[i].d.on=(o:Int):=⟨ss[i].d.on.toNat,by omega⟩
      have hob:o<b.length:=by omega
      have hnd3:nd b ss[i].d.on=b[o]:=by rw [ho,dH hob]
      refine al Jv Js 1 ?_;refine aq Jx 6 ?_;refine al Jq Ji 2 ?_;refine aq Jj 1 ?_
      refine ab.v (ae.ed rfl rfl rfl rfl rfl Jr Jm ⟨_,(hA).at_⟩ (ax (enc:=NV.cells) (sz:=6) (fun _=>rfl)) (by decide) (o) ⟨ho,hob⟩) ?_
      refine ab.v (ae.fM rfl rfl rfl rfl Jk rfl Ji ((o)*6+0) rfl) ?_
      refine ab.v (ae.ld rfl rfl rfl rfl Jj (fun w _ hS=>Sl.kU (enc:=NV.cells) (sz:=6) ((hA).ay hS.ext).at_ (fun _=>rfl) hob rfl)) ?_
      refine aw bd ?_;refine cF ?_;refine gE ?_
      refine gC (fun hc=>?_) fun hc=>?_
      ·
       have h2:b[o].op=2:=by simpa using hc
       have hE:(if ss[i].d.av=1∧(nd b ss[i].d.on).op=2 then 0 else ss[i].d.e)=0:=if_pos ⟨r1,by rw [hnd3];exact h2⟩
       refine gR ?_;refine al Jq Ji 3 ?_
       refine ab.st rfl rfl rfl rfl Ji rfl 1 rfl rfl ?_
       refine gE ?_
       exact K () _ _ sF (fun _ _ hS=>by rw [hE];exact hS.dN (.cons _ (List.Sublist.refl _)))
      have h2:¬b[o].op=2:=by simpa using hc
      have hE:(if ss[i].d.av=1∧(nd b ss[i].d.on).op=2 then 0 else ss[i].d.e)=ss[i].d.e:=if_neg (fun h=>h2 (by rw [←hnd3];exact h.2))
      refine gK ?_
      exact K () _ _ sF (fun _ _ hS=>by rw [hE];exact hS.dN (.cons _ (List.Sublist.refl _)))
     have r1:¬ss[i].d.av=1:=by simpa using hc
     have hE:(if ss[i].d.av=1∧(nd b ss[i].d.on).op=2 then 0 else ss[i].d.e)=ss[i].d.e:=if_neg (fun h=>r1 h.1)
     iterate 8 refine cD ?_
     refine bB ?_;refine gE (ab.gD rfl (gK ?_))
     exact K () _ _ sF (fun _ _ hS=>by rw [hE];exact hS.dN (.cons _ (List.Sublist.refl _)))
   have hge:¬i<ss.length:=by simpa using hc
   obtain rfl:i=ss.length:=by omega
   refine ab.exit rfl (gS (gR ?_))
   refine ab.v (ae.iA rfl rfl rfl rfl JS 1 rfl Jz rfl) ?_
   refine ah ?_
   refine ab.dF rfl rfl rfl rfl Jz 5 rfl rfl rfl rfl ?_
   refine ai ?_;refine gE ?_
   refine ab.fJ Tryz.f36 func36 _ (aO.cell rfl JS Jz (j:=5) rfl rfl (aO.tmp rfl aO.nil)) (fun w' hS=>?_)
   exact ⟨hS.ext,_,_,os,ws,rfl,⟨some ba,qo,qw,ca,co,cw,spa,spo,spw,H,rfl,rfl,(fun e=>by cases e),fun e=>(hqo e).1,fun e=>(hqw e).1,gh.of (hS.aS (pre:=[_,_,_,_,_,_,_,_,_]) (pre':=[_,_,_]) (HR:=H) [2,7,8] (by decide) rfl),hin⟩,by rw [hos,dB,hL],by rw [hws,hL]⟩
  · -- the region
   refine ab.sf 4 9 [(some b35,ob Value.bool 4 s []),(some b1,.cells (bL l A b.length cA B ss.length cB) 25 (0,0)),(some b2,.cells (bL 0 none 0 0 none 0 0) 25 (0,0)),(some bs,ob U 38 (eQ b L ss.length) sp)] sL mixed rfl ?_
   refine lZ.v (ae.aG rfl rfl rfl rfl Jv rfl (by exact Ji) 0 rfl) ?_
   refine lZ.v (ae.dw rfl rfl rfl rfl Jj 1 rfl rfl) ?_
   refine lZ.v (ae.aG rfl rfl rfl rfl Jv rfl (by exact Js) 1 rfl) ?_
   refine lZ.v (ae.dw rfl rfl rfl rfl Jx 1 rfl rfl) ?_
   refine lZ.nil ?_
   refine Tl.two (d:=77) (d2:=11) rfl ?_ ?_
   · -- operation 4 next
    refine dq.call _ rfl rfl rfl rfl rfl (fun _ _=>call67 _ _) (fun w _ hS=>(by exact tS A cA b w (hA.ay hS.ext) hb0 (by omega))) ?_
    rintro v w1 w2 Y' hS he ho
    obtain ⟨qa,ca,spa,rfl,hqa,hca,hS'⟩:=ak hS he ho
    obtain ⟨ba,rfl⟩:∃b,qa=some b:=by
      cases qa with
      |none=>have:=(hqa rfl).1;omega
      |some b=>exact ⟨b,rfl⟩
    refine ⟨_,hS',sL,?_⟩
    refine Tl.two (d:=78) (d2:=11) rfl ?_ ?_
    · -- operation 5 next
     refine dq.v (ae.eN rfl rfl rfl rfl (bd25 (c:=[_,_,_]) rfl)) (fun _ h=>by cases h;rfl) ⟨by repeat (first|exact List.Sublist.refl _|exact List.nil_sublist _|refine List.Sublist.cons_cons _ ?_|refine List.Sublist.cons _ ?_),?_⟩
     refine Tl.one (d:=11) rfl ?_
     refine dq.eO rfl rfl rfl (fun _=>Kb _) (fun b11=>⟨by repeat (first|exact List.Sublist.refl _|exact List.nil_sublist _|refine List.Sublist.cons_cons _ ?_|refine List.Sublist.cons _ ?_),?_⟩)
     refine Tl.sw [7] rfl rfl ?_
     exact K (b11,ba,ca,spa) _ _ sF (fun _ _ hS=>hS)
    · -- operation 6 next
     refine dq.eO rfl rfl rfl (fun _=>Kb _) (fun b11=>⟨by repeat (first|exact List.Sublist.refl _|exact List.nil_sublist _|refine List.Sublist.cons_cons _ ?_|refine List.Sublist.cons _ ?_),?_⟩)
     refine Tl.one (d:=78) rfl ?_
     refine dq.v (ae.eN rfl rfl rfl rfl (bd25 (c:=[_,_,_]) rfl)) (fun _ h=>by cases h;rfl) ⟨by repeat (first|exact List.Sublist.refl _|exact List.nil_sublist _|refine List.Sublist.cons_cons _ ?_|refine List.Sublist.cons _ ?_),?_⟩
     refine Tl.sw [7] rfl rfl ?_
     exact K (b11,ba,ca,spa) _ _ sF (fun _ _ hS=>hS)
   · -- operation 6 next
    refine dq.eO rfl rfl rfl (fun _=>Kb _) (fun b11=>⟨by repeat (first|exact List.Sublist.refl _|exact List.nil_sublist _|refine List.Sublist.cons_cons _ ?_|refine List.Sublist.cons _ ?_),?_⟩)
    refine Tl.one (d:=77) rfl ?_
    refine dq.call _ rfl rfl rfl rfl rfl (fun _ _=>call67 _ _) (fun w _ hS=>(by exact tS A cA b w (hA.ay hS.ext) hb0 (by omega))) ?_
    rintro v w1 w2 Y' hS he ho
    obtain ⟨qa,ca,spa,rfl,hqa,hca,hS'⟩:=ak hS he ho
    obtain ⟨ba,rfl⟩:∃b,qa=some b:=by
      cases qa with
      |none=>have:=(hqa rfl).1;omega
      |some b=>exact ⟨b,rfl⟩
    refine ⟨_,hS',sL,?_⟩
    refine Tl.one (d:=78) rfl ?_
    refine dq.v (ae.eN rfl rfl rfl rfl (bd25 (c:=[_,_,_]) rfl)) (fun _ h=>by cases h;rfl) ⟨by repeat (first|exact List.Sublist.refl _|exact List.nil_sublist _|refine List.Sublist.cons_cons _ ?_|refine List.Sublist.cons _ ?_),?_⟩
    refine Tl.sw [7] rfl rfl ?_
    exact K (b11,ba,ca,spa) _ _ sF (fun _ _ hS=>hS.pick (pre:=[_,_,_,_,_,_]) (pre':=[_,_,_,_,_,_]) [1,0,2,3,4,5] (by decide) rfl)
end Go.Proofs.YtnfmegcknckahaaGreatDoor
namespace Go.Proofs.YtnfmegcknckahaaGreatDoor
open Go.RowKit Go.Proofs.Wit Tryz
/-- a refutation of one's own -/
def CG (w w':World) (l:Int) (b:List NV) (v:Value) (os:List SV):Prop:=
 ∃(qa qo:Option Nat) (ca co:Nat) (spa spo:List Value) (H:Hl),v=.agg (bL l (qa.map (fun b=>⟨b,0,none⟩)) b.length ca (qo.map (fun b=>⟨b,0,none⟩)) os.length co)∧
  (qa=none→b.length=0)∧(qo=none→os.length=0)∧gh w w' ((qa,eW 66 b spa)::(qo,l8 41 os spo)::H)∧∀x∈os,x.sH 3 H∧x.d.fr.length≤maxLen
set_option maxRecDepth 8000 in
theorem Aj (l:Int) (A:Option Addr) (cA:Nat) (b:List NV) (B:Option Addr) (cB:Nat) (ss:List SV) (w:World) (hA:FA w A b) (hB:ue w B ss) (hl:b.length≤maxLen) (hsl:ss.length≤maxLen):
    Cn Tryz.prog 12 [.agg (bL l A b.length cA B ss.length cB)] w (fun v w'=>∃v1,v=.tuple #[v1,.int .i64 (nH l b (ec ss))]∧(nH l b (ec ss)=0→∃os,CG w w' l b v1 os∧ec os=dB b (ec ss))∧(nH l b (ec ss)≠0→v1=.agg (bL 0 none 0 0 none 0 0))):=by
  refine Cn.of func12 rfl rfl ?_
  refine gS (gR ?_)
  refine ab.bx rfl rfl rfl rfl (fun b1=>?_)
  refine ab.eO rfl rfl rfl (fun _=>Kb _) (fun b2=>?_)
  refine ai ?_;refine gE (gS (gS (gR ?_)))
  refine ab.v (ae.iA rfl rfl rfl rfl JS 1 rfl Jz rfl) ?_
  refine gP rfl rfl rfl rfl rfl call22 (fun w _ hS=>(by exact nP l A cA b B cB ss w (hA.ay hS.ext) (hB.ay hS.ext) hl hsl)) ?_
  refine ai ?_;refine gE (gS (gR ?_));refine ah ?_;refine aw gJ ?_;refine gE ?_
  refine gC (fun hc=>?_) fun hc=>?_
  ·
   have h1:nH l b (ec ss)≠0:=by simpa using hc
   refine gS (gR ?_)
   refine ab.v (ae.eN rfl rfl rfl rfl (bd25 (c:=[_,_,_]) rfl)) ?_
   refine ah ?_
   refine ab.dF rfl rfl rfl rfl Jz 0 rfl rfl rfl rfl ?_
   refine ai ?_;refine gE ?_
   refine ab.fJ Tryz.f12 func12 _ (aO.cell rfl JS Jz (j:=0) rfl rfl (aO.tmp rfl aO.nil)) (fun w' hS=>?_)
   exact ⟨hS.ext,_,rfl,fun h=>absurd h h1,fun _=>rfl⟩
  have h1:nH l b (ec ss)=0:=by simpa using hc
  have hok:=iw.1 h1
  refine gK (gS (gR ?_))
  refine ab.v (ae.iA rfl rfl rfl rfl JS 1 rfl Jz rfl) ?_
  refine gM rfl rfl rfl rfl rfl call36 (fun w _ hS=>(by exact vi l A cA b B cB ss w (hA.ay hS.ext) (hB.ay hS.ext) hok)) ?_
  rintro v w1 w2 Y' hS he ⟨v1,v2,os,ws,rfl,⟨qa,qo,qw,ca,co,cw,spa,spo,spw,H,rfl,rfl,hqa,hqo,hqw,hnew,hin⟩,hos,hws⟩
  refine ⟨_,hS.fi he (pre:=[_,_,_]) hnew,?_⟩
  refine ah ?_
  iterate 2 refine fZ ?_
  refine ab.eO rfl rfl rfl (fun _=>Kb _) (fun b5=>?_)
  refine ab.dF rfl rfl rfl rfl Jz 0 rfl rfl rfl rfl ?_
  refine ai ?_;refine gE (gS (gR ?_))
  refine ab.v (ae.iA rfl rfl rfl rfl JS 0 rfl Jz rfl) ?_
  refine ab.dF rfl rfl rfl rfl Jz 4 rfl rfl rfl rfl ?_
  refine ai ?_;refine gE ?_
  refine ab.fJ Tryz.f12 func12 _ (aO.cell rfl JS Jz (j:=4) rfl rfl (aO.tmp rfl aO.nil)) (fun w' hS=>?_)
  exact ⟨hS.ext,_,by rw [h1];rfl,fun _=>⟨os,⟨qa,qo,ca,co,spa,spo,H,rfl,hqa,hqo,gh.of (hS.aS (pre:=[_,_,_,_,_,_]) (pre':=[_,_]) (HR:=H) [1,2] (by decide) rfl),hin⟩,hos⟩,fun h=>absurd h1 h⟩
theorem qT {s:aB} {n:Nat} (h:∀k,s.getLsbD k=true→k<n):∀{m:Nat},n≤m→eR s m=eR s n
 |0,hm=>by rw [show n=0 by omega]
 |m+1,hm=>by
  by_cases e:n=m+1
  ·rw [e]
  rw [jk,if_neg (fun g=>by have:=h m g;omega),List.append_nil];exact qT h (by omega)
set_option maxRecDepth 8000 in
theorem uu (l:Int) (A:Option Addr) (cA:Nat) (b:List NV) (B:Option Addr) (cB:Nat) (ss:List SV) (w:World) (hA:FA w A b) (hB:ue w B ss) (hl:b.length≤maxLen) (hsl:ss.length≤maxLen):
    Cn Tryz.prog 29 [.agg (bL l A b.length cA B ss.length cB)] w (fun v w'=>∃v1,v=.tuple #[v1,.int .i64 (nH l b (ec ss))]∧(nH l b (ec ss)=0→∃gs,z6 66 22 w w' v1 gs∧gs.map FV.f=(dG (cu (ec ss) ((ss.length - 1:Nat):Int))).map (fun i=>bT (aa b i)))):=by
  obtain ⟨i1,hi1,hz1,hsz1,hby1⟩:=info_parts yW
  refine Cn.of func29 rfl rfl ?_
  refine gS (gR ?_)
  refine ab.bx rfl rfl rfl rfl (fun b1=>?_)
  iterate 2 refine ai ?_
  refine gE (gS (gS (gR ?_)))
  refine ab.v (ae.iA rfl rfl rfl rfl JS 0 rfl Jz rfl) ?_
  refine gP rfl rfl rfl rfl rfl call22 (fun w _ hS=>(by exact nP l A cA b B cB ss w (hA.ay hS.ext) (hB.ay hS.ext) hl hsl)) ?_
  refine ai ?_;refine gE (gS (gR ?_));refine ah ?_;refine aw gJ ?_;refine gE ?_
  refine gC (fun hc=>?_) fun hc=>?_
  ·
   have h1:nH l b (ec ss)≠0:=by simpa using hc
   refine gS (gR ?_);refine ah ?_
   iterate 2 refine ai ?_
   refine gE ?_
   refine gT func29 fun w' hS=>?_
   exact ⟨hS.ext,_,rfl,fun h=>absurd h h1⟩
  have h1:nH l b (ec ss)=0:=by simpa using hc
  have hok:=iw.1 h1
  have hb:=hok.base
  have hbl:=hb.len
  have hp0:=hok.pos
  have hp4:=hok.len
  rw [cW] at hp0 hp4
  have hnl:ss.length - 1<ss.length:=by omega
  have hco:=hok.kX (ss.length - 1) (by rw [cW];exact hnl)
  rw [kI hnl] at hco
  obtain ⟨s,hs⟩:∃s,s=ss[ss.length - 1].d.set:=⟨_,rfl⟩
  have hsS:cu (ec ss) ((ss.length - 1:Nat):Int)=s:=by rw [dL (by rw [cW];exact hnl),kI hnl,hs]
  have hins:iM b s:=by rw [hs];exact hco.1
  rw [hsS]
  refine gK (gS (gR ?_));refine ai ?_;refine gE (gS (gS (gR ?_)));refine al Jv Js 1 ?_;refine aq Jx 0 ?_
  refine gM rfl rfl rfl rfl rfl call62 (fun w _ hS=>(by exact sV A cA b w (hA.ay hS.ext) hb)) ?_
  rintro v w1 w2 Y' hS he ⟨fs,⟨qg,cg,spg,Hg,rfl,hqg,hcg,hnew,hin⟩,hfs⟩
  have hfl:fs.length=b.length:=by have:=congrArg List.length hfs;simpa using this
  obtain ⟨bg,rfl⟩:∃b,qg=some b:=by
    cases qg with
    |none=>have:=(hqg rfl).1;have:=(aA.1 hb.jD).pos;omega
    |some b=>exact ⟨b,rfl⟩
  refine ⟨_,hS.fi he (pre:=[_]) hnew,?_⟩
  refine dM Jy ?_;refine ah ?_;refine gE (gB ?_)
  refine ab.cJ (ob FV.v 22 [] []) ?_
  refine ab.aS (pre:=[_,_,_]) (pre':=[(none,ob FV.v 22 [] []),(some b1,.cells (bL l A b.length cA B ss.length cB) 25 (0,0)),(some bg,ob FV.v 22 fs spg)]) Hg [0,2,1] (by decide) rfl ?_
  refine ab.loop (σ:=Nat×Option Nat×Nat×List FV×List Value) (fun z=>[(1,.pointer (some ⟨b1,0,none⟩)),(5,cQ z.2.1 z.2.2.2.1.length z.2.2.1),(15,cQ (some bg) fs.length cg),(16,.int .i64 fs.length),(17,.int .i64 z.1)])
    (fun z=>[(z.2.1,ob FV.v 22 z.2.2.2.1 z.2.2.2.2),(some b1,.cells (bL l A b.length cA B ss.length cB) 25 (0,0)),(some bg,ob FV.v 22 fs spg)]++Hg)
    (fun z=>z.1≤fs.length∧(z.2.1=none→z.2.2.2.1.length=0∧z.2.2.1=0)∧(z.2.2.2.1.map FV.v++z.2.2.2.2).length=z.2.2.1∧(∀g∈z.2.2.2.1,g∈fs)∧z.2.2.2.1.map FV.f=(eR s z.1).map (fun i=>bT (aa b i)))
    (fun z=>fs.length - z.1) (0,none,0,[],[]) ⟨Nat.zero_le _,fun _=>⟨rfl,rfl⟩,rfl,(fun _ h=>by cases h),rfl⟩ ⟨rfl,rfl,rfl,rfl,rfl,trivial⟩ (List.Sublist.refl _) (fun z hI IH=>?_)
  obtain ⟨k,q,cap,gs,sp⟩:=z
  obtain ⟨hk,hq,ao,hing,hgs⟩:=hI
  dsimp only at hk hq ao hing hgs IH⊢
  have hgl:gs.length≤k:=by
    have h1:=congrArg List.length hgs
    have h2:=@jd s k
    simp at h1;omega
  refine gS (gR ?_);refine aw iX ?_;refine gE (gS ?_)
  refine gC (fun hc=>?_) fun hc=>?_
  ·
   have hlt:k<fs.length:=by simpa using hc
   have hfk:fs[k].f=bT (aa b k):=by
     have:=congrArg (fun l=>l[k]?) hfs
     simpa [List.getElem?_range (show k<b.length by omega),hlt] using this
   have hgd:fs.getD k FV.z=fs[k]:=by simp [List.getD_eq_getElem?_getD,hlt]
   refine gK (gS (gB (gS (gR ?_))));refine ah ?_
   refine ab.v (ae.dX rfl rfl rfl rfl rfl Jy Js (k) ⟨rfl,hlt⟩) ?_
   skip
   refine ab.v (ae.qH FV.v FV.z rfl rfl rfl rfl Jx 2 rfl hlt) ?_
   rw [hgd]
   iterate 2 refine ai ?_
   refine gE (gS (gR ?_));refine al Jv JM 2 ?_;refine aq JO 1 ?_;refine al Jv JM 2 ?_;refine aq JO 1 ?_;refine dM JG ?_
   refine db rfl rfl rfl rfl (iQ (c:=((ss.length - 1:Nat):Int)) (by omega) (by omega)) ?_
   refine ab.v (ae.ed rfl rfl rfl rfl rfl JG Jw ⟨_,(hB).at_⟩ (ax (enc:=SV.cells) (sz:=5) (fun _=>rfl)) (by decide) ((ss.length - 1)) ⟨rfl,hnl⟩) ?_
   refine ab.v (ae.fM rfl rfl rfl rfl Jq rfl JC (((ss.length - 1))*5+0) rfl) ?_
   refine ab.v (ae.ld rfl rfl rfl rfl JI (fun w _ hS=>Sl.kU (enc:=SV.cells) (sz:=5) ((hB).ay hS.ext).at_ (fun _=>rfl) hnl rfl)) ?_
   refine ah ?_
   refine gP rfl rfl rfl rfl rfl call63 (fun w _ hS=>(by exact py ss[ss.length - 1].d.set (k:Int) w)) ?_
   refine gE ?_
   refine gC (fun hc=>?_) fun hc=>?_
   ·
    have hb1:s.getLsbD k=true:=by rw [hs];exact lB.1 hc
    have hsn:eR s (k+1)=eR s k++[k]:=by rw [jk,if_pos hb1]
    refine gR ?_
    iterate 2 refine ah ?_
    refine ab.ew (c:=[_]) rfl rfl rfl rfl Jy Js JF rfl rfl (fun b35=>?_)
    refine ab.nC FV.v (news:=[fs[k]]) (spn:=[]) (xs:=gs) (sp:=sp) (q:=q) rfl rfl rfl rfl rfl Jy hi1 hz1 hsz1 rfl hq 1 rfl 0 rfl ao rfl (by decide) (fun _=>rfl) (by unfold maxLen;omega) (by rw [hby1];omega) (fun b' sp' cap' hlen=>?_)
    refine ai ?_;refine gE (dO (gR ?_));refine db rfl rfl rfl rfl (cz (by omega)) ?_;refine ah ?_;refine gE ?_
    refine ab.aS (pre:=[_,_,_,_]) (pre':=[_,_,_]) Hg [1,2,3] (by decide) rfl ?_
    exact IH (k+1,some b',cap',gs++[fs[k]],sp') _ _ ⟨hlt,(fun e=>by cases e),hlen,fun g hg=>(by
      rcases List.mem_append.1 hg with hg|hg
      · exact hing g hg
      rw [List.mem_singleton.1 hg];exact List.getElem_mem hlt),by dsimp only;rw [List.map_append,hgs,hsn,List.map_append,List.map_singleton,hfk];rfl⟩ (by dsimp only;omega) ⟨rfl,rfl,rfl,rfl,rfl,trivial⟩ (List.Sublist.refl _)
   have hb1:¬s.getLsbD k=true:=by rw [hs];exact fun h=>by rw [lB.2 h] at hc;cases hc
   have hsn:eR s (k+1)=eR s k:=by rw [jk,if_neg hb1,List.append_nil]
   refine gK (dO (gR ?_));refine db rfl rfl rfl rfl (cz (by omega)) ?_;refine ah ?_;refine gE ?_
   exact IH (k+1,q,cap,gs,sp) _ _ ⟨hlt,hq,ao,hing,by dsimp only;rw [hsn];exact hgs⟩ (by dsimp only;omega) ⟨rfl,rfl,rfl,rfl,rfl,trivial⟩ (List.Sublist.refl _)
  have hge:¬k<fs.length:=by simpa using hc
  obtain rfl:k=fs.length:=by omega
  have hpt:eR s fs.length=dG s:=by rw [hfl];exact (qT hins (m:=64) (by omega)).symm
  refine ab.exit rfl (gS (gR ?_))
  refine ah ?_
  iterate 2 refine ai ?_
  refine gE ?_
  refine gT func29 fun w' hS=>?_
  exact ⟨hS.ext,_,by rw [h1];rfl,fun _=>⟨gs,⟨q,cap,sp,Hg,rfl,hq,ao,gh.of (hS.aS (pre:=[_,_,_]) (pre':=[_]) (HR:=Hg) [0] (by decide) rfl),fun g hg=>hin g (hing g hg)⟩,by rw [←hpt];exact hgs⟩⟩
end Go.Proofs.YtnfmegcknckahaaGreatDoor
