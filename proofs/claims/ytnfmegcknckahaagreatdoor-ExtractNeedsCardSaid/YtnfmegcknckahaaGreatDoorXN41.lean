/- What calls of the program return, under the conditions that each theorem states. -/
import Derived.Test.YtnfmegcknckahaaGreatDoorXN37
import Derived.Test.YtnfmegcknckahaaGreatDoorXN20
import Derived.Test.YtnfmegcknckahaaGreatDoorXN24
import Derived.Test.YtnfmegcknckahaaGreatDoorXN25
import Derived.Test.YtnfmegcknckahaaGreatDoorXN04
import Derived.Test.YtnfmegcknckahaaGreatDoorXN02
import Derived.Test.YtnfmegcknckahaaGreatDoorXN38
import Derived.Test.YtnfmegcknckahaaGreatDoorXN39
import Derived.Test.YtnfmegcknckahaaGreatDoorXN13
import Derived.Test.YtnfmegcknckahaaGreatDoorXN17
import Derived.Test.YtnfmegcknckahaaGreatDoorXN29
import Derived.Test.YtnfmegcknckahaaGreatDoorXN30
import Derived.Test.YtnfmegcknckahaaGreatDoorXN40
import Derived.Test.YtnfmegcknckahaaGreatDoorXN03
namespace Go.Proofs.YtnfmegcknckahaaGreatDoor
open Go.RowKit Go.Proofs.Wit Tryz
/-! extracting: trimming: the program -/
theorem DH:(Tryz.prog.info? 41).map (fun i=>(i.zero,i.size,i.bytes))=some (some (.agg #[U 0#64,.int .i64 0,.int .i64 0,.int .i64 0,.slice none 0 0]),5,56):=by kernel_rfl
theorem DG:(Tryz.prog.info? 38).map (fun i=>(i.zero,i.size,i.bytes))=some (some (U 0#64),1,8):=by kernel_rfl
set_option maxRecDepth 8000 in
theorem u9 (l:Int) (A:Option Addr) (cA:Nat) (b:List NV) (B:Option Addr) (cB:Nat) (ss:List SV) (w:World) (hA:FA w A b) (hB:uc w B ss) (hok:gm l b (dW ss)):
    Cn Tryz.prog 36 [.agg (bH l A b.length cA B ss.length cB)] w (fun v w'=>∃v1 v2 os ws,v=.tuple #[v1,v2]∧Gi 66 41 3 w w' l b v1 v2 os ws∧dW os=dk b (dW ss)∧ws.map (fun x=>x.d.set)=cM (dW ss) (dW ss).length):=by
  obtain ⟨i1,hi1,hz1,hsz1,hby1⟩:=info_parts yQ
  obtain ⟨i2,hi2,hz2,hsz2,hby2⟩:=info_parts uJ
  obtain ⟨i3,hi3,hz3,hsz3,hby3⟩:=info_parts DH
  obtain ⟨i4,hi4,hz4,hsz4,hby4⟩:=info_parts DG
  obtain ⟨L,hLd⟩:∃L,L=dW ss:=⟨_,rfl⟩
  have hL:L.length=ss.length:=by rw [hLd,dg]
  rw [←hLd] at hok⊢
  have hat:∀{k:Nat} (hk:k<ss.length),L[k]'(by omega)=ss[k].d:=fun hk=>by subst hLd;exact jO hk
  have hp0:=hok.pos
  have hp4:=hok.len
  have hb:=hok.base
  have hco:∀(k:Nat) (hk:k<ss.length),ej l b L k ss[k].d:=fun k hk=>by have:=hok.lV k (by omega);rwa [hat hk] at this
  have hfl:∀(k:Nat) (hk:k<ss.length),ss[k].d.fr.length≤2:=fun k hk=>by
    have h:=(hco k hk).2
    rcases h with ⟨_,e,_⟩|⟨_,_,_,h⟩|⟨_,_,_,h⟩|⟨_,_,_,_,h⟩|⟨_,_,_,_,h⟩|⟨_,_,_,h⟩|⟨_,_,_,_,h⟩
    · rw [e];exact Nat.zero_le _
    all_goals (rw [iv] at h;have:=h.1;simp at this;omega)
  have hfb:∀(k:Nat) (hk:k<L.length),∀j∈L[k].fr,0≤j∧j<k:=fun k hk j hj=>(hok.lV k hk).l8 hj
  have hbl:b.length≤64:=hb.len
  have hb0:0<b.length:=(aD.1 hb.jF).pos
  have hnl:ss.length - 1<ss.length:=by omega
  have hrl:ss.length - 1<(List.replicate ss.length false).length:=by simp;omega
  refine Cn.of func36 rfl rfl ?_
  refine gS (gR ?_)
  refine ab.bx rfl rfl rfl rfl (fun b1=>?_)
  refine ab.eK rfl rfl rfl (fun _=>J7 _) (fun b2=>?_)
  refine ai ?_;refine gE (gS (gR ?_));refine ai ?_;refine gE (gS (gS (gR ?_)));refine al Js JH 2 ?_;refine aq JJ 1 ?_;refine dL JB ?_;refine ah ?_;refine gE (gB ?_)
  refine ab.cQ (ob U 38 [] []) ?_
  refine ab.pick (pre:=[_,_,_]) (pre':=[(some b1,.cells (bH l A b.length cA B ss.length cB) 25 (0,0)),(some b2,.cells (bH 0 none 0 0 none 0 0) 25 (0,0)),(none,ob U 38 (eR b L 0) [])]) [2,1,0] (by decide) rfl ?_
  refine ab.loop (σ:=Nat×Option Nat×Nat×List Value) (fun z=>[(1,.pointer (some ⟨b1,0,none⟩)),(2,.pointer (some ⟨b2,0,none⟩)),(4,cP z.2.1 (eR b L z.1).length z.2.2.1),(18,.slice B ss.length cB),(19,.int .i64 ss.length),(20,.int .i64 z.1)])
    (fun z=>[(some b1,.cells (bH l A b.length cA B ss.length cB) 25 (0,0)),(some b2,.cells (bH 0 none 0 0 none 0 0) 25 (0,0)),(z.2.1,ob U 38 (eR b L z.1) z.2.2.2)])
    (fun z=>z.1≤ss.length∧(z.2.1=none→(eR b L z.1).length=0∧z.2.2.1=0)∧((eR b L z.1).map U++z.2.2.2).length=z.2.2.1)
    (fun z=>ss.length - z.1) (0,none,0,[]) ⟨Nat.zero_le _,fun _=>⟨rfl,rfl⟩,rfl⟩ ⟨rfl,rfl,rfl,rfl,rfl,rfl,trivial⟩ (List.Sublist.refl _) (fun z hZ IH=>?_)
  obtain ⟨k,q,cap,sp⟩:=z
  obtain ⟨hk,hq,ao⟩:=hZ
  dsimp only at hk hq ao IH⊢
  have hul:(eR b L k).length=k:=kV (by omega)
  refine gS (gR ?_);refine aw iK ?_;refine gE (gS ?_)
  refine gC (fun hc=>?_) fun hc=>?_
  ·
   have hlt:k<ss.length:=by simpa using hc
   have hsu:eR b L (k+1)=eR b L k++[jK b ss[k].d (eR b L k)]:=by rw [lJ (by omega),hat hlt]
   refine gK (gS (gB (gS (gR ?_))))
   refine ab.v (ae.eg rfl rfl rfl rfl rfl JB Jr ⟨_,(hB).at_⟩ (ax (enc:=SV.cells) (sz:=5) (fun _=>rfl)) (by decide) (k) ⟨rfl,hlt⟩) ?_
   refine ab.v (ae.nQ (cs:=SV.cells ss[k]) rfl rfl rfl rfl J0 Jr (fun w _ hS=>Sl.many (enc:=SV.cells) (sz:=5) (hB.aA hS.ext).at_ (fun _=>rfl) hlt)) ?_
   refine ab.eK rfl rfl rfl (fun _=>J9 _) (fun b6=>?_)
   refine ab.dD rfl rfl rfl rfl Jr 0 rfl rfl rfl rfl ?_
   refine gE (gR ?_);refine ah ?_
   refine ab.v (ae.iE rfl rfl rfl rfl JV 1 rfl Jt rfl) ?_
   refine ab.v (ae.iE rfl rfl rfl rfl J0 0 rfl Jr rfl) ?_
   refine ah ?_
   refine gP rfl rfl rfl rfl rfl call66 (fun w _ hS=>(by exact Ab l A cA b B ss.length cB ss[k] L k (q.map (fun b=>⟨b,0,none⟩)) cap (eR b L k) w (hA.aA hS.ext) hb ((hB.yU ss[k] (List.getElem_mem hlt)).1.aA hS.ext) (GA hS 3 rfl (fun e=>(hq e).1)) hul (hco k hlt) (hfl k hlt))) ?_
   refine ab.eh (c:=[_]) rfl rfl rfl rfl J1 Jz J6 rfl rfl (fun b29=>?_)
   refine ab.od U (news:=[jK b ss[k].d (eR b L k)]) (spn:=[]) (xs:=eR b L k) (sp:=sp) (q:=q) rfl rfl rfl rfl rfl J1 hi4 hz4 hsz4 rfl hq 4 rfl 0 rfl ao rfl (by decide) (fun _=>rfl) (by unfold maxLen;omega) (by rw [hby4];omega) (fun b' sp' cap' hlen=>?_)
   refine ai ?_;refine gE (dJ (gR ?_));refine cG rfl rfl rfl rfl (cu (by omega)) ?_;refine ah ?_;refine gE ?_
   refine ab.pick (pre:=[_,_,_,_,_]) (pre':=[_,_,_]) [2,3,4] (by decide) rfl ?_
   rw [←hsu] at hlen⊢
   exact IH (k+1,some b',cap',sp') _ _ ⟨hlt,(fun e=>by cases e),hlen⟩ (by dsimp only;omega) ⟨rfl,rfl,rfl,rfl,rfl,rfl,trivial⟩ (List.Sublist.refl _)
  have hge:¬k<ss.length:=by simpa using hc
  obtain rfl:k=ss.length:=by omega
  obtain ⟨bs,rfl⟩:∃b,q=some b:=by
    cases q with
    |none=>have:=(hq rfl).1;omega
    |some b=>exact ⟨b,rfl⟩
  rw [hul]
  have hug:∀{i:Nat},i<ss.length→(eR b L ss.length).getD i 0#64=oQ b L i:=fun hi=>mz hi (by omega)
  refine ab.exit rfl (gS (gR ?_))
  refine al Js JH 2 ?_;refine aq JJ 0 ?_;refine dL JB ?_
  refine ab.Dp Value.bool false rfl rfl rfl rfl rfl JL hi1 hz1 rfl hsz1 (by rw [hby1];omega) (by unfold maxLen;omega) (fun b35=>?_)
  refine ai ?_;refine gE (gS (gR ?_))
  iterate 2 refine ah ?_
  refine dL JL ?_
  refine cG rfl rfl rfl rfl (iJ (c:=((ss.length - 1:Nat):Int)) (by omega) (by omega)) ?_
  refine ab.v (ae.dx rfl rfl rfl rfl rfl JL Jh (ss.length - 1) ⟨rfl,hnl⟩) ?_
  refine ab.vm Value.bool _ rfl rfl rfl rfl Jh rfl 0 rfl hrl ?_
  refine gE (gS (gS (gR ?_)));refine ah ?_;refine dL JL ?_;refine cG rfl rfl rfl rfl (mu (by omega)) ?_;refine ai ?_;refine gE (gB ?_)
  refine ab.loop (σ:=Nat×List Bool) (fun z=>[(1,.pointer (some ⟨b1,0,none⟩)),(2,.pointer (some ⟨b2,0,none⟩)),(4,cP (some bs) ss.length cap),(7,.slice (some ⟨b35,0,none⟩) ss.length ss.length),(8,.int .i64 ((ss.length:Int) - 1 - z.1))])
    (fun z=>[(some b35,ob Value.bool 4 z.2 []),(some b1,.cells (bH l A b.length cA B ss.length cB) 25 (0,0)),(some b2,.cells (bH 0 none 0 0 none 0 0) 25 (0,0)),(some bs,ob U 38 (eR b L ss.length) sp)])
    (fun z=>z.1≤ss.length∧u7 L z.1 z.2) (fun z=>ss.length - z.1) (0,(List.replicate ss.length false).set (ss.length - 1) true) ⟨Nat.zero_le _,by have:=u7.init (ss:=L) (by omega);rw [hL] at this;exact this⟩ ⟨rfl,rfl,rfl,rfl,by dsimp only;rw [show (ss.length:Int) - 1 - ((0:Nat):Int)=(ss.length:Int) - 1 by omega];rfl,trivial⟩ (List.Sublist.refl _) (fun z hZ IH=>?_)
  obtain ⟨i,s⟩:=z
  obtain ⟨hi,hU⟩:=hZ
  dsimp only at hi hU IH⊢
  refine gS (gS (gR ?_));refine ah ?_;refine aw oz ?_;refine gE ?_
  refine gC (fun hc=>?_) fun hc=>?_
  ·
   have hlt:i<ss.length:=by simp at hc;omega
   obtain ⟨k,hkd⟩:∃k,k=ss.length - 1 - i:=⟨_,rfl⟩
   have hk:k<ss.length:=by omega
   have hki:k+1+i=ss.length:=by omega
   have hkI:(ss.length:Int) - 1 - i=(k:Int):=by omega
   have hsl:s.length=ss.length:=by rw [hU.len,hL]
   have hks:k<s.length:=by omega
   rw [hkI]
   refine gK (gS (gB (gS (gR ?_))));refine al Js JH 2 ?_;refine aq JJ 1 ?_;refine ah ?_
   refine ab.v (ae.eg rfl rfl rfl rfl rfl JB Jr ⟨_,(hB).at_⟩ (ax (enc:=SV.cells) (sz:=5) (fun _=>rfl)) (by decide) (k) ⟨rfl,hk⟩) ?_
   refine ab.v (ae.fH rfl rfl rfl rfl Jm rfl JO ((k)*5+4) rfl) ?_
   refine ab.v (ae.ld rfl rfl rfl rfl JW (fun w _ hS=>Sl.kO (enc:=SV.cells) (sz:=5) ((hB).aA hS.ext).at_ (fun _=>rfl) hk rfl)) ?_
   refine dL Jl ?_;refine ah ?_;refine gE (gB ?_)
   refine ab.loop (σ:=Nat) (fun q=>[(1,.pointer (some ⟨b1,0,none⟩)),(2,.pointer (some ⟨b2,0,none⟩)),(4,cP (some bs) ss.length cap),(7,.slice (some ⟨b35,0,none⟩) ss.length ss.length),(8,.int .i64 (k:Int)),(53,.slice ss[k].fa ss[k].d.fr.length ss[k].fc),(54,.int .i64 ss[k].d.fr.length),(55,.int .i64 q)])
     (fun q=>[(some b35,ob Value.bool 4 (oJ (sB s k) s (ss[k].d.fr.take q)) []),(some b1,.cells (bH l A b.length cA B ss.length cB) 25 (0,0)),(some b2,.cells (bH 0 none 0 0 none 0 0) 25 (0,0)),(some bs,ob U 38 (eR b L ss.length) sp)])
     (fun q=>q≤ss[k].d.fr.length) (fun q=>ss[k].d.fr.length - q) 0 (Nat.zero_le _) ⟨rfl,rfl,rfl,rfl,rfl,rfl,rfl,rfl,trivial⟩ (List.Sublist.refl _) (fun q hq IH2=>?_)
   refine gS (gR ?_);refine aw iK ?_;refine gE (gS ?_)
   refine gC (fun hc=>?_) fun hc=>?_
   ·
    have hq2:q<ss[k].d.fr.length:=by simpa using hc
    have hjb:=(hco k hk).l8 (List.getElem_mem hq2)
    obtain ⟨j,hj⟩:∃j:Nat,ss[k].d.fr[q]=(j:Int):=⟨ss[k].d.fr[q].toNat,by omega⟩
    obtain ⟨s1,hs1⟩:∃s1,s1=oJ (sB s k) s (ss[k].d.fr.take q):=⟨_,rfl⟩
    have hs1l:s1.length=ss.length:=by rw [hs1,iT,hsl]
    have hjl:j<ss.length:=by omega
    have hjs:j<s1.length:=by omega
    have hk1:k<s1.length:=by omega
    have hfr:=(hB.yU ss[k] (List.getElem_mem hk)).1
    have hf2:=hfl k hk
    have hsk:sB s1 k=sB s k:=by
      have hn:(k:Int)∉ss[k].d.fr.take q:=fun hm=>by have:=(hco k hk).l8 (List.mem_of_mem_take hm);omega
      rw [hs1,py (fun i hi=>by have:=(hco k hk).l8 (List.mem_of_mem_take hi);omega)]
      simp [hn]
    have hnx:oJ (sB s k) s (ss[k].d.fr.take (q+1))=s1.set j (sB s1 j||sB s k):=by
      rw [List.take_succ_eq_append_getElem hq2,pO,←hs1,hj];rfl
    rw [←hs1]
    refine gK (gS (gB (gS (gR ?_))))
    refine ab.v (ae.idx rfl rfl rfl rfl rfl Jl Je ⟨_,hfr⟩ (by simp) (q) ⟨rfl,by simpa using hq2⟩) ?_
    refine ab.v (ae.ld rfl rfl rfl rfl Jf (fun w _ hS=>(jI.aA hfr hS.ext).at (q) hq2)) ?_
    refine ai ?_;refine gE (gR ?_)
    iterate 4 refine ah ?_
    refine ab.v (ae.dx rfl rfl rfl rfl rfl JL Jh (j) ⟨hj,hjl⟩) ?_
    refine ab.v (ae.qD Value.bool false rfl rfl rfl rfl Jj 0 rfl hjs) ?_
    refine ah ?_
    refine eB 65 (fun hc=>?_) fun hc=>?_
    ·
     have hsj:sB s1 j=true:=hc
     iterate 4 refine cz ?_
     refine cC ?_
     refine ab.v (ae.dx rfl rfl rfl rfl rfl JL Jh (j) ⟨hj,hjl⟩) ?_
     refine ab.vm Value.bool _ rfl rfl rfl rfl Jh rfl 0 rfl hjs ?_
     refine gE (dJ (gR ?_));refine cG rfl rfl rfl rfl (cu (by omega)) ?_;refine ah ?_;refine gE ?_
     exact IH2 (q+1) _ _ hq2 (by omega) ⟨rfl,rfl,rfl,rfl,rfl,rfl,rfl,rfl,trivial⟩ (by rw [hnx,hsj];exact List.Sublist.refl _)
    have hsj:sB s1 j=false:=hc
    iterate 2 refine ah ?_
    refine ab.v (ae.dx rfl rfl rfl rfl rfl JL Jh (k) ⟨rfl,hk⟩) ?_
    refine ab.v (ae.qD Value.bool false rfl rfl rfl rfl Jj 0 rfl hk1) ?_
    refine bA ?_
    refine ab.v (ae.dx rfl rfl rfl rfl rfl JL Jh (j) ⟨hj,hjl⟩) ?_
    refine ab.vm Value.bool _ rfl rfl rfl rfl Jh rfl 0 rfl hjs ?_
    refine gE (dJ (gR ?_));refine cG rfl rfl rfl rfl (cu (by omega)) ?_;refine ah ?_;refine gE ?_
    exact IH2 (q+1) _ _ hq2 (by omega) ⟨rfl,rfl,rfl,rfl,rfl,rfl,rfl,rfl,trivial⟩ (by rw [hnx,hsj,←hsk];exact List.Sublist.refl _)
   have hge:¬q<ss[k].d.fr.length:=by simpa using hc
   obtain rfl:q=ss[k].d.fr.length:=by omega
   refine ab.exit rfl (dJ (gR ?_))
   refine ah ?_;refine cG rfl rfl rfl rfl (mu (by omega)) ?_;refine ai ?_;refine gE ?_
   exact IH (i+1,oJ (sB s k) s ss[k].d.fr) _ _ ⟨hlt,by have:=hU.step hfb (k:=k) (by omega);rw [hat hk] at this;exact this⟩ (by dsimp only;omega) ⟨rfl,rfl,rfl,rfl,by dsimp only;rw [show (ss.length:Int) - 1 - ((i+1:Nat):Int)=(k:Int) - 1 by omega];rfl,trivial⟩ (by rw [List.take_length];exact List.Sublist.refl _)
  have hge:¬i<ss.length:=by simp at hc;omega
  obtain rfl:i=ss.length:=by omega
  have hnd:∀j,j<ss.length→sB s j=dG L j:=fun j hj=>by rw [←hL] at hU;exact hU.done (by omega)
  have hsl:s.length=ss.length:=by rw [hU.len,hL]
  refine ab.exit rfl (gS ?_)
  refine ab.mK (α:=Nat×Nat×Nat×List Value) [7] (fun z=>[(1,.pointer (some ⟨b1,0,none⟩)),(2,.pointer (some ⟨b2,0,none⟩)),(4,cP (some bs) ss.length cap),(7,.slice (some ⟨b35,0,none⟩) ss.length ss.length),(78,.agg (bH l ((some z.2.1).map (fun b=>⟨b,0,none⟩)) b.length z.2.2.1 none 0 0)),(11,.pointer (some ⟨z.1,0,none⟩))]) (fun z=>[(some z.1,.cells (bH 0 none 0 0 none 0 0) 25 (0,0)),(some z.2.1,eO 66 b z.2.2.2),(some b35,ob Value.bool 4 s []),(some b1,.cells (bH l A b.length cA B ss.length cB) 25 (0,0)),(some b2,.cells (bH 0 none 0 0 none 0 0) 25 (0,0)),(some bs,ob U 38 (eR b L ss.length) sp)]) (fun z=>?_) (fun K=>?_)
  obtain ⟨b11,ba,ca,spa⟩:=z
  dsimp only
  · -- what comes behind the region
   refine ab.dD rfl rfl rfl rfl Jt 0 rfl rfl rfl rfl ?_
   refine gE (gS (gR ?_));refine ai ?_;refine gE (gS (gR ?_));refine ah ?_;refine dL JL ?_
   refine ab.Dp bK 0 rfl rfl rfl rfl rfl Jl hi2 hz2 rfl hsz2 (by rw [hby2];omega) (by unfold maxLen;omega) (fun b81=>?_)
   refine ai ?_;refine gE (gS (gS (gR ?_)));refine al Js JH 2 ?_;refine aq JJ 4 ?_;refine dL JB ?_;refine ah ?_;refine gE (gB ?_)
   iterate 2 refine ab.cQ (lk 41 [] []) ?_
   refine ab.pick (pre:=[_,_,_,_,_,_,_,_,_]) (pre':=[(some b81,ob bK 3 (iC L 0) []),(some b11,.cells (bH l ((some ba).map (fun b=>⟨b,0,none⟩)) b.length ca ((none:Option Nat).map (fun b=>⟨b,0,none⟩)) ([]:List SV).length 0) 25 (0,0)),(some ba,eO 66 b spa),(some b35,ob Value.bool 4 s []),(some b1,.cells (bH l A b.length cA B ss.length cB) 25 (0,0)),(some b2,.cells (bH 0 none 0 0 none 0 0) 25 (0,0)),(some bs,ob U 38 (eR b L ss.length) sp),(none,lk 41 [] []),(none,lk 41 [] [])]) [2,3,4,5,6,7,8,0,1] (by decide) (by rw [wC,hL];rfl) ?_
   refine ab.loop (σ:=Nat×(Option Nat×Nat×List SV×List Value)×(Option Nat×Nat×List SV×List Value)×Hl) (fun z=>[(1,.pointer (some ⟨b1,0,none⟩)),(2,.pointer (some ⟨b2,0,none⟩)),(4,cP (some bs) ss.length cap),(7,.slice (some ⟨b35,0,none⟩) ss.length ss.length),(11,.pointer (some ⟨b11,0,none⟩)),(12,cP z.2.2.1.1 z.2.2.1.2.2.1.length z.2.2.1.2.1),(13,.slice (some ⟨b81,0,none⟩) ss.length ss.length),(83,.slice B ss.length cB),(84,.int .i64 ss.length),(85,.int .i64 z.1)])
     (fun z=>[(some b81,ob bK 3 (iC L z.1) []),(some b11,.cells (bH l ((some ba).map (fun b=>⟨b,0,none⟩)) b.length ca (z.2.1.1.map (fun b=>⟨b,0,none⟩)) z.2.1.2.2.1.length z.2.1.2.1) 25 (0,0)),(some ba,eO 66 b spa),(some b35,ob Value.bool 4 s []),(some b1,.cells (bH l A b.length cA B ss.length cB) 25 (0,0)),(some b2,.cells (bH 0 none 0 0 none 0 0) 25 (0,0)),(some bs,ob U 38 (eR b L ss.length) sp),(z.2.1.1,lk 41 z.2.1.2.2.1 z.2.1.2.2.2),(z.2.2.1.1,lk 41 z.2.2.1.2.2.1 z.2.2.1.2.2.2)]++z.2.2.2)
     (fun z=>z.1≤ss.length∧(z.2.1.1=none→z.2.1.2.2.1.length=0∧z.2.1.2.1=0)∧(z.2.1.2.2.1.flatMap SV.cells++z.2.1.2.2.2).length=z.2.1.2.1*5∧(z.2.2.1.1=none→z.2.2.1.2.2.1.length=0∧z.2.2.1.2.1=0)∧(z.2.2.1.2.2.1.flatMap SV.cells++z.2.2.1.2.2.2).length=z.2.2.1.2.1*5∧
       dW z.2.1.2.2.1=mF b L z.1∧z.2.2.1.2.2.1.map (fun x=>x.d.set)=cM L z.1∧∀x∈z.2.1.2.2.1,x.sI 3 z.2.2.2∧x.d.fr.length≤maxLen)
     (fun z=>ss.length - z.1) (0,(none,0,[],[]),(none,0,[],[]),[]) ⟨Nat.zero_le _,fun _=>⟨rfl,rfl⟩,rfl,fun _=>⟨rfl,rfl⟩,rfl,rfl,rfl,fun _ h=>by cases h⟩ ⟨rfl,rfl,rfl,rfl,rfl,rfl,rfl,rfl,rfl,rfl,trivial⟩ (List.Sublist.refl _) (fun z hZ IH=>?_)
   obtain ⟨i,⟨qo,co,os,spo⟩,⟨qw,cw,ws,spw⟩,H⟩:=z
   obtain ⟨hi,hqo,hco1,hqw,hcw,hos,hws,hin⟩:=hZ
   dsimp only at hi hqo hco1 hqw hcw hos hws hin IH⊢
   have hol:os.length=bJ (dG L) i:=by rw [←kY (b:=b) (show i≤L.length by omega),←hos,dg]
   have hwl:ws.length=bJ (dG L) i:=by rw [←lz (show i≤L.length by omega),←hws,List.length_map]
   have hcn:bJ (dG L) i≤i:=sq
   refine gS (gR ?_);refine aw iK ?_;refine gE (gS ?_)
   refine gC (fun hc=>?_) fun hc=>?_
   ·
    have hlt:i<ss.length:=by simpa using hc
    have hs:i<s.length:=by omega
    have hsu:i<(eR b L ss.length).length:=by omega
    have hpl:i<(iC L i).length:=by rw [tc];omega
    have hfr:=(hB.yU ss[i] (List.getElem_mem hlt)).1
    have hf2:=hfl i hlt
    have hps:=jX (b:=b) (show i<L.length by omega)
    have hfs:cM L (i+1)=if dG L i=true then cM L i++[L[i].set] else cM L i:=by rw [cM,List.getElem?_eq_getElem (by omega)]
    rw [hat hlt] at hps hfs
    refine gK (gS (gB (gS (gR ?_))));refine ah ?_
    refine ab.v (ae.eg rfl rfl rfl rfl rfl JB Jr ⟨_,(hB).at_⟩ (ax (enc:=SV.cells) (sz:=5) (fun _=>rfl)) (by decide) (i) ⟨rfl,hlt⟩) ?_
    refine ab.v (ae.nQ (cs:=SV.cells ss[i]) rfl rfl rfl rfl J0 Jr (fun w _ hS=>Sl.many (enc:=SV.cells) (sz:=5) (hB.aA hS.ext).at_ (fun _=>rfl) hlt)) ?_
    refine ab.eK rfl rfl rfl (fun _=>J9 _) (fun b15=>?_)
    refine ai ?_
    refine ab.dD rfl rfl rfl rfl Jr 0 rfl rfl rfl rfl ?_
    refine gE (gS (gS (gR ?_)))
    iterate 2 refine ah ?_
    refine ab.v (ae.dx rfl rfl rfl rfl rfl JL Jh (i) ⟨rfl,hlt⟩) ?_
    refine ab.v (ae.qD Value.bool false rfl rfl rfl rfl Jj 4 rfl hs) ?_
    refine eV bB ?_;refine gE ?_
    refine gC (fun hc=>?_) fun hc=>?_
    ·
     have hsi:sB s i=false:=by simpa using hc
     have hn:dG L i=false:=by rw [←hnd i hlt];exact hsi
     rw [if_neg (by rw [hn];simp)] at hps hfs
     refine ab.exit rfl (gR ?_)
     refine cG rfl rfl rfl rfl (cu (by omega)) ?_;refine ah ?_;refine gE ?_
     exact IH (i+1,(qo,co,os,spo),(qw,cw,ws,spw),H) _ _ ⟨hlt,hqo,hco1,hqw,hcw,by dsimp only;rw [hps];exact hos,by dsimp only;rw [hfs];exact hws,hin⟩ (by dsimp only;omega) ⟨rfl,rfl,rfl,rfl,rfl,rfl,rfl,rfl,rfl,rfl,trivial⟩ (by dsimp only;rw [wD hn];exact .cons _ (List.Sublist.refl _))
    have hsi:sB s i=true:=by simpa using hc
    have hn:dG L i=true:=by rw [←hnd i hlt];exact hsi
    rw [if_pos hn] at hps hfs
    have hNd:=ep.1 hn
    have hset:(iC L i).set i (os.length:Int)=iC L (i+1):=by rw [hol];exact yg hn
    refine gK (gS (gR ?_))
    iterate 2 refine ah ?_
    refine al Js JH 2 ?_;refine aq JJ 2 ?_;refine dL JB ?_
    refine ab.v (ae.dx rfl rfl rfl rfl rfl Jl Je (i) ⟨rfl,hlt⟩) ?_
    skip
    refine ab.vm (Value.int .i64) _ rfl rfl rfl rfl Je rfl 1 rfl hpl ?_
    rw [hset]
    refine gE (gS (gR ?_));refine ah ?_
    refine ab.v (ae.iE rfl rfl rfl rfl J0 0 rfl Jr rfl) ?_
    refine ab.eh (c:=[_,_,_,_,_]) rfl rfl rfl rfl JB Jr J9 rfl rfl (fun b103=>?_)
    refine ab.Cv (ss:=ws) (sp:=spw) (q:=qw) (nl:=ss[i]) rfl rfl rfl rfl rfl JB hi3 hz3 hsz3 rfl hqw 10 rfl 0 rfl hcw (by unfold maxLen;omega) (by rw [hby3];omega) (fun bw spw' cw' hlw=>?_)
    refine ai ?_;refine gE (gS (gR ?_))
    iterate 2 refine ah ?_
    refine ab.v (ae.dx rfl rfl rfl rfl rfl J1 Jz (i) ⟨rfl,hlt⟩) ?_
    skip
    refine ab.v (ae.qD U 0#64 rfl rfl rfl rfl JE 8 rfl hsu) ?_
    rw [hug hlt]
    refine al Jm Jz 0 ?_
    refine ab.st rfl rfl rfl rfl Jz rfl 1 rfl rfl ?_
    refine gE (gS ?_)
    refine ab.jL (α:=Unit) (fun _=>[(1,.pointer (some ⟨b1,0,none⟩)),(2,.pointer (some ⟨b2,0,none⟩)),(4,cP (some bs) ss.length cap),(7,.slice (some ⟨b35,0,none⟩) ss.length ss.length),(11,.pointer (some ⟨b11,0,none⟩)),(12,cP (some bw) (ws++[ss[i]]).length cw'),(13,.slice (some ⟨b81,0,none⟩) ss.length ss.length),(83,.slice B ss.length cB),(84,.int .i64 ss.length),(85,.int .i64 i),(14,.int .i64 i),(15,.pointer (some ⟨b15,0,none⟩))]) (fun _=>[(some b15,.cells #[U (oQ b L i),.int .i64 ss[i].d.av,.int .i64 ss[i].d.on,.int .i64 (if ss[i].d.av=1∧(nd b ss[i].d.on).op=2 then 0 else ss[i].d.e),.slice ss[i].fa ss[i].d.fr.length ss[i].fc] 41 (0,0)),(some b81,ob bK 3 (iC L (i+1)) []),(some b11,.cells (bH l ((some ba).map (fun b=>⟨b,0,none⟩)) b.length ca (qo.map (fun b=>⟨b,0,none⟩)) os.length co) 25 (0,0)),(some ba,eO 66 b spa),(some b35,ob Value.bool 4 s []),(some b1,.cells (bH l A b.length cA B ss.length cB) 25 (0,0)),(some b2,.cells (bH 0 none 0 0 none 0 0) 25 (0,0)),(some bs,ob U 38 (eR b L ss.length) sp),(qo,lk 41 os spo),(some bw,lk 41 (ws++[ss[i]]) spw')]++H) (fun _=>?_) (fun K=>?_)
    · -- what comes behind
     refine gS (gR ?_);refine al Jm JO 4 ?_;refine aq JW 0 ?_
     refine gM rfl rfl rfl rfl rfl call68 (fun w _ hS=>(by exact zr ss[i].fa ss[i].fc ss[i].d.fr w (hfr.aA hS.ext) (by omega))) ?_
     rintro v w1 w2 Y' hS he ho
     obtain ⟨qf,cf,spf,rfl,hqf,hcf,hS'⟩:=rn hS he ho
     refine ⟨_,hS',?_⟩
     refine al Jm JO 4 ?_
     refine ab.st rfl rfl rfl rfl JO rfl 1 rfl rfl ?_
     refine gE (gS (gS (gR ?_)));refine al Jm JO 4 ?_;refine aq JW 1 ?_;refine dL Jl ?_;refine ah ?_;refine gE (gB ?_)
     rw [←xZ (ss:=L) (fr:=ss[i].d.fr)]
     refine ab.loop (σ:=Nat) (fun m=>[(1,.pointer (some ⟨b1,0,none⟩)),(2,.pointer (some ⟨b2,0,none⟩)),(4,cP (some bs) ss.length cap),(7,.slice (some ⟨b35,0,none⟩) ss.length ss.length),(11,.pointer (some ⟨b11,0,none⟩)),(12,cP (some bw) (ws++[ss[i]]).length cw'),(13,.slice (some ⟨b81,0,none⟩) ss.length ss.length),(83,.slice B ss.length cB),(84,.int .i64 ss.length),(85,.int .i64 i),(14,.int .i64 i),(15,.pointer (some ⟨b15,0,none⟩)),(129,cP qf ss[i].d.fr.length cf),(130,.int .i64 ss[i].d.fr.length),(131,.int .i64 m)]) (fun m=>[(qf,ob bK 3 (ua L ss[i].d.fr m) spf),(some b15,.cells #[U (oQ b L i),.int .i64 ss[i].d.av,.int .i64 ss[i].d.on,.int .i64 (if ss[i].d.av=1∧(nd b ss[i].d.on).op=2 then 0 else ss[i].d.e),.slice (qf.map (fun b=>⟨b,0,none⟩)) ss[i].d.fr.length cf] 41 (0,0)),(some b81,ob bK 3 (iC L (i+1)) []),(some b11,.cells (bH l ((some ba).map (fun b=>⟨b,0,none⟩)) b.length ca (qo.map (fun b=>⟨b,0,none⟩)) os.length co) 25 (0,0)),(some ba,eO 66 b spa),(some b35,ob Value.bool 4 s []),(some b1,.cells (bH l A b.length cA B ss.length cB) 25 (0,0)),(some b2,.cells (bH 0 none 0 0 none 0 0) 25 (0,0)),(some bs,ob U 38 (eR b L ss.length) sp),(qo,lk 41 os spo),(some bw,lk 41 (ws++[ss[i]]) spw')]++H)
       (fun m=>m≤ss[i].d.fr.length) (fun m=>ss[i].d.fr.length - m) 0 (Nat.zero_le _) ⟨rfl,rfl,rfl,rfl,rfl,rfl,rfl,rfl,rfl,rfl,rfl,rfl,rfl,rfl,rfl,trivial⟩ (List.Sublist.refl _) (fun m hm IH2=>?_)
     refine gS (gR ?_);refine aw iK ?_;refine gE (gS ?_)
     refine gC (fun hc=>?_) fun hc=>?_
     ·
      have hm2:m<ss[i].d.fr.length:=by simpa using hc
      have hjb:=(hco i hlt).l8 (List.getElem_mem hm2)
      obtain ⟨j,hj⟩:∃j:Nat,ss[i].d.fr[m]=(j:Int):=⟨ss[i].d.fr[m].toNat,by omega⟩
      have hjl:j<ss.length:=by omega
      have hjp:j<(iC L (i+1)).length:=by rw [tc];omega
      have hmr:m<(ua L ss[i].d.fr m).length:=by rw [AI];exact hm2
      have hNj:xu L j:=.fr (show i<L.length by omega) hNd (by rw [hat hlt,←hj];exact List.getElem_mem hm2)
      have hgm:(ua L ss[i].d.fr m).getD m 0=(j:Int):=by rw [CZ hm2,hj]
      have hpj:(iC L (i+1)).getD j 0=(bJ (dG L) j:Int):=yh (by omega) (by omega) hNj
      have hnx:(ua L ss[i].d.fr m).set m (bJ (dG L) j:Int)=ua L ss[i].d.fr (m+1):=by rw [←AH hm2,hj];rfl
      obtain ⟨bf,rfl⟩:∃b,qf=some b:=by
        cases qf with
        |none=>have:=(hqf rfl).1;omega
        |some b=>exact ⟨b,rfl⟩
      refine gK (gS (gB (gS (gR ?_))));refine ah ?_;refine ai ?_;refine gE ?_
      refine ab.draw 12 mixed rfl ?_
      refine mP Jm JO 4 ?_;refine xn JW 1 ?_
      iterate 2 refine mO ?_
      refine mP Jm JO 4 ?_;refine xn JW 1 ?_;refine mO ?_
      refine aM.v (ae.dx rfl rfl rfl rfl rfl Jl Je (m) ⟨rfl,hm2⟩) ?_
      refine aM.v (ae.qD bK 0 rfl rfl rfl rfl Jf 0 rfl hmr) ?_
      refine aM.v (ae.dx rfl rfl rfl rfl rfl Jl Je (j) ⟨hgm,hjl⟩) ?_
      refine aM.v (ae.qD bK 0 rfl rfl rfl rfl Jf 2 rfl hjp) ?_
      refine aM.v (ae.dx rfl rfl rfl rfl rfl Jl Je (m) ⟨rfl,hm2⟩) ?_
      refine aM.nil ?_
      refine ab.vm (Value.int .i64) _ rfl rfl rfl rfl Je rfl 0 rfl hmr ?_
      refine gE (dJ (gR ?_));refine cG rfl rfl rfl rfl (cu (by omega)) ?_;refine ah ?_;refine gE ?_
      exact IH2 (m+1) _ _ hm2 (by omega) ⟨rfl,rfl,rfl,rfl,rfl,rfl,rfl,rfl,rfl,rfl,rfl,rfl,rfl,rfl,rfl,trivial⟩ (by rw [←hnx,←hpj];exact List.Sublist.refl _)
     have hge:¬m<ss[i].d.fr.length:=by simpa using hc
     obtain rfl:m=ss[i].d.fr.length:=by omega
     rw [AJ]
     obtain ⟨nl,hnl2⟩:∃nl:SV,nl=⟨gD b L i ss[i].d,qf.map (fun b=>⟨b,0,none⟩),cf⟩:=⟨_,rfl⟩
     have hnd2:nl.d=gD b L i ss[i].d:=by rw [hnl2]
     have hcl:SV.cells nl=[U (oQ b L i),.int .i64 ss[i].d.av,.int .i64 ss[i].d.on,.int .i64 (if ss[i].d.av=1∧(nd b ss[i].d.on).op=2 then 0 else ss[i].d.e),.slice (qf.map (fun b=>⟨b,0,none⟩)) ss[i].d.fr.length cf]:=by
       rw [hnl2];simp [SV.cells,gD]
     refine ab.exit rfl (gR ?_)
     refine al Js JH 2 ?_;refine aq JJ 3 ?_
     refine ab.v (ae.iE rfl rfl rfl rfl J0 1 rfl Jr rfl) ?_
     refine ab.eh (c:=[_,_,_,_,_]) rfl rfl rfl rfl JB Jr J9 rfl rfl (fun b150=>?_)
     refine ab.Cv (ss:=os) (sp:=spo) (q:=qo) (nl:=nl) rfl rfl rfl rfl rfl JB hi3 hz3 hsz3 rfl hqo 10 rfl 0 (by rw [hcl];rfl) hco1 (by unfold maxLen;omega) (by rw [hby3];omega) (fun bo spo' co' hlo=>?_)
     refine al Js JH 2 ?_
     refine ab.st rfl rfl rfl rfl JH rfl 4 rfl rfl ?_
     refine gE (dJ (gR ?_));refine cG rfl rfl rfl rfl (cu (by omega)) ?_;refine ah ?_;refine gE ?_
     refine ab.aX (pre:=[_,_,_,_,_,_,_,_,_,_,_,_]) (pre':=[(some b81,ob bK 3 (iC L (i+1)) []),(some b11,.cells (bH l ((some ba).map (fun b=>⟨b,0,none⟩)) b.length ca ((some bo).map (fun b=>⟨b,0,none⟩)) (os++[nl]).length co') 25 (0,0)),(some ba,eO 66 b spa),(some b35,ob Value.bool 4 s []),(some b1,.cells (bH l A b.length cA B ss.length cB) 25 (0,0)),(some b2,.cells (bH 0 none 0 0 none 0 0) 25 (0,0)),(some bs,ob U 38 (eR b L ss.length) sp),(some bo,lk 41 (os++[nl]) spo'),(some bw,lk 41 (ws++[ss[i]]) spw'),(qf,ob bK 3 (ss[i].d.fr.map (fun j=>((bJ (dG L) j.toNat:Nat):Int))) spf)]) H [3,4,5,6,7,8,9,10,11,1] (by decide) rfl ?_
     refine IH (i+1,(some bo,co',os++[nl],spo'),(some bw,cw',ws++[ss[i]],spw'),(qf,ob bK 3 (ss[i].d.fr.map (fun j=>((bJ (dG L) j.toNat:Nat):Int))) spf)::H) _ _ ⟨hlt,(fun e=>by cases e),hlo,(fun e=>by cases e),hlw,?_,?_,fun x hx=>?_⟩ (by dsimp only;omega) ⟨rfl,rfl,rfl,rfl,rfl,rfl,rfl,rfl,rfl,rfl,trivial⟩ (List.Sublist.refl _)
     · dsimp only;rw [show dW (os++[nl])=dW os++[nl.d] by simp,hos,hps,hnd2]
     · dsimp only;rw [List.map_append,hws,hfs];rfl
     dsimp only at hx⊢
     rcases List.mem_append.1 hx with hx|hx
     · exact ⟨(hin x hx).1.mono (List.subset_cons_self _ _),(hin x hx).2⟩
     rw [List.mem_singleton.1 hx,hnl2]
     exact ⟨⟨qf,spf,List.mem_cons_self ..,rfl,fun e=>by simp only [gD,List.length_map];exact (hqf e).1⟩,by simp only [gD,List.length_map];unfold maxLen;omega⟩
    · -- the first part
     refine gS (gR ?_);refine al Jm Je 1 ?_;refine aq Jf 1 ?_;refine aw bd ?_;refine ah ?_
     refine eB 113 (fun hc=>?_) fun hc=>?_
     ·
      have r1:ss[i].d.av=1:=by simpa using hc
      have hol2:0≤ss[i].d.on∧ss[i].d.on<b.length:=by
        rcases (uW.1 ((uU (hco i hlt).1 r1).1 (hco i hlt))).2 with h|h
        · obtain ⟨o,q1,q2,_⟩:=h.1.nat hb;omega
        obtain ⟨o,q1,_⟩:=fN.1 h.1;have:=h.2.1;omega
      obtain ⟨o,ho⟩:∃o:Nat,ss[i].d.on=(o:Int):=⟨ss[i].d.on.toNat,by omega⟩
      have hob:o<b.length:=by omega
      have hnd3:nd b ss[i].d.on=b[o]:=by rw [ho,dH hob]
      refine al Js Jo 1 ?_;refine aq Ju 6 ?_;refine al Jm Je 2 ?_;refine aq Jf 1 ?_
      refine ab.v (ae.eg rfl rfl rfl rfl rfl Jn Ji ⟨_,(hA).at_⟩ (ax (enc:=NV.cells) (sz:=6) (fun _=>rfl)) (by decide) (o) ⟨ho,hob⟩) ?_
      refine ab.v (ae.fH rfl rfl rfl rfl Jg rfl Je ((o)*6+0) rfl) ?_
      refine ab.v (ae.ld rfl rfl rfl rfl Jf (fun w _ hS=>Sl.kO (enc:=NV.cells) (sz:=6) ((hA).aA hS.ext).at_ (fun _=>rfl) hob rfl)) ?_
      refine aw bd ?_;refine cC ?_;refine gE ?_
      refine gC (fun hc=>?_) fun hc=>?_
      ·
       have h2:b[o].op=2:=by simpa using hc
       have hE:(if ss[i].d.av=1∧(nd b ss[i].d.on).op=2 then 0 else ss[i].d.e)=0:=if_pos ⟨r1,by rw [hnd3];exact h2⟩
       refine gR ?_;refine al Jm Je 3 ?_
       refine ab.st rfl rfl rfl rfl Je rfl 1 rfl rfl ?_
       refine gE ?_
       exact K () _ _ sF (fun _ _ hS=>by rw [hE];exact hS.dM (.cons _ (List.Sublist.refl _)))
      have h2:¬b[o].op=2:=by simpa using hc
      have hE:(if ss[i].d.av=1∧(nd b ss[i].d.on).op=2 then 0 else ss[i].d.e)=ss[i].d.e:=if_neg (fun h=>h2 (by rw [←hnd3];exact h.2))
      refine gK ?_
      exact K () _ _ sF (fun _ _ hS=>by rw [hE];exact hS.dM (.cons _ (List.Sublist.refl _)))
     have r1:¬ss[i].d.av=1:=by simpa using hc
     have hE:(if ss[i].d.av=1∧(nd b ss[i].d.on).op=2 then 0 else ss[i].d.e)=ss[i].d.e:=if_neg (fun h=>r1 h.1)
     iterate 8 refine cz ?_
     refine bA ?_;refine gE (ab.fQ rfl (gK ?_))
     exact K () _ _ sF (fun _ _ hS=>by rw [hE];exact hS.dM (.cons _ (List.Sublist.refl _)))
   have hge:¬i<ss.length:=by simpa using hc
   obtain rfl:i=ss.length:=by omega
   refine ab.exit rfl (gS (gR ?_))
   refine ab.v (ae.iE rfl rfl rfl rfl JV 1 rfl Jt rfl) ?_
   refine ah ?_
   refine ab.dD rfl rfl rfl rfl Jt 5 rfl rfl rfl rfl ?_
   refine ai ?_;refine gE ?_
   refine ab.fE Tryz.f36 func36 _ (aO.cell rfl JV Jt (j:=5) rfl rfl (aO.tmp rfl aO.nil)) (fun w' hS=>?_)
   exact ⟨hS.ext,_,_,os,ws,rfl,⟨some ba,qo,qw,ca,co,cw,spa,spo,spw,H,rfl,rfl,(fun e=>by cases e),fun e=>(hqo e).1,fun e=>(hqw e).1,fW.of (hS.aX (pre:=[_,_,_,_,_,_,_,_,_]) (pre':=[_,_,_]) (HR:=H) [2,7,8] (by decide) rfl),hin⟩,by rw [hos,dk,hL],by rw [hws,hL]⟩
  · -- the region
   refine ab.sh 4 9 [(some b35,ob Value.bool 4 s []),(some b1,.cells (bH l A b.length cA B ss.length cB) 25 (0,0)),(some b2,.cells (bH 0 none 0 0 none 0 0) 25 (0,0)),(some bs,ob U 38 (eR b L ss.length) sp)] sL mixed rfl ?_
   refine lZ.v (ae.aF rfl rfl rfl rfl Js rfl (by exact Je) 0 rfl) ?_
   refine lZ.v (ae.dw rfl rfl rfl rfl Jf 1 rfl rfl) ?_
   refine lZ.v (ae.aF rfl rfl rfl rfl Js rfl (by exact Jo) 1 rfl) ?_
   refine lZ.v (ae.dw rfl rfl rfl rfl Ju 1 rfl rfl) ?_
   refine lZ.nil ?_
   refine Tl.two (d:=77) (d2:=11) rfl ?_ ?_
   · -- operation 4 next
    refine dn.call _ rfl rfl rfl rfl rfl (fun _ _=>call67 _ _) (fun w _ hS=>(by exact tQ A cA b w (hA.aA hS.ext) hb0 (by omega))) ?_
    rintro v w1 w2 Y' hS he ho
    obtain ⟨qa,ca,spa,rfl,hqa,hca,hS'⟩:=ak hS he ho
    obtain ⟨ba,rfl⟩:∃b,qa=some b:=by
      cases qa with
      |none=>have:=(hqa rfl).1;omega
      |some b=>exact ⟨b,rfl⟩
    refine ⟨_,hS',sL,?_⟩
    refine Tl.two (d:=78) (d2:=11) rfl ?_ ?_
    · -- operation 5 next
     refine dn.v (ae.eP rfl rfl rfl rfl (bd25 (c:=[_,_,_]) rfl)) (fun _ h=>by cases h;rfl) ⟨by repeat (first|exact List.Sublist.refl _|exact List.nil_sublist _|refine List.Sublist.cons_cons _ ?_|refine List.Sublist.cons _ ?_),?_⟩
     refine Tl.one (d:=11) rfl ?_
     refine dn.eK rfl rfl rfl (fun _=>J7 _) (fun b11=>⟨by repeat (first|exact List.Sublist.refl _|exact List.nil_sublist _|refine List.Sublist.cons_cons _ ?_|refine List.Sublist.cons _ ?_),?_⟩)
     refine Tl.sw [7] rfl rfl ?_
     exact K (b11,ba,ca,spa) _ _ sF (fun _ _ hS=>hS)
    · -- operation 6 next
     refine dn.eK rfl rfl rfl (fun _=>J7 _) (fun b11=>⟨by repeat (first|exact List.Sublist.refl _|exact List.nil_sublist _|refine List.Sublist.cons_cons _ ?_|refine List.Sublist.cons _ ?_),?_⟩)
     refine Tl.one (d:=78) rfl ?_
     refine dn.v (ae.eP rfl rfl rfl rfl (bd25 (c:=[_,_,_]) rfl)) (fun _ h=>by cases h;rfl) ⟨by repeat (first|exact List.Sublist.refl _|exact List.nil_sublist _|refine List.Sublist.cons_cons _ ?_|refine List.Sublist.cons _ ?_),?_⟩
     refine Tl.sw [7] rfl rfl ?_
     exact K (b11,ba,ca,spa) _ _ sF (fun _ _ hS=>hS)
   · -- operation 6 next
    refine dn.eK rfl rfl rfl (fun _=>J7 _) (fun b11=>⟨by repeat (first|exact List.Sublist.refl _|exact List.nil_sublist _|refine List.Sublist.cons_cons _ ?_|refine List.Sublist.cons _ ?_),?_⟩)
    refine Tl.one (d:=77) rfl ?_
    refine dn.call _ rfl rfl rfl rfl rfl (fun _ _=>call67 _ _) (fun w _ hS=>(by exact tQ A cA b w (hA.aA hS.ext) hb0 (by omega))) ?_
    rintro v w1 w2 Y' hS he ho
    obtain ⟨qa,ca,spa,rfl,hqa,hca,hS'⟩:=ak hS he ho
    obtain ⟨ba,rfl⟩:∃b,qa=some b:=by
      cases qa with
      |none=>have:=(hqa rfl).1;omega
      |some b=>exact ⟨b,rfl⟩
    refine ⟨_,hS',sL,?_⟩
    refine Tl.one (d:=78) rfl ?_
    refine dn.v (ae.eP rfl rfl rfl rfl (bd25 (c:=[_,_,_]) rfl)) (fun _ h=>by cases h;rfl) ⟨by repeat (first|exact List.Sublist.refl _|exact List.nil_sublist _|refine List.Sublist.cons_cons _ ?_|refine List.Sublist.cons _ ?_),?_⟩
    refine Tl.sw [7] rfl rfl ?_
    exact K (b11,ba,ca,spa) _ _ sF (fun _ _ hS=>hS.pick (pre:=[_,_,_,_,_,_]) (pre':=[_,_,_,_,_,_]) [1,0,2,3,4,5] (by decide) rfl)
end Go.Proofs.YtnfmegcknckahaaGreatDoor
namespace Go.Proofs.YtnfmegcknckahaaGreatDoor
open Go.RowKit Go.Proofs.Wit Tryz
/-! extracting: Trim, and what is refuted: the program -/
/-- a refutation of one's own -/
def rE (w w':World) (l:Int) (b:List NV) (v:Value) (os:List SV):Prop:=
 ∃(qa qo:Option Nat) (ca co:Nat) (spa spo:List Value) (H:Hl),v=.agg (bH l (qa.map (fun b=>⟨b,0,none⟩)) b.length ca (qo.map (fun b=>⟨b,0,none⟩)) os.length co)∧
  (qa=none→b.length=0)∧(qo=none→os.length=0)∧fW w w' ((qa,eO 66 b spa)::(qo,lk 41 os spo)::H)∧∀x∈os,x.sI 3 H∧x.d.fr.length≤maxLen
set_option maxRecDepth 8000 in
theorem vd (l:Int) (A:Option Addr) (cA:Nat) (b:List NV) (B:Option Addr) (cB:Nat) (ss:List SV) (w:World) (hA:FA w A b) (hB:uc w B ss) (hl:b.length≤maxLen) (hsl:ss.length≤maxLen):
    Cn Tryz.prog 12 [.agg (bH l A b.length cA B ss.length cB)] w (fun v w'=>∃v1,v=.tuple #[v1,.int .i64 (nJ l b (dW ss))]∧(nJ l b (dW ss)=0→∃os,rE w w' l b v1 os∧dW os=dk b (dW ss))∧(nJ l b (dW ss)≠0→v1=.agg (bH 0 none 0 0 none 0 0))):=by
  refine Cn.of func12 rfl rfl ?_
  refine gS (gR ?_)
  refine ab.bx rfl rfl rfl rfl (fun b1=>?_)
  refine ab.eK rfl rfl rfl (fun _=>J7 _) (fun b2=>?_)
  refine ai ?_;refine gE (gS (gS (gR ?_)))
  refine ab.v (ae.iE rfl rfl rfl rfl JV 1 rfl Jt rfl) ?_
  refine gP rfl rfl rfl rfl rfl call22 (fun w _ hS=>(by exact qV l A cA b B cB ss w (hA.aA hS.ext) (hB.aA hS.ext) hl hsl)) ?_
  refine ai ?_;refine gE (gS (gR ?_));refine ah ?_;refine aw gO ?_;refine gE ?_
  refine gC (fun hc=>?_) fun hc=>?_
  ·
   have h1:nJ l b (dW ss)≠0:=by simpa using hc
   refine gS (gR ?_)
   refine ab.v (ae.eP rfl rfl rfl rfl (bd25 (c:=[_,_,_]) rfl)) ?_
   refine ah ?_
   refine ab.dD rfl rfl rfl rfl Jt 0 rfl rfl rfl rfl ?_
   refine ai ?_;refine gE ?_
   refine ab.fE Tryz.f12 func12 _ (aO.cell rfl JV Jt (j:=0) rfl rfl (aO.tmp rfl aO.nil)) (fun w' hS=>?_)
   exact ⟨hS.ext,_,rfl,fun h=>absurd h h1,fun _=>rfl⟩
  have h1:nJ l b (dW ss)=0:=by simpa using hc
  have hok:=jZ.1 h1
  refine gK (gS (gR ?_))
  refine ab.v (ae.iE rfl rfl rfl rfl JV 1 rfl Jt rfl) ?_
  refine gM rfl rfl rfl rfl rfl call36 (fun w _ hS=>(by exact u9 l A cA b B cB ss w (hA.aA hS.ext) (hB.aA hS.ext) hok)) ?_
  rintro v w1 w2 Y' hS he ⟨v1,v2,os,ws,rfl,⟨qa,qo,qw,ca,co,cw,spa,spo,spw,H,rfl,rfl,hqa,hqo,hqw,hnew,hin⟩,hos,hws⟩
  refine ⟨_,hS.fC he (pre:=[_,_,_]) hnew,?_⟩
  refine ah ?_
  iterate 2 refine gh ?_
  refine ab.eK rfl rfl rfl (fun _=>J7 _) (fun b5=>?_)
  refine ab.dD rfl rfl rfl rfl Jt 0 rfl rfl rfl rfl ?_
  refine ai ?_;refine gE (gS (gR ?_))
  refine ab.v (ae.iE rfl rfl rfl rfl JV 0 rfl Jt rfl) ?_
  refine ab.dD rfl rfl rfl rfl Jt 4 rfl rfl rfl rfl ?_
  refine ai ?_;refine gE ?_
  refine ab.fE Tryz.f12 func12 _ (aO.cell rfl JV Jt (j:=4) rfl rfl (aO.tmp rfl aO.nil)) (fun w' hS=>?_)
  exact ⟨hS.ext,_,by rw [h1];rfl,fun _=>⟨os,⟨qa,qo,ca,co,spa,spo,H,rfl,hqa,hqo,fW.of (hS.aX (pre:=[_,_,_,_,_,_]) (pre':=[_,_]) (HR:=H) [1,2] (by decide) rfl),hin⟩,hos⟩,fun h=>absurd h1 h⟩
end Go.Proofs.YtnfmegcknckahaaGreatDoor
