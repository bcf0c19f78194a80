/- What calls of the program return, under the conditions that each theorem states. -/
import Derived.Test.YtnfmegcknckahaaGreatDoorXO37
import Derived.Test.YtnfmegcknckahaaGreatDoorXO20
import Derived.Test.YtnfmegcknckahaaGreatDoorXO24
import Derived.Test.YtnfmegcknckahaaGreatDoorXO25
import Derived.Test.YtnfmegcknckahaaGreatDoorXO04
import Derived.Test.YtnfmegcknckahaaGreatDoorXO02
import Derived.Test.YtnfmegcknckahaaGreatDoorXO38
import Derived.Test.YtnfmegcknckahaaGreatDoorXO39
import Derived.Test.YtnfmegcknckahaaGreatDoorXO13
import Derived.Test.YtnfmegcknckahaaGreatDoorXO17
import Derived.Test.YtnfmegcknckahaaGreatDoorXO29
import Derived.Test.YtnfmegcknckahaaGreatDoorXO30
import Derived.Test.YtnfmegcknckahaaGreatDoorXO40
import Derived.Test.YtnfmegcknckahaaGreatDoorXO03
namespace Go.Proofs.YtnfmegcknckahaaGreatDoor
open Go.RowKit Go.Proofs.Wit Tryz
theorem Dy:(Tryz.prog.info? 41).map (fun i=>(i.zero,i.size,i.bytes))=some (some (.agg #[U 0#64,.int .i64 0,.int .i64 0,.int .i64 0,.slice none 0 0]),5,56):=by kernel_rfl
theorem Dx:(Tryz.prog.info? 38).map (fun i=>(i.zero,i.size,i.bytes))=some (some (U 0#64),1,8):=by kernel_rfl
set_option maxRecDepth 8000 in
theorem u4 (l:Int) (A:Option Addr) (cA:Nat) (b:List NV) (B:Option Addr) (cB:Nat) (ss:List SV) (w:World) (hA:FA w A b) (hB:zJ w B ss) (hok:iA l b (fg ss)):
    Cn Tryz.prog 36 [.agg (cn l A b.length cA B ss.length cB)] w (fun v w'=>∃v1 v2 os ws,v=.tuple #[v1,v2]∧Gb 66 41 3 w w' l b v1 v2 os ws∧fg os=dz b (fg ss)∧ws.map (fun x=>x.d.set)=cP (fg ss) (fg ss).length):=by
  obtain ⟨i1,hi1,hz1,hsz1,hby1⟩:=info_parts DD
  obtain ⟨i2,hi2,hz2,hsz2,hby2⟩:=info_parts uH
  obtain ⟨i3,hi3,hz3,hsz3,hby3⟩:=info_parts Dy
  obtain ⟨i4,hi4,hz4,hsz4,hby4⟩:=info_parts Dx
  obtain ⟨L,hLd⟩:∃L,L=fg ss:=⟨_,rfl⟩
  have hL:L.length=ss.length:=by rw [hLd,eL]
  rw [←hLd] at hok⊢
  have hat:∀{k:Nat} (hk:k<ss.length),L[k]'(by omega)=ss[k].d:=fun hk=>by subst hLd;exact mj hk
  have hp0:=hok.pos
  have hp4:=hok.len
  have hb:=hok.base
  have hco:∀(k:Nat) (hk:k<ss.length),ej l b L k ss[k].d:=fun k hk=>by have:=hok.lQ k (by omega);rwa [hat hk] at this
  have hfl:∀(k:Nat) (hk:k<ss.length),ss[k].d.fr.length≤2:=fun k hk=>by
    have h:=(hco k hk).2
    rcases h with ⟨_,e,_⟩|⟨_,_,_,h⟩|⟨_,_,_,h⟩|⟨_,_,_,_,h⟩|⟨_,_,_,_,h⟩|⟨_,_,_,h⟩|⟨_,_,_,_,h⟩
    · rw [e];exact Nat.zero_le _
    all_goals (rw [iv] at h;have:=h.1;simp at this;omega)
  have hfb:∀(k:Nat) (hk:k<L.length),∀j∈L[k].fr,0≤j∧j<k:=fun k hk j hj=>(hok.lQ k hk).mZ hj
  have hbl:b.length≤64:=hb.len
  have hb0:0<b.length:=(aA.1 hb.iY).pos
  have hnl:ss.length - 1<ss.length:=by omega
  have hrl:ss.length - 1<(List.replicate ss.length false).length:=by simp;omega
  refine Cn.of func36 rfl rfl ?_
  refine gS (gR ?_)
  refine ab.bx rfl rfl rfl rfl (fun b1=>?_)
  refine ab.eN rfl rfl rfl (fun _=>J2 _) (fun b2=>?_)
  refine ai ?_;refine gE (gS (gR ?_));refine ai ?_;refine gE (gS (gS (gR ?_)));refine al Jr JH 2 ?_;refine aq JN 1 ?_;refine dY JB ?_;refine ah ?_;refine gE (gB ?_)
  refine ab.cQ (ob U 38 [] []) ?_
  refine ab.pick (pre:=[_,_,_]) (pre':=[(some b1,.cells (cn l A b.length cA B ss.length cB) 25 (0,0)),(some b2,.cells (cn 0 none 0 0 none 0 0) 25 (0,0)),(none,ob U 38 (eQ b L 0) [])]) [2,1,0] (by decide) rfl ?_
  refine ab.loop (σ:=Nat×Option Nat×Nat×List Value) (fun z=>[(1,.pointer (some ⟨b1,0,none⟩)),(2,.pointer (some ⟨b2,0,none⟩)),(4,cK z.2.1 (eQ b L z.1).length z.2.2.1),(18,.slice B ss.length cB),(19,.int .i64 ss.length),(20,.int .i64 z.1)])
    (fun z=>[(some b1,.cells (cn l A b.length cA B ss.length cB) 25 (0,0)),(some b2,.cells (cn 0 none 0 0 none 0 0) 25 (0,0)),(z.2.1,ob U 38 (eQ b L z.1) z.2.2.2)])
    (fun z=>z.1≤ss.length∧(z.2.1=none→(eQ b L z.1).length=0∧z.2.2.1=0)∧((eQ b L z.1).map U++z.2.2.2).length=z.2.2.1)
    (fun z=>ss.length - z.1) (0,none,0,[]) ⟨Nat.zero_le _,fun _=>⟨rfl,rfl⟩,rfl⟩ ⟨rfl,rfl,rfl,rfl,rfl,rfl,trivial⟩ (List.Sublist.refl _) (fun z hZ IH=>?_)
  obtain ⟨k,q,cap,sp⟩:=z
  obtain ⟨hk,hq,ao⟩:=hZ
  dsimp only at hk hq ao IH⊢
  have hul:(eQ b L k).length=k:=kS (by omega)
  refine gS (gR ?_);refine aw jl ?_;refine gE (gS ?_)
  refine gC (fun hc=>?_) fun hc=>?_
  ·
   have hlt:k<ss.length:=by simpa using hc
   have hsu:eQ b L (k+1)=eQ b L k++[jK b ss[k].d (eQ b L k)]:=by rw [lE (by omega),hat hlt]
   refine gK (gS (gB (gS (gR ?_))))
   refine ab.v (ae.ez rfl rfl rfl rfl rfl JB Jm ⟨_,(hB).at_⟩ (aD (enc:=SV.cells) (sz:=5) (fun _=>rfl)) (by decide) (k) ⟨rfl,hlt⟩) ?_
   refine ab.v (ae.nR (cs:=SV.cells ss[k]) rfl rfl rfl rfl JV Jm (fun w _ hS=>Sl.many (enc:=SV.cells) (sz:=5) (hB.ay hS.ext).at_ (fun _=>rfl) hlt)) ?_
   refine ab.eN rfl rfl rfl (fun _=>J4 _) (fun b6=>?_)
   refine ab.dG rfl rfl rfl rfl Jm 0 rfl rfl rfl rfl ?_
   refine gE (gR ?_);refine ah ?_
   refine ab.v (ae.iR rfl rfl rfl rfl JR 1 rfl Jp rfl) ?_
   refine ab.v (ae.iR rfl rfl rfl rfl JV 0 rfl Jm rfl) ?_
   refine ah ?_
   refine gP rfl rfl rfl rfl rfl call66 (fun w _ hS=>(by exact zY l A cA b B ss.length cB ss[k] L k (q.map (fun b=>⟨b,0,none⟩)) cap (eQ b L k) w (hA.ay hS.ext) hb ((hB.yO ss[k] (List.getElem_mem hlt)).1.ay hS.ext) (Gt hS 3 rfl (fun e=>(hq e).1)) hul (hco k hlt) (hfl k hlt))) ?_
   refine ab.eh (c:=[_]) rfl rfl rfl rfl JW Ju J1 rfl rfl (fun b29=>?_)
   refine ab.oh U (news:=[jK b ss[k].d (eQ b L k)]) (spn:=[]) (xs:=eQ b L k) (sp:=sp) (q:=q) rfl rfl rfl rfl rfl JW hi4 hz4 hsz4 rfl hq 4 rfl 0 rfl ao rfl (by decide) (fun _=>rfl) (by unfold maxLen;omega) (by rw [hby4];omega) (fun b' sp' cap' hlen=>?_)
   refine ai ?_;refine gE (dQ (gR ?_));refine df rfl rfl rfl rfl (cD (by omega)) ?_;refine ah ?_;refine gE ?_
   refine ab.pick (pre:=[_,_,_,_,_]) (pre':=[_,_,_]) [2,3,4] (by decide) rfl ?_
   rw [←hsu] at hlen⊢
   exact IH (k+1,some b',cap',sp') _ _ ⟨hlt,(fun e=>by cases e),hlen⟩ (by dsimp only;omega) ⟨rfl,rfl,rfl,rfl,rfl,rfl,trivial⟩ (List.Sublist.refl _)
  have hge:¬k<ss.length:=by simpa using hc
  obtain rfl:k=ss.length:=by omega
  obtain ⟨bs,rfl⟩:∃b,q=some b:=by
    cases q with
    |none=>have:=(hq rfl).1;omega
    |some b=>exact ⟨b,rfl⟩
  rw [hul]
  have hug:∀{i:Nat},i<ss.length→(eQ b L ss.length).getD i 0#64=oQ b L i:=fun hi=>mu hi (by omega)
  refine ab.exit rfl (gS (gR ?_))
  refine al Jr JH 2 ?_;refine aq JN 0 ?_;refine dY JB ?_
  refine ab.Eu Value.bool false rfl rfl rfl rfl rfl JO hi1 hz1 rfl hsz1 (by rw [hby1];omega) (by unfold maxLen;omega) (fun b35=>?_)
  refine ai ?_;refine gE (gS (gR ?_))
  iterate 2 refine ah ?_
  refine dY JO ?_
  refine df rfl rfl rfl rfl (iH (c:=((ss.length - 1:Nat):Int)) (by omega) (by omega)) ?_
  refine ab.v (ae.dV rfl rfl rfl rfl rfl JO Jc (ss.length - 1) ⟨rfl,hnl⟩) ?_
  refine ab.xJ Value.bool _ rfl rfl rfl rfl Jc rfl 0 rfl hrl ?_
  refine gE (gS (gS (gR ?_)));refine ah ?_;refine dY JO ?_;refine df rfl rfl rfl rfl (og (by omega)) ?_;refine ai ?_;refine gE (gB ?_)
  refine ab.loop (σ:=Nat×List Bool) (fun z=>[(1,.pointer (some ⟨b1,0,none⟩)),(2,.pointer (some ⟨b2,0,none⟩)),(4,cK (some bs) ss.length cap),(7,.slice (some ⟨b35,0,none⟩) ss.length ss.length),(8,.int .i64 ((ss.length:Int) - 1 - z.1))])
    (fun z=>[(some b35,ob Value.bool 4 z.2 []),(some b1,.cells (cn l A b.length cA B ss.length cB) 25 (0,0)),(some b2,.cells (cn 0 none 0 0 none 0 0) 25 (0,0)),(some bs,ob U 38 (eQ b L ss.length) sp)])
    (fun z=>z.1≤ss.length∧zI L z.1 z.2) (fun z=>ss.length - z.1) (0,(List.replicate ss.length false).set (ss.length - 1) true) ⟨Nat.zero_le _,by have:=zI.init (ss:=L) (by omega);rw [hL] at this;exact this⟩ ⟨rfl,rfl,rfl,rfl,by dsimp only;rw [show (ss.length:Int) - 1 - ((0:Nat):Int)=(ss.length:Int) - 1 by omega];rfl,trivial⟩ (List.Sublist.refl _) (fun z hZ IH=>?_)
  obtain ⟨i,s⟩:=z
  obtain ⟨hi,hU⟩:=hZ
  dsimp only at hi hU IH⊢
  refine gS (gS (gR ?_));refine ah ?_;refine aw oN ?_;refine gE ?_
  refine gC (fun hc=>?_) fun hc=>?_
  ·
   have hlt:i<ss.length:=by simp at hc;omega
   obtain ⟨k,hkd⟩:∃k,k=ss.length - 1 - i:=⟨_,rfl⟩
   have hk:k<ss.length:=by omega
   have hki:k+1+i=ss.length:=by omega
   have hkI:(ss.length:Int) - 1 - i=(k:Int):=by omega
   have hsl:s.length=ss.length:=by rw [hU.len,hL]
   have hks:k<s.length:=by omega
   rw [hkI]
   refine gK (gS (gB (gS (gR ?_))));refine al Jr JH 2 ?_;refine aq JN 1 ?_;refine ah ?_
   refine ab.v (ae.ez rfl rfl rfl rfl rfl JB Jm ⟨_,(hB).at_⟩ (aD (enc:=SV.cells) (sz:=5) (fun _=>rfl)) (by decide) (k) ⟨rfl,hk⟩) ?_
   refine ab.v (ae.fQ rfl rfl rfl rfl Jh rfl JP ((k)*5+4) rfl) ?_
   refine ab.v (ae.ld rfl rfl rfl rfl JU (fun w _ hS=>Sl.kO (enc:=SV.cells) (sz:=5) ((hB).ay hS.ext).at_ (fun _=>rfl) hk rfl)) ?_
   refine dY Jg ?_;refine ah ?_;refine gE (gB ?_)
   refine ab.loop (σ:=Nat) (fun q=>[(1,.pointer (some ⟨b1,0,none⟩)),(2,.pointer (some ⟨b2,0,none⟩)),(4,cK (some bs) ss.length cap),(7,.slice (some ⟨b35,0,none⟩) ss.length ss.length),(8,.int .i64 (k:Int)),(53,.slice ss[k].fa ss[k].d.fr.length ss[k].fc),(54,.int .i64 ss[k].d.fr.length),(55,.int .i64 q)])
     (fun q=>[(some b35,ob Value.bool 4 (uv (sB s k) s (ss[k].d.fr.take q)) []),(some b1,.cells (cn l A b.length cA B ss.length cB) 25 (0,0)),(some b2,.cells (cn 0 none 0 0 none 0 0) 25 (0,0)),(some bs,ob U 38 (eQ b L ss.length) sp)])
     (fun q=>q≤ss[k].d.fr.length) (fun q=>ss[k].d.fr.length - q) 0 (Nat.zero_le _) ⟨rfl,rfl,rfl,rfl,rfl,rfl,rfl,rfl,trivial⟩ (List.Sublist.refl _) (fun q hq IH2=>?_)
   refine gS (gR ?_);refine aw jl ?_;refine gE (gS ?_)
   refine gC (fun hc=>?_) fun hc=>?_
   ·
    have hq2:q<ss[k].d.fr.length:=by simpa using hc
    have hjb:=(hco k hk).mZ (List.getElem_mem hq2)
    obtain ⟨j,hj⟩:∃j:Nat,ss[k].d.fr[q]=(j:Int):=⟨ss[k].d.fr[q].toNat,by omega⟩
    obtain ⟨s1,hs1⟩:∃s1,s1=uv (sB s k) s (ss[k].d.fr.take q):=⟨_,rfl⟩
    have hs1l:s1.length=ss.length:=by rw [hs1,rN,hsl]
    have hjl:j<ss.length:=by omega
    have hjs:j<s1.length:=by omega
    have hk1:k<s1.length:=by omega
    have hfr:=(hB.yO ss[k] (List.getElem_mem hk)).1
    have hf2:=hfl k hk
    have hsk:sB s1 k=sB s k:=by
      have hn:(k:Int)∉ss[k].d.fr.take q:=fun hm=>by have:=(hco k hk).mZ (List.mem_of_mem_take hm);omega
      rw [hs1,ui (fun i hi=>by have:=(hco k hk).mZ (List.mem_of_mem_take hi);omega)]
      simp [hn]
    have hnx:uv (sB s k) s (ss[k].d.fr.take (q+1))=s1.set j (sB s1 j||sB s k):=by
      rw [List.take_succ_eq_append_getElem hq2,yx,←hs1,hj];rfl
    rw [←hs1]
    refine gK (gS (gB (gS (gR ?_))))
    refine ab.v (ae.idx rfl rfl rfl rfl rfl Jg I9 ⟨_,hfr⟩ (by simp) (q) ⟨rfl,by simpa using hq2⟩) ?_
    refine ab.v (ae.ld rfl rfl rfl rfl Ja (fun w _ hS=>(jU.ay hfr hS.ext).at (q) hq2)) ?_
    refine ai ?_;refine gE (gR ?_)
    iterate 4 refine ah ?_
    refine ab.v (ae.dV rfl rfl rfl rfl rfl JO Jc (j) ⟨hj,hjl⟩) ?_
    refine ab.v (ae.qY Value.bool false rfl rfl rfl rfl Je 0 rfl hjs) ?_
    refine ah ?_
    refine eD 65 (fun hc=>?_) fun hc=>?_
    ·
     have hsj:sB s1 j=true:=hc
     iterate 4 refine cy ?_
     refine cz ?_
     refine ab.v (ae.dV rfl rfl rfl rfl rfl JO Jc (j) ⟨hj,hjl⟩) ?_
     refine ab.xJ Value.bool _ rfl rfl rfl rfl Jc rfl 0 rfl hjs ?_
     refine gE (dQ (gR ?_));refine df rfl rfl rfl rfl (cD (by omega)) ?_;refine ah ?_;refine gE ?_
     exact IH2 (q+1) _ _ hq2 (by omega) ⟨rfl,rfl,rfl,rfl,rfl,rfl,rfl,rfl,trivial⟩ (by rw [hnx,hsj];exact List.Sublist.refl _)
    have hsj:sB s1 j=false:=hc
    iterate 2 refine ah ?_
    refine ab.v (ae.dV rfl rfl rfl rfl rfl JO Jc (k) ⟨rfl,hk⟩) ?_
    refine ab.v (ae.qY Value.bool false rfl rfl rfl rfl Je 0 rfl hk1) ?_
    refine bE ?_
    refine ab.v (ae.dV rfl rfl rfl rfl rfl JO Jc (j) ⟨hj,hjl⟩) ?_
    refine ab.xJ Value.bool _ rfl rfl rfl rfl Jc rfl 0 rfl hjs ?_
    refine gE (dQ (gR ?_));refine df rfl rfl rfl rfl (cD (by omega)) ?_;refine ah ?_;refine gE ?_
    exact IH2 (q+1) _ _ hq2 (by omega) ⟨rfl,rfl,rfl,rfl,rfl,rfl,rfl,rfl,trivial⟩ (by rw [hnx,hsj,←hsk];exact List.Sublist.refl _)
   have hge:¬q<ss[k].d.fr.length:=by simpa using hc
   obtain rfl:q=ss[k].d.fr.length:=by omega
   refine ab.exit rfl (dQ (gR ?_))
   refine ah ?_;refine df rfl rfl rfl rfl (og (by omega)) ?_;refine ai ?_;refine gE ?_
   exact IH (i+1,uv (sB s k) s ss[k].d.fr) _ _ ⟨hlt,by have:=hU.step hfb (k:=k) (by omega);rw [hat hk] at this;exact this⟩ (by dsimp only;omega) ⟨rfl,rfl,rfl,rfl,by dsimp only;rw [show (ss.length:Int) - 1 - ((i+1:Nat):Int)=(k:Int) - 1 by omega];rfl,trivial⟩ (by rw [List.take_length];exact List.Sublist.refl _)
  have hge:¬i<ss.length:=by simp at hc;omega
  obtain rfl:i=ss.length:=by omega
  have hnd:∀j,j<ss.length→sB s j=dO L j:=fun j hj=>by rw [←hL] at hU;exact hU.done (by omega)
  have hsl:s.length=ss.length:=by rw [hU.len,hL]
  refine ab.exit rfl (gS ?_)
  refine ab.lF (α:=Nat×Nat×Nat×List Value) [7] (fun z=>[(1,.pointer (some ⟨b1,0,none⟩)),(2,.pointer (some ⟨b2,0,none⟩)),(4,cK (some bs) ss.length cap),(7,.slice (some ⟨b35,0,none⟩) ss.length ss.length),(78,.agg (cn l ((some z.2.1).map (fun b=>⟨b,0,none⟩)) b.length z.2.2.1 none 0 0)),(11,.pointer (some ⟨z.1,0,none⟩))]) (fun z=>[(some z.1,.cells (cn 0 none 0 0 none 0 0) 25 (0,0)),(some z.2.1,eO 66 b z.2.2.2),(some b35,ob Value.bool 4 s []),(some b1,.cells (cn l A b.length cA B ss.length cB) 25 (0,0)),(some b2,.cells (cn 0 none 0 0 none 0 0) 25 (0,0)),(some bs,ob U 38 (eQ b L ss.length) sp)]) (fun z=>?_) (fun K=>?_)
  obtain ⟨b11,ba,ca,spa⟩:=z
  dsimp only
  · -- what comes behind the region
   refine ab.dG rfl rfl rfl rfl Jp 0 rfl rfl rfl rfl ?_
   refine gE (gS (gR ?_));refine ai ?_;refine gE (gS (gR ?_));refine ah ?_;refine dY JO ?_
   refine ab.Eu bK 0 rfl rfl rfl rfl rfl Jg hi2 hz2 rfl hsz2 (by rw [hby2];omega) (by unfold maxLen;omega) (fun b81=>?_)
   refine ai ?_;refine gE (gS (gS (gR ?_)));refine al Jr JH 2 ?_;refine aq JN 4 ?_;refine dY JB ?_;refine ah ?_;refine gE (gB ?_)
   iterate 2 refine ab.cQ (lX 41 [] []) ?_
   refine ab.pick (pre:=[_,_,_,_,_,_,_,_,_]) (pre':=[(some b81,ob bK 3 (iC L 0) []),(some b11,.cells (cn l ((some ba).map (fun b=>⟨b,0,none⟩)) b.length ca ((none:Option Nat).map (fun b=>⟨b,0,none⟩)) ([]:List SV).length 0) 25 (0,0)),(some ba,eO 66 b spa),(some b35,ob Value.bool 4 s []),(some b1,.cells (cn l A b.length cA B ss.length cB) 25 (0,0)),(some b2,.cells (cn 0 none 0 0 none 0 0) 25 (0,0)),(some bs,ob U 38 (eQ b L ss.length) sp),(none,lX 41 [] []),(none,lX 41 [] [])]) [2,3,4,5,6,7,8,0,1] (by decide) (by rw [wt,hL];rfl) ?_
   refine ab.loop (σ:=Nat×(Option Nat×Nat×List SV×List Value)×(Option Nat×Nat×List SV×List Value)×Hl) (fun z=>[(1,.pointer (some ⟨b1,0,none⟩)),(2,.pointer (some ⟨b2,0,none⟩)),(4,cK (some bs) ss.length cap),(7,.slice (some ⟨b35,0,none⟩) ss.length ss.length),(11,.pointer (some ⟨b11,0,none⟩)),(12,cK z.2.2.1.1 z.2.2.1.2.2.1.length z.2.2.1.2.1),(13,.slice (some ⟨b81,0,none⟩) ss.length ss.length),(83,.slice B ss.length cB),(84,.int .i64 ss.length),(85,.int .i64 z.1)])
     (fun z=>[(some b81,ob bK 3 (iC L z.1) []),(some b11,.cells (cn l ((some ba).map (fun b=>⟨b,0,none⟩)) b.length ca (z.2.1.1.map (fun b=>⟨b,0,none⟩)) z.2.1.2.2.1.length z.2.1.2.1) 25 (0,0)),(some ba,eO 66 b spa),(some b35,ob Value.bool 4 s []),(some b1,.cells (cn l A b.length cA B ss.length cB) 25 (0,0)),(some b2,.cells (cn 0 none 0 0 none 0 0) 25 (0,0)),(some bs,ob U 38 (eQ b L ss.length) sp),(z.2.1.1,lX 41 z.2.1.2.2.1 z.2.1.2.2.2),(z.2.2.1.1,lX 41 z.2.2.1.2.2.1 z.2.2.1.2.2.2)]++z.2.2.2)
     (fun z=>z.1≤ss.length∧(z.2.1.1=none→z.2.1.2.2.1.length=0∧z.2.1.2.1=0)∧(z.2.1.2.2.1.flatMap SV.cells++z.2.1.2.2.2).length=z.2.1.2.1*5∧(z.2.2.1.1=none→z.2.2.1.2.2.1.length=0∧z.2.2.1.2.1=0)∧(z.2.2.1.2.2.1.flatMap SV.cells++z.2.2.1.2.2.2).length=z.2.2.1.2.1*5∧
       fg z.2.1.2.2.1=mx b L z.1∧z.2.2.1.2.2.1.map (fun x=>x.d.set)=cP L z.1∧∀x∈z.2.1.2.2.1,x.sy 3 z.2.2.2∧x.d.fr.length≤maxLen)
     (fun z=>ss.length - z.1) (0,(none,0,[],[]),(none,0,[],[]),[]) ⟨Nat.zero_le _,fun _=>⟨rfl,rfl⟩,rfl,fun _=>⟨rfl,rfl⟩,rfl,rfl,rfl,fun _ h=>by cases h⟩ ⟨rfl,rfl,rfl,rfl,rfl,rfl,rfl,rfl,rfl,rfl,trivial⟩ (List.Sublist.refl _) (fun z hZ IH=>?_)
   obtain ⟨i,⟨qo,co,os,spo⟩,⟨qw,cw,ws,spw⟩,H⟩:=z
   obtain ⟨hi,hqo,hco1,hqw,hcw,hos,hws,hin⟩:=hZ
   dsimp only at hi hqo hco1 hqw hcw hos hws hin IH⊢
   have hol:os.length=bJ (dO L) i:=by rw [←kV (b:=b) (show i≤L.length by omega),←hos,eL]
   have hwl:ws.length=bJ (dO L) i:=by rw [←lp (show i≤L.length by omega),←hws,List.length_map]
   have hcn:bJ (dO L) i≤i:=sd
   refine gS (gR ?_);refine aw jl ?_;refine gE (gS ?_)
   refine gC (fun hc=>?_) fun hc=>?_
   ·
    have hlt:i<ss.length:=by simpa using hc
    have hs:i<s.length:=by omega
    have hsu:i<(eQ b L ss.length).length:=by omega
    have hpl:i<(iC L i).length:=by rw [sT];omega
    have hfr:=(hB.yO ss[i] (List.getElem_mem hlt)).1
    have hf2:=hfl i hlt
    have hps:=jW (b:=b) (show i<L.length by omega)
    have hfs:cP L (i+1)=if dO L i=true then cP L i++[L[i].set] else cP L i:=by rw [cP,List.getElem?_eq_getElem (by omega)]
    rw [hat hlt] at hps hfs
    refine gK (gS (gB (gS (gR ?_))));refine ah ?_
    refine ab.v (ae.ez rfl rfl rfl rfl rfl JB Jm ⟨_,(hB).at_⟩ (aD (enc:=SV.cells) (sz:=5) (fun _=>rfl)) (by decide) (i) ⟨rfl,hlt⟩) ?_
    refine ab.v (ae.nR (cs:=SV.cells ss[i]) rfl rfl rfl rfl JV Jm (fun w _ hS=>Sl.many (enc:=SV.cells) (sz:=5) (hB.ay hS.ext).at_ (fun _=>rfl) hlt)) ?_
    refine ab.eN rfl rfl rfl (fun _=>J4 _) (fun b15=>?_)
    refine ai ?_
    refine ab.dG rfl rfl rfl rfl Jm 0 rfl rfl rfl rfl ?_
    refine gE (gS (gS (gR ?_)))
    iterate 2 refine ah ?_
    refine ab.v (ae.dV rfl rfl rfl rfl rfl JO Jc (i) ⟨rfl,hlt⟩) ?_
    refine ab.v (ae.qY Value.bool false rfl rfl rfl rfl Je 4 rfl hs) ?_
    refine fe bG ?_;refine gE ?_
    refine gC (fun hc=>?_) fun hc=>?_
    ·
     have hsi:sB s i=false:=by simpa using hc
     have hn:dO L i=false:=by rw [←hnd i hlt];exact hsi
     rw [if_neg (by rw [hn];simp)] at hps hfs
     refine ab.exit rfl (gR ?_)
     refine df rfl rfl rfl rfl (cD (by omega)) ?_;refine ah ?_;refine gE ?_
     exact IH (i+1,(qo,co,os,spo),(qw,cw,ws,spw),H) _ _ ⟨hlt,hqo,hco1,hqw,hcw,by dsimp only;rw [hps];exact hos,by dsimp only;rw [hfs];exact hws,hin⟩ (by dsimp only;omega) ⟨rfl,rfl,rfl,rfl,rfl,rfl,rfl,rfl,rfl,rfl,trivial⟩ (by dsimp only;rw [wu hn];exact .cons _ (List.Sublist.refl _))
    have hsi:sB s i=true:=by simpa using hc
    have hn:dO L i=true:=by rw [←hnd i hlt];exact hsi
    rw [if_pos hn] at hps hfs
    have hNd:=ic.1 hn
    have hset:(iC L i).set i (os.length:Int)=iC L (i+1):=by rw [hol];exact xX hn
    refine gK (gS (gR ?_))
    iterate 2 refine ah ?_
    refine al Jr JH 2 ?_;refine aq JN 2 ?_;refine dY JB ?_
    refine ab.v (ae.dV rfl rfl rfl rfl rfl Jg I9 (i) ⟨rfl,hlt⟩) ?_
    skip
    refine ab.xJ (Value.int .i64) _ rfl rfl rfl rfl I9 rfl 1 rfl hpl ?_
    rw [hset]
    refine gE (gS (gR ?_));refine ah ?_
    refine ab.v (ae.iR rfl rfl rfl rfl JV 0 rfl Jm rfl) ?_
    refine ab.eh (c:=[_,_,_,_,_]) rfl rfl rfl rfl JB Jm J4 rfl rfl (fun b103=>?_)
    refine ab.Co (ss:=ws) (sp:=spw) (q:=qw) (nl:=ss[i]) rfl rfl rfl rfl rfl JB hi3 hz3 hsz3 rfl hqw 10 rfl 0 rfl hcw (by unfold maxLen;omega) (by rw [hby3];omega) (fun bw spw' cw' hlw=>?_)
    refine ai ?_;refine gE (gS (gR ?_))
    iterate 2 refine ah ?_
    refine ab.v (ae.dV rfl rfl rfl rfl rfl JW Ju (i) ⟨rfl,hlt⟩) ?_
    skip
    refine ab.v (ae.qY U 0#64 rfl rfl rfl rfl Jz 8 rfl hsu) ?_
    rw [hug hlt]
    refine al Jh Ju 0 ?_
    refine ab.st rfl rfl rfl rfl Ju rfl 1 rfl rfl ?_
    refine gE (gS ?_)
    refine ab.jL (α:=Unit) (fun _=>[(1,.pointer (some ⟨b1,0,none⟩)),(2,.pointer (some ⟨b2,0,none⟩)),(4,cK (some bs) ss.length cap),(7,.slice (some ⟨b35,0,none⟩) ss.length ss.length),(11,.pointer (some ⟨b11,0,none⟩)),(12,cK (some bw) (ws++[ss[i]]).length cw'),(13,.slice (some ⟨b81,0,none⟩) ss.length ss.length),(83,.slice B ss.length cB),(84,.int .i64 ss.length),(85,.int .i64 i),(14,.int .i64 i),(15,.pointer (some ⟨b15,0,none⟩))]) (fun _=>[(some b15,.cells #[U (oQ b L i),.int .i64 ss[i].d.av,.int .i64 ss[i].d.on,.int .i64 (if ss[i].d.av=1∧(nd b ss[i].d.on).op=2 then 0 else ss[i].d.e),.slice ss[i].fa ss[i].d.fr.length ss[i].fc] 41 (0,0)),(some b81,ob bK 3 (iC L (i+1)) []),(some b11,.cells (cn l ((some ba).map (fun b=>⟨b,0,none⟩)) b.length ca (qo.map (fun b=>⟨b,0,none⟩)) os.length co) 25 (0,0)),(some ba,eO 66 b spa),(some b35,ob Value.bool 4 s []),(some b1,.cells (cn l A b.length cA B ss.length cB) 25 (0,0)),(some b2,.cells (cn 0 none 0 0 none 0 0) 25 (0,0)),(some bs,ob U 38 (eQ b L ss.length) sp),(qo,lX 41 os spo),(some bw,lX 41 (ws++[ss[i]]) spw')]++H) (fun _=>?_) (fun K=>?_)
    · -- what comes behind
     refine gS (gR ?_);refine al Jh JP 4 ?_;refine aq JU 0 ?_
     refine gM rfl rfl rfl rfl rfl call68 (fun w _ hS=>(by exact zl ss[i].fa ss[i].fc ss[i].d.fr w (hfr.ay hS.ext) (by omega))) ?_
     rintro v w1 w2 Y' hS he ho
     obtain ⟨qf,cf,spf,rfl,hqf,hcf,hS'⟩:=re hS he ho
     refine ⟨_,hS',?_⟩
     refine al Jh JP 4 ?_
     refine ab.st rfl rfl rfl rfl JP rfl 1 rfl rfl ?_
     refine gE (gS (gS (gR ?_)));refine al Jh JP 4 ?_;refine aq JU 1 ?_;refine dY Jg ?_;refine ah ?_;refine gE (gB ?_)
     rw [←xT (ss:=L) (fr:=ss[i].d.fr)]
     refine ab.loop (σ:=Nat) (fun m=>[(1,.pointer (some ⟨b1,0,none⟩)),(2,.pointer (some ⟨b2,0,none⟩)),(4,cK (some bs) ss.length cap),(7,.slice (some ⟨b35,0,none⟩) ss.length ss.length),(11,.pointer (some ⟨b11,0,none⟩)),(12,cK (some bw) (ws++[ss[i]]).length cw'),(13,.slice (some ⟨b81,0,none⟩) ss.length ss.length),(83,.slice B ss.length cB),(84,.int .i64 ss.length),(85,.int .i64 i),(14,.int .i64 i),(15,.pointer (some ⟨b15,0,none⟩)),(129,cK qf ss[i].d.fr.length cf),(130,.int .i64 ss[i].d.fr.length),(131,.int .i64 m)]) (fun m=>[(qf,ob bK 3 (tW L ss[i].d.fr m) spf),(some b15,.cells #[U (oQ b L i),.int .i64 ss[i].d.av,.int .i64 ss[i].d.on,.int .i64 (if ss[i].d.av=1∧(nd b ss[i].d.on).op=2 then 0 else ss[i].d.e),.slice (qf.map (fun b=>⟨b,0,none⟩)) ss[i].d.fr.length cf] 41 (0,0)),(some b81,ob bK 3 (iC L (i+1)) []),(some b11,.cells (cn l ((some ba).map (fun b=>⟨b,0,none⟩)) b.length ca (qo.map (fun b=>⟨b,0,none⟩)) os.length co) 25 (0,0)),(some ba,eO 66 b spa),(some b35,ob Value.bool 4 s []),(some b1,.cells (cn l A b.length cA B ss.length cB) 25 (0,0)),(some b2,.cells (cn 0 none 0 0 none 0 0) 25 (0,0)),(some bs,ob U 38 (eQ b L ss.length) sp),(qo,lX 41 os spo),(some bw,lX 41 (ws++[ss[i]]) spw')]++H)
       (fun m=>m≤ss[i].d.fr.length) (fun m=>ss[i].d.fr.length - m) 0 (Nat.zero_le _) ⟨rfl,rfl,rfl,rfl,rfl,rfl,rfl,rfl,rfl,rfl,rfl,rfl,rfl,rfl,rfl,trivial⟩ (List.Sublist.refl _) (fun m hm IH2=>?_)
     refine gS (gR ?_);refine aw jl ?_;refine gE (gS ?_)
     refine gC (fun hc=>?_) fun hc=>?_
     ·
      have hm2:m<ss[i].d.fr.length:=by simpa using hc
      have hjb:=(hco i hlt).mZ (List.getElem_mem hm2)
      obtain ⟨j,hj⟩:∃j:Nat,ss[i].d.fr[m]=(j:Int):=⟨ss[i].d.fr[m].toNat,by omega⟩
      have hjl:j<ss.length:=by omega
      have hjp:j<(iC L (i+1)).length:=by rw [sT];omega
      have hmr:m<(tW L ss[i].d.fr m).length:=by rw [AB];exact hm2
      have hNj:zX L j:=.fr (show i<L.length by omega) hNd (by rw [hat hlt,←hj];exact List.getElem_mem hm2)
      have hgm:(tW L ss[i].d.fr m).getD m 0=(j:Int):=by rw [CS hm2,hj]
      have hpj:(iC L (i+1)).getD j 0=(bJ (dO L) j:Int):=xY (by omega) (by omega) hNj
      have hnx:(tW L ss[i].d.fr m).set m (bJ (dO L) j:Int)=tW L ss[i].d.fr (m+1):=by rw [←AA hm2,hj];rfl
      obtain ⟨bf,rfl⟩:∃b,qf=some b:=by
        cases qf with
        |none=>have:=(hqf rfl).1;omega
        |some b=>exact ⟨b,rfl⟩
      refine gK (gS (gB (gS (gR ?_))));refine ah ?_;refine ai ?_;refine gE ?_
      refine ab.draw 12 mixed rfl ?_
      refine mI Jh JP 4 ?_;refine xj JU 1 ?_
      iterate 2 refine mH ?_
      refine mI Jh JP 4 ?_;refine xj JU 1 ?_;refine mH ?_
      refine aM.v (ae.dV rfl rfl rfl rfl rfl Jg I9 (m) ⟨rfl,hm2⟩) ?_
      refine aM.v (ae.qY bK 0 rfl rfl rfl rfl Ja 0 rfl hmr) ?_
      refine aM.v (ae.dV rfl rfl rfl rfl rfl Jg I9 (j) ⟨hgm,hjl⟩) ?_
      refine aM.v (ae.qY bK 0 rfl rfl rfl rfl Ja 2 rfl hjp) ?_
      refine aM.v (ae.dV rfl rfl rfl rfl rfl Jg I9 (m) ⟨rfl,hm2⟩) ?_
      refine aM.nil ?_
      refine ab.xJ (Value.int .i64) _ rfl rfl rfl rfl I9 rfl 0 rfl hmr ?_
      refine gE (dQ (gR ?_));refine df rfl rfl rfl rfl (cD (by omega)) ?_;refine ah ?_;refine gE ?_
      exact IH2 (m+1) _ _ hm2 (by omega) ⟨rfl,rfl,rfl,rfl,rfl,rfl,rfl,rfl,rfl,rfl,rfl,rfl,rfl,rfl,rfl,trivial⟩ (by rw [←hnx,←hpj];exact List.Sublist.refl _)
     have hge:¬m<ss[i].d.fr.length:=by simpa using hc
     obtain rfl:m=ss[i].d.fr.length:=by omega
     rw [AD]
     obtain ⟨nl,hnl2⟩:∃nl:SV,nl=⟨gD b L i ss[i].d,qf.map (fun b=>⟨b,0,none⟩),cf⟩:=⟨_,rfl⟩
     have hnd2:nl.d=gD b L i ss[i].d:=by rw [hnl2]
     have hcl:SV.cells nl=[U (oQ b L i),.int .i64 ss[i].d.av,.int .i64 ss[i].d.on,.int .i64 (if ss[i].d.av=1∧(nd b ss[i].d.on).op=2 then 0 else ss[i].d.e),.slice (qf.map (fun b=>⟨b,0,none⟩)) ss[i].d.fr.length cf]:=by
       rw [hnl2];simp [SV.cells,gD]
     refine ab.exit rfl (gR ?_)
     refine al Jr JH 2 ?_;refine aq JN 3 ?_
     refine ab.v (ae.iR rfl rfl rfl rfl JV 1 rfl Jm rfl) ?_
     refine ab.eh (c:=[_,_,_,_,_]) rfl rfl rfl rfl JB Jm J4 rfl rfl (fun b150=>?_)
     refine ab.Co (ss:=os) (sp:=spo) (q:=qo) (nl:=nl) rfl rfl rfl rfl rfl JB hi3 hz3 hsz3 rfl hqo 10 rfl 0 (by rw [hcl];rfl) hco1 (by unfold maxLen;omega) (by rw [hby3];omega) (fun bo spo' co' hlo=>?_)
     refine al Jr JH 2 ?_
     refine ab.st rfl rfl rfl rfl JH rfl 4 rfl rfl ?_
     refine gE (dQ (gR ?_));refine df rfl rfl rfl rfl (cD (by omega)) ?_;refine ah ?_;refine gE ?_
     refine ab.aT (pre:=[_,_,_,_,_,_,_,_,_,_,_,_]) (pre':=[(some b81,ob bK 3 (iC L (i+1)) []),(some b11,.cells (cn l ((some ba).map (fun b=>⟨b,0,none⟩)) b.length ca ((some bo).map (fun b=>⟨b,0,none⟩)) (os++[nl]).length co') 25 (0,0)),(some ba,eO 66 b spa),(some b35,ob Value.bool 4 s []),(some b1,.cells (cn l A b.length cA B ss.length cB) 25 (0,0)),(some b2,.cells (cn 0 none 0 0 none 0 0) 25 (0,0)),(some bs,ob U 38 (eQ b L ss.length) sp),(some bo,lX 41 (os++[nl]) spo'),(some bw,lX 41 (ws++[ss[i]]) spw'),(qf,ob bK 3 (ss[i].d.fr.map (fun j=>((bJ (dO L) j.toNat:Nat):Int))) spf)]) H [3,4,5,6,7,8,9,10,11,1] (by decide) rfl ?_
     refine IH (i+1,(some bo,co',os++[nl],spo'),(some bw,cw',ws++[ss[i]],spw'),(qf,ob bK 3 (ss[i].d.fr.map (fun j=>((bJ (dO L) j.toNat:Nat):Int))) spf)::H) _ _ ⟨hlt,(fun e=>by cases e),hlo,(fun e=>by cases e),hlw,?_,?_,fun x hx=>?_⟩ (by dsimp only;omega) ⟨rfl,rfl,rfl,rfl,rfl,rfl,rfl,rfl,rfl,rfl,trivial⟩ (List.Sublist.refl _)
     · dsimp only;rw [show fg (os++[nl])=fg os++[nl.d] by simp,hos,hps,hnd2]
     · dsimp only;rw [List.map_append,hws,hfs];rfl
     dsimp only at hx⊢
     rcases List.mem_append.1 hx with hx|hx
     · exact ⟨(hin x hx).1.mono (List.subset_cons_self _ _),(hin x hx).2⟩
     rw [List.mem_singleton.1 hx,hnl2]
     exact ⟨⟨qf,spf,List.mem_cons_self ..,rfl,fun e=>by simp only [gD,List.length_map];exact (hqf e).1⟩,by simp only [gD,List.length_map];unfold maxLen;omega⟩
    · -- the first part
     refine gS (gR ?_);refine al Jh I9 1 ?_;refine aq Ja 1 ?_;refine aw bh ?_;refine ah ?_
     refine eD 113 (fun hc=>?_) fun hc=>?_
     ·
      have r1:ss[i].d.av=1:=by simpa using hc
      have hol2:0≤ss[i].d.on∧ss[i].d.on<b.length:=by
        rcases (uU.1 ((uR (hco i hlt).1 r1).1 (hco i hlt))).2 with h|h
        · obtain ⟨o,q1,q2,_⟩:=h.1.nat hb;omega
        obtain ⟨o,q1,_⟩:=fP.1 h.1;have:=h.2.1;omega
      obtain ⟨o,ho⟩:∃o:Nat,ss[i].d.on=(o:Int):=⟨ss[i].d.on.toNat,by omega⟩
      have hob:o<b.length:=by omega
      have hnd3:nd b ss[i].d.on=b[o]:=by rw [ho,dI hob]
      refine al Jr Jj 1 ?_;refine aq Jn 6 ?_;refine al Jh I9 2 ?_;refine aq Ja 1 ?_
      refine ab.v (ae.ez rfl rfl rfl rfl rfl Ji Jd ⟨_,(hA).at_⟩ (aD (enc:=NV.cells) (sz:=6) (fun _=>rfl)) (by decide) (o) ⟨ho,hob⟩) ?_
      refine ab.v (ae.fQ rfl rfl rfl rfl Jb rfl I9 ((o)*6+0) rfl) ?_
      refine ab.v (ae.ld rfl rfl rfl rfl Ja (fun w _ hS=>Sl.kO (enc:=NV.cells) (sz:=6) ((hA).ay hS.ext).at_ (fun _=>rfl) hob rfl)) ?_
      refine aw bh ?_;refine cz ?_;refine gE ?_
      refine gC (fun hc=>?_) fun hc=>?_
      ·
       have h2:b[o].op=2:=by simpa using hc
       have hE:(if ss[i].d.av=1∧(nd b ss[i].d.on).op=2 then 0 else ss[i].d.e)=0:=if_pos ⟨r1,by rw [hnd3];exact h2⟩
       refine gR ?_;refine al Jh I9 3 ?_
       refine ab.st rfl rfl rfl rfl I9 rfl 1 rfl rfl ?_
       refine gE ?_
       exact K () _ _ sF (fun _ _ hS=>by rw [hE];exact hS.dH (.cons _ (List.Sublist.refl _)))
      have h2:¬b[o].op=2:=by simpa using hc
      have hE:(if ss[i].d.av=1∧(nd b ss[i].d.on).op=2 then 0 else ss[i].d.e)=ss[i].d.e:=if_neg (fun h=>h2 (by rw [←hnd3];exact h.2))
      refine gK ?_
      exact K () _ _ sF (fun _ _ hS=>by rw [hE];exact hS.dH (.cons _ (List.Sublist.refl _)))
     have r1:¬ss[i].d.av=1:=by simpa using hc
     have hE:(if ss[i].d.av=1∧(nd b ss[i].d.on).op=2 then 0 else ss[i].d.e)=ss[i].d.e:=if_neg (fun h=>r1 h.1)
     iterate 8 refine cy ?_
     refine bE ?_;refine gE (ab.gj rfl (gK ?_))
     exact K () _ _ sF (fun _ _ hS=>by rw [hE];exact hS.dH (.cons _ (List.Sublist.refl _)))
   have hge:¬i<ss.length:=by simpa using hc
   obtain rfl:i=ss.length:=by omega
   refine ab.exit rfl (gS (gR ?_))
   refine ab.v (ae.iR rfl rfl rfl rfl JR 1 rfl Jp rfl) ?_
   refine ah ?_
   refine ab.dG rfl rfl rfl rfl Jp 5 rfl rfl rfl rfl ?_
   refine ai ?_;refine gE ?_
   refine ab.fH Tryz.f36 func36 _ (aP.cell rfl JR Jp (j:=5) rfl rfl (aP.tmp rfl aP.nil)) (fun w' hS=>?_)
   exact ⟨hS.ext,_,_,os,ws,rfl,⟨some ba,qo,qw,ca,co,cw,spa,spo,spw,H,rfl,rfl,(fun e=>by cases e),fun e=>(hqo e).1,fun e=>(hqw e).1,gm.of (hS.aT (pre:=[_,_,_,_,_,_,_,_,_]) (pre':=[_,_,_]) (HR:=H) [2,7,8] (by decide) rfl),hin⟩,by rw [hos,dz,hL],by rw [hws,hL]⟩
  · -- the region
   refine ab.r8 4 9 [(some b35,ob Value.bool 4 s []),(some b1,.cells (cn l A b.length cA B ss.length cB) 25 (0,0)),(some b2,.cells (cn 0 none 0 0 none 0 0) 25 (0,0)),(some bs,ob U 38 (eQ b L ss.length) sp)] sL mixed rfl ?_
   refine lT.v (ae.aH rfl rfl rfl rfl Jr rfl (by exact I9) 0 rfl) ?_
   refine lT.v (ae.dw rfl rfl rfl rfl Ja 1 rfl rfl) ?_
   refine lT.v (ae.aH rfl rfl rfl rfl Jr rfl (by exact Jj) 1 rfl) ?_
   refine lT.v (ae.dw rfl rfl rfl rfl Jn 1 rfl rfl) ?_
   refine lT.nil ?_
   refine Tl.two (d:=77) (d2:=11) rfl ?_ ?_
   · -- operation 4 next
    refine dk.call _ rfl rfl rfl rfl rfl (fun _ _=>call67 _ _) (fun w _ hS=>(by exact tL A cA b w (hA.ay hS.ext) hb0 (by omega))) ?_
    rintro v w1 w2 Y' hS he ho
    obtain ⟨qa,ca,spa,rfl,hqa,hca,hS'⟩:=ak hS he ho
    obtain ⟨ba,rfl⟩:∃b,qa=some b:=by
      cases qa with
      |none=>have:=(hqa rfl).1;omega
      |some b=>exact ⟨b,rfl⟩
    refine ⟨_,hS',sL,?_⟩
    refine Tl.two (d:=78) (d2:=11) rfl ?_ ?_
    · -- operation 5 next
     refine dk.v (ae.eM rfl rfl rfl rfl (bd25 (c:=[_,_,_]) rfl)) (fun _ h=>by cases h;rfl) ⟨by repeat (first|exact List.Sublist.refl _|exact List.nil_sublist _|refine List.Sublist.cons_cons _ ?_|refine List.Sublist.cons _ ?_),?_⟩
     refine Tl.one (d:=11) rfl ?_
     refine dk.eN rfl rfl rfl (fun _=>J2 _) (fun b11=>⟨by repeat (first|exact List.Sublist.refl _|exact List.nil_sublist _|refine List.Sublist.cons_cons _ ?_|refine List.Sublist.cons _ ?_),?_⟩)
     refine Tl.sw [7] rfl rfl ?_
     exact K (b11,ba,ca,spa) _ _ sF (fun _ _ hS=>hS)
    · -- operation 6 next
     refine dk.eN rfl rfl rfl (fun _=>J2 _) (fun b11=>⟨by repeat (first|exact List.Sublist.refl _|exact List.nil_sublist _|refine List.Sublist.cons_cons _ ?_|refine List.Sublist.cons _ ?_),?_⟩)
     refine Tl.one (d:=78) rfl ?_
     refine dk.v (ae.eM rfl rfl rfl rfl (bd25 (c:=[_,_,_]) rfl)) (fun _ h=>by cases h;rfl) ⟨by repeat (first|exact List.Sublist.refl _|exact List.nil_sublist _|refine List.Sublist.cons_cons _ ?_|refine List.Sublist.cons _ ?_),?_⟩
     refine Tl.sw [7] rfl rfl ?_
     exact K (b11,ba,ca,spa) _ _ sF (fun _ _ hS=>hS)
   · -- operation 6 next
    refine dk.eN rfl rfl rfl (fun _=>J2 _) (fun b11=>⟨by repeat (first|exact List.Sublist.refl _|exact List.nil_sublist _|refine List.Sublist.cons_cons _ ?_|refine List.Sublist.cons _ ?_),?_⟩)
    refine Tl.one (d:=77) rfl ?_
    refine dk.call _ rfl rfl rfl rfl rfl (fun _ _=>call67 _ _) (fun w _ hS=>(by exact tL A cA b w (hA.ay hS.ext) hb0 (by omega))) ?_
    rintro v w1 w2 Y' hS he ho
    obtain ⟨qa,ca,spa,rfl,hqa,hca,hS'⟩:=ak hS he ho
    obtain ⟨ba,rfl⟩:∃b,qa=some b:=by
      cases qa with
      |none=>have:=(hqa rfl).1;omega
      |some b=>exact ⟨b,rfl⟩
    refine ⟨_,hS',sL,?_⟩
    refine Tl.one (d:=78) rfl ?_
    refine dk.v (ae.eM rfl rfl rfl rfl (bd25 (c:=[_,_,_]) rfl)) (fun _ h=>by cases h;rfl) ⟨by repeat (first|exact List.Sublist.refl _|exact List.nil_sublist _|refine List.Sublist.cons_cons _ ?_|refine List.Sublist.cons _ ?_),?_⟩
    refine Tl.sw [7] rfl rfl ?_
    exact K (b11,ba,ca,spa) _ _ sF (fun _ _ hS=>hS.pick (pre:=[_,_,_,_,_,_]) (pre':=[_,_,_,_,_,_]) [1,0,2,3,4,5] (by decide) rfl)
end Go.Proofs.YtnfmegcknckahaaGreatDoor
namespace Go.Proofs.YtnfmegcknckahaaGreatDoor
open Go.RowKit Go.Proofs.Wit Tryz
/-- a refutation of one's own -/
def Ct (w w':World) (l:Int) (b:List NV) (v:Value) (os:List SV):Prop:=
 ∃(qa qo:Option Nat) (ca co:Nat) (spa spo:List Value) (H:Hl),v=.agg (cn l (qa.map (fun b=>⟨b,0,none⟩)) b.length ca (qo.map (fun b=>⟨b,0,none⟩)) os.length co)∧
  (qa=none→b.length=0)∧(qo=none→os.length=0)∧gm w w' ((qa,eO 66 b spa)::(qo,lX 41 os spo)::H)∧∀x∈os,x.sy 3 H∧x.d.fr.length≤maxLen
set_option maxRecDepth 8000 in
theorem zZ (l:Int) (A:Option Addr) (cA:Nat) (b:List NV) (B:Option Addr) (cB:Nat) (ss:List SV) (w:World) (hA:FA w A b) (hB:zJ w B ss) (hl:b.length≤maxLen) (hsl:ss.length≤maxLen):
    Cn Tryz.prog 12 [.agg (cn l A b.length cA B ss.length cB)] w (fun v w'=>∃v1,v=.tuple #[v1,.int .i64 (qu l b (fg ss))]∧(qu l b (fg ss)=0→∃os,Ct w w' l b v1 os∧fg os=dz b (fg ss))∧(qu l b (fg ss)≠0→v1=.agg (cn 0 none 0 0 none 0 0))):=by
  refine Cn.of func12 rfl rfl ?_
  refine gS (gR ?_)
  refine ab.bx rfl rfl rfl rfl (fun b1=>?_)
  refine ab.eN rfl rfl rfl (fun _=>J2 _) (fun b2=>?_)
  refine ai ?_;refine gE (gS (gS (gR ?_)))
  refine ab.v (ae.iR rfl rfl rfl rfl JR 1 rfl Jp rfl) ?_
  refine gP rfl rfl rfl rfl rfl call22 (fun w _ hS=>(by exact qO l A cA b B cB ss w (hA.ay hS.ext) (hB.ay hS.ext) hl hsl)) ?_
  refine ai ?_;refine gE (gS (gR ?_));refine ah ?_;refine aw gO ?_;refine gE ?_
  refine gC (fun hc=>?_) fun hc=>?_
  ·
   have h1:qu l b (fg ss)≠0:=by simpa using hc
   refine gS (gR ?_)
   refine ab.v (ae.eM rfl rfl rfl rfl (bd25 (c:=[_,_,_]) rfl)) ?_
   refine ah ?_
   refine ab.dG rfl rfl rfl rfl Jp 0 rfl rfl rfl rfl ?_
   refine ai ?_;refine gE ?_
   refine ab.fH Tryz.f12 func12 _ (aP.cell rfl JR Jp (j:=0) rfl rfl (aP.tmp rfl aP.nil)) (fun w' hS=>?_)
   exact ⟨hS.ext,_,rfl,fun h=>absurd h h1,fun _=>rfl⟩
  have h1:qu l b (fg ss)=0:=by simpa using hc
  have hok:=kX.1 h1
  refine gK (gS (gR ?_))
  refine ab.v (ae.iR rfl rfl rfl rfl JR 1 rfl Jp rfl) ?_
  refine gM rfl rfl rfl rfl rfl call36 (fun w _ hS=>(by exact u4 l A cA b B cB ss w (hA.ay hS.ext) (hB.ay hS.ext) hok)) ?_
  rintro v w1 w2 Y' hS he ⟨v1,v2,os,ws,rfl,⟨qa,qo,qw,ca,co,cw,spa,spo,spw,H,rfl,rfl,hqa,hqo,hqw,hnew,hin⟩,hos,hws⟩
  refine ⟨_,hS.fD he (pre:=[_,_,_]) hnew,?_⟩
  refine ah ?_
  iterate 2 refine fW ?_
  refine ab.eN rfl rfl rfl (fun _=>J2 _) (fun b5=>?_)
  refine ab.dG rfl rfl rfl rfl Jp 0 rfl rfl rfl rfl ?_
  refine ai ?_;refine gE (gS (gR ?_))
  refine ab.v (ae.iR rfl rfl rfl rfl JR 0 rfl Jp rfl) ?_
  refine ab.dG rfl rfl rfl rfl Jp 4 rfl rfl rfl rfl ?_
  refine ai ?_;refine gE ?_
  refine ab.fH Tryz.f12 func12 _ (aP.cell rfl JR Jp (j:=4) rfl rfl (aP.tmp rfl aP.nil)) (fun w' hS=>?_)
  exact ⟨hS.ext,_,by rw [h1];rfl,fun _=>⟨os,⟨qa,qo,ca,co,spa,spo,H,rfl,hqa,hqo,gm.of (hS.aT (pre:=[_,_,_,_,_,_]) (pre':=[_,_]) (HR:=H) [1,2] (by decide) rfl),hin⟩,hos⟩,fun h=>absurd h1 h⟩
end Go.Proofs.YtnfmegcknckahaaGreatDoor
