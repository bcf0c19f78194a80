/- What calls of the program return, under the conditions that each theorem states. -/
import Derived.Test.YtnfmegcknckahaaGreatDoorXO44
import Derived.Test.YtnfmegcknckahaaGreatDoorXO41
import Derived.Test.YtnfmegcknckahaaGreatDoorXO33
import Derived.Test.YtnfmegcknckahaaGreatDoorXO42
import Derived.Test.YtnfmegcknckahaaGreatDoorXO03
import Derived.Test.YtnfmegcknckahaaGreatDoorXO04
import Derived.Test.YtnfmegcknckahaaGreatDoorXO43
import Derived.Test.YtnfmegcknckahaaGreatDoorXO24
import Derived.Test.YtnfmegcknckahaaGreatDoorXO14
namespace Go.Proofs.YtnfmegcknckahaaGreatDoor
open Go.RowKit Go.Proofs.Wit Tryz
set_option maxRecDepth 8000 in
theorem xp (l:Int) (A:Option Addr) (cA:Nat) (b:List NV) (B:Option Addr) (cB:Nat) (ss:List SV) (w:World) (hA:FA w A b) (hB:zJ w B ss) (hl:b.length≤maxLen) (hsl:ss.length≤maxLen):
    Cn Tryz.prog 20 [.agg (cn l A b.length cA B ss.length cB)] w (fun v w'=>∃sv ls,v=.tuple #[sv,.int .i64 (CZ l b (fg ss))]∧gZ 66 48 w w' sv ls∧(CZ l b (fg ss)=0→ls.map LV.d=Gg b (fg ss))∧(CZ l b (fg ss)≠0→ls=[])):=by
  obtain ⟨iI,hiI,hzI,hszI,hbyI⟩:=info_parts uH
  refine Cn.of func20 rfl rfl ?_
  refine gS (gR ?_)
  refine ab.bx rfl rfl rfl rfl (fun b1=>?_)
  iterate 2 refine ai ?_
  refine gE (gS (gS (gR ?_)))
  refine ab.v (ae.iR rfl rfl rfl rfl JR 0 rfl Jp rfl) ?_
  refine gP rfl rfl rfl rfl rfl call22 (fun w _ hS=>(by exact qO l A cA b B cB ss w (hA.ay hS.ext) (hB.ay hS.ext) hl hsl)) ?_
  refine ai ?_;refine gE (gS (gR ?_));refine ah ?_;refine aw gO ?_;refine gE ?_
  refine gC (fun hc=>?_) fun hc=>?_
  ·
   have h1:qu l b (fg ss)≠0:=by simpa using hc
   have hE:CZ l b (fg ss)=qu l b (fg ss):=if_pos h1
   refine gS (gR ?_);refine ah ?_
   iterate 2 refine ai ?_
   refine gE ?_
   refine gT func20 fun w' hS=>?_
   exact ⟨hS.ext,_,[],by rw [hE];rfl,gZ.nil,fun h=>absurd (hE ▸ h) h1,fun _=>rfl⟩
  have h1:qu l b (fg ss)=0:=by simpa using hc
  have hok:=kX.1 h1
  have hE:CZ l b (fg ss)=if (gF af b (fg ss)).2.bad=true then 8 else 0:=if_neg (by simp [h1])
  obtain ⟨L,hLd⟩:∃L,L=fg ss:=⟨_,rfl⟩
  have hLl:L.length=ss.length:=by rw [hLd,eL]
  have hp0:=hok.pos
  have hp4:=hok.len
  rw [eL] at hp0 hp4
  have hnl:ss.length - 1<ss.length:=by omega
  refine gK (gS (gR ?_))
  refine ab.v (ae.iR rfl rfl rfl rfl JR 0 rfl Jp rfl) ?_
  refine gM rfl rfl rfl rfl rfl call36 (fun w _ hS=>(by exact u4 l A cA b B cB ss w (hA.ay hS.ext) (hB.ay hS.ext) hok)) ?_
  rintro v w1 w2 Y' hS he ⟨v1,v2,os,ws,rfl,⟨qa,qo,qw,ca,co,cw,spa,spo,spw,H,rfl,rfl,hqa,hqo,hqw,hnew,hin⟩,hos,hws⟩
  refine ⟨_,hS.fD he (pre:=[_,_,_]) hnew,?_⟩
  rw [←hLd] at hok hos hws hE⊢
  have hol:os.length=(dz b L).length:=by rw [←hos,eL]
  have hwl:ws.length=os.length:=by
    have:=congrArg List.length hws
    rw [List.length_map,lp (Nat.le_refl _)] at this
    rw [hol,oR];exact this
  have hot:=hok.tr.pos
  have hot4:=hok.tr.len
  have hop:0<os.length:=by omega
  obtain ⟨bo,rfl⟩:∃b,qo=some b:=by
    cases qo with
    |none=>have:=hqo rfl;omega
    |some b=>exact ⟨b,rfl⟩
  obtain ⟨bq,rfl⟩:∃b,qw=some b:=by
    cases qw with
    |none=>have:=hqw rfl;omega
    |some b=>exact ⟨b,rfl⟩
  refine ah ?_
  iterate 2 refine fW ?_
  refine ab.eN rfl rfl rfl (fun _=>J2 _) (fun b5=>?_)
  refine ab.dG rfl rfl rfl rfl Jp 0 rfl rfl rfl rfl ?_
  refine ai ?_;refine gE (gS (gR ?_))
  refine ab.v (ae.eM rfl rfl rfl rfl (bd73 (c:=[_,_]) rfl)) ?_
  refine ab.bx rfl rfl rfl rfl (fun b25=>?_)
  refine ai ?_;refine gE (gS (gR ?_));refine ai ?_;refine gE (gS (gS (gR ?_)));refine al Jr JH 2 ?_;refine aq JN 1 ?_;refine dY JB ?_;refine ah ?_;refine gE (gB ?_)
  refine ab.cQ (vt 48 [] []) ?_
  refine ab.cQ (ob bK 3 [] []) ?_
  refine ab.aT (pre:=[_,_,_,_,_,_,_,_]) (pre':=[(none,ob bK 3 [] []),(some b5,.cells (cn l (qa.map (fun b=>⟨b,0,none⟩)) b.length ca (some ⟨bo,0,none⟩) os.length co) 25 (0,0)),(qa,eO 66 b spa),(some bo,lX 41 os spo),(some bq,lX 41 ws spw),(some b1,.cells (cn l A b.length cA B ss.length cB) 25 (0,0)),(some b25,.cells #[cK none 0 0,xE false] 73 (0,0)),(none,vt 48 [] [])]) H [0,3,4,5,6,7,2,1] (by decide) rfl ?_
  refine ab.loop (σ:=Nat×Option Nat×Nat×List Value×Ws×List FV) (fun z=>[(1,.pointer (some ⟨b1,0,none⟩)),(5,.pointer (some ⟨b5,0,none⟩)),(6,.slice (some ⟨bq,0,none⟩) ws.length cw),(7,.pointer (some ⟨b25,0,none⟩)),(8,cK z.2.1 (iL (aW af b (dz b L) (cP L L.length) z.1).1).length z.2.2.1),(27,.slice (some ⟨bo,0,none⟩) os.length co),(28,.int .i64 os.length),(29,.int .i64 z.1)])
    (fun z=>[(z.2.1,ob bK 3 (iL (aW af b (dz b L) (cP L L.length) z.1).1) z.2.2.2.1),(some b5,.cells (cn l (qa.map (fun b=>⟨b,0,none⟩)) b.length ca (some ⟨bo,0,none⟩) os.length co) 25 (0,0)),(qa,eO 66 b spa),(some bo,lX 41 os spo),(some bq,lX 41 ws spw),(some b1,.cells (cn l A b.length cA B ss.length cB) 25 (0,0))]++(cd 73 48 (xE (aW af b (dz b L) (cP L L.length) z.1).2.bad) b25 z.2.2.2.2.1++H))
    (fun z=>z.1≤os.length∧(z.2.1=none→(iL (aW af b (dz b L) (cP L L.length) z.1).1).length=0∧z.2.2.1=0)∧((iL (aW af b (dz b L) (cP L L.length) z.1).1).map bK++z.2.2.2.1).length=z.2.2.1∧ff 66 z.2.2.2.2.2 (aW af b (dz b L) (cP L L.length) z.1).2 z.2.2.2.2.1)
    (fun z=>os.length - z.1) (0,none,0,[],⟨none,0,[],[],[]⟩,[]) ⟨Nat.zero_le _,fun _=>⟨rfl,rfl⟩,rfl,ff.start⟩ ⟨rfl,rfl,rfl,rfl,rfl,rfl,rfl,rfl,trivial⟩ (List.Sublist.refl _) (fun z hI IH=>?_)
  obtain ⟨i,q8,c8,sp8,s,Γ⟩:=z
  obtain ⟨hi,hq8,hc8,hW⟩:=hI
  dsimp only at hi hq8 hc8 hW IH⊢
  have hlal:=lI (T:=af) (b:=b) (tl:=dz b L) (fl:=cP L L.length) (q:=i) (by omega)
  have hlaok:=ko (T:=af) (b:=b) (tl:=dz b L) (fl:=cP L L.length) (q:=i) (by omega)
  have hsuc:∀(h:i<(dz b L).length),aW af b (dz b L) (cP L L.length) (i+1)=((aW af b (dz b L) (cP L L.length) i).1++[(bH af b (dz b L) ((cP L L.length).getD i 0#64) (dz b L)[i] (aW af b (dz b L) (cP L L.length) i).1 (aW af b (dz b L) (cP L L.length) i).2).1],(bH af b (dz b L) ((cP L L.length).getD i 0#64) (dz b L)[i] (aW af b (dz b L) (cP L L.length) i).1 (aW af b (dz b L) (cP L L.length) i).2).2):=fun h=>eK h
  obtain ⟨PR,hPR⟩:∃PR,PR=aW af b (dz b L) (cP L L.length) i:=⟨_,rfl⟩
  rw [←hPR] at hq8 hc8 hW hlal hlaok hsuc⊢
  obtain ⟨la,σi⟩:=PR
  dsimp only at hq8 hc8 hW hlal hlaok hsuc⊢
  have hil8:(iL la).length=la.length:=iE
  refine gS (gR ?_);refine aw jl ?_;refine gE (gS ?_)
  refine gC (fun hc=>?_) fun hc=>?_
  ·
   have hlt:i<os.length:=by simpa using hc
   have hltw:i<ws.length:=by omega
   have hltt:i<(dz b L).length:=by omega
   have hsuc:=hsuc hltt
   have hxi:os[i].d=(dz b L)[i]:=by
     have:(fg os)[i]'(by rw [eL];exact hlt)=os[i].d:=mj hlt
     rw [←this];simp only [hos]
   have hfi:ws[i].d.set=(cP L L.length).getD i 0#64:=by
     have:=congrArg (fun x=>x[i]?) hws
     simp only [List.getElem?_map,List.getElem?_eq_getElem hltw,Option.map_some] at this
     rw [List.getD_eq_getElem?_getD,←this];rfl
   rw [←hfi,←hxi] at hsuc
   obtain ⟨hxin,hxl⟩:=hin os[i] (List.getElem_mem hlt)
   refine gK (gS (gB (gS (gR ?_))));refine ah ?_
   refine ab.v (ae.dV rfl rfl rfl rfl rfl JB Jm (i) ⟨rfl,hlt⟩) ?_
   refine ab.v (ae.nR (cs:=SV.cells os[i]) rfl rfl rfl rfl JV Jm (fun w _ hS=>Sl.many (enc:=SV.cells) (sz:=5) (a:=some ⟨bo,0,none⟩) (Sl.dg (hS.get (j:=3) rfl)) (fun _=>rfl) hlt)) ?_
   rw [hil8]
   refine ab.eN rfl rfl rfl (fun _=>J4 _) (fun b10=>?_)
   refine ai ?_
   refine ab.dG rfl rfl rfl rfl Jm 0 rfl rfl rfl rfl ?_
   refine gE (gS ?_)
   refine ab.jG 13 (([(some b10,.cells (SV.cells os[i]).toArray 41 (0,0)),(some b5,.cells (cn l (qa.map (fun b=>⟨b,0,none⟩)) b.length ca (some ⟨bo,0,none⟩) os.length co) 25 (0,0)),(some bq,lX 41 ws spw)])) mixed ?_
   refine cV 0 (ae.mv rfl rfl rfl rfl) ?_
   refine cV 1 (ae.iR rfl rfl rfl rfl JR 1 rfl Jp rfl) ?_
   refine cV 2 (ae.iR rfl rfl rfl rfl JV 0 rfl Jm rfl) ?_
   refine cV 3 (ae.mv rfl rfl rfl rfl) ?_
   refine cV 4 (ae.mv rfl rfl rfl rfl) ?_
   refine cV 5 (ae.dV rfl rfl rfl rfl rfl JB Jm (i) ⟨rfl,hltw⟩) ?_
   refine cV 6 (ae.fQ (a:=some ⟨bq,0,none⟩) (o:=(i)*5) rfl rfl rfl rfl Jh rfl Ju ((i)*5+0) rfl) ?_
   refine cV 7 (ae.ld rfl rfl rfl rfl Jz (fun w _ hS=>Sl.kO (enc:=SV.cells) (sz:=5) (a:=some ⟨bq,0,none⟩) (Sl.dg (hS.get (j:=2) rfl)) (fun _=>rfl) hltw rfl)) ?_
   refine cV 8 (ae.mv rfl rfl rfl rfl) ?_
   refine cV 9 (ae.eM rfl rfl rfl rfl (bd76 (c:=[_,_,_,_,_,_,_,_,_,_,_]) rfl)) ?_
   refine aG.one (i:=10) rfl (dk.bx rfl rfl rfl rfl (fun b44=>⟨sL,?_⟩)) rfl
   refine cV 11 (ae.fh rfl rfl rfl rfl) ?_
   refine aG.done rfl ?_
   refine gE (gS (gR ?_))
   iterate 2 refine ah ?_
   obtain ⟨p,hp⟩:∃p:SP,p=⟨b25,b44,l,qa.map (fun b=>⟨b,0,none⟩),ca,b,some ⟨bo,0,none⟩,co,os,os[i],ws[i].d.set,q8.map (fun b=>⟨b,0,none⟩),c8,la⟩:=⟨_,rfl⟩
   have hpO:p.Ok i:=hok.Gw (by rw [hp]) (by rw [hp]) (by rw [hp];exact hos) (by rw [hp];exact hlt) (by simp only [hp]) (by rw [hp];exact hfi) (by rw [hp];exact hlal)
   have hpI:F9 p ([(some b44,.cells p.cs 76 (0,0)),(some b10,.cells (SV.cells os[i]).toArray 41 (0,0)),(q8,ob bK 3 (iL la) sp8),(some b5,.cells (cn l (qa.map (fun b=>⟨b,0,none⟩)) b.length ca (some ⟨bo,0,none⟩) os.length co) 25 (0,0)),(qa,eO 66 b spa),(some bo,lX 41 os spo),(some bq,lX 41 ws spw),(some b1,.cells (cn l A b.length cA B ss.length cB) 25 (0,0))]++H):=by
     constructor
     · exact List.mem_append_left _ (by rw [show p.bs=b44 by rw [hp]];exact List.mem_cons_self ..)
     · exact ⟨qa,spa,by rw [hp];simp,by rw [hp],fun e=>by rw [hp];exact hqa e⟩
     · exact ⟨some bo,spo,by rw [hp];simp,by rw [hp];rfl,fun e=>by cases e⟩
     · obtain ⟨qx,spx,x1,x2,x3⟩:=hxin
       exact ⟨qx,spx,by rw [hp];exact List.mem_append_right _ x1,by rw [hp];exact x2,fun e=>by rw [hp];exact x3 e⟩
     exact ⟨q8,sp8,by rw [hp];exact List.mem_append_left _ (.tail _ (.tail _ (.head _))),by rw [hp],fun e=>by rw [hp,←hil8];exact (hq8 e).1⟩
   have hpcs:p.cs=#[.pointer (some ⟨b25,0,none⟩),.int .i64 l,.slice (qa.map (fun b=>⟨b,0,none⟩)) b.length ca,.slice (some ⟨bo,0,none⟩) os.length co,U os[i].d.set,.int .i64 os[i].d.av,.int .i64 os[i].d.on,.int .i64 os[i].d.e,.slice os[i].fa os[i].d.fr.length os[i].fc,U ws[i].d.set,.slice (q8.map (fun b=>⟨b,0,none⟩)) la.length c8]:=by rw [hp];rfl
   have hpbw:p.bw=b25:=by rw [hp]
   have hpbs:p.bs=b44:=by rw [hp]
   have hpst:bH af b (dz b L) ws[i].d.set os[i].d la σi=bH af p.b (fg p.tl) p.full p.x.d p.last σi:=by rw [hp];dsimp only;rw [hos]
   have hplast:qm p.b (fg p.tl) σi p.last i:=by rw [hp];dsimp only;rw [hos];exact hlaok
   refine ab.DX (ef:=xE) (pre:=[_,_,_,_,_,_,_,_]) (H:=H) (hR':=([(some b44,.cells p.cs 76 (0,0)),(some b10,.cells (SV.cells os[i]).toArray 41 (0,0)),(q8,ob bK 3 (iL la) sp8),(some b5,.cells (cn l (qa.map (fun b=>⟨b,0,none⟩)) b.length ca (some ⟨bo,0,none⟩) os.length co) 25 (0,0)),(qa,eO 66 b spa),(some bo,lX 41 os spo),(some bq,lX 41 ws spw),(some b1,.cells (cn l A b.length cA B ss.length cB) 25 (0,0))]++H)) (res:=bH af b (dz b L) ws[i].d.set os[i].d la σi) hW (by rw [hpcs];exact List.Sublist.refl _) rfl rfl rfl rfl rfl (fun _ _=>call46 _ _) (fun w Y' hS=>by have:=z6 p i ([(some b44,.cells p.cs 76 (0,0)),(some b10,.cells (SV.cells os[i]).toArray 41 (0,0)),(q8,ob bK 3 (iL la) sp8),(some b5,.cells (cn l (qa.map (fun b=>⟨b,0,none⟩)) b.length ca (some ⟨bo,0,none⟩) os.length co) 25 (0,0)),(qa,eO 66 b spa),(some bo,lX 41 os spo),(some bq,lX 41 ws spw),(some b1,.cells (cn l A b.length cA B ss.length cB) 25 (0,0))]++H) Γ σi w hpI hpO hplast;rw [hpbw,hpbs,←hpst] at this;exact this) (fun s2 Γ2 hW2 hg2=>?_)
   obtain ⟨Q,hQ⟩:∃Q,Q=bH af b (dz b L) ws[i].d.set os[i].d la σi:=⟨_,rfl⟩
   rw [←hQ] at hsuc hW2⊢
   rw [←hil8]
   refine ab.eh (c:=[_]) rfl rfl rfl rfl Jg I9 Jv rfl rfl (fun b48=>?_)
   refine ab.oh bK (news:=[(Q.1:Int)]) (spn:=[]) (xs:=iL la) (sp:=sp8) (q:=q8) rfl rfl rfl rfl rfl Jg hiI hzI hszI rfl hq8 3 rfl 0 rfl hc8 rfl (by decide) (fun _=>rfl) (by unfold maxLen;omega) (by rw [hbyI];omega) (fun b' sp' cap' hlen=>?_)
   rw [←oX] at hlen⊢
   refine ai ?_;refine gE (gS (gR ?_));refine ah ?_;refine kk ?_;refine al JS I9 1 ?_;refine aq Ja 9 ?_;refine aw gO ?_;refine gE ?_
   refine gC (fun hc=>?_) fun hc=>?_
   ·
    have hb:Q.2.bad=true:=by
      cases hb:Q.2.bad with
      |true=>rfl
      |false=>rw [hb] at hc;simp at hc
    have hbW:(gF af b L).2.bad=true:=by
      cases hbW:(gF af b L).2.bad with
      |true=>rfl
      |false=>
        have:=(sR (T:=af) (b:=b) (tl:=dz b L) (fl:=cP L L.length) (q:=i+1) (r:=(dz b L).length) (by omega) (Nat.le_refl _)).trans (AK (T:=af) (b:=b) (L:=L))
        have:=this.ok hbW
        rw [hsuc,hb] at this;cases this
    rw [if_pos hbW] at hE
    have hE8:(if Q.2.bad=true then (8:Int) else 0)=8:=if_pos hb
    refine gS ?_
    refine ab.draw 6 mixed rfl ?_
    refine mH ?_;refine xi ?_;refine mI JS I9 1 ?_;refine xj Ja 9 ?_
    iterate 2 refine AF ?_
    refine aM.nil ?_
    refine gE ?_
    refine gT func20 fun w' hS=>?_
    exact ⟨hS.ext,_,[],by rw [hE,←hE8];rfl,gZ.nil,fun h=>absurd (hE ▸ h) (by decide),fun _=>rfl⟩
   refine gK (dQ (gR ?_));refine df rfl rfl rfl rfl (cD (by omega)) ?_;refine ah ?_;refine gE ?_
   refine ab.aT (pre:=[_,_,_,_,_,_,_,_,_]) (pre':=[_,_,_,_,_,_]) (cd 73 48 (xE Q.2.bad) b25 s2++H) [3,4,5,6,7,8] (by decide) rfl ?_
   refine IH (i+1,some b',cap',sp',s2,Γ2) _ _ ⟨hlt,(fun e=>by cases e),by dsimp only;rw [hsuc];exact hlen,by dsimp only;rw [hsuc];exact hW2⟩ (by dsimp only;omega) ⟨rfl,rfl,rfl,rfl,by dsimp only;rw [hsuc];rfl,rfl,rfl,rfl,trivial⟩ (by dsimp only;rw [hsuc];exact List.Sublist.refl _)
  have hge:¬i<os.length:=by simpa using hc
  obtain rfl:i=os.length:=by omega
  have hlo:os.length - 1<os.length:=by omega
  obtain ⟨sn,hsn⟩:∃sn,sn=os[os.length - 1].d.set:=⟨_,rfl⟩
  obtain ⟨sm,hsm⟩:∃sm,sm=ss[ss.length - 1].d.set:=⟨_,rfl⟩
  have hsnS:dc (dz b L) (((dz b L).length - 1:Nat):Int)=sn:=by rw [←hol,←hos,rZ hlo,hsn]
  have hsmS:dc L ((L.length - 1:Nat):Int)=sm:=by rw [hLl,hLd,rZ hnl,hsm]
  have hsmI:js b sm:=by
    rw [←hsmS,eJ (by omega)];exact (hok.lQ _ (by omega)).1
  have hnoneO:(dA b sm).ok:=(oW hok.base hsmI).1
  obtain ⟨ln,hln⟩:∃ln,ln=la.getD (os.length - 1) 0:=⟨_,rfl⟩
  have hlnL:σi.bad=false→ln<σi.ls.length:=fun h=>by rw [hln];exact (hlaok (os.length - 1) (by omega) h).1
  rw [hol] at hPR
  have hPWd:gF af b L=if sn=sm then (ln,σi) else aX af (dA b sm) [ln] σi:=by
    unfold gF;dsimp only
    rw [←hPR,hsnS,hsmS,hln,hol]
  have hla0:la.length - 1<(iL la).length:=by omega
  have hlai:(iL la).getD (la.length - 1) 0=(ln:Int):=by 
    have e:la.length - 1=os.length - 1:=by omega
    rw [nS (show la.length - 1<la.length by omega),hln]
    simp [List.getD_eq_getElem?_getD,e,show os.length - 1<la.length by omega]
  obtain ⟨b8,rfl⟩:∃b,q8=some b:=by
    cases q8 with
    |none=>have:=(hq8 rfl).1;omega
    |some b=>exact ⟨b,rfl⟩
  refine ab.GM (h':=[(some b8,ob bK 3 (iL la) sp8),(some b5,.cells (cn l (qa.map (fun b=>⟨b,0,none⟩)) b.length ca (some ⟨bo,0,none⟩) os.length co) 25 (0,0)),(some bo,lX 41 os spo),(some b1,.cells (cn l A b.length cA B ss.length cB) 25 (0,0))]++cd 73 48 (xE σi.bad) b25 s) (fun _ _ hS=>hS.dH (.cons_cons _ (.cons_cons _ (.cons _ (.cons_cons _ (.cons _ (.cons_cons _ (List.sublist_append_left _ _)))))))) ?_
  refine ab.exit rfl (gS ?_)
  refine ab.draw 20 mixed rfl ?_
  refine mI Jr JH 2 ?_;refine xj JN 1 ?_;refine mI Jr JH 2 ?_;refine xj JN 1 ?_;refine HH JB ?_
  refine aM.v (ae.bin rfl rfl rfl rfl (iH (c:=((os.length - 1:Nat):Int)) (by omega) (by omega)) rfl) ?_
  refine aM.v (ae.dV rfl rfl rfl rfl rfl JB Jm ((os.length - 1)) ⟨rfl,hlo⟩) ?_
  refine aM.v (ae.fQ (a:=some ⟨bo,0,none⟩) (o:=((os.length - 1))*5) rfl rfl rfl rfl Jh rfl Ju (((os.length - 1))*5+0) rfl) ?_
  refine aM.v (ae.ld rfl rfl rfl rfl Jz (fun w _ hS=>Sl.kO (enc:=SV.cells) (sz:=5) (a:=some ⟨bo,0,none⟩) (Sl.dg (hS.get (j:=2) rfl)) (fun _=>rfl) hlo rfl)) ?_
  refine mI Jr JH 2 ?_;refine xj JN 3 ?_;refine mI Jr JH 2 ?_;refine xj JN 3 ?_;refine HH JB ?_
  refine aM.v (ae.bin rfl rfl rfl rfl (iH (c:=((ss.length - 1:Nat):Int)) (by omega) (by omega)) rfl) ?_
  refine aM.v (ae.ez rfl rfl rfl rfl rfl JB Jm ⟨_,(hB).at_⟩ (aD (enc:=SV.cells) (sz:=5) (fun _=>rfl)) (by decide) ((ss.length - 1)) ⟨rfl,hnl⟩) ?_
  skip
  refine aM.v (ae.fQ rfl rfl rfl rfl Jh rfl Ju (((ss.length - 1))*5+0) rfl) ?_
  refine aM.v (ae.ld rfl rfl rfl rfl Jz (fun w _ hS=>Sl.kO (enc:=SV.cells) (sz:=5) ((hB).ay hS.ext).at_ (fun _=>rfl) hnl rfl)) ?_
  iterate 2 refine AF ?_
  refine aM.nil ?_
  refine gE (gS ?_)
  refine ab.jL (α:={z:Ws×List FV // ff 66 z.2 (gF af b L).2 z.1}) (fun _=>[(7,.pointer (some ⟨b25,0,none⟩))]) (fun z=>cd 73 48 (xE (gF af b L).2.bad) b25 z.1.1) (fun z=>?_) (fun K=>?_)
  obtain ⟨⟨s9,Γ9⟩,hW9⟩:=z
  dsimp only at hW9⊢
  · -- what comes behind
   refine gS (gS (gR ?_));refine ah ?_;refine kk ?_;refine al JS I9 1 ?_;refine aq Ja 0 ?_;refine aw gO ?_;refine gE ?_
   refine gC (fun hc=>?_) fun hc=>?_
   ·
    have hb:(gF af b L).2.bad=true:=by
      cases hb:(gF af b L).2.bad with
      |true=>rfl
      |false=>rw [hb] at hc;simp at hc
    rw [if_pos hb] at hE
    have hE8:(if (gF af b L).2.bad=true then (8:Int) else 0)=8:=if_pos hb
    refine gS ?_
    refine ab.draw 6 mixed rfl ?_
    refine mH ?_;refine xi ?_;refine mI JS I9 1 ?_;refine xj Ja 0 ?_
    iterate 2 refine AF ?_
    refine aM.nil ?_
    refine gE ?_
    refine gT func20 fun w' hS=>?_
    exact ⟨hS.ext,_,[],by rw [hE,←hE8];rfl,gZ.nil,fun h=>absurd (hE ▸ h) (by decide),fun _=>rfl⟩
   have hb:(gF af b L).2.bad=false:=by
     cases hb:(gF af b L).2.bad with
     |false=>rfl
     |true=>rw [hb] at hc;simp at hc
   rw [if_neg (by rw [hb];simp)] at hE
   refine gK (gS (gR ?_));refine ah ?_;refine kk ?_;refine al JS J0 0 ?_;refine aq isAgg31 0 ?_
   iterate 2 refine ai ?_
   refine gE ?_
   refine gT func20 fun w' hS=>?_
   exact ⟨hS.ext,_,s9.ls,by rw [hE];rfl,hW9.own (pre:=[]) hS,fun _=>hW9.Bw,fun h=>absurd hE h⟩
  · -- the first part
   refine gS (gR ?_)
   iterate 2 refine ah ?_
   refine aw FU ?_;refine gE ?_
   refine gC (fun hc=>?_) fun hc=>?_
   ·
    have hne:¬sn=sm:=by rw [hsn,hsm];simpa using hc
    have hPW:gF af b L=aX af (dA b sm) [ln] σi:=by rw [hPWd,if_neg hne]
    rw [←hsm]
    refine ab.jG 14 (([(some b8,ob bK 3 (iL la) sp8),(some b1,.cells (cn l A b.length cA B ss.length cB) 25 (0,0))])) mixed ?_
    refine cV 0 (ae.mv rfl rfl rfl rfl) ?_
    refine cV 1 (ae.aH rfl rfl rfl rfl Jr rfl (by exact Jj) 1 rfl) ?_
    refine cV 2 (ae.dw rfl rfl rfl rfl Jn 1 rfl rfl) ?_
    refine cV 3 (ae.mv rfl rfl rfl rfl) ?_
    refine cV 5 (ae.mv rfl rfl rfl rfl) ?_
    refine cV 6 (ae.mv rfl rfl rfl rfl) ?_
    refine cV 7 (ae.blt rfl rfl rfl (dC Jg) rfl) ?_
    refine cV 8 (ae.bin rfl rfl rfl rfl (iH (c:=((la.length - 1:Nat):Int)) (by omega) (by omega)) rfl) ?_
    refine cV 9 (ae.dV rfl rfl rfl rfl rfl Jg I9 ((la.length - 1)) ⟨rfl,hla0⟩) ?_
    refine cV 10 (ae.qY bK 0 rfl rfl rfl rfl Ja 0 rfl hla0) ?_
    rw [hlai]
    refine aG.two (i:=4) (j:=11) rfl (dk.iD (pre:=[_,_,_,_]) (u:=dA b sm) hW rfl rfl rfl rfl rfl (fun _ _=>call48 _ _) (fun w Y' hS=>rz A cA b sm w (hA.ay hS.ext) hok.base hsmI) (fun y s3 hyf hyz hW3=>⟨(.cons_cons _ (.cons _ (.cons _ (.cons_cons _ (List.nil_sublist _))))),?_⟩)) rfl (dk.eh (c:=[_]) rfl rfl rfl rfl Jg I9 Jv rfl rfl (fun b92=>⟨.cons _ (.cons_cons _ (.cons _ (.cons _ (.cons_cons _ (List.nil_sublist _))))),?_⟩)) rfl
    · -- operation 4 next
     refine aG.one (i:=11) rfl (dk.eh (c:=[_]) rfl rfl rfl rfl Jg I9 Jv rfl rfl (fun b92=>⟨sL,?_⟩)) rfl
     refine aG.one (i:=12) rfl (dk.qg (ef:=xE) (pre:=[_,_,_,_,_]) (hR':=[(some b92,ob bK 3 (iL [ln]) [])]) hW3 (.cons_cons _ (List.nil_sublist _)) rfl rfl rfl rfl rfl (fun _ _=>JI _ _) (fun w Y' hS=>bC b25 _ σi y _ (some b92) [ln] 1 [] w (List.mem_cons_self ..) hyf hnoneO hyz (fun e=>by cases e) (fun h n hn=>by rw [List.mem_singleton.1 hn];exact hlnL h) (by simp)) (fun s4 Γ4 hW4 hg4=>⟨.cons _ (.cons_cons _ (.cons _ (.cons _ (.cons_cons _ (List.nil_sublist _))))),?_⟩)) rfl
     refine aG.done rfl ?_
     refine gE ?_
     exact K ⟨(s4,Γ4),by rw [hPW];exact hW4⟩ _ _ sF (fun _ _ hS=>by dsimp only;rw [hPW];exact hS.dH (List.sublist_append_right [_,_,_,_,_] _))
    · -- operation 11 next
     refine aG.one (i:=4) rfl (dk.iD (pre:=[_,_,_,_,_]) (u:=dA b sm) hW rfl rfl rfl rfl rfl (fun _ _=>call48 _ _) (fun w Y' hS=>rz A cA b sm w (hA.ay hS.ext) hok.base hsmI) (fun y s3 hyf hyz hW3=>⟨.cons _ (.cons_cons _ (.cons _ (.cons _ (.cons_cons _ (List.nil_sublist _))))),?_⟩)) rfl
     refine aG.one (i:=12) rfl (dk.qg (ef:=xE) (pre:=[_,_,_,_,_]) (hR':=[(some b92,ob bK 3 (iL [ln]) [])]) hW3 (.cons_cons _ (List.nil_sublist _)) rfl rfl rfl rfl rfl (fun _ _=>JI _ _) (fun w Y' hS=>bC b25 _ σi y _ (some b92) [ln] 1 [] w (List.mem_cons_self ..) hyf hnoneO hyz (fun e=>by cases e) (fun h n hn=>by rw [List.mem_singleton.1 hn];exact hlnL h) (by simp)) (fun s4 Γ4 hW4 hg4=>⟨.cons _ (.cons_cons _ (.cons _ (.cons _ (.cons_cons _ (List.nil_sublist _))))),?_⟩)) rfl
     refine aG.done rfl ?_
     refine gE ?_
     exact K ⟨(s4,Γ4),by rw [hPW];exact hW4⟩ _ _ sF (fun _ _ hS=>by dsimp only;rw [hPW];exact hS.dH (List.sublist_append_right [_,_,_,_,_] _))
   have he:sn=sm:=by rw [hsn,hsm];simpa using hc
   have hPW:gF af b L=(ln,σi):=by rw [hPWd,if_pos he]
   refine gK ?_
   exact K ⟨(s,Γ),by rw [hPW];exact hW⟩ _ _ sF (fun _ _ hS=>by dsimp only;rw [hPW];exact hS.dH (List.sublist_append_right [_,_,_,_] _))
end Go.Proofs.YtnfmegcknckahaaGreatDoor
namespace Go.Proofs.YtnfmegcknckahaaGreatDoor
open Go.RowKit Go.Proofs.Wit Tryz
theorem zy {P:Program} {t:TypeId} {a b:ax} {v:Bool} (h:(a==b)=v):kD P .eql t (U a) (U b) (.bool v):=h ▸ w8
set_option maxRecDepth 8000 in
set_option maxHeartbeats 1000000 in
theorem rn (w:World) (hT:EE w):Cn Tryz.prog 10 [] w (fun v _=>v=.bool true):=by
  refine Cn.of func10 rfl rfl ?_
  refine gS (gR ?_);refine ai ?_;refine gE (gS (gR ?_))
  refine gM rfl rfl rfl rfl rfl call31 (fun w _ hS=>(by exact yY 0 w)) ?_
  rintro v w1 w2 Y' hS he ho
  rw [DQ] at ho
  obtain ⟨qp,cp,sp,rfl,hqp,hcp,hS'⟩:=ak hS he ho
  refine ⟨_,hS',?_⟩
  refine ai ?_;refine gE (gS (gR ?_));refine ah ?_
  refine gM rfl rfl rfl rfl rfl JA (fun w _ hS=>(by exact iS 0 (by decide) ⟨(qp.map (fun b=>⟨b,0,none⟩)),cp,bT pT⟩ pT w (aL hS 0 rfl (fun e=>(hqp e).1)) rfl dT)) ?_
  rintro v w1 w2 Y' hS he ho
  obtain ⟨qk,ck,sk,rfl,hqk,hck,hS'⟩:=ak hS he ho
  refine ⟨_,hS',?_⟩
  refine ai ?_;refine gE (gS (gR ?_));refine ah ?_
  refine gM rfl rfl rfl rfl rfl call15 (fun w _ hS=>(by exact jy ⟨(qp.map (fun b=>⟨b,0,none⟩)),cp,bT pT⟩ w (aL hS 1 rfl (fun e=>(hqp e).1)) (gz (t:=pT)))) ?_
  rintro v w1 w2 Y' hS he ⟨sv,la,rfl,⟨qa,ca,sa,Ha,rfl,hqa,hca,hna,hia⟩,hda,_⟩
  have hda:=(hda Dj.1).trans Dj.2
  have hla:=congrArg List.length hda
  simp only [List.length_map] at hla
  refine ⟨_,hS.fD (pre:=[_]) he hna,?_⟩
  rw [Dj.1]
  refine ah ?_
  iterate 2 refine fW ?_
  iterate 2 refine ai ?_
  refine gE (gS (gR ?_));refine ah ?_
  refine gM rfl rfl rfl rfl rfl call15 (fun w _ hS=>(by exact jy ⟨(qk.map (fun b=>⟨b,0,none⟩)),ck,bT (ar 0 pT)⟩ w (aL hS 1 rfl (fun e=>(hqk e).1)) (gz (t:=ar 0 pT)))) ?_
  rintro v w1 w2 Y' hS he ⟨sv,lb,rfl,⟨qb,cb,sb,Hb,rfl,hqb,hcb,hnb,hib⟩,hdb,_⟩
  have hdb:=(hdb wH.1).trans wH.2
  have hlb:=congrArg List.length hdb
  simp only [List.length_map] at hlb
  refine ⟨_,hS.fD (pre:=[_]) he hnb,?_⟩
  rw [wH.1]
  refine ah ?_
  iterate 2 refine fW ?_
  iterate 2 refine ai ?_
  refine gE (gS (gR ?_))
  refine gM rfl rfl rfl rfl rfl call33 (fun w _ hS=>(by exact u6 w)) ?_
  rintro v w1 w2 Y' hS he ⟨t1,⟨qn1,qo1,cn1,co1,sn1,so1,H1,rfl,hqn1,hqo1,hn1,hi1⟩,hd1⟩
  refine ⟨_,hS.fD (pre:=[_,_]) he hn1,?_⟩
  have hl1:t1.length≤maxLen:=by have:=congrArg List.length hd1;simp only [List.length_map] at this;rw [this];decide
  have hlB:gJ.length≤maxLen:=by decide
  refine gM rfl rfl rfl rfl rfl call20 (fun w _ hS=>(by exact xp 2 (qn1.map (fun b=>⟨b,0,none⟩)) cn1 gJ (qo1.map (fun b=>⟨b,0,none⟩)) co1 t1 w (aL hS 0 rfl hqn1) (B3 hS 1 rfl hqo1 (fun x hx=>⟨(hi1 x hx).1.mono (fun z hz=>by simp [hz]),(hi1 x hx).2⟩)) hlB hl1)) ?_
  rintro v w1 w2 Y' hS he ⟨sv,lc,rfl,⟨qc,cc,sc,Hc,rfl,hqc,hcc,hnc,hic⟩,hdc,_⟩
  have hdc:=(hdc (by rw [hd1];exact CY.1)).trans (show Gg gJ (fg t1)=Ev.map (fun x=>x.v.d) by rw [hd1];exact CY.2)
  have hlc:=congrArg List.length hdc
  simp only [List.length_map] at hlc
  refine ⟨_,hS.fD (pre:=[_]) he hnc,?_⟩
  rw [hd1,CY.1]
  refine ah ?_
  iterate 2 refine fW ?_
  iterate 2 refine ai ?_
  refine gE (gS (gR ?_))
  refine gM rfl rfl rfl rfl rfl call33 (fun w _ hS=>(by exact u6 w)) ?_
  rintro v w1 w2 Y' hS he ⟨t2,⟨qn2,qo2,cn2,co2,sn2,so2,H2,rfl,hqn2,hqo2,hn2,hi2⟩,hd2⟩
  refine ⟨_,hS.fD (pre:=[_,_]) he hn2,?_⟩
  have hl2:t2.length≤maxLen:=by have:=congrArg List.length hd2;simp only [List.length_map] at this;rw [this];decide
  refine gM rfl rfl rfl rfl rfl call12 (fun w _ hS=>(by exact zZ 2 (qn2.map (fun b=>⟨b,0,none⟩)) cn2 gJ (qo2.map (fun b=>⟨b,0,none⟩)) co2 t2 w (aL hS 0 rfl hqn2) (B3 hS 1 rfl hqo2 (fun x hx=>⟨(hi2 x hx).1.mono (fun z hz=>by simp [hz]),(hi2 x hx).2⟩)) hlB hl2)) ?_
  rintro v w1 w2 Y' hS he ⟨v1,rfl,hd,_⟩
  rw [hd2] at hd
  obtain ⟨t3,⟨qn3,qo3,cn3,co3,sn3,so3,H3,rfl,hqn3,hqo3,hn3,hi3⟩,hd3⟩:=hd (kX.2 u7)
  rw [pj] at hd3
  have hl3:=congrArg List.length hd3
  simp only [List.length_map] at hl3
  obtain ⟨bo3,rfl⟩:∃b,qo3=some b:=by
    cases qo3 with
    |none=>have:=hqo3 rfl;rw [hl3] at this;cases this
    |some b=>exact ⟨b,rfl⟩
  refine ⟨_,hS.fD (pre:=[_,_]) he hn3,?_⟩
  rw [hd2,show qu 2 gJ dD=0 from kX.2 u7]
  refine ah ?_
  iterate 2 refine fW ?_
  refine ab.eN rfl rfl rfl (fun _=>J2 _) (fun b9=>?_)
  refine ab.dG rfl rfl rfl rfl Jp 0 rfl rfl rfl rfl ?_
  refine ai ?_;refine gE (gS (gR ?_));refine ah ?_
  refine gM rfl rfl rfl rfl rfl call17 (fun w _ hS=>(by exact qH ⟨(qk.map (fun b=>⟨b,0,none⟩)),ck,bT (ar 0 pT)⟩ w (aL hS 10 rfl (fun e=>(hqk e).1)) (gz (t:=ar 0 pT)))) ?_
  rintro v w1 w2 Y' hS he ⟨sv,lx,rfl,⟨qx,cx,sx,Hx,rfl,hqx,hcx,hnx,hix⟩,hdx,_⟩
  have hdx:=(hdx wH.1).trans wH.2
  have hlx:=congrArg List.length hdx
  simp only [List.length_map] at hlx
  refine ⟨_,hS.fD (pre:=[_]) he hnx,?_⟩
  rw [wH.1]
  refine ah ?_
  iterate 2 refine fW ?_
  iterate 2 refine ai ?_
  refine gE (gS (gS (gR ?_)));refine ah ?_
  refine df rfl rfl rfl rfl (np (v:=false) rfl) ?_
  iterate 2 refine ah ?_
  refine df rfl rfl rfl rfl (np (v:=false) rfl) ?_
  refine bE ?_
  iterate 2 refine ah ?_
  refine df rfl rfl rfl rfl (np (v:=false) rfl) ?_
  refine bE ?_
  iterate 2 refine ah ?_
  refine df rfl rfl rfl rfl (np (v:=false) rfl) ?_
  refine bE ?_
  iterate 2 refine ah ?_
  refine df rfl rfl rfl rfl (np (v:=false) rfl) ?_
  refine bE ?_
  iterate 2 refine ah ?_
  refine dY JD ?_
  refine df rfl rfl rfl rfl (np (v:=false) (by rw [hla];rfl)) ?_
  refine bE ?_
  iterate 2 refine ah ?_
  refine dY JD ?_
  refine df rfl rfl rfl rfl (np (v:=false) (by rw [hlb];rfl)) ?_
  refine bE ?_
  iterate 2 refine ah ?_
  refine dY JD ?_
  refine df rfl rfl rfl rfl (np (v:=false) (by rw [hlc];rfl)) ?_
  refine bE ?_
  iterate 2 refine ah ?_
  refine dY JD ?_
  refine df rfl rfl rfl rfl (np (v:=false) (by rw [hlx];rfl)) ?_
  refine bE ?_;refine ah ?_;refine al Jr JH 2 ?_;refine aq JN 1 ?_;refine dY JB ?_
  refine df rfl rfl rfl rfl (np (v:=false) (by rw [hl3];rfl)) ?_
  refine bE ?_;refine gE (ab.gj rfl (gK (gS ?_)))
  obtain ⟨ba,rfl⟩:∃b,qa=some b:=by
    cases qa with
    |none=>have:=(hqa rfl).1;rw [hla] at this;cases this
    |some b=>exact ⟨b,rfl⟩
  obtain ⟨bb,rfl⟩:∃b,qb=some b:=by
    cases qb with
    |none=>have:=(hqb rfl).1;rw [hlb] at this;cases this
    |some b=>exact ⟨b,rfl⟩
  obtain ⟨bc,rfl⟩:∃b,qc=some b:=by
    cases qc with
    |none=>have:=(hqc rfl).1;rw [hlc] at this;cases this
    |some b=>exact ⟨b,rfl⟩
  obtain ⟨bx,rfl⟩:∃b,qx=some b:=by
    cases qx with
    |none=>have:=(hqx rfl).1;rw [hlx] at this;cases this
    |some b=>exact ⟨b,rfl⟩
  obtain ⟨HR,hHR⟩:∃HR,HR=(((((Ha++Hb)++H1)++Hc)++H2)++H3)++Hx:=⟨_,rfl⟩
  have mA:∀z∈Ha,z∈HR:=fun z hz=>by rw [hHR];simp [hz]
  have mB:∀z∈Hb,z∈HR:=fun z hz=>by rw [hHR];simp [hz]
  have mC:∀z∈Hc,z∈HR:=fun z hz=>by rw [hHR];simp [hz]
  have mX:∀z∈Hx,z∈HR:=fun z hz=>by rw [hHR];simp [hz]
  refine ab.jL (α:=Unit) (fun _=>[(1,cK qp (bT pT).length cp),(2,cK qk (bT (ar 0 pT)).length ck),(3,cK (some ba) la.length ca),(5,cK (some bb) lb.length cb),(7,cK (some bc) lc.length cc),(11,cK (some bx) lx.length cx),(9,.pointer (some ⟨b9,0,none⟩)),(14,.int .i64 10)]) (fun _=>[(some b9,.cells (cn 2 (qn3.map (fun b=>⟨b,0,none⟩)) gJ.length cn3 ((some bo3).map (fun b=>⟨b,0,none⟩)) t3.length co3) 25 (0,0)),(some bo3,lX 41 t3 so3),(some ba,vt 48 la sa),(some bb,vt 48 lb sb),(some bc,vt 48 lc sc),(some bx,vt 48 lx sx),(qp,eO 66 (bT pT) sp),(qk,eO 66 (bT (ar 0 pT)) sk)]++HR) (fun _=>?_) (fun K=>?_)
  · -- what comes behind
   refine gS ?_
   refine ab.dK 79 mixed ?_
   have hka:0<la.length:=by rw [hla];decide
   have hfa:(la[0]'hka).f.f=bT (aE (ju pT (aE pT))):=tJ hda hka (by decide)
   refine cV 0 (ae.mv rfl rfl rfl rfl) ?_
   refine cV 1 (ae.dV rfl rfl rfl rfl rfl JD JQ (0) ⟨rfl,hka⟩) ?_
   refine cV 2 (ae.fQ (a:=some ⟨ba,0,none⟩) (o:=(0)*5) rfl rfl rfl rfl Jw rfl Jj ((0)*5+0) rfl) ?_
   refine cV 3 (ae.ld rfl rfl rfl rfl Jn (fun w _ hS=>Sl.kO (enc:=LV.cells) (sz:=5) (a:=some ⟨ba,0,none⟩) (Sl.dg (hS.get (j:=2) rfl)) (fun _=>rfl) hka rfl)) ?_
   refine cV 4 (ae.mv rfl rfl rfl rfl) ?_
   refine cV 5 (ae.mv rfl rfl rfl rfl) ?_
   refine aG.call (i:=6) _ rfl rfl rfl rfl rfl rfl (fun _ _=>Jy _ _) (fun w _ hS=>(by exact fX ⟨(qp.map (fun b=>⟨b,0,none⟩)),cp,bT pT⟩ pT w (aL hS 6 rfl (fun e=>(hqp e).1)) rfl dT)) ?_
   rintro v w1 w2 Y' hS he ho
   obtain ⟨q1,c1,s1,rfl,hq1,hc1,hS'⟩:=ak hS he ho
   refine ⟨_,hS',sM,?_⟩
   refine aG.call (i:=7) _ rfl rfl rfl rfl rfl rfl (fun _ _=>call27 _ _) (fun w _ hS=>(by exact pQ ⟨(qp.map (fun b=>⟨b,0,none⟩)),cp,bT pT⟩ ⟨(q1.map (fun b=>⟨b,0,none⟩)),c1,bT (aE pT)⟩ pT (aE pT) w (aL hS 7 rfl (fun e=>(hqp e).1)) rfl dT (aL hS 0 rfl (fun e=>(hq1 e).1)) rfl (bA dT))) ?_
   rintro v w1 w2 Y' hS he ho
   obtain ⟨q2,c2,s2,rfl,hq2,hc2,hS'⟩:=ak hS he ho
   refine ⟨_,hS',sM,?_⟩
   refine aG.call (i:=8) _ rfl rfl rfl rfl rfl rfl (fun _ _=>Jy _ _) (fun w _ hS=>(by exact fX ⟨(q2.map (fun b=>⟨b,0,none⟩)),c2,bT (ju pT (aE pT))⟩ (ju pT (aE pT)) w (aL hS 0 rfl (fun e=>(hq2 e).1)) rfl (fU dT (bA dT)))) ?_
   rintro v w1 w2 Y' hS he ho
   obtain ⟨q3,c3,s3,rfl,hq3,hc3,hS'⟩:=ak hS he ho
   refine ⟨_,hS',sM,?_⟩
   refine aG.cC (i:=9) rfl rfl rfl rfl rfl rfl (fun _ _=>call26 _ _) (fun w _ hS=>(by have:=dM (la[0]'hka).f.a (la[0]'hka).f.c (la[0]'hka).f.f (q3.map (fun b=>⟨b,0,none⟩)) c3 (bT (aE (ju pT (aE pT)))) w (((hia _ (List.getElem_mem hka)).1.mono (fun z hz=>by simp [mA z hz])).at hS) (aL hS 0 rfl (fun e=>(hq3 e).1)) (hia _ (List.getElem_mem hka)).2 gz;rw [show jA (la[0]'hka).f.f (bT (aE (ju pT (aE pT))))=true from by rw [hfa,dn (Cf.wz (bA (fU dT (bA dT))) (by decide+kernel)) (bA (fU dT (bA dT))),decide_eq_true rfl]] at this;exact this)) sL ?_
   have hkb:9<lb.length:=by rw [hlb];decide
   have hfb:(lb[9]'hkb).f.f=bT (aE (ju (ar 0 pT) (gi 0 (aE pT)))):=tJ hdb hkb (by decide)
   refine cV 10 (ae.mv rfl rfl rfl rfl) ?_
   refine cV 11 (ae.mv rfl rfl rfl rfl) ?_
   refine cV 12 (ae.dV rfl rfl rfl rfl rfl JD JQ (9) ⟨rfl,hkb⟩) ?_
   refine cV 13 (ae.fQ (a:=some ⟨bb,0,none⟩) (o:=(9)*5) rfl rfl rfl rfl Jw rfl Jj ((9)*5+0) rfl) ?_
   refine cV 14 (ae.ld rfl rfl rfl rfl Jn (fun w _ hS=>Sl.kO (enc:=LV.cells) (sz:=5) (a:=some ⟨bb,0,none⟩) (Sl.dg (hS.get (j:=3) rfl)) (fun _=>rfl) hkb rfl)) ?_
   refine cV 15 (ae.mv rfl rfl rfl rfl) ?_
   refine cV 16 (ae.mv rfl rfl rfl rfl) ?_
   refine aG.call (i:=17) _ rfl rfl rfl rfl rfl rfl (fun _ _=>Jy _ _) (fun w _ hS=>(by exact fX ⟨(qp.map (fun b=>⟨b,0,none⟩)),cp,bT pT⟩ pT w (aL hS 9 rfl (fun e=>(hqp e).1)) rfl dT)) ?_
   rintro v w1 w2 Y' hS he ho
   obtain ⟨q4,c4,s4,rfl,hq4,hc4,hS'⟩:=ak hS he ho
   refine ⟨_,hS',sM,?_⟩
   refine aG.call (i:=18) _ rfl rfl rfl rfl rfl rfl (fun _ _=>call35 _ _) (fun w _ hS=>(by exact rv 0 (by decide) ⟨(q4.map (fun b=>⟨b,0,none⟩)),c4,bT (aE pT)⟩ (aE pT) w (aL hS 0 rfl (fun e=>(hq4 e).1)) rfl (bA dT))) ?_
   rintro v w1 w2 Y' hS he ho
   obtain ⟨q5,c5,s5,rfl,hq5,hc5,hS'⟩:=ak hS he ho
   refine ⟨_,hS',sM,?_⟩
   refine aG.call (i:=19) _ rfl rfl rfl rfl rfl rfl (fun _ _=>call27 _ _) (fun w _ hS=>(by exact pQ ⟨(qk.map (fun b=>⟨b,0,none⟩)),ck,bT (ar 0 pT)⟩ ⟨(q5.map (fun b=>⟨b,0,none⟩)),c5,bT (gi 0 (aE pT))⟩ (ar 0 pT) (gi 0 (aE pT)) w (aL hS 12 rfl (fun e=>(hqk e).1)) rfl oJ (aL hS 0 rfl (fun e=>(hq5 e).1)) rfl (gX (.inr rfl) (by decide) (bA dT)))) ?_
   rintro v w1 w2 Y' hS he ho
   obtain ⟨q6,c6,s6,rfl,hq6,hc6,hS'⟩:=ak hS he ho
   refine ⟨_,hS',sM,?_⟩
   refine aG.call (i:=20) _ rfl rfl rfl rfl rfl rfl (fun _ _=>Jy _ _) (fun w _ hS=>(by exact fX ⟨(q6.map (fun b=>⟨b,0,none⟩)),c6,bT (ju (ar 0 pT) (gi 0 (aE pT)))⟩ (ju (ar 0 pT) (gi 0 (aE pT))) w (aL hS 0 rfl (fun e=>(hq6 e).1)) rfl (fU oJ (gX (.inr rfl) (by decide) (bA dT))))) ?_
   rintro v w1 w2 Y' hS he ho
   obtain ⟨q7,c7,s7,rfl,hq7,hc7,hS'⟩:=ak hS he ho
   refine ⟨_,hS',sM,?_⟩
   refine aG.cC (i:=21) rfl rfl rfl rfl rfl rfl (fun _ _=>call26 _ _) (fun w _ hS=>(by have:=dM (lb[9]'hkb).f.a (lb[9]'hkb).f.c (lb[9]'hkb).f.f (q7.map (fun b=>⟨b,0,none⟩)) c7 (bT (aE (ju (ar 0 pT) (gi 0 (aE pT))))) w (((hib _ (List.getElem_mem hkb)).1.mono (fun z hz=>by simp [mB z hz])).at hS) (aL hS 0 rfl (fun e=>(hq7 e).1)) (hib _ (List.getElem_mem hkb)).2 gz;rw [show jA (lb[9]'hkb).f.f (bT (aE (ju (ar 0 pT) (gi 0 (aE pT)))))=true from by rw [hfb,dn (Cf.wz (bA (fU oJ (gX (.inr rfl) (by decide) (bA dT)))) (by decide+kernel)) (bA (fU oJ (gX (.inr rfl) (by decide) (bA dT)))),decide_eq_true rfl]] at this;exact this)) sL ?_
   have hkc:6<lc.length:=by rw [hlc];decide
   have hfc:(lc[6]'hkc).f.f=bT (aE (ju (aE pT) (ar 0 pT))):=tJ hdc hkc (by decide)
   refine cV 22 (ae.aT rfl rfl rfl rfl rfl) ?_
   refine cV 23 (ae.mv rfl rfl rfl rfl) ?_
   refine cV 24 (ae.mv rfl rfl rfl rfl) ?_
   refine cV 25 (ae.dV rfl rfl rfl rfl rfl JD JQ (6) ⟨rfl,hkc⟩) ?_
   refine cV 26 (ae.fQ (a:=some ⟨bc,0,none⟩) (o:=(6)*5) rfl rfl rfl rfl Jw rfl Jj ((6)*5+0) rfl) ?_
   refine cV 27 (ae.ld rfl rfl rfl rfl Jn (fun w _ hS=>Sl.kO (enc:=LV.cells) (sz:=5) (a:=some ⟨bc,0,none⟩) (Sl.dg (hS.get (j:=4) rfl)) (fun _=>rfl) hkc rfl)) ?_
   refine cV 28 (ae.mv rfl rfl rfl rfl) ?_
   refine cV 30 (ae.mv rfl rfl rfl rfl) ?_
   refine aG.call (i:=29) _ rfl rfl rfl rfl rfl rfl (fun _ _=>Jy _ _) (fun w _ hS=>(by exact fX ⟨(qp.map (fun b=>⟨b,0,none⟩)),cp,bT pT⟩ pT w (aL hS 13 rfl (fun e=>(hqp e).1)) rfl dT)) ?_
   rintro v w1 w2 Y' hS he ho
   obtain ⟨q8,c8,s8,rfl,hq8,hc8,hS'⟩:=ak hS he ho
   refine ⟨_,hS',sM,?_⟩
   refine aG.call (i:=31) _ rfl rfl rfl rfl rfl rfl (fun _ _=>call27 _ _) (fun w _ hS=>(by exact pQ ⟨(q8.map (fun b=>⟨b,0,none⟩)),c8,bT (aE pT)⟩ ⟨(qk.map (fun b=>⟨b,0,none⟩)),ck,bT (ar 0 pT)⟩ (aE pT) (ar 0 pT) w (aL hS 0 rfl (fun e=>(hq8 e).1)) rfl (bA dT) (aL hS 15 rfl (fun e=>(hqk e).1)) rfl oJ)) ?_
   rintro v w1 w2 Y' hS he ho
   obtain ⟨q9,c9,s9,rfl,hq9,hc9,hS'⟩:=ak hS he ho
   refine ⟨_,hS',sM,?_⟩
   refine aG.call (i:=32) _ rfl rfl rfl rfl rfl rfl (fun _ _=>Jy _ _) (fun w _ hS=>(by exact fX ⟨(q9.map (fun b=>⟨b,0,none⟩)),c9,bT (ju (aE pT) (ar 0 pT))⟩ (ju (aE pT) (ar 0 pT)) w (aL hS 0 rfl (fun e=>(hq9 e).1)) rfl (fU (bA dT) oJ))) ?_
   rintro v w1 w2 Y' hS he ho
   obtain ⟨q10,c10,s10,rfl,hq10,hc10,hS'⟩:=ak hS he ho
   refine ⟨_,hS',sM,?_⟩
   refine aG.cC (i:=33) rfl rfl rfl rfl rfl rfl (fun _ _=>call26 _ _) (fun w _ hS=>(by have:=dM (lc[6]'hkc).f.a (lc[6]'hkc).f.c (lc[6]'hkc).f.f (q10.map (fun b=>⟨b,0,none⟩)) c10 (bT (aE (ju (aE pT) (ar 0 pT)))) w (((hic _ (List.getElem_mem hkc)).1.mono (fun z hz=>by simp [mC z hz])).at hS) (aL hS 0 rfl (fun e=>(hq10 e).1)) (hic _ (List.getElem_mem hkc)).2 gz;rw [show jA (lc[6]'hkc).f.f (bT (aE (ju (aE pT) (ar 0 pT))))=true from by rw [hfc,dn (Cf.wz (bA (fU (bA dT) oJ)) (by decide+kernel)) (bA (fU (bA dT) oJ)),decide_eq_true rfl]] at this;exact this)) sL ?_
   have hkx:9<lx.length:=by rw [hlx];decide
   have hfx:(lx[9]'hkx).f.f=bT (.bin 6 0 0 0 (ar 0 pT) (gi 0 (aE pT))):=tJ hdx hkx (by decide)
   refine cV 34 (ae.aT rfl rfl rfl rfl rfl) ?_
   refine cV 35 (ae.mv rfl rfl rfl rfl) ?_
   refine cV 36 (ae.mv rfl rfl rfl rfl) ?_
   refine cV 37 (ae.dV rfl rfl rfl rfl rfl JD JQ (9) ⟨rfl,hkx⟩) ?_
   refine cV 38 (ae.fQ (a:=some ⟨bx,0,none⟩) (o:=(9)*5) rfl rfl rfl rfl Jw rfl Jj ((9)*5+0) rfl) ?_
   refine cV 39 (ae.ld rfl rfl rfl rfl Jn (fun w _ hS=>Sl.kO (enc:=LV.cells) (sz:=5) (a:=some ⟨bx,0,none⟩) (Sl.dg (hS.get (j:=5) rfl)) (fun _=>rfl) hkx rfl)) ?_
   refine cV 40 (ae.mv rfl rfl rfl rfl) ?_
   refine cV 41 (ae.mv rfl rfl rfl rfl) ?_
   refine aG.call (i:=42) _ rfl rfl rfl rfl rfl rfl (fun _ _=>Jy _ _) (fun w _ hS=>(by exact fX ⟨(qp.map (fun b=>⟨b,0,none⟩)),cp,bT pT⟩ pT w (aL hS 16 rfl (fun e=>(hqp e).1)) rfl dT)) ?_
   rintro v w1 w2 Y' hS he ho
   obtain ⟨q11,c11,s11,rfl,hq11,hc11,hS'⟩:=ak hS he ho
   refine ⟨_,hS',sM,?_⟩
   refine aG.call (i:=43) _ rfl rfl rfl rfl rfl rfl (fun _ _=>call35 _ _) (fun w _ hS=>(by exact rv 0 (by decide) ⟨(q11.map (fun b=>⟨b,0,none⟩)),c11,bT (aE pT)⟩ (aE pT) w (aL hS 0 rfl (fun e=>(hq11 e).1)) rfl (bA dT))) ?_
   rintro v w1 w2 Y' hS he ho
   obtain ⟨q12,c12,s12,rfl,hq12,hc12,hS'⟩:=ak hS he ho
   refine ⟨_,hS',sM,?_⟩
   refine aG.call (i:=44) _ rfl rfl rfl rfl rfl rfl (fun _ _=>call28 _ _) (fun w _ hS=>(by exact B0 ⟨(qk.map (fun b=>⟨b,0,none⟩)),ck,bT (ar 0 pT)⟩ ⟨(q12.map (fun b=>⟨b,0,none⟩)),c12,bT (gi 0 (aE pT))⟩ (ar 0 pT) (gi 0 (aE pT)) w (aL hS 19 rfl (fun e=>(hqk e).1)) rfl oJ (aL hS 0 rfl (fun e=>(hq12 e).1)) rfl (gX (.inr rfl) (by decide) (bA dT)))) ?_
   rintro v w1 w2 Y' hS he ⟨ho,_⟩
   obtain ⟨q13,c13,s13,rfl,hq13,hc13,hS'⟩:=ak hS he ho
   refine ⟨_,hS',sM,?_⟩
   refine aG.cC (i:=45) rfl rfl rfl rfl rfl rfl (fun _ _=>call26 _ _) (fun w _ hS=>(by have:=dM (lx[9]'hkx).f.a (lx[9]'hkx).f.c (lx[9]'hkx).f.f (q13.map (fun b=>⟨b,0,none⟩)) c13 (bT (.bin 6 0 0 0 (ar 0 pT) (gi 0 (aE pT)))) w (((hix _ (List.getElem_mem hkx)).1.mono (fun z hz=>by simp [mX z hz])).at hS) (aL hS 0 rfl (fun e=>(hq13 e).1)) (hix _ (List.getElem_mem hkx)).2 gz;rw [show jA (lx[9]'hkx).f.f (bT (.bin 6 0 0 0 (ar 0 pT) (gi 0 (aE pT))))=true from by rw [hfx,dn (Cf.wz (jD oJ (gX (.inr rfl) (by decide) (bA dT))) (by decide+kernel)) (jD oJ (gX (.inr rfl) (by decide) (bA dT))),decide_eq_true rfl]] at this;exact this)) sL ?_
   have ht0:0<t3.length:=by rw [hl3];decide
   have hs0:(t3[0]'ht0).d.set=3#64:=by have:=congrArg (fun x=>x[0]?) hd3;simp only [List.getElem?_map,List.getElem?_eq_getElem ht0,Option.map_some] at this;exact congrArg SD.set (Option.some.inj this)
   refine cV 46 (ae.aT rfl rfl rfl rfl rfl) ?_
   refine cV 47 (ae.mv rfl rfl rfl rfl) ?_
   refine cV 48 (ae.aH rfl rfl rfl rfl Jr rfl (by exact JH) 2 rfl) ?_
   refine cV 49 (ae.dw rfl rfl rfl rfl JN 0 rfl rfl) ?_
   refine cV 50 (ae.dV rfl rfl rfl rfl rfl JB Jm (0) ⟨rfl,ht0⟩) ?_
   refine cV 51 (ae.fQ (a:=some ⟨bo3,0,none⟩) (o:=(0)*5) rfl rfl rfl rfl Jh rfl Ju ((0)*5+0) rfl) ?_
   refine cV 52 (ae.ld rfl rfl rfl rfl Jz (fun w _ hS=>Sl.kO (enc:=SV.cells) (sz:=5) (a:=some ⟨bo3,0,none⟩) (Sl.dg (hS.get (j:=1) rfl)) (fun _=>rfl) ht0 rfl)) ?_
   refine cV 53 (ae.bin (b:=U 3#64) rfl rfl rfl rfl (zy (v:=true) (by rw [hs0];rfl)) rfl) ?_
   have ht1:1<t3.length:=by rw [hl3];decide
   have hs1:(t3[1]'ht1).d.set=6#64:=by have:=congrArg (fun x=>x[1]?) hd3;simp only [List.getElem?_map,List.getElem?_eq_getElem ht1,Option.map_some] at this;exact congrArg SD.set (Option.some.inj this)
   refine cV 54 (ae.aT rfl rfl rfl rfl rfl) ?_
   refine cV 55 (ae.mv rfl rfl rfl rfl) ?_
   refine cV 56 (ae.aH rfl rfl rfl rfl Jr rfl (by exact JH) 2 rfl) ?_
   refine cV 57 (ae.dw rfl rfl rfl rfl JN 0 rfl rfl) ?_
   refine cV 58 (ae.dV rfl rfl rfl rfl rfl JB Jm (1) ⟨rfl,ht1⟩) ?_
   refine cV 59 (ae.fQ (a:=some ⟨bo3,0,none⟩) (o:=(1)*5) rfl rfl rfl rfl Jh rfl Ju ((1)*5+0) rfl) ?_
   refine cV 60 (ae.ld rfl rfl rfl rfl Jz (fun w _ hS=>Sl.kO (enc:=SV.cells) (sz:=5) (a:=some ⟨bo3,0,none⟩) (Sl.dg (hS.get (j:=1) rfl)) (fun _=>rfl) ht1 rfl)) ?_
   refine cV 61 (ae.bin (b:=U 6#64) rfl rfl rfl rfl (zy (v:=true) (by rw [hs1];rfl)) rfl) ?_
   refine cV 62 (ae.aT rfl rfl rfl rfl rfl) ?_
   refine cV 63 (ae.mv rfl rfl rfl rfl) ?_
   refine cV 64 (ae.mv rfl rfl rfl rfl) ?_
   refine cV 65 (ae.bin rfl rfl rfl rfl (w7 (v:=true) rfl) rfl) ?_
   refine cV 66 (ae.aT rfl rfl rfl rfl rfl) ?_
   refine cV 67 (ae.mv rfl rfl rfl rfl) ?_
   refine cV 68 (ae.mv rfl rfl rfl rfl) ?_
   refine aG.cC (i:=69) rfl rfl rfl rfl rfl rfl (fun _ _=>call25 _ _) (fun w _ hS=>(by have:=mW 2 (some ⟨bc,0,none⟩) cc lc w (vE hS 17 rfl (fun e=>by cases e) (fun x hx=>⟨(hic x hx).1.mono (fun z hz=>by simp [mC z hz]),(hic x hx).2⟩)) (hT.ex hS.ext);rw [FM hdc] at this;exact this)) sL ?_
   refine cV 70 (ae.bin rfl rfl rfl rfl (w7 (v:=true) rfl) rfl) ?_
   refine cV 71 (ae.aT rfl rfl rfl rfl rfl) ?_
   refine cV 72 (ae.mv rfl rfl rfl rfl) ?_
   refine cV 73 (ae.mv rfl rfl rfl rfl) ?_
   refine aG.cC (i:=74) rfl rfl rfl rfl rfl rfl (fun _ _=>call25 _ _) (fun w _ hS=>(by have:=mW 0 (some ⟨bb,0,none⟩) cb lb w (vE hS 16 rfl (fun e=>by cases e) (fun x hx=>⟨(hib x hx).1.mono (fun z hz=>by simp [mB z hz]),(hib x hx).2⟩)) (hT.ex hS.ext);rw [FN hdb] at this;exact this)) sL ?_
   refine cV 75 (ae.bin rfl rfl rfl rfl (w7 (v:=true) rfl) rfl) ?_
   refine cV 76 (ae.aT rfl rfl rfl rfl rfl) ?_
   refine cV 77 (ae.fh rfl rfl rfl rfl) ?_
   refine aG.done rfl ?_
   refine gE ?_
   refine gT func10 fun w' hS=>?_
   exact ⟨hS.ext,rfl⟩
  · -- the first part
   refine gR ?_
   iterate 2 refine ah ?_
   refine gM rfl rfl rfl rfl rfl JC (fun w _ hS=>(by exact jd ⟨(qp.map (fun b=>⟨b,0,none⟩)),cp,bT pT⟩ ⟨(qp.map (fun b=>⟨b,0,none⟩)),cp,bT pT⟩ pT pT w (aL hS 12 rfl (fun e=>(hqp e).1)) rfl dT (aL hS 12 rfl (fun e=>(hqp e).1)) rfl dT)) ?_
   rintro v w1 w2 Y' hS he ho
   obtain ⟨qi,ci,si,rfl,hqi,hci,hS'⟩:=ak hS he ho
   refine ⟨_,hS',?_⟩
   refine gM rfl rfl rfl rfl rfl call15 (fun w _ hS=>(by exact jy ⟨(qi.map (fun b=>⟨b,0,none⟩)),ci,bT (aR pT pT)⟩ w (aL hS 0 rfl (fun e=>(hqi e).1)) (gz (t:=aR pT pT)))) ?_
   rintro v w1 w2 Y' hS he ⟨sv,lj,rfl,⟨qj,cj,sj,Hj,rfl,hqj,hcj,hnj,hij⟩,_,_⟩
   refine ⟨_,hS.fD (pre:=[_]) he hnj,?_⟩
   rw [Fm]
   refine ah ?_
   iterate 2 refine fW ?_
   iterate 2 refine ai ?_
   refine gE ?_
   exact K () _ _ sF (fun _ _ hS=>by rw [hHR];exact (hS.aT (pre:=[_,_,_,_,_,_,_,_,_,_,_,_,_,_,_]) (pre':=[_,_,_,_,_,_,_,_]) (HR:=((((((Ha++Hb)++H1)++Hc)++H2)++H3)++Hx)++Hj) [3,5,12,11,8,2,14,13] (by decide) rfl).dH (List.Sublist.append (List.Sublist.refl _) (List.sublist_append_left _ _)))
end Go.Proofs.YtnfmegcknckahaaGreatDoor
namespace Go.Proofs.YtnfmegcknckahaaGreatDoor
open Go.RowKit Go.Proofs.Wit Tryz
theorem D3 {P:Program} {t:TypeId} {x:Nat}:kD P .rem t (.int .i64 x) (.int .i64 7) (.int .i64 ((x%7:Nat):Int)):=bI _ (by
 show Op.intDiv .rem .i64 (x:Int) 7=_
 unfold Op.intDiv
 rw [if_neg (by decide)]
 rfl)
theorem AU {f o:List NV} {e:Int} (h:BY f o e):o.length≤maxLen:=by
 rcases h with ⟨_,h,_⟩|⟨_,h,_⟩
 ·rw [h];exact Nat.zero_le _
 rw [h];exact gz
section
variable {ei:Bool} {f:List NV}
theorem pL (h:oq ei f=0):aV f=0∧mr (aO f)∧(aO f).ok∧(aF af ei (aO f) ⟨[],false⟩).2.bad=false:=by
 unfold oq at h
 by_cases h1:aV f=0
 ·rw [if_neg (by simpa using h1)] at h
  by_cases h2:∀n∈aj f,ew (aj f) n
  ·rw [if_neg (by simpa using h2)] at h
   have hC:gI (aj f):=gI.aj h1
   have hcc:Cf (aj f) (aO f):=tO h1 rfl
   have hnf:=(oO.mk hC.iY h2).top
   rw [hcc.top] at hnf
   refine ⟨h1,hnf,hcc.ok,?_⟩
   by_cases h3:(aF af ei (aO f) ⟨[],false⟩).2.bad=true
   ·rw [if_pos h3] at h;cases h
   simpa using h3
  rw [if_pos h2] at h;cases h
 rw [if_pos h1] at h;exact absurd h h1
theorem FL {t:Tr} (h:mr t) (hok:t.ok):(jt ei t).ok:=(tK h hok).1
/-- a proof of a lemma is right in every logic, and its last line is the lemma -/
theorem tm (h:oq ei f=0) {ls:List LV} (hd:ls.map LV.d=A6 ei f):∃hlt:ls.length - 1<ls.length,ls[ls.length - 1].f.f=bT (jt ei (aO f))∧Fit (jt ei (aO f))∧∀l:Int,0≤l∧l≤6→fB l ls=0:=by
 obtain ⟨h1,hn,hok,hbad⟩:=pL h
 have h2:=wL (T:=af) (ei:=ei) (t:=aO f) (σ:=⟨[],false⟩) hbad
 obtain ⟨h3,h4⟩:=dU (T:=af) (ei:=ei) (t:=aO f) (σ:=⟨[],false⟩) hbad
 have hlen:ls.length=(aF af ei (aO f) ⟨[],false⟩).2.ls.length:=by
  have:=congrArg List.length hd
  simpa [A6] using this
 have hall:∀l:Int,0≤l∧l≤6→fB l ls=0:=fun l hl=>mc (kz hn hok (pR (l:=l))).dF hl (by omega) hd
 have hlt:ls.length - 1<ls.length:=by omega
 have e1:ls[ls.length - 1].f.f=bT (jt ei (aO f)):=by
  have:=tJ hd hlt (by omega)
  rw [this,←h4]
  unfold fM
  have e2:ls.length - 1=(aF af ei (aO f) ⟨[],false⟩).1:=by omega
  simp only [e2]
  simp [List.getD_eq_getElem?_getD,h3]
 have hcf:=(mf.1 (wI (hall 0 (by decide)) _ hlt)).1
 have hne:=(aA.1 hcf).pos
 rw [e1] at hne
 exact ⟨hlt,e1,kF.2 (fun e=>by rw [e] at hne;cases hne),hall⟩
theorem AS (h:aV f=0):aQ ⟨4,0,0,0,0,0⟩ [f]=bT (aE (aO f)):=D0 h (by decide) rfl rfl rfl rfl
/-- what the program builds of a formula and its opposite is the lemma -/
theorem zk (h:aV f=0) (hok:(aO f).ok) (hF:Fit (jt ei (aO f))):
  (if ei=true then aQ ⟨6,0,0,0,0,0⟩ [f,bT (eR (aO f))] else aQ ⟨4,0,0,0,0,0⟩ [aQ ⟨5,0,0,0,0,0⟩ [f,bT (eR (aO f))]])=bT (jt ei (aO f)):=by
 have h1:=nW hF
 have h2:=nL hok
 have hc:=Cf.wz h2 (kF.1 h1)
 cases ei with
 |true=>
  rw [if_pos rfl,BI h hc.iY (by decide) rfl rfl,hc.top];rfl
 |false=>
  rw [if_neg (by decide),BI h hc.iY (by decide) rfl rfl,hc.top]
  exact ji (fU hok h2) (by decide) rfl rfl rfl
theorem yh (h:aV f=0) (hok:(aO f).ok) (hF:Fit (jt ei (aO f))) {o:List NV} {e:Int} (hN:BY (aQ ⟨4,0,0,0,0,0⟩ [f]) o e):o=bT (eR (aO f))∧e=0:=by
 rw [AS h] at hN
 have h0:=rK hok hN
 have h1:=nW hF
 have h2:=(mM h1).1
 have hc:=Cf.wz (bA hok) (kF.1 h2)
 refine ⟨h0,?_⟩
 rcases hN with ⟨h3,_⟩|⟨_,_,h3⟩
 ·exact absurd hc.iY h3
 rw [h3,if_neg]
 rw [h0]
 exact kF.1 h1
theorem vP (_h:aV f=0) (hn:mr (aO f)) (hok:(aO f).ok) (hF:Fit (jt ei (aO f))) {g k:List NV} (hg:g=bT (jt ei (aO f))) (hk:k=bT (jt ei (aO f))):jA g k=true:=by
 have h1:=FL (ei:=ei) hn hok
 rw [hg,hk,dn (Cf.wz h1 (kF.1 hF)) h1,decide_eq_true rfl]
end
set_option maxRecDepth 8000 in
theorem mi (a:Option Addr) (ca:Nat) (f:List NV) (m:Int) (hm:0≤m∧m<256) (w:World) (hT:EE w) (ha:FA w a f) (hl:f.length≤maxLen):
    Cn Tryz.prog 7 [.slice a f.length ca,.int .u8 m] w (fun v _=>v=.bool true):=by
  obtain ⟨k,rfl⟩:∃k:Nat,m=(k:Int):=⟨m.toNat,by omega⟩
  have hk7:(0:Int)≤((k%7:Nat):Int)∧((k%7:Nat):Int)≤6:=by omega
  refine Cn.of func7 rfl rfl ?_
  refine gS (gR ?_);refine ai ?_;refine gE (gS (gS (gR ?_)))
  refine gP rfl rfl rfl rfl rfl call10 (fun w _ hS=>(by exact rn w (hT.ex hS.ext))) ?_
  refine fe bG ?_
  iterate 2 refine ah ?_
  refine dY Ji ?_;refine aw w6 ?_;refine bE ?_;refine gE ?_
  refine gC (fun hc=>?_) fun hc=>?_
  ·
   refine gS (gR ?_)
   refine gP rfl rfl rfl rfl rfl call10 (fun w _ hS=>(by exact rn w (hT.ex hS.ext))) ?_
   refine ai ?_;refine gE ?_
   refine gT func7 fun w' hS=>?_
   exact ⟨hS.ext,rfl⟩
  have h20:f.length≤20:=by simp at hc;omega
  refine gK (gS (gR ?_));refine ah ?_
  refine gM rfl rfl rfl rfl rfl call15 (fun w _ hS=>(by exact jy ⟨a,ca,f⟩ w (ha.ay hS.ext) hl)) ?_
  rintro v w1 w2 Y' hS he ⟨sv,x1,rfl,⟨q1,c1,s1,H1,rfl,hq1,hc1,hn1,hi1⟩,hx1,_⟩
  refine ⟨_,hS.fD (pre:=[_]) he hn1,?_⟩
  refine ah ?_
  iterate 2 refine fW ?_
  iterate 2 refine ai ?_
  refine gE (gS (gR ?_));refine ah ?_
  refine gM rfl rfl rfl rfl rfl call17 (fun w _ hS=>(by exact qH ⟨a,ca,f⟩ w (ha.ay hS.ext) hl)) ?_
  rintro v w1 w2 Y' hS he ⟨sv,x2,rfl,⟨q2,c2,s2,H2,rfl,hq2,hc2,hn2,hi2⟩,hx2,_⟩
  dsimp only at hx1 hx2
  refine ⟨_,hS.fD (pre:=[_]) he hn2,?_⟩
  refine ah ?_
  iterate 2 refine fW ?_
  iterate 2 refine ai ?_
  refine gE (gS (gR ?_));refine ah ?_
  refine gM rfl rfl rfl rfl rfl Jy (fun w _ hS=>(by exact sW a ca f w (ha.ay hS.ext) hl)) ?_
  rintro v w1 w2 Y' hS he ho
  obtain ⟨q3,c3,s3,rfl,hq3,hc3,hS'⟩:=ak hS he ho
  refine ⟨_,hS',?_⟩
  refine gM rfl rfl rfl rfl rfl call23 (fun w _ hS=>(by exact yq (q3.map (fun b=>⟨b,0,none⟩)) c3 _ w (aL hS 0 rfl (fun e=>(hq3 e).1)) (by have:=nm ⟨4,0,0,0,0,0⟩ [f];unfold maxLen;omega))) ?_
  rintro v w1 w2 Y' hS he ⟨sv,o,e,rfl,ho,hN⟩
  have hom:o.length≤maxLen:=AU hN
  obtain ⟨q4,c4,s4,rfl,hq4,hc4,hS'⟩:=ak hS he ho
  refine ⟨_,hS',?_⟩
  refine ah ?_
  iterate 2 refine fW ?_
  iterate 2 refine ai ?_
  refine gE (gS (gR ?_));refine ah ?_
  refine ab.v (ae.conv rfl rfl rfl (G3 (a:=(k:Int)) (k:=.i64) underlying5 underlying3 (IntWalk.i64_in _ (by omega))) rfl) ?_
  refine ab.v (ae.bin rfl rfl rfl rfl D3 rfl) ?_
  refine ai ?_;refine gE (gS (gS ?_))
  refine ab.lF (α:=Unit) [] (fun _=>[(0,.slice a f.length ca),(7,cK q2 x2.length c2),(8,.int .i64 (oq true f)),(9,cK q4 o.length c4),(10,.int .i64 e),(11,.int .i64 ((k%7:Nat):Int)),(70,.bool false)]) (fun _=>(q4,eO 66 o s4)::(q3,eO 66 (aQ ⟨4,0,0,0,0,0⟩ [f]) s3)::([(q2,vt 48 x2 s2)]++(([(q1,vt 48 x1 s1)]++([]++H1))++H2))) (fun _=>?_) (fun K=>?_)
  · -- what comes behind the region
   refine gE (ab.gj rfl (gK (gS ?_)))
   refine ab.dK 32 mixed ?_
   refine cV 0 (ae.mv rfl rfl rfl rfl) ?_
   refine cV 1 (ae.bin rfl rfl rfl rfl gO rfl) ?_
   refine cV 2 (ae.mv rfl rfl rfl rfl) ?_
   refine aG.cases (d:=73) rfl (fun hc=>?_) (fun hc=>?_)
   ·
    refine cN 3 ?_
    refine cN 4 ?_
    refine cN 5 ?_
    refine cN 6 ?_
    refine cN 7 ?_
    refine cN 8 ?_
    refine cN 9 ?_
    refine cN 10 ?_
    refine cN 11 ?_
    refine cN 12 ?_
    refine cN 13 ?_
    refine cN 14 ?_
    refine cN 15 ?_
    refine cN 16 ?_
    refine cN 17 ?_
    refine cN 18 ?_
    refine cN 19 ?_
    refine cN 20 ?_
    refine cN 21 ?_
    refine cN 22 ?_
    refine cN 23 ?_
    refine cN 24 ?_
    refine cN 25 ?_
    refine cN 26 ?_
    refine cN 27 ?_
    refine cN 28 ?_
    refine cV 29 (ae.aT rfl rfl rfl rfl rfl) ?_
    refine cV 30 (ae.fh rfl rfl rfl rfl) ?_
    refine aG.done rfl ?_
    refine gE ?_
    refine gT func7 fun w' hS=>?_
    exact ⟨hS.ext,rfl⟩
   have hE:oq true f=0:=by simpa using hc
   obtain ⟨h0,hnf,hok,_⟩:=pL hE
   obtain ⟨hlt,hlf,hF,hck⟩:=tm hE (hx2 hE)
   obtain ⟨ho4,he4⟩:=yh h0 hok hF hN
   have hx4:=(gk.1 (hck 0 (by decide))).2.2.1
   have hbl:aQ ⟨6,0,0,0,0,0⟩ [f,o]=bT (jt true (aO f)):=by
     have:=zk (ei:=true) h0 hok hF
     rw [←ho4,if_pos rfl] at this
     exact this
   have hkk:=hck _ hk7
   obtain ⟨bq,rfl⟩:∃b,q2=some b:=by
     cases q2 with
     |none=>have:=(hq2 rfl).1;omega
     |some b=>exact ⟨b,rfl⟩
   refine cV 3 (ae.mv rfl rfl rfl rfl) ?_
   refine cV 4 (ae.bin rfl rfl rfl rfl (w7 (v:=true) (by rw [he4];rfl)) rfl) ?_
   refine cV 5 (ae.mv rfl rfl rfl rfl) ?_
   refine cV 6 (ae.mv rfl rfl rfl rfl) ?_
   refine cV 7 (ae.blt rfl rfl rfl (dC JD) rfl) ?_
   refine cV 8 (ae.bin rfl rfl rfl rfl (G8 (v:=true) (by simp;omega)) rfl) ?_
   refine cV 9 (ae.aT rfl rfl rfl rfl rfl) ?_
   refine cV 10 (ae.mv rfl rfl rfl rfl) ?_
   refine cV 11 (ae.mv rfl rfl rfl rfl) ?_
   refine cV 12 (ae.mv rfl rfl rfl rfl) ?_
   refine aG.cC (i:=13) rfl rfl rfl rfl rfl rfl (fun _ _=>call25 _ _) (fun w _ hS=>(by exact mW _ (some ⟨bq,0,none⟩) c2 x2 w (vE hS 2 rfl (fun e=>by cases e) (fun x hx=>⟨(hi2 x hx).1.mono (fun z hz=>by simp [hz]),(hi2 x hx).2⟩)) (hT.ex hS.ext))) sL ?_
   refine cV 14 (ae.bin rfl rfl rfl rfl (w7 (v:=true) (by rw [hkk];rfl)) rfl) ?_
   refine cV 15 (ae.aT rfl rfl rfl rfl rfl) ?_
   refine cV 16 (ae.mv rfl rfl rfl rfl) ?_
   refine cV 17 (ae.mv rfl rfl rfl rfl) ?_
   refine cV 18 (ae.mv rfl rfl rfl rfl) ?_
   refine cV 19 (ae.blt rfl rfl rfl (dC JD) rfl) ?_
   refine cV 20 (ae.bin rfl rfl rfl rfl (iH (c:=((x2.length - 1:Nat):Int)) (by omega) (by omega)) rfl) ?_
   refine cV 21 (ae.dV rfl rfl rfl rfl rfl JD JQ ((x2.length - 1)) ⟨rfl,hlt⟩) ?_
   refine cV 22 (ae.fQ (a:=some ⟨bq,0,none⟩) (o:=((x2.length - 1))*5) rfl rfl rfl rfl Jw rfl Jj (((x2.length - 1))*5+0) rfl) ?_
   refine cV 23 (ae.ld rfl rfl rfl rfl Jn (fun w _ hS=>Sl.kO (enc:=LV.cells) (sz:=5) (a:=some ⟨bq,0,none⟩) (Sl.dg (hS.get (j:=2) rfl)) (fun _=>rfl) hlt rfl)) ?_
   refine cV 24 (ae.mv rfl rfl rfl rfl) ?_
   refine cV 25 (ae.mv rfl rfl rfl rfl) ?_
   refine aG.call (i:=26) _ rfl rfl rfl rfl rfl rfl (fun _ _=>call28 _ _) (fun w _ hS=>(by exact uo a ca f (q4.map (fun b=>⟨b,0,none⟩)) c4 o w (ha.ay hS.ext) hl (aL hS 0 rfl (fun e=>(hq4 e).1)) hom)) ?_
   rintro v w1 w2 Y' hS he ho
   obtain ⟨q6,c6,s6,rfl,hq6,hc6,hS'⟩:=ak hS he ho
   refine ⟨_,hS',sM,?_⟩
   refine aG.cC (i:=27) rfl rfl rfl rfl rfl rfl (fun _ _=>call26 _ _) (fun w _ hS=>(by have:=dM x2[x2.length - 1].f.a x2[x2.length - 1].f.c x2[x2.length - 1].f.f (q6.map (fun b=>⟨b,0,none⟩)) c6 _ w (((hi2 _ (List.getElem_mem hlt)).1.mono (fun z hz=>by simp [hz])).at hS) (aL hS 0 rfl (fun e=>(hq6 e).1)) (hi2 _ (List.getElem_mem hlt)).2 (by have:=nm ⟨6,0,0,0,0,0⟩ [f,o];unfold maxLen;omega);rw [vP h0 hnf hok hF hlf hbl] at this;exact this)) sL ?_
   refine cV 28 (ae.aT rfl rfl rfl rfl rfl) ?_
   refine cV 29 (ae.de rfl rfl rfl rfl rfl) ?_
   refine cV 30 (ae.fh rfl rfl rfl rfl) ?_
   refine aG.done rfl ?_
   refine gE ?_
   refine gT func7 fun w' hS=>?_
   exact ⟨hS.ext,rfl⟩
  · -- the region
   refine ab.dK 33 mixed ?_
   refine cV 0 (ae.mv rfl rfl rfl rfl) ?_
   refine cV 1 (ae.bin rfl rfl rfl rfl bh rfl) ?_
   refine cV 2 (ae.mv rfl rfl rfl rfl) ?_
   refine aG.cases (d:=41) rfl (fun hc=>?_) (fun hc=>?_)
   ·
    have hE:oq false f=0:=by simpa using hc
    obtain ⟨h0,hnf,hok,_⟩:=pL hE
    obtain ⟨hlt,hlf,hF,hck⟩:=tm hE (hx1 hE)
    obtain ⟨ho4,he4⟩:=yh h0 hok hF hN
    have hx4:=(gk.1 (hck 0 (by decide))).2.2.1
    have hbl:aQ ⟨4,0,0,0,0,0⟩ [aQ ⟨5,0,0,0,0,0⟩ [f,o]]=bT (jt false (aO f)):=by
      have:=zk (ei:=false) h0 hok hF
      rw [←ho4,if_neg (by decide)] at this
      exact this
    have hkk:=hck _ hk7
    obtain ⟨bq,rfl⟩:∃b,q1=some b:=by
      cases q1 with
      |none=>have:=(hq1 rfl).1;omega
      |some b=>exact ⟨b,rfl⟩
    refine cV 3 (ae.mv rfl rfl rfl rfl) ?_
    refine cV 4 (ae.bin rfl rfl rfl rfl (np (v:=false) (by rw [he4];rfl)) rfl) ?_
    refine cV 5 (ae.mv rfl rfl rfl rfl) ?_
    refine cV 6 (ae.mv rfl rfl rfl rfl) ?_
    refine cV 7 (ae.blt rfl rfl rfl (dC JD) rfl) ?_
    refine cV 8 (ae.bin rfl rfl rfl rfl (w7 (v:=false) (by simp only [beq_eq_false_iff_ne];omega)) rfl) ?_
    refine cV 9 (ae.de rfl rfl rfl rfl rfl) ?_
    refine cV 10 (ae.mv rfl rfl rfl rfl) ?_
    refine cV 11 (ae.mv rfl rfl rfl rfl) ?_
    refine cV 12 (ae.mv rfl rfl rfl rfl) ?_
    refine aG.cC (i:=13) rfl rfl rfl rfl rfl rfl (fun _ _=>call25 _ _) (fun w _ hS=>(by exact mW _ (some ⟨bq,0,none⟩) c1 x1 w (vE hS 3 rfl (fun e=>by cases e) (fun x hx=>⟨(hi1 x hx).1.mono (fun z hz=>by simp [hz]),(hi1 x hx).2⟩)) (hT.ex hS.ext))) sL ?_
    refine cV 14 (ae.bin rfl rfl rfl rfl (np (v:=false) (by rw [hkk];rfl)) rfl) ?_
    refine cV 15 (ae.de rfl rfl rfl rfl rfl) ?_
    refine cV 16 (ae.mv rfl rfl rfl rfl) ?_
    refine cV 17 (ae.mv rfl rfl rfl rfl) ?_
    refine cV 18 (ae.mv rfl rfl rfl rfl) ?_
    refine cV 19 (ae.blt rfl rfl rfl (dC JD) rfl) ?_
    refine cV 20 (ae.bin rfl rfl rfl rfl (iH (c:=((x1.length - 1:Nat):Int)) (by omega) (by omega)) rfl) ?_
    refine cV 21 (ae.dV rfl rfl rfl rfl rfl JD JQ ((x1.length - 1)) ⟨rfl,hlt⟩) ?_
    refine cV 22 (ae.fQ (a:=some ⟨bq,0,none⟩) (o:=((x1.length - 1))*5) rfl rfl rfl rfl Jw rfl Jj (((x1.length - 1))*5+0) rfl) ?_
    refine cV 23 (ae.ld rfl rfl rfl rfl Jn (fun w _ hS=>Sl.kO (enc:=LV.cells) (sz:=5) (a:=some ⟨bq,0,none⟩) (Sl.dg (hS.get (j:=3) rfl)) (fun _=>rfl) hlt rfl)) ?_
    refine cV 24 (ae.mv rfl rfl rfl rfl) ?_
    refine cV 25 (ae.mv rfl rfl rfl rfl) ?_
    refine aG.call (i:=26) _ rfl rfl rfl rfl rfl rfl (fun _ _=>call27 _ _) (fun w _ hS=>(by exact nq a ca f (q4.map (fun b=>⟨b,0,none⟩)) c4 o w (ha.ay hS.ext) hl (aL hS 0 rfl (fun e=>(hq4 e).1)) hom)) ?_
    rintro v w1 w2 Y' hS he ho
    obtain ⟨q6,c6,s6,rfl,hq6,hc6,hS'⟩:=ak hS he ho
    refine ⟨_,hS',sM,?_⟩
    refine aG.call (i:=27) _ rfl rfl rfl rfl rfl rfl (fun _ _=>Jy _ _) (fun w _ hS=>(by exact sW (q6.map (fun b=>⟨b,0,none⟩)) c6 _ w (aL hS 0 rfl (fun e=>(hq6 e).1)) (by have:=nm ⟨5,0,0,0,0,0⟩ [f,o];unfold maxLen;omega))) ?_
    rintro v w1 w2 Y' hS he ho
    obtain ⟨q7,c7,s7,rfl,hq7,hc7,hS'⟩:=ak hS he ho
    refine ⟨_,hS',sM,?_⟩
    refine aG.cC (i:=28) rfl rfl rfl rfl rfl rfl (fun _ _=>call26 _ _) (fun w _ hS=>(by have:=dM x1[x1.length - 1].f.a x1[x1.length - 1].f.c x1[x1.length - 1].f.f (q7.map (fun b=>⟨b,0,none⟩)) c7 _ w (((hi1 _ (List.getElem_mem hlt)).1.mono (fun z hz=>by simp [hz])).at hS) (aL hS 0 rfl (fun e=>(hq7 e).1)) (hi1 _ (List.getElem_mem hlt)).2 (by have:=nm ⟨4,0,0,0,0,0⟩ [aQ ⟨5,0,0,0,0,0⟩ [f,o]];unfold maxLen;omega);rw [vP h0 hnf hok hF hlf hbl] at this;exact this)) sL ?_
    refine cV 29 (ae.un rfl rfl rfl bG rfl) ?_
    refine cV 30 (ae.de rfl rfl rfl rfl rfl) ?_
    refine cV 31 (ae.aT rfl rfl rfl rfl rfl) ?_
    refine aG.done rfl ?_
    exact K () _ _ sF (fun _ _ hS=>hS.dH sM)
   refine cN 3 ?_
   refine cN 4 ?_
   refine cN 5 ?_
   refine cN 6 ?_
   refine cN 7 ?_
   refine cN 8 ?_
   refine cN 9 ?_
   refine cN 10 ?_
   refine cN 11 ?_
   refine cN 12 ?_
   refine cN 13 ?_
   refine cN 14 ?_
   refine cN 15 ?_
   refine cN 16 ?_
   refine cN 17 ?_
   refine cN 18 ?_
   refine cN 19 ?_
   refine cN 20 ?_
   refine cN 21 ?_
   refine cN 22 ?_
   refine cN 23 ?_
   refine cN 24 ?_
   refine cN 25 ?_
   refine cN 26 ?_
   refine cN 27 ?_
   refine cN 28 ?_
   refine cN 29 ?_
   refine cN 30 ?_
   refine cV 31 (ae.de rfl rfl rfl rfl rfl) ?_
   refine aG.done rfl ?_
   exact K () _ _ sF (fun _ _ hS=>hS)
end Go.Proofs.YtnfmegcknckahaaGreatDoor
