/- What calls of the program return, under the conditions that each theorem states. -/
import Derived.Test.YtnfmegcknckahaaGreatDoorXA44
import Derived.Test.YtnfmegcknckahaaGreatDoorXA03
import Derived.Test.YtnfmegcknckahaaGreatDoorXA04
import Derived.Test.YtnfmegcknckahaaGreatDoorXA41
import Derived.Test.YtnfmegcknckahaaGreatDoorXA33
import Derived.Test.YtnfmegcknckahaaGreatDoorXA42
import Derived.Test.YtnfmegcknckahaaGreatDoorXA43
import Derived.Test.YtnfmegcknckahaaGreatDoorXA24
import Derived.Test.YtnfmegcknckahaaGreatDoorXA14
namespace Go.Proofs.YtnfmegcknckahaaGreatDoor
open Go.RowKit Go.Proofs.Wit Tryz
theorem yJ {p:SP} {σ:Sg} (h:p.x.d.av=6∨p.x.d.av=7):bH af p.b (ec p.tl) p.full p.x.d p.last σ=Fy p (dh p.b p.x.d.set) σ:=by
 unfold bH Fy SP.ag SP.ns SP.tg SP.own SP.line SP.S0
 rcases h with h|h<;>simp [h]
set_option maxRecDepth 8000 in
theorem Ak (p:SP) (k:Nat) (hR:Hl) (Γ:List FV) (σ:Sg) (w:World) (hin:Gk p hR) (hp:p.Ok k) (hlast:qz p.b (ec p.tl) σ p.last k):
    XW p.bw Γ σ 46 [.pointer (some ⟨p.bs,0,none⟩)] w hR (bH af p.b (ec p.tl) p.full p.x.d p.last σ):=by
  have hb:=hp.base
  have hins:=hp.kX.1
  have hGo:(dh p.b p.x.d.set).ok:=(mW hb hins).1
  have hfrj:∀(m:Nat) (hm:m<p.x.d.fr.length),∃j:Nat,p.x.d.fr[m]=(j:Int)∧j<p.last.length∧p.x.d.fr.getD m 0=(j:Int)∧(σ.bad=false→p.last.getD j 0<σ.ls.length):=fun m hm=>by
    have:=hp.kX.m8 (List.getElem_mem hm)
    refine ⟨p.x.d.fr[m].toNat,by omega,by rw [hp.FB];omega,by simp [List.getD_eq_getElem?_getD,hm];omega,fun h=>(hlast _ (by omega) h).1⟩
  have hon:p.x.d.av≠6→p.x.d.av≠7→p.x.d.av≠2→p.x.d.av≠3→∃o:Nat,p.x.d.on=(o:Int)∧o<p.b.length∧(p.x.d.av=5→(nd p.b p.x.d.on).op=9):=fun n6 n7 n2 n3=>by
    rcases hp.kX.2 with ⟨e,_,h|h⟩|⟨e,_⟩|⟨e,_⟩|⟨e,h,_⟩|⟨e,_,_,h,_⟩|⟨e,_⟩|⟨e,_⟩
    · obtain ⟨o,q1,q2,_⟩:=h.1.nat hb;exact ⟨o,q1,q2,fun h=>by omega⟩
    · obtain ⟨o,q1,_⟩:=fU.1 h.1;have:=h.2.1;exact ⟨o,q1,by omega,fun h=>by omega⟩
    · exact absurd e n2
    · exact absurd e n3
    · exact ⟨p.x.d.on.toNat,by omega,by omega,fun h=>by omega⟩
    · obtain ⟨o,q1,q2,_,q4⟩:=h.nat hb;exact ⟨o,q1,q2,fun _=>q4⟩
    · exact absurd e n6
    exact absurd e n7
  refine rz.of func46 rfl rfl (fun s hW hH=>?_)
  have hr:SR p (cM (cm 73 48 (xE σ.bad) p.bw s)) w:=hin.r hH
  have HB:∀{w':World} {j:Nat} {u:Value},Ex (cM (cm 73 48 (xE σ.bad) p.bw s)) w w'→p.cs[j]?=some u→w'.cell? ⟨p.bs,j,none⟩=some u:=fun e hu=>Ex.cell (Ex.refl _ _) (hr.ex e).di hu
  obtain ⟨bs,hbs⟩:∃bs,bs=p.bs:=⟨_,rfl⟩
  rw [←hbs] at HB
  have hpb:(Value.pointer (some ⟨p.bs,0,none⟩))=.pointer (some ⟨bs,0,none⟩):=by rw [hbs]
  rw [hpb]
  refine gS (gR ?_);refine ai ?_;refine gE (gS ?_)
  refine ab.jL 18 (([])) mixed ?_
  refine cV 0 (ae.mv rfl rfl rfl rfl) ?_
  refine cV 1 (ae.ep rfl rfl rfl rfl) ?_
  refine cV 2 (ae.aG rfl rfl rfl rfl JP rfl (by exact sizeOf70) 0 rfl) ?_
  refine cV 3 (ae.ld (p:=⟨bs,0,none⟩) rfl rfl rfl rfl isAgg70 (fun w _ hS=>HB hS.ext rfl)) ?_
  refine cV 4 (ae.mv rfl rfl rfl rfl) ?_
  refine cV 5 (ae.ep rfl rfl rfl rfl) ?_
  refine cV 6 (ae.aG rfl rfl rfl rfl JP rfl (by exact Jz) 1 rfl) ?_
  refine cV 7 (ae.aG rfl rfl rfl rfl Jv rfl (by exact Js) 2 rfl) ?_
  refine cV 8 (ae.ld (p:=⟨bs,2,none⟩) rfl rfl rfl rfl Jx (fun w _ hS=>HB hS.ext rfl)) ?_
  refine cV 9 (ae.mv rfl rfl rfl rfl) ?_
  refine cV 10 (ae.ep rfl rfl rfl rfl) ?_
  refine cV 11 (ae.aG rfl rfl rfl rfl JP rfl (by exact Jw) 4 rfl) ?_
  refine cV 12 (ae.aG rfl rfl rfl rfl Jq rfl (by exact JC) 4 rfl) ?_
  refine cV 13 (ae.ld (p:=⟨bs,4,none⟩) rfl rfl rfl rfl JI (fun w _ hS=>HB hS.ext rfl)) ?_
  refine aF.one (i:=14) rfl (dq.iH (pre:=[]) (u:=dh p.b p.x.d.set) hW rfl rfl rfl rfl rfl (fun _ _=>call48 _ _) (fun w Y' hS=>rE p.A p.cA p.b p.x.d.set w (hr.ex hS.ext).fa hb hins) (fun y s1 hyf hyz hW1=>⟨List.nil_sublist _,?_⟩)) rfl
  refine cV 15 (ae.fD rfl rfl rfl rfl) ?_
  refine cV 16 (ae.fD rfl rfl rfl rfl) ?_
  refine aF.done rfl ?_
  refine gE (gS (gS (gR ?_)));refine ah ?_;refine ku ?_;refine al JP Jw 4 ?_;refine al Jq Ji 5 ?_
  refine ab.v (ae.ld (p:=⟨bs,5,none⟩) rfl rfl rfl rfl Jj (fun w _ hS=>HB hS.ext rfl)) ?_
  refine gE (gB (gS (gR ?_)));refine aw bd ?_;refine ai ?_;refine gE ?_
  refine gC (fun hc=>?_) fun hc=>?_
  ·
   have r1:p.x.d.av=1:=by simpa using hc
   obtain ⟨o,ho,hol,_⟩:=hon (by omega) (by omega) (by omega) (by omega)
   have hnd:nd p.b p.x.d.on=p.b[o]:=by rw [ho,dH hol]
   have htA:tA p.b p.x.d.on=aa p.b o:=by rw [ho,jg]
   have hcO:=(wv hb hol).2
   refine gS (gS ?_)
   refine ab.draw 14 mixed rfl ?_
   refine mO ?_;refine xq ?_;refine mP JP Jz 1 ?_;refine mP Jv Js 2 ?_
   refine aM.v (ae.ld (p:=⟨bs,2,none⟩) rfl rfl rfl rfl Jx (fun w _ hS=>HB hS.ext rfl)) ?_
   refine mO ?_;refine xq ?_;refine mP JP Jw 4 ?_;refine mP Jq Ji 6 ?_
   refine aM.v (ae.ld (p:=⟨bs,6,none⟩) rfl rfl rfl rfl Jj (fun w _ hS=>HB hS.ext rfl)) ?_
   refine aM.v (ae.ed rfl rfl rfl rfl rfl Jr Jm ⟨_,(hr.EK).at_⟩ (ax (enc:=NV.cells) (sz:=6) (fun _=>rfl)) (by decide) (o) ⟨ho,hol⟩) ?_
   refine aM.v (ae.fM rfl rfl rfl rfl Jk rfl Ji ((o)*6+0) rfl) ?_
   refine aM.v (ae.ld rfl rfl rfl rfl Jj (fun w _ hS=>Sl.kU (enc:=NV.cells) (sz:=6) ((hr.EK).ay hS.ext).at_ (fun _=>rfl) hol rfl)) ?_
   refine C7 bd ?_
   refine aM.nil ?_
   refine gE ?_
   refine gC (fun hc=>?_) fun hc=>?_
   ·
    have h2:p.b[o].op=2:=by simpa using hc
    have hE:bH af p.b (ec p.tl) p.full p.x.d p.last σ=aV af (dh p.b p.x.d.set) [] σ:=by unfold bH;simp only [if_pos r1,hnd,if_pos h2]
    refine gS (gR ?_)
    iterate 2 refine ah ?_
    refine ab.bu (pre:=[]) (hR':=[]) hH hW1 (List.nil_sublist _) rfl rfl rfl rfl rfl (fun _ _=>JT _ _) (fun w Y' hS=>by exact mc p.bw _ _ y _ w (List.mem_cons_self ..) hyf hGo hyz) (fun s2 Γ2 hW2 hg2=>?_)
    refine ai ?_;refine gE ?_
    refine gT func46 fun w' hS=>?_
    exact dU (pre:=[]) hE rfl hW2 (fun _ h=>hg2 (List.mem_cons_of_mem _ h)) hS
   have h2:¬p.b[o].op=2:=by simpa using hc
   have hE:bH af p.b (ec p.tl) p.full p.x.d p.last σ=aV af (dh p.b p.x.d.set) [(aI af false (aa p.b o) σ).1] (aI af false (aa p.b o) σ).2:=by unfold bH;simp only [if_pos r1,hnd,if_neg h2,htA]
   refine gK (gS (gR ?_))
   iterate 5 refine ah ?_
   refine ku ?_;refine al JP Jw 4 ?_;refine al Jq Ji 6 ?_
   refine ab.v (ae.ld (p:=⟨bs,6,none⟩) rfl rfl rfl rfl Jj (fun w _ hS=>HB hS.ext rfl)) ?_
   rw [hbs]
   refine ab.uE (pre:=[]) (u:=aa p.b o) hW1 rfl rfl rfl rfl rfl (fun _ _=>call81 _ _) (fun w Y' hS=>by rw [←htA];exact ic p _ w (hr.ex hS.ext) hb (by omega)) (fun x2 s2 hf2 hW2=>?_)
   refine ab.bu (pre:=[]) (hR':=[]) hH hW2 (List.nil_sublist _) rfl rfl rfl rfl rfl (fun _ _=>call43 _ _) (fun w Y' hS=>by exact xD p.bw (SizeOf.sizeOf (aa p.b o)+1) _ (Nat.lt_succ_self _) (hb.nf o hol) _ σ x2 w (List.mem_cons_self ..) (by rw [hf2];exact hcO)) (fun s3 Γ3 hW3 hg3=>?_)
   refine ab.ew (c:=[_]) rfl rfl rfl rfl Jp Ji JE rfl rfl (fun b57=>?_)
   refine ab.bu (pre:=[_]) (hR':=[(some b57,ob bK 3 (iL [(aI af false (aa p.b o) σ).1]) [])]) hH hW3 (.cons_cons _ (List.nil_sublist _)) rfl rfl rfl rfl rfl (fun _ _=>JT _ _) (fun w Y' hS=>bE p.bw _ _ y _ (some b57) [(aI af false (aa p.b o) σ).1] 1 [] w (hg3 (by simp)) hyf hGo hyz (fun e=>by cases e) (fun h n hn=>by rw [List.mem_singleton.1 hn];exact (eB h).1) (by simp)) (fun s4 Γ4 hW4 hg4=>?_)
   refine ai ?_;refine gE ?_
   refine gT func46 fun w' hS=>?_
   exact dU (pre:=[_]) hE rfl hW4 (fun _ h=>hg4 (hg3 (by simp [h]))) hS
  have r1:¬p.x.d.av=1:=by simpa using hc
  refine gS (gR ?_);refine aw bd ?_;refine ai ?_;refine gE ?_
  refine gC (fun hc=>?_) fun hc=>?_
  ·
   have r2:p.x.d.av=2:=by simpa using hc
   obtain ⟨j,j1,j2,j3,j4⟩:=hfrj 0 (ir hp.kX r1)
   have hE:bH af p.b (ec p.tl) p.full p.x.d p.last σ=aV af (dh p.b p.x.d.set) [p.last.getD j 0] σ:=by unfold bH;simp only [if_neg r1,if_pos r2,j3,Int.toNat_natCast]
   refine gS (gR ?_)
   iterate 3 refine ah ?_
   refine gP rfl rfl rfl rfl rfl call82 (fun w _ hS=>(by rw [hbs];exact kB p 0 j w (hr.ex hS.ext) (ir hp.kX r1) j1 j2)) ?_
   refine ab.ew (c:=[_]) rfl rfl rfl rfl Jp Ji JE rfl rfl (fun b65=>?_)
   refine ab.bu (pre:=[_]) (hR':=[(some b65,ob bK 3 (iL [p.last.getD j 0]) [])]) hH hW1 (.cons_cons _ (List.nil_sublist _)) rfl rfl rfl rfl rfl (fun _ _=>JT _ _) (fun w Y' hS=>bE p.bw _ _ y _ (some b65) [p.last.getD j 0] 1 [] w (List.mem_cons_self ..) hyf hGo hyz (fun e=>by cases e) (fun h n hn=>by rw [List.mem_singleton.1 hn];exact j4 h) (by simp)) (fun s4 Γ4 hW4 hg4=>?_)
   refine ai ?_;refine gE ?_
   refine gT func46 fun w' hS=>?_
   exact dU (pre:=[_]) hE rfl hW4 (fun _ h=>hg4 (by simp [h])) hS
  have r2:¬p.x.d.av=2:=by simpa using hc
  refine gS (gR ?_);refine aw bd ?_;refine ai ?_;refine gE ?_
  refine gC (fun hc=>?_) fun hc=>?_
  ·
   have r3:p.x.d.av=3:=by simpa using hc
   obtain ⟨j,j1,j2,j3,j4⟩:=hfrj 0 (ir hp.kX r1)
   obtain ⟨i,i1,i2,i3,i4⟩:=hfrj 1 (nk hp.kX (.inl r3))
   have hE:bH af p.b (ec p.tl) p.full p.x.d p.last σ=aV af (dh p.b p.x.d.set) [p.last.getD j 0,p.last.getD i 0] σ:=by unfold bH;simp only [if_neg r1,if_neg r2,if_pos r3,j3,i3,Int.toNat_natCast]
   refine gS (gR ?_)
   iterate 3 refine ah ?_
   refine gP rfl rfl rfl rfl rfl call82 (fun w _ hS=>(by rw [hbs];exact kB p 0 j w (hr.ex hS.ext) (ir hp.kX r1) j1 j2)) ?_
   refine ah ?_
   refine gP rfl rfl rfl rfl rfl call82 (fun w _ hS=>(by rw [hbs];exact kB p 1 i w (hr.ex hS.ext) (nk hp.kX (.inl r3)) i1 i2)) ?_
   refine ab.ew (c:=[_,_]) rfl rfl rfl rfl Jp Ji JE rfl rfl (fun b75=>?_)
   refine ab.bu (pre:=[_]) (hR':=[(some b75,ob bK 3 (iL [p.last.getD j 0,p.last.getD i 0]) [])]) hH hW1 (.cons_cons _ (List.nil_sublist _)) rfl rfl rfl rfl rfl (fun _ _=>JT _ _) (fun w Y' hS=>bE p.bw _ _ y _ (some b75) [p.last.getD j 0,p.last.getD i 0] 2 [] w (List.mem_cons_self ..) hyf hGo hyz (fun e=>by cases e) (fun h n hn=>by
     simp only [List.mem_cons,List.not_mem_nil,or_false] at hn
     rcases hn with rfl|rfl
     · exact j4 h
     exact i4 h) (by simp)) (fun s4 Γ4 hW4 hg4=>?_)
   refine ai ?_;refine gE ?_
   refine gT func46 fun w' hS=>?_
   exact dU (pre:=[_]) hE rfl hW4 (fun _ h=>hg4 (by simp [h])) hS
  have r3:¬p.x.d.av=3:=by simpa using hc
  refine gS (gR ?_);refine aw bd ?_;refine ai ?_;refine gE ?_
  refine gC (fun hc=>?_) fun hc=>?_
  ·
   have r4:p.x.d.av=4:=by simpa using hc
   obtain ⟨j,j1,j2,j3,j4⟩:=hfrj 0 (ir hp.kX r1)
   obtain ⟨i,i1,i2,i3,i4⟩:=hfrj 1 (nk hp.kX (.inr r4))
   obtain ⟨o,ho,hol,_⟩:=hon (by omega) (by omega) r2 r3
   have htA:tA p.b p.x.d.on=aa p.b o:=by rw [ho,jg]
   have hcO:=(wv hb hol).2
   obtain ⟨Q,hQ⟩:∃Q,Q=aI af true (aa p.b o) σ:=⟨_,rfl⟩
   have hQle:σ.Le Q.2:=by rw [hQ];exact ik
   have hE:bH af p.b (ec p.tl) p.full p.x.d p.last σ=aV af (dh p.b p.x.d.set) [Q.1,p.last.getD j 0,p.last.getD i 0] Q.2:=by unfold bH;simp only [if_neg r1,if_neg r2,if_neg r3,if_pos r4,j3,i3,Int.toNat_natCast,htA,hQ]
   refine gS (gR ?_)
   iterate 5 refine ah ?_
   refine ku ?_;refine al JP Jw 4 ?_;refine al Jq Ji 6 ?_
   refine ab.v (ae.ld (p:=⟨bs,6,none⟩) rfl rfl rfl rfl Jj (fun w _ hS=>HB hS.ext rfl)) ?_
   rw [hbs]
   refine ab.uE (pre:=[]) (u:=aa p.b o) hW1 rfl rfl rfl rfl rfl (fun _ _=>call81 _ _) (fun w Y' hS=>by rw [←htA];exact ic p _ w (hr.ex hS.ext) hb (by omega)) (fun x2 s2 hf2 hW2=>?_)
   refine ab.bu (pre:=[]) (hR':=[]) hH hW2 (List.nil_sublist _) rfl rfl rfl rfl rfl (fun _ _=>call45 _ _) (fun w Y' hS=>by exact xC p.bw (SizeOf.sizeOf (aa p.b o)+1) _ (Nat.lt_succ_self _) (hb.nf o hol) _ σ x2 w (List.mem_cons_self ..) (by rw [hf2];exact hcO)) (fun s3 Γ3 hW3 hg3=>?_)
   rw [←hQ] at hW3⊢
   refine ah ?_
   refine gP rfl rfl rfl rfl rfl call82 (fun w _ hS=>(by exact kB p 0 j w (hr.ex hS.ext) (ir hp.kX r1) j1 j2)) ?_
   refine ah ?_
   refine gP rfl rfl rfl rfl rfl call82 (fun w _ hS=>(by exact kB p 1 i w (hr.ex hS.ext) (nk hp.kX (.inr r4)) i1 i2)) ?_
   refine ab.ew (c:=[_,_,_]) rfl rfl rfl rfl Jp Ji JE rfl rfl (fun b94=>?_)
   refine ab.bu (pre:=[_]) (hR':=[(some b94,ob bK 3 (iL [Q.1,p.last.getD j 0,p.last.getD i 0]) [])]) hH hW3 (.cons_cons _ (List.nil_sublist _)) rfl rfl rfl rfl rfl (fun _ _=>JT _ _) (fun w Y' hS=>bE p.bw _ _ y _ (some b94) [Q.1,p.last.getD j 0,p.last.getD i 0] 3 [] w (hg3 (by simp)) hyf hGo hyz (fun e=>by cases e) (fun h n hn=>by
     simp only [List.mem_cons,List.not_mem_nil,or_false] at hn
     rcases hn with rfl|rfl|rfl
     · rw [hQ] at h⊢;exact (eB h).1
     · exact Nat.lt_of_lt_of_le (j4 (hQle.ok h)) hQle.pre.length_le
     exact Nat.lt_of_lt_of_le (i4 (hQle.ok h)) hQle.pre.length_le) (by simp)) (fun s4 Γ4 hW4 hg4=>?_)
   refine ai ?_;refine gE ?_
   refine gT func46 fun w' hS=>?_
   exact dU (pre:=[_]) hE rfl hW4 (fun _ h=>hg4 (hg3 (by simp [h]))) hS
  have r4:¬p.x.d.av=4:=by simpa using hc
  refine gS (gR ?_);refine aw bd ?_;refine ai ?_;refine gE ?_
  refine gC (fun hc=>?_) fun hc=>?_
  ·
   have r5:p.x.d.av=5:=by simpa using hc
   obtain ⟨j,j1,j2,j3,j4⟩:=hfrj 0 (ir hp.kX r1)
   obtain ⟨o,ho,hol,ho9⟩:=hon (by omega) (by omega) r2 r3
   have ho9:=ho9 r5
   have hnd:nd p.b p.x.d.on=p.b[o]:=by rw [ho,dH hol]
   have htA:tA p.b p.x.d.on=aa p.b o:=by rw [ho,jg]
   have hx5:=hb.x hol (by rw [←ho];omega)
   rw [dH hol] at hx5
   have hx5':0≤p.b[o].x∧p.b[o].x<p.b.length:=by omega
   have hoo:=hb.ok hol
   have hxo:=xO hb hx5'
   obtain ⟨Q,hQ⟩:∃Q,Q=bR af (aP (aa p.b o) (tA p.b p.b[o].x)) 3 0 0 0 σ:=⟨_,rfl⟩
   have hQle:σ.Le Q.2:=by rw [hQ];exact df
   have hE:bH af p.b (ec p.tl) p.full p.x.d p.last σ=aV af (dh p.b p.x.d.set) [Q.1,p.last.getD j 0] Q.2:=by unfold bH;simp only [if_neg r1,if_neg r2,if_neg r3,if_neg r4,if_pos r5,j3,Int.toNat_natCast,htA,hnd,hQ]
   refine gS (gR ?_)
   iterate 2 refine ah ?_
   refine ku ?_;refine al JP Jw 4 ?_;refine al Jq Ji 6 ?_
   refine ab.v (ae.ld (p:=⟨bs,6,none⟩) rfl rfl rfl rfl Jj (fun w _ hS=>HB hS.ext rfl)) ?_
   rw [hbs]
   refine ab.uE (pre:=[]) (u:=aa p.b o) hW1 rfl rfl rfl rfl rfl (fun _ _=>call81 _ _) (fun w Y' hS=>by rw [←htA];exact ic p _ w (hr.ex hS.ext) hb (by omega)) (fun x2 s2 hf2 hW2=>?_)
   skip
   refine ai ?_
   rw [←hbs]
   refine gE (gS ?_)
   refine ab.jL 22 (([])) mixed ?_
   refine cV 0 (ae.mv rfl rfl rfl rfl) ?_
   refine cV 1 (ae.mv rfl rfl rfl rfl) ?_
   refine cV 2 (ae.mv rfl rfl rfl rfl) ?_
   refine cV 3 (ae.mv rfl rfl rfl rfl) ?_
   refine cV 4 (ae.ep rfl rfl rfl rfl) ?_
   refine cV 5 (ae.aG rfl rfl rfl rfl JP rfl (by exact Jz) 1 rfl) ?_
   refine cV 6 (ae.aG rfl rfl rfl rfl Jv rfl (by exact Js) 2 rfl) ?_
   refine cV 7 (ae.ld (p:=⟨bs,2,none⟩) rfl rfl rfl rfl Jx (fun w _ hS=>HB hS.ext rfl)) ?_
   refine cV 8 (ae.mv rfl rfl rfl rfl) ?_
   refine cV 9 (ae.ep rfl rfl rfl rfl) ?_
   refine cV 10 (ae.aG rfl rfl rfl rfl JP rfl (by exact Jw) 4 rfl) ?_
   refine cV 11 (ae.aG rfl rfl rfl rfl Jq rfl (by exact Ji) 6 rfl) ?_
   refine cV 12 (ae.ld (p:=⟨bs,6,none⟩) rfl rfl rfl rfl Jj (fun w _ hS=>HB hS.ext rfl)) ?_
   refine cV 13 (ae.ed rfl rfl rfl rfl rfl Jr Jm ⟨_,(hr.EK).at_⟩ (ax (enc:=NV.cells) (sz:=6) (fun _=>rfl)) (by decide) (o) ⟨ho,hol⟩) ?_
   refine cV 14 (ae.fM rfl rfl rfl rfl Jk rfl Ji ((o)*6+4) rfl) ?_
   refine cV 15 (ae.ld rfl rfl rfl rfl Jj (fun w _ hS=>Sl.kU (enc:=NV.cells) (sz:=6) ((hr.EK).ay hS.ext).at_ (fun _=>rfl) hol rfl)) ?_
   rw [hbs]
   refine aF.one (i:=16) rfl (dq.uE (pre:=[]) (u:=tA p.b p.b[o].x) hW2 rfl rfl rfl rfl rfl (fun _ _=>call81 _ _) (fun w Y' hS=>ic p _ w (hr.ex hS.ext) hb hx5') (fun x3 s3 hf3 hW3=>⟨List.nil_sublist _,?_⟩)) rfl
   refine aF.one (i:=17) rfl (dq.iH (pre:=[]) (u:=aP (aa p.b o) (tA p.b p.b[o].x)) hW3 rfl rfl rfl rfl rfl (fun _ _=>JL _ _) (fun w Y' hS=>fH x2 x3 _ _ w (hW3.fa (pre:=[]) (by simp) hS) hf2 hoo (hW3.fa (pre:=[]) (by simp) hS) hf3 hxo) (fun x4 s4 hf4 hz4 hW4=>⟨List.nil_sublist _,?_⟩)) rfl
   refine cV 18 (ae.eN rfl rfl rfl rfl (bd48 (c:=[_,_,_,_,_]) rfl)) ?_
   refine aF.one (i:=19) rfl (dq.bu (pre:=[]) (hR':=[]) hH hW4 (List.nil_sublist _) rfl rfl rfl rfl rfl (fun _ _=>call83 _ _) (fun w Y' hS=>jf p.bw _ _ x4 _ 3 0 0 0 w (List.mem_cons_self ..) hf4 (dC hoo hxo) hz4) (fun s5 Γ5 hW5 hg5=>⟨List.nil_sublist _,?_⟩)) rfl
   rw [←hQ] at hW5⊢
   refine cV 20 (ae.fD rfl rfl rfl rfl) ?_
   refine aF.done rfl ?_
   refine gE (gS (gR ?_))
   iterate 4 refine ah ?_
   refine gP rfl rfl rfl rfl rfl call82 (fun w _ hS=>(by exact kB p 0 j w (hr.ex hS.ext) (ir hp.kX r1) j1 j2)) ?_
   refine ab.ew (c:=[_,_]) rfl rfl rfl rfl Jp Ji JE rfl rfl (fun b130=>?_)
   refine ab.bu (pre:=[_]) (hR':=[(some b130,ob bK 3 (iL [Q.1,p.last.getD j 0]) [])]) hH hW5 (.cons_cons _ (List.nil_sublist _)) rfl rfl rfl rfl rfl (fun _ _=>JT _ _) (fun w Y' hS=>bE p.bw _ _ y _ (some b130) [Q.1,p.last.getD j 0] 2 [] w (hg5 (by simp)) hyf hGo hyz (fun e=>by cases e) (fun h n hn=>by
     simp only [List.mem_cons,List.not_mem_nil,or_false] at hn
     rcases hn with rfl|rfl
     · rw [hQ] at h⊢;exact (bP h).1
     exact Nat.lt_of_lt_of_le (j4 (hQle.ok h)) hQle.pre.length_le) (by simp)) (fun s6 Γ6 hW6 hg6=>?_)
   refine ai ?_;refine gE ?_
   refine gT func46 fun w' hS=>?_
   exact dU (pre:=[_]) hE rfl hW6 (fun _ h=>hg6 (hg5 (by simp [h]))) hS
  have r5:¬p.x.d.av=5:=by simpa using hc
  have h67:p.x.d.av=6∨p.x.d.av=7:=by
    rcases hp.kX.2 with ⟨e,_⟩|⟨e,_⟩|⟨e,_⟩|⟨e,_⟩|⟨e,_⟩|⟨e,_⟩|⟨e,_⟩<;>omega
  refine gK (dO (gS (gR ?_)))
  iterate 2 refine ah ?_
  rw [hbs]
  refine ab.bu (pre:=[]) (hR':=hR) hH hW1 (List.Sublist.refl _) rfl rfl rfl rfl rfl (fun _ _=>call84 _ _) (fun w Y' hS=>by exact xB p k hR _ σ y _ w hin hp h67 hlast (List.mem_cons_self ..) hyf hGo hyz) (fun s2 Γ2 hW2 hg2=>?_)
  refine ai ?_;refine gE ?_
  refine gT func46 fun w' hS=>?_
  exact dU (pre:=[]) (yJ h67) rfl hW2 (fun _ h=>hg2 (List.mem_cons_of_mem _ h)) hS
end Go.Proofs.YtnfmegcknckahaaGreatDoor
namespace Go.Proofs.YtnfmegcknckahaaGreatDoor
open Go.RowKit Go.Proofs.Wit Tryz
set_option maxRecDepth 8000 in
theorem sN (l:Int) (A:Option Addr) (cA:Nat) (b:List NV) (B:Option Addr) (cB:Nat) (ss:List SV) (w:World) (hA:FA w A b) (hB:ue w B ss) (hl:b.length≤maxLen) (hsl:ss.length≤maxLen):
    Cn Tryz.prog 20 [.agg (bL l A b.length cA B ss.length cB)] w (fun v w'=>∃sv ls,v=.tuple #[sv,.int .i64 (xu l b (ec ss))]∧hJ 66 48 w w' sv ls∧(xu l b (ec ss)=0→ls.map LV.d=EE b (ec ss))∧(xu l b (ec ss)≠0→ls=[])):=by
  obtain ⟨iI,hiI,hzI,hszI,hbyI⟩:=info_parts uP
  refine Cn.of func20 rfl rfl ?_
  refine gS (gR ?_)
  refine ab.bx rfl rfl rfl rfl (fun b1=>?_)
  iterate 2 refine ai ?_
  refine gE (gS (gS (gR ?_)))
  refine ab.v (ae.iA rfl rfl rfl rfl JS 0 rfl Jz rfl) ?_
  refine gP rfl rfl rfl rfl rfl call22 (fun w _ hS=>(by exact nP l A cA b B cB ss w (hA.ay hS.ext) (hB.ay hS.ext) hl hsl)) ?_
  refine ai ?_;refine gE (gS (gR ?_));refine ah ?_;refine aw gJ ?_;refine gE ?_
  refine gC (fun hc=>?_) fun hc=>?_
  ·
   have h1:nH l b (ec ss)≠0:=by simpa using hc
   have hE:xu l b (ec ss)=nH l b (ec ss):=if_pos h1
   refine gS (gR ?_);refine ah ?_
   iterate 2 refine ai ?_
   refine gE ?_
   refine gT func20 fun w' hS=>?_
   exact ⟨hS.ext,_,[],by rw [hE];rfl,hJ.nil,fun h=>absurd (hE ▸ h) h1,fun _=>rfl⟩
  have h1:nH l b (ec ss)=0:=by simpa using hc
  have hok:=iw.1 h1
  have hE:xu l b (ec ss)=if (fS af b (ec ss)).2.bad=true then 8 else 0:=if_neg (by simp [h1])
  obtain ⟨L,hLd⟩:∃L,L=ec ss:=⟨_,rfl⟩
  have hLl:L.length=ss.length:=by rw [hLd,cW]
  have hp0:=hok.pos
  have hp4:=hok.len
  rw [cW] at hp0 hp4
  have hnl:ss.length - 1<ss.length:=by omega
  refine gK (gS (gR ?_))
  refine ab.v (ae.iA rfl rfl rfl rfl JS 0 rfl Jz rfl) ?_
  refine gM rfl rfl rfl rfl rfl call36 (fun w _ hS=>(by exact vi l A cA b B cB ss w (hA.ay hS.ext) (hB.ay hS.ext) hok)) ?_
  rintro v w1 w2 Y' hS he ⟨v1,v2,os,ws,rfl,⟨qa,qo,qw,ca,co,cw,spa,spo,spw,H,rfl,rfl,hqa,hqo,hqw,hnew,hin⟩,hos,hws⟩
  refine ⟨_,hS.fi he (pre:=[_,_,_]) hnew,?_⟩
  rw [←hLd] at hok hos hws hE⊢
  have hol:os.length=(dB b L).length:=by rw [←hos,cW]
  have hwl:ws.length=os.length:=by
    have:=congrArg List.length hws
    rw [List.length_map,lC (Nat.le_refl _)] at this
    rw [hol,oW];exact this
  have hot:=hok.tr.pos
  have hot4:=hok.tr.len
  have hop:0<os.length:=by omega
  obtain ⟨bo,rfl⟩:∃b,qo=some b:=by
    cases qo with
    |none=>have:=hqo rfl;omega
    |some b=>exact ⟨b,rfl⟩
  obtain ⟨bq,rfl⟩:∃b,qw=some b:=by
    cases qw with
    |none=>have:=hqw rfl;omega
    |some b=>exact ⟨b,rfl⟩
  refine ah ?_
  iterate 2 refine fZ ?_
  refine ab.eO rfl rfl rfl (fun _=>Kb _) (fun b5=>?_)
  refine ab.dF rfl rfl rfl rfl Jz 0 rfl rfl rfl rfl ?_
  refine ai ?_;refine gE (gS (gR ?_))
  refine ab.v (ae.eN rfl rfl rfl rfl (bd73 (c:=[_,_]) rfl)) ?_
  refine ab.bx rfl rfl rfl rfl (fun b25=>?_)
  refine ai ?_;refine gE (gS (gR ?_));refine ai ?_;refine gE (gS (gS (gR ?_)));refine al Jv JM 2 ?_;refine aq JO 1 ?_;refine dM JG ?_;refine ah ?_;refine gE (gB ?_)
  refine ab.cJ (xv 48 [] []) ?_
  refine ab.cJ (ob bK 3 [] []) ?_
  refine ab.aS (pre:=[_,_,_,_,_,_,_,_]) (pre':=[(none,ob bK 3 [] []),(some b5,.cells (bL l (qa.map (fun b=>⟨b,0,none⟩)) b.length ca (some ⟨bo,0,none⟩) os.length co) 25 (0,0)),(qa,eW 66 b spa),(some bo,l8 41 os spo),(some bq,l8 41 ws spw),(some b1,.cells (bL l A b.length cA B ss.length cB) 25 (0,0)),(some b25,.cells #[cQ none 0 0,xE false] 73 (0,0)),(none,xv 48 [] [])]) H [0,3,4,5,6,7,2,1] (by decide) rfl ?_
  refine ab.loop (σ:=Nat×Option Nat×Nat×List Value×Ws×List FV) (fun z=>[(1,.pointer (some ⟨b1,0,none⟩)),(5,.pointer (some ⟨b5,0,none⟩)),(6,.slice (some ⟨bq,0,none⟩) ws.length cw),(7,.pointer (some ⟨b25,0,none⟩)),(8,cQ z.2.1 (iL (aT af b (dB b L) (cU L L.length) z.1).1).length z.2.2.1),(27,.slice (some ⟨bo,0,none⟩) os.length co),(28,.int .i64 os.length),(29,.int .i64 z.1)])
    (fun z=>[(z.2.1,ob bK 3 (iL (aT af b (dB b L) (cU L L.length) z.1).1) z.2.2.2.1),(some b5,.cells (bL l (qa.map (fun b=>⟨b,0,none⟩)) b.length ca (some ⟨bo,0,none⟩) os.length co) 25 (0,0)),(qa,eW 66 b spa),(some bo,l8 41 os spo),(some bq,l8 41 ws spw),(some b1,.cells (bL l A b.length cA B ss.length cB) 25 (0,0))]++(cm 73 48 (xE (aT af b (dB b L) (cU L L.length) z.1).2.bad) b25 z.2.2.2.2.1++H))
    (fun z=>z.1≤os.length∧(z.2.1=none→(iL (aT af b (dB b L) (cU L L.length) z.1).1).length=0∧z.2.2.1=0)∧((iL (aT af b (dB b L) (cU L L.length) z.1).1).map bK++z.2.2.2.1).length=z.2.2.1∧fw 66 z.2.2.2.2.2 (aT af b (dB b L) (cU L L.length) z.1).2 z.2.2.2.2.1)
    (fun z=>os.length - z.1) (0,none,0,[],⟨none,0,[],[],[]⟩,[]) ⟨Nat.zero_le _,fun _=>⟨rfl,rfl⟩,rfl,fw.start⟩ ⟨rfl,rfl,rfl,rfl,rfl,rfl,rfl,rfl,trivial⟩ (List.Sublist.refl _) (fun z hI IH=>?_)
  obtain ⟨i,q8,c8,sp8,s,Γ⟩:=z
  obtain ⟨hi,hq8,hc8,hW⟩:=hI
  dsimp only at hi hq8 hc8 hW IH⊢
  have hlal:=lN (T:=af) (b:=b) (tl:=dB b L) (fl:=cU L L.length) (q:=i) (by omega)
  have hlaok:=kA (T:=af) (b:=b) (tl:=dB b L) (fl:=cU L L.length) (q:=i) (by omega)
  have hsuc:∀(h:i<(dB b L).length),aT af b (dB b L) (cU L L.length) (i+1)=((aT af b (dB b L) (cU L L.length) i).1++[(bH af b (dB b L) ((cU L L.length).getD i 0#64) (dB b L)[i] (aT af b (dB b L) (cU L L.length) i).1 (aT af b (dB b L) (cU L L.length) i).2).1],(bH af b (dB b L) ((cU L L.length).getD i 0#64) (dB b L)[i] (aT af b (dB b L) (cU L L.length) i).1 (aT af b (dB b L) (cU L L.length) i).2).2):=fun h=>eM h
  obtain ⟨PR,hPR⟩:∃PR,PR=aT af b (dB b L) (cU L L.length) i:=⟨_,rfl⟩
  rw [←hPR] at hq8 hc8 hW hlal hlaok hsuc⊢
  obtain ⟨la,σi⟩:=PR
  dsimp only at hq8 hc8 hW hlal hlaok hsuc⊢
  have hil8:(iL la).length=la.length:=iJ
  refine gS (gR ?_);refine aw iX ?_;refine gE (gS ?_)
  refine gC (fun hc=>?_) fun hc=>?_
  ·
   have hlt:i<os.length:=by simpa using hc
   have hltw:i<ws.length:=by omega
   have hltt:i<(dB b L).length:=by omega
   have hsuc:=hsuc hltt
   have hxi:os[i].d=(dB b L)[i]:=by
     have:(ec os)[i]'(by rw [cW];exact hlt)=os[i].d:=kI hlt
     rw [←this];simp only [hos]
   have hfi:ws[i].d.set=(cU L L.length).getD i 0#64:=by
     have:=congrArg (fun x=>x[i]?) hws
     simp only [List.getElem?_map,List.getElem?_eq_getElem hltw,Option.map_some] at this
     rw [List.getD_eq_getElem?_getD,←this];rfl
   rw [←hfi,←hxi] at hsuc
   obtain ⟨hxin,hxl⟩:=hin os[i] (List.getElem_mem hlt)
   refine gK (gS (gB (gS (gR ?_))));refine ah ?_
   refine ab.v (ae.dX rfl rfl rfl rfl rfl JG Jw (i) ⟨rfl,hlt⟩) ?_
   refine ab.v (ae.nV (cs:=SV.cells os[i]) rfl rfl rfl rfl J4 Jw (fun w _ hS=>Sl.many (enc:=SV.cells) (sz:=5) (a:=some ⟨bo,0,none⟩) (Sl.di (hS.get (j:=3) rfl)) (fun _=>rfl) hlt)) ?_
   rw [hil8]
   refine ab.eO rfl rfl rfl (fun _=>Kd _) (fun b10=>?_)
   refine ai ?_
   refine ab.dF rfl rfl rfl rfl Jw 0 rfl rfl rfl rfl ?_
   refine gE (gS ?_)
   refine ab.jL 13 (([(some b10,.cells (SV.cells os[i]).toArray 41 (0,0)),(some b5,.cells (bL l (qa.map (fun b=>⟨b,0,none⟩)) b.length ca (some ⟨bo,0,none⟩) os.length co) 25 (0,0)),(some bq,l8 41 ws spw)])) mixed ?_
   refine cV 0 (ae.mv rfl rfl rfl rfl) ?_
   refine cV 1 (ae.iA rfl rfl rfl rfl JS 1 rfl Jz rfl) ?_
   refine cV 2 (ae.iA rfl rfl rfl rfl J4 0 rfl Jw rfl) ?_
   refine cV 3 (ae.mv rfl rfl rfl rfl) ?_
   refine cV 4 (ae.mv rfl rfl rfl rfl) ?_
   refine cV 5 (ae.dX rfl rfl rfl rfl rfl JG Jw (i) ⟨rfl,hltw⟩) ?_
   refine cV 6 (ae.fM (a:=some ⟨bq,0,none⟩) (o:=(i)*5) rfl rfl rfl rfl Jq rfl JC ((i)*5+0) rfl) ?_
   refine cV 7 (ae.ld rfl rfl rfl rfl JI (fun w _ hS=>Sl.kU (enc:=SV.cells) (sz:=5) (a:=some ⟨bq,0,none⟩) (Sl.di (hS.get (j:=2) rfl)) (fun _=>rfl) hltw rfl)) ?_
   refine cV 8 (ae.mv rfl rfl rfl rfl) ?_
   refine cV 9 (ae.eN rfl rfl rfl rfl (bd76 (c:=[_,_,_,_,_,_,_,_,_,_,_]) rfl)) ?_
   refine aF.one (i:=10) rfl (dq.bx rfl rfl rfl rfl (fun b44=>⟨sL,?_⟩)) rfl
   refine cV 11 (ae.fD rfl rfl rfl rfl) ?_
   refine aF.done rfl ?_
   refine gE (gS (gR ?_))
   iterate 2 refine ah ?_
   obtain ⟨p,hp⟩:∃p:SP,p=⟨b25,b44,l,qa.map (fun b=>⟨b,0,none⟩),ca,b,some ⟨bo,0,none⟩,co,os,os[i],ws[i].d.set,q8.map (fun b=>⟨b,0,none⟩),c8,la⟩:=⟨_,rfl⟩
   have hpO:p.Ok i:=hok.GH (by rw [hp]) (by rw [hp]) (by rw [hp];exact hos) (by rw [hp];exact hlt) (by simp only [hp]) (by rw [hp];exact hfi) (by rw [hp];exact hlal)
   have hpI:Gk p ([(some b44,.cells p.cs 76 (0,0)),(some b10,.cells (SV.cells os[i]).toArray 41 (0,0)),(q8,ob bK 3 (iL la) sp8),(some b5,.cells (bL l (qa.map (fun b=>⟨b,0,none⟩)) b.length ca (some ⟨bo,0,none⟩) os.length co) 25 (0,0)),(qa,eW 66 b spa),(some bo,l8 41 os spo),(some bq,l8 41 ws spw),(some b1,.cells (bL l A b.length cA B ss.length cB) 25 (0,0))]++H):=by
     constructor
     · exact List.mem_append_left _ (by rw [show p.bs=b44 by rw [hp]];exact List.mem_cons_self ..)
     · exact ⟨qa,spa,by rw [hp];simp,by rw [hp],fun e=>by rw [hp];exact hqa e⟩
     · exact ⟨some bo,spo,by rw [hp];simp,by rw [hp];rfl,fun e=>by cases e⟩
     · obtain ⟨qx,spx,x1,x2,x3⟩:=hxin
       exact ⟨qx,spx,by rw [hp];exact List.mem_append_right _ x1,by rw [hp];exact x2,fun e=>by rw [hp];exact x3 e⟩
     exact ⟨q8,sp8,by rw [hp];exact List.mem_append_left _ (.tail _ (.tail _ (.head _))),by rw [hp],fun e=>by rw [hp,←hil8];exact (hq8 e).1⟩
   have hpcs:p.cs=#[.pointer (some ⟨b25,0,none⟩),.int .i64 l,.slice (qa.map (fun b=>⟨b,0,none⟩)) b.length ca,.slice (some ⟨bo,0,none⟩) os.length co,U os[i].d.set,.int .i64 os[i].d.av,.int .i64 os[i].d.on,.int .i64 os[i].d.e,.slice os[i].fa os[i].d.fr.length os[i].fc,U ws[i].d.set,.slice (q8.map (fun b=>⟨b,0,none⟩)) la.length c8]:=by rw [hp];rfl
   have hpbw:p.bw=b25:=by rw [hp]
   have hpbs:p.bs=b44:=by rw [hp]
   have hpst:bH af b (dB b L) ws[i].d.set os[i].d la σi=bH af p.b (ec p.tl) p.full p.x.d p.last σi:=by rw [hp];dsimp only;rw [hos]
   have hplast:qz p.b (ec p.tl) σi p.last i:=by rw [hp];dsimp only;rw [hos];exact hlaok
   refine ab.Ea (ef:=xE) (pre:=[_,_,_,_,_,_,_,_]) (H:=H) (hR':=([(some b44,.cells p.cs 76 (0,0)),(some b10,.cells (SV.cells os[i]).toArray 41 (0,0)),(q8,ob bK 3 (iL la) sp8),(some b5,.cells (bL l (qa.map (fun b=>⟨b,0,none⟩)) b.length ca (some ⟨bo,0,none⟩) os.length co) 25 (0,0)),(qa,eW 66 b spa),(some bo,l8 41 os spo),(some bq,l8 41 ws spw),(some b1,.cells (bL l A b.length cA B ss.length cB) 25 (0,0))]++H)) (res:=bH af b (dB b L) ws[i].d.set os[i].d la σi) hW (by rw [hpcs];exact List.Sublist.refl _) rfl rfl rfl rfl rfl (fun _ _=>call46 _ _) (fun w Y' hS=>by have:=Ak p i ([(some b44,.cells p.cs 76 (0,0)),(some b10,.cells (SV.cells os[i]).toArray 41 (0,0)),(q8,ob bK 3 (iL la) sp8),(some b5,.cells (bL l (qa.map (fun b=>⟨b,0,none⟩)) b.length ca (some ⟨bo,0,none⟩) os.length co) 25 (0,0)),(qa,eW 66 b spa),(some bo,l8 41 os spo),(some bq,l8 41 ws spw),(some b1,.cells (bL l A b.length cA B ss.length cB) 25 (0,0))]++H) Γ σi w hpI hpO hplast;rw [hpbw,hpbs,←hpst] at this;exact this) (fun s2 Γ2 hW2 hg2=>?_)
   obtain ⟨Q,hQ⟩:∃Q,Q=bH af b (dB b L) ws[i].d.set os[i].d la σi:=⟨_,rfl⟩
   rw [←hQ] at hsuc hW2⊢
   rw [←hil8]
   refine ab.ew (c:=[_]) rfl rfl rfl rfl Jp Ji JE rfl rfl (fun b48=>?_)
   refine ab.nC bK (news:=[(Q.1:Int)]) (spn:=[]) (xs:=iL la) (sp:=sp8) (q:=q8) rfl rfl rfl rfl rfl Jp hiI hzI hszI rfl hq8 3 rfl 0 rfl hc8 rfl (by decide) (fun _=>rfl) (by unfold maxLen;omega) (by rw [hbyI];omega) (fun b' sp' cap' hlen=>?_)
   rw [←o9] at hlen⊢
   refine ai ?_;refine gE (gS (gR ?_));refine ah ?_;refine ku ?_;refine al J0 Ji 1 ?_;refine aq Jj 9 ?_;refine aw gJ ?_;refine gE ?_
   refine gC (fun hc=>?_) fun hc=>?_
   ·
    have hb:Q.2.bad=true:=by
      cases hb:Q.2.bad with
      |true=>rfl
      |false=>rw [hb] at hc;simp at hc
    have hbW:(fS af b L).2.bad=true:=by
      cases hbW:(fS af b L).2.bad with
      |true=>rfl
      |false=>
        have:=(sZ (T:=af) (b:=b) (tl:=dB b L) (fl:=cU L L.length) (q:=i+1) (r:=(dB b L).length) (by omega) (Nat.le_refl _)).trans (AY (T:=af) (b:=b) (L:=L))
        have:=this.ok hbW
        rw [hsuc,hb] at this;cases this
    rw [if_pos hbW] at hE
    have hE8:(if Q.2.bad=true then (8:Int) else 0)=8:=if_pos hb
    refine gS ?_
    refine ab.draw 6 mixed rfl ?_
    refine mO ?_;refine xq ?_;refine mP J0 Ji 1 ?_;refine xt Jj 9 ?_
    iterate 2 refine AT ?_
    refine aM.nil ?_
    refine gE ?_
    refine gT func20 fun w' hS=>?_
    exact ⟨hS.ext,_,[],by rw [hE,←hE8];rfl,hJ.nil,fun h=>absurd (hE ▸ h) (by decide),fun _=>rfl⟩
   refine gK (dO (gR ?_));refine db rfl rfl rfl rfl (cz (by omega)) ?_;refine ah ?_;refine gE ?_
   refine ab.aS (pre:=[_,_,_,_,_,_,_,_,_]) (pre':=[_,_,_,_,_,_]) (cm 73 48 (xE Q.2.bad) b25 s2++H) [3,4,5,6,7,8] (by decide) rfl ?_
   refine IH (i+1,some b',cap',sp',s2,Γ2) _ _ ⟨hlt,(fun e=>by cases e),by dsimp only;rw [hsuc];exact hlen,by dsimp only;rw [hsuc];exact hW2⟩ (by dsimp only;omega) ⟨rfl,rfl,rfl,rfl,by dsimp only;rw [hsuc];rfl,rfl,rfl,rfl,trivial⟩ (by dsimp only;rw [hsuc];exact List.Sublist.refl _)
  have hge:¬i<os.length:=by simpa using hc
  obtain rfl:i=os.length:=by omega
  have hlo:os.length - 1<os.length:=by omega
  obtain ⟨sn,hsn⟩:∃sn,sn=os[os.length - 1].d.set:=⟨_,rfl⟩
  obtain ⟨sm,hsm⟩:∃sm,sm=ss[ss.length - 1].d.set:=⟨_,rfl⟩
  have hsnS:cu (dB b L) (((dB b L).length - 1:Nat):Int)=sn:=by rw [←hol,←hos,sd hlo,hsn]
  have hsmS:cu L ((L.length - 1:Nat):Int)=sm:=by rw [hLl,hLd,sd hnl,hsm]
  have hsmI:iM b sm:=by
    rw [←hsmS,dL (by omega)];exact (hok.kX _ (by omega)).1
  have hnoneO:(dh b sm).ok:=(mW hok.base hsmI).1
  obtain ⟨ln,hln⟩:∃ln,ln=la.getD (os.length - 1) 0:=⟨_,rfl⟩
  have hlnL:σi.bad=false→ln<σi.ls.length:=fun h=>by rw [hln];exact (hlaok (os.length - 1) (by omega) h).1
  rw [hol] at hPR
  have hPWd:fS af b L=if sn=sm then (ln,σi) else aV af (dh b sm) [ln] σi:=by
    unfold fS;dsimp only
    rw [←hPR,hsnS,hsmS,hln,hol]
  have hla0:la.length - 1<(iL la).length:=by omega
  have hlai:(iL la).getD (la.length - 1) 0=(ln:Int):=by 
    have e:la.length - 1=os.length - 1:=by omega
    rw [nW (show la.length - 1<la.length by omega),hln]
    simp [List.getD_eq_getElem?_getD,e,show os.length - 1<la.length by omega]
  obtain ⟨b8,rfl⟩:∃b,q8=some b:=by
    cases q8 with
    |none=>have:=(hq8 rfl).1;omega
    |some b=>exact ⟨b,rfl⟩
  refine ab.GX (h':=[(some b8,ob bK 3 (iL la) sp8),(some b5,.cells (bL l (qa.map (fun b=>⟨b,0,none⟩)) b.length ca (some ⟨bo,0,none⟩) os.length co) 25 (0,0)),(some bo,l8 41 os spo),(some b1,.cells (bL l A b.length cA B ss.length cB) 25 (0,0))]++cm 73 48 (xE σi.bad) b25 s) (fun _ _ hS=>hS.dN (.cons_cons _ (.cons_cons _ (.cons _ (.cons_cons _ (.cons _ (.cons_cons _ (List.sublist_append_left _ _)))))))) ?_
  refine ab.exit rfl (gS ?_)
  refine ab.draw 20 mixed rfl ?_
  refine mP Jv JM 2 ?_;refine xt JO 1 ?_;refine mP Jv JM 2 ?_;refine xt JO 1 ?_;refine HS JG ?_
  refine aM.v (ae.bin rfl rfl rfl rfl (iQ (c:=((os.length - 1:Nat):Int)) (by omega) (by omega)) rfl) ?_
  refine aM.v (ae.dX rfl rfl rfl rfl rfl JG Jw ((os.length - 1)) ⟨rfl,hlo⟩) ?_
  refine aM.v (ae.fM (a:=some ⟨bo,0,none⟩) (o:=((os.length - 1))*5) rfl rfl rfl rfl Jq rfl JC (((os.length - 1))*5+0) rfl) ?_
  refine aM.v (ae.ld rfl rfl rfl rfl JI (fun w _ hS=>Sl.kU (enc:=SV.cells) (sz:=5) (a:=some ⟨bo,0,none⟩) (Sl.di (hS.get (j:=2) rfl)) (fun _=>rfl) hlo rfl)) ?_
  refine mP Jv JM 2 ?_;refine xt JO 3 ?_;refine mP Jv JM 2 ?_;refine xt JO 3 ?_;refine HS JG ?_
  refine aM.v (ae.bin rfl rfl rfl rfl (iQ (c:=((ss.length - 1:Nat):Int)) (by omega) (by omega)) rfl) ?_
  refine aM.v (ae.ed rfl rfl rfl rfl rfl JG Jw ⟨_,(hB).at_⟩ (ax (enc:=SV.cells) (sz:=5) (fun _=>rfl)) (by decide) ((ss.length - 1)) ⟨rfl,hnl⟩) ?_
  skip
  refine aM.v (ae.fM rfl rfl rfl rfl Jq rfl JC (((ss.length - 1))*5+0) rfl) ?_
  refine aM.v (ae.ld rfl rfl rfl rfl JI (fun w _ hS=>Sl.kU (enc:=SV.cells) (sz:=5) ((hB).ay hS.ext).at_ (fun _=>rfl) hnl rfl)) ?_
  iterate 2 refine AT ?_
  refine aM.nil ?_
  refine gE (gS ?_)
  refine ab.jS (α:={z:Ws×List FV // fw 66 z.2 (fS af b L).2 z.1}) (fun _=>[(7,.pointer (some ⟨b25,0,none⟩))]) (fun z=>cm 73 48 (xE (fS af b L).2.bad) b25 z.1.1) (fun z=>?_) (fun K=>?_)
  obtain ⟨⟨s9,Γ9⟩,hW9⟩:=z
  dsimp only at hW9⊢
  · -- what comes behind
   refine gS (gS (gR ?_));refine ah ?_;refine ku ?_;refine al J0 Ji 1 ?_;refine aq Jj 0 ?_;refine aw gJ ?_;refine gE ?_
   refine gC (fun hc=>?_) fun hc=>?_
   ·
    have hb:(fS af b L).2.bad=true:=by
      cases hb:(fS af b L).2.bad with
      |true=>rfl
      |false=>rw [hb] at hc;simp at hc
    rw [if_pos hb] at hE
    have hE8:(if (fS af b L).2.bad=true then (8:Int) else 0)=8:=if_pos hb
    refine gS ?_
    refine ab.draw 6 mixed rfl ?_
    refine mO ?_;refine xq ?_;refine mP J0 Ji 1 ?_;refine xt Jj 0 ?_
    iterate 2 refine AT ?_
    refine aM.nil ?_
    refine gE ?_
    refine gT func20 fun w' hS=>?_
    exact ⟨hS.ext,_,[],by rw [hE,←hE8];rfl,hJ.nil,fun h=>absurd (hE ▸ h) (by decide),fun _=>rfl⟩
   have hb:(fS af b L).2.bad=false:=by
     cases hb:(fS af b L).2.bad with
     |false=>rfl
     |true=>rw [hb] at hc;simp at hc
   rw [if_neg (by rw [hb];simp)] at hE
   refine gK (gS (gR ?_));refine ah ?_;refine ku ?_;refine al J0 J9 0 ?_;refine aq isAgg31 0 ?_
   iterate 2 refine ai ?_
   refine gE ?_
   refine gT func20 fun w' hS=>?_
   exact ⟨hS.ext,_,s9.ls,by rw [hE];rfl,hW9.own (pre:=[]) hS,fun _=>hW9.BJ,fun h=>absurd hE h⟩
  · -- the first part
   refine gS (gR ?_)
   iterate 2 refine ah ?_
   refine aw Gd ?_;refine gE ?_
   refine gC (fun hc=>?_) fun hc=>?_
   ·
    have hne:¬sn=sm:=by rw [hsn,hsm];simpa using hc
    have hPW:fS af b L=aV af (dh b sm) [ln] σi:=by rw [hPWd,if_neg hne]
    rw [←hsm]
    refine ab.jL 14 (([(some b8,ob bK 3 (iL la) sp8),(some b1,.cells (bL l A b.length cA B ss.length cB) 25 (0,0))])) mixed ?_
    refine cV 0 (ae.mv rfl rfl rfl rfl) ?_
    refine cV 1 (ae.aG rfl rfl rfl rfl Jv rfl (by exact Js) 1 rfl) ?_
    refine cV 2 (ae.dw rfl rfl rfl rfl Jx 1 rfl rfl) ?_
    refine cV 3 (ae.mv rfl rfl rfl rfl) ?_
    refine cV 5 (ae.mv rfl rfl rfl rfl) ?_
    refine cV 6 (ae.mv rfl rfl rfl rfl) ?_
    refine cV 7 (ae.blt rfl rfl rfl (eX Jp) rfl) ?_
    refine cV 8 (ae.bin rfl rfl rfl rfl (iQ (c:=((la.length - 1:Nat):Int)) (by omega) (by omega)) rfl) ?_
    refine cV 9 (ae.dX rfl rfl rfl rfl rfl Jp Ji ((la.length - 1)) ⟨rfl,hla0⟩) ?_
    refine cV 10 (ae.qH bK 0 rfl rfl rfl rfl Jj 0 rfl hla0) ?_
    rw [hlai]
    refine aF.two (i:=4) (j:=11) rfl (dq.iH (pre:=[_,_,_,_]) (u:=dh b sm) hW rfl rfl rfl rfl rfl (fun _ _=>call48 _ _) (fun w Y' hS=>rE A cA b sm w (hA.ay hS.ext) hok.base hsmI) (fun y s3 hyf hyz hW3=>⟨(.cons_cons _ (.cons _ (.cons _ (.cons_cons _ (List.nil_sublist _))))),?_⟩)) rfl (dq.ew (c:=[_]) rfl rfl rfl rfl Jp Ji JE rfl rfl (fun b92=>⟨.cons _ (.cons_cons _ (.cons _ (.cons _ (.cons_cons _ (List.nil_sublist _))))),?_⟩)) rfl
    · -- operation 4 next
     refine aF.one (i:=11) rfl (dq.ew (c:=[_]) rfl rfl rfl rfl Jp Ji JE rfl rfl (fun b92=>⟨sL,?_⟩)) rfl
     refine aF.one (i:=12) rfl (dq.qt (ef:=xE) (pre:=[_,_,_,_,_]) (hR':=[(some b92,ob bK 3 (iL [ln]) [])]) hW3 (.cons_cons _ (List.nil_sublist _)) rfl rfl rfl rfl rfl (fun _ _=>JT _ _) (fun w Y' hS=>bE b25 _ σi y _ (some b92) [ln] 1 [] w (List.mem_cons_self ..) hyf hnoneO hyz (fun e=>by cases e) (fun h n hn=>by rw [List.mem_singleton.1 hn];exact hlnL h) (by simp)) (fun s4 Γ4 hW4 hg4=>⟨.cons _ (.cons_cons _ (.cons _ (.cons _ (.cons_cons _ (List.nil_sublist _))))),?_⟩)) rfl
     refine aF.done rfl ?_
     refine gE ?_
     exact K ⟨(s4,Γ4),by rw [hPW];exact hW4⟩ _ _ sF (fun _ _ hS=>by dsimp only;rw [hPW];exact hS.dN (List.sublist_append_right [_,_,_,_,_] _))
    · -- operation 11 next
     refine aF.one (i:=4) rfl (dq.iH (pre:=[_,_,_,_,_]) (u:=dh b sm) hW rfl rfl rfl rfl rfl (fun _ _=>call48 _ _) (fun w Y' hS=>rE A cA b sm w (hA.ay hS.ext) hok.base hsmI) (fun y s3 hyf hyz hW3=>⟨.cons _ (.cons_cons _ (.cons _ (.cons _ (.cons_cons _ (List.nil_sublist _))))),?_⟩)) rfl
     refine aF.one (i:=12) rfl (dq.qt (ef:=xE) (pre:=[_,_,_,_,_]) (hR':=[(some b92,ob bK 3 (iL [ln]) [])]) hW3 (.cons_cons _ (List.nil_sublist _)) rfl rfl rfl rfl rfl (fun _ _=>JT _ _) (fun w Y' hS=>bE b25 _ σi y _ (some b92) [ln] 1 [] w (List.mem_cons_self ..) hyf hnoneO hyz (fun e=>by cases e) (fun h n hn=>by rw [List.mem_singleton.1 hn];exact hlnL h) (by simp)) (fun s4 Γ4 hW4 hg4=>⟨.cons _ (.cons_cons _ (.cons _ (.cons _ (.cons_cons _ (List.nil_sublist _))))),?_⟩)) rfl
     refine aF.done rfl ?_
     refine gE ?_
     exact K ⟨(s4,Γ4),by rw [hPW];exact hW4⟩ _ _ sF (fun _ _ hS=>by dsimp only;rw [hPW];exact hS.dN (List.sublist_append_right [_,_,_,_,_] _))
   have he:sn=sm:=by rw [hsn,hsm];simpa using hc
   have hPW:fS af b L=(ln,σi):=by rw [hPWd,if_pos he]
   refine gK ?_
   exact K ⟨(s,Γ),by rw [hPW];exact hW⟩ _ _ sF (fun _ _ hS=>by dsimp only;rw [hPW];exact hS.dN (List.sublist_append_right [_,_,_,_] _))
end Go.Proofs.YtnfmegcknckahaaGreatDoor
namespace Go.Proofs.YtnfmegcknckahaaGreatDoor
open Go.RowKit Go.Proofs.Wit Tryz
theorem zN {P:Program} {t:TypeId} {a b:aB} {v:Bool} (h:(a==b)=v):kL P .eql t (U a) (U b) (.bool v):=h ▸ xk
set_option maxRecDepth 8000 in
set_option maxHeartbeats 1000000 in
theorem rv (w:World) (hT:EP w):Cn Tryz.prog 10 [] w (fun v _=>v=.bool true):=by
  refine Cn.of func10 rfl rfl ?_
  refine gS (gR ?_);refine ai ?_;refine gE (gS (gR ?_))
  refine gM rfl rfl rfl rfl rfl call31 (fun w _ hS=>(by exact zf 0 w)) ?_
  rintro v w1 w2 Y' hS he ho
  rw [D4] at ho
  obtain ⟨qp,cp,sp,rfl,hqp,hcp,hS'⟩:=ak hS he ho
  refine ⟨_,hS',?_⟩
  refine ai ?_;refine gE (gS (gR ?_));refine ah ?_
  refine gM rfl rfl rfl rfl rfl JK (fun w _ hS=>(by exact iW 0 (by decide) ⟨(qp.map (fun b=>⟨b,0,none⟩)),cp,bT pT⟩ pT w (aL hS 0 rfl (fun e=>(hqp e).1)) rfl dW)) ?_
  rintro v w1 w2 Y' hS he ho
  obtain ⟨qk,ck,sk,rfl,hqk,hck,hS'⟩:=ak hS he ho
  refine ⟨_,hS',?_⟩
  refine ai ?_;refine gE (gS (gR ?_));refine ah ?_
  refine gM rfl rfl rfl rfl rfl call15 (fun w _ hS=>(by exact kZ ⟨(qp.map (fun b=>⟨b,0,none⟩)),cp,bT pT⟩ w (aL hS 1 rfl (fun e=>(hqp e).1)) (gm (t:=pT)))) ?_
  rintro v w1 w2 Y' hS he ⟨sv,la,rfl,⟨qa,ca,sa,Ha,rfl,hqa,hca,hna,hia⟩,hda,_⟩
  have hda:=(hda DB.1).trans DB.2
  have hla:=congrArg List.length hda
  simp only [List.length_map] at hla
  refine ⟨_,hS.fi (pre:=[_]) he hna,?_⟩
  rw [DB.1]
  refine ah ?_
  iterate 2 refine fZ ?_
  iterate 2 refine ai ?_
  refine gE (gS (gR ?_));refine ah ?_
  refine gM rfl rfl rfl rfl rfl call15 (fun w _ hS=>(by exact kZ ⟨(qk.map (fun b=>⟨b,0,none⟩)),ck,bT (ar 0 pT)⟩ w (aL hS 1 rfl (fun e=>(hqk e).1)) (gm (t:=ar 0 pT)))) ?_
  rintro v w1 w2 Y' hS he ⟨sv,lb,rfl,⟨qb,cb,sb,Hb,rfl,hqb,hcb,hnb,hib⟩,hdb,_⟩
  have hdb:=(hdb wS.1).trans wS.2
  have hlb:=congrArg List.length hdb
  simp only [List.length_map] at hlb
  refine ⟨_,hS.fi (pre:=[_]) he hnb,?_⟩
  rw [wS.1]
  refine ah ?_
  iterate 2 refine fZ ?_
  iterate 2 refine ai ?_
  refine gE (gS (gR ?_))
  refine gM rfl rfl rfl rfl rfl call33 (fun w _ hS=>(by exact vk w)) ?_
  rintro v w1 w2 Y' hS he ⟨t1,⟨qn1,qo1,cn1,co1,sn1,so1,H1,rfl,hqn1,hqo1,hn1,hi1⟩,hd1⟩
  refine ⟨_,hS.fi (pre:=[_,_]) he hn1,?_⟩
  have hl1:t1.length≤maxLen:=by have:=congrArg List.length hd1;simp only [List.length_map] at this;rw [this];decide
  have hlB:gL.length≤maxLen:=by decide
  refine gM rfl rfl rfl rfl rfl call20 (fun w _ hS=>(by exact sN 2 (qn1.map (fun b=>⟨b,0,none⟩)) cn1 gL (qo1.map (fun b=>⟨b,0,none⟩)) co1 t1 w (aL hS 0 rfl hqn1) (Ch hS 1 rfl hqo1 (fun x hx=>⟨(hi1 x hx).1.mono (fun z hz=>by simp [hz]),(hi1 x hx).2⟩)) hlB hl1)) ?_
  rintro v w1 w2 Y' hS he ⟨sv,lc,rfl,⟨qc,cc,sc,Hc,rfl,hqc,hcc,hnc,hic⟩,hdc,_⟩
  have hdc:=(hdc (by rw [hd1];exact Dc.1)).trans (show EE gL (ec t1)=EH.map (fun x=>x.v.d) by rw [hd1];exact Dc.2)
  have hlc:=congrArg List.length hdc
  simp only [List.length_map] at hlc
  refine ⟨_,hS.fi (pre:=[_]) he hnc,?_⟩
  rw [hd1,Dc.1]
  refine ah ?_
  iterate 2 refine fZ ?_
  iterate 2 refine ai ?_
  refine gE (gS (gR ?_))
  refine gM rfl rfl rfl rfl rfl call33 (fun w _ hS=>(by exact vk w)) ?_
  rintro v w1 w2 Y' hS he ⟨t2,⟨qn2,qo2,cn2,co2,sn2,so2,H2,rfl,hqn2,hqo2,hn2,hi2⟩,hd2⟩
  refine ⟨_,hS.fi (pre:=[_,_]) he hn2,?_⟩
  have hl2:t2.length≤maxLen:=by have:=congrArg List.length hd2;simp only [List.length_map] at this;rw [this];decide
  refine gM rfl rfl rfl rfl rfl call12 (fun w _ hS=>(by exact Aj 2 (qn2.map (fun b=>⟨b,0,none⟩)) cn2 gL (qo2.map (fun b=>⟨b,0,none⟩)) co2 t2 w (aL hS 0 rfl hqn2) (Ch hS 1 rfl hqo2 (fun x hx=>⟨(hi2 x hx).1.mono (fun z hz=>by simp [hz]),(hi2 x hx).2⟩)) hlB hl2)) ?_
  rintro v w1 w2 Y' hS he ⟨v1,rfl,hd,_⟩
  rw [hd2] at hd
  obtain ⟨t3,⟨qn3,qo3,cn3,co3,sn3,so3,H3,rfl,hqn3,hqo3,hn3,hi3⟩,hd3⟩:=hd (iw.2 vm)
  rw [pw] at hd3
  have hl3:=congrArg List.length hd3
  simp only [List.length_map] at hl3
  obtain ⟨bo3,rfl⟩:∃b,qo3=some b:=by
    cases qo3 with
    |none=>have:=hqo3 rfl;rw [hl3] at this;cases this
    |some b=>exact ⟨b,rfl⟩
  refine ⟨_,hS.fi (pre:=[_,_]) he hn3,?_⟩
  rw [hd2,show nH 2 gL dD=0 from iw.2 vm]
  refine ah ?_
  iterate 2 refine fZ ?_
  refine ab.eO rfl rfl rfl (fun _=>Kb _) (fun b9=>?_)
  refine ab.dF rfl rfl rfl rfl Jz 0 rfl rfl rfl rfl ?_
  refine ai ?_;refine gE (gS (gR ?_));refine ah ?_
  refine gM rfl rfl rfl rfl rfl call17 (fun w _ hS=>(by exact wk ⟨(qk.map (fun b=>⟨b,0,none⟩)),ck,bT (ar 0 pT)⟩ w (aL hS 10 rfl (fun e=>(hqk e).1)) (gm (t:=ar 0 pT)))) ?_
  rintro v w1 w2 Y' hS he ⟨sv,lx,rfl,⟨qx,cx,sx,Hx,rfl,hqx,hcx,hnx,hix⟩,hdx,_⟩
  have hdx:=(hdx wS.1).trans wS.2
  have hlx:=congrArg List.length hdx
  simp only [List.length_map] at hlx
  refine ⟨_,hS.fi (pre:=[_]) he hnx,?_⟩
  rw [wS.1]
  refine ah ?_
  iterate 2 refine fZ ?_
  iterate 2 refine ai ?_
  refine gE (gS (gS (gR ?_)));refine ah ?_
  refine db rfl rfl rfl rfl (oS (v:=false) rfl) ?_
  iterate 2 refine ah ?_
  refine db rfl rfl rfl rfl (oS (v:=false) rfl) ?_
  refine bB ?_
  iterate 2 refine ah ?_
  refine db rfl rfl rfl rfl (oS (v:=false) rfl) ?_
  refine bB ?_
  iterate 2 refine ah ?_
  refine db rfl rfl rfl rfl (oS (v:=false) rfl) ?_
  refine bB ?_
  iterate 2 refine ah ?_
  refine db rfl rfl rfl rfl (oS (v:=false) rfl) ?_
  refine bB ?_
  iterate 2 refine ah ?_
  refine dM JQ ?_
  refine db rfl rfl rfl rfl (oS (v:=false) (by rw [hla];rfl)) ?_
  refine bB ?_
  iterate 2 refine ah ?_
  refine dM JQ ?_
  refine db rfl rfl rfl rfl (oS (v:=false) (by rw [hlb];rfl)) ?_
  refine bB ?_
  iterate 2 refine ah ?_
  refine dM JQ ?_
  refine db rfl rfl rfl rfl (oS (v:=false) (by rw [hlc];rfl)) ?_
  refine bB ?_
  iterate 2 refine ah ?_
  refine dM JQ ?_
  refine db rfl rfl rfl rfl (oS (v:=false) (by rw [hlx];rfl)) ?_
  refine bB ?_;refine ah ?_;refine al Jv JM 2 ?_;refine aq JO 1 ?_;refine dM JG ?_
  refine db rfl rfl rfl rfl (oS (v:=false) (by rw [hl3];rfl)) ?_
  refine bB ?_;refine gE (ab.gD rfl (gK (gS ?_)))
  obtain ⟨ba,rfl⟩:∃b,qa=some b:=by
    cases qa with
    |none=>have:=(hqa rfl).1;rw [hla] at this;cases this
    |some b=>exact ⟨b,rfl⟩
  obtain ⟨bb,rfl⟩:∃b,qb=some b:=by
    cases qb with
    |none=>have:=(hqb rfl).1;rw [hlb] at this;cases this
    |some b=>exact ⟨b,rfl⟩
  obtain ⟨bc,rfl⟩:∃b,qc=some b:=by
    cases qc with
    |none=>have:=(hqc rfl).1;rw [hlc] at this;cases this
    |some b=>exact ⟨b,rfl⟩
  obtain ⟨bx,rfl⟩:∃b,qx=some b:=by
    cases qx with
    |none=>have:=(hqx rfl).1;rw [hlx] at this;cases this
    |some b=>exact ⟨b,rfl⟩
  obtain ⟨HR,hHR⟩:∃HR,HR=(((((Ha++Hb)++H1)++Hc)++H2)++H3)++Hx:=⟨_,rfl⟩
  have mA:∀z∈Ha,z∈HR:=fun z hz=>by rw [hHR];simp [hz]
  have mB:∀z∈Hb,z∈HR:=fun z hz=>by rw [hHR];simp [hz]
  have mC:∀z∈Hc,z∈HR:=fun z hz=>by rw [hHR];simp [hz]
  have mX:∀z∈Hx,z∈HR:=fun z hz=>by rw [hHR];simp [hz]
  refine ab.jS (α:=Unit) (fun _=>[(1,cQ qp (bT pT).length cp),(2,cQ qk (bT (ar 0 pT)).length ck),(3,cQ (some ba) la.length ca),(5,cQ (some bb) lb.length cb),(7,cQ (some bc) lc.length cc),(11,cQ (some bx) lx.length cx),(9,.pointer (some ⟨b9,0,none⟩)),(14,.int .i64 10)]) (fun _=>[(some b9,.cells (bL 2 (qn3.map (fun b=>⟨b,0,none⟩)) gL.length cn3 ((some bo3).map (fun b=>⟨b,0,none⟩)) t3.length co3) 25 (0,0)),(some bo3,l8 41 t3 so3),(some ba,xv 48 la sa),(some bb,xv 48 lb sb),(some bc,xv 48 lc sc),(some bx,xv 48 lx sx),(qp,eW 66 (bT pT) sp),(qk,eW 66 (bT (ar 0 pT)) sk)]++HR) (fun _=>?_) (fun K=>?_)
  · -- what comes behind
   refine gS ?_
   refine ab.dS 79 mixed ?_
   have hka:0<la.length:=by rw [hla];decide
   have hfa:(la[0]'hka).f.f=bT (aE (jA pT (aE pT))):=tR hda hka (by decide)
   refine cV 0 (ae.mv rfl rfl rfl rfl) ?_
   refine cV 1 (ae.dX rfl rfl rfl rfl rfl JQ J2 (0) ⟨rfl,hka⟩) ?_
   refine cV 2 (ae.fM (a:=some ⟨ba,0,none⟩) (o:=(0)*5) rfl rfl rfl rfl JH rfl Js ((0)*5+0) rfl) ?_
   refine cV 3 (ae.ld rfl rfl rfl rfl Jx (fun w _ hS=>Sl.kU (enc:=LV.cells) (sz:=5) (a:=some ⟨ba,0,none⟩) (Sl.di (hS.get (j:=2) rfl)) (fun _=>rfl) hka rfl)) ?_
   refine cV 4 (ae.mv rfl rfl rfl rfl) ?_
   refine cV 5 (ae.mv rfl rfl rfl rfl) ?_
   refine aF.call (i:=6) _ rfl rfl rfl rfl rfl rfl (fun _ _=>JJ _ _) (fun w _ hS=>(by exact fL ⟨(qp.map (fun b=>⟨b,0,none⟩)),cp,bT pT⟩ pT w (aL hS 6 rfl (fun e=>(hqp e).1)) rfl dW)) ?_
   rintro v w1 w2 Y' hS he ho
   obtain ⟨q1,c1,s1,rfl,hq1,hc1,hS'⟩:=ak hS he ho
   refine ⟨_,hS',sM,?_⟩
   refine aF.call (i:=7) _ rfl rfl rfl rfl rfl rfl (fun _ _=>call27 _ _) (fun w _ hS=>(by exact pW ⟨(qp.map (fun b=>⟨b,0,none⟩)),cp,bT pT⟩ ⟨(q1.map (fun b=>⟨b,0,none⟩)),c1,bT (aE pT)⟩ pT (aE pT) w (aL hS 7 rfl (fun e=>(hqp e).1)) rfl dW (aL hS 0 rfl (fun e=>(hq1 e).1)) rfl (bA dW))) ?_
   rintro v w1 w2 Y' hS he ho
   obtain ⟨q2,c2,s2,rfl,hq2,hc2,hS'⟩:=ak hS he ho
   refine ⟨_,hS',sM,?_⟩
   refine aF.call (i:=8) _ rfl rfl rfl rfl rfl rfl (fun _ _=>JJ _ _) (fun w _ hS=>(by exact fL ⟨(q2.map (fun b=>⟨b,0,none⟩)),c2,bT (jA pT (aE pT))⟩ (jA pT (aE pT)) w (aL hS 0 rfl (fun e=>(hq2 e).1)) rfl (gp dW (bA dW)))) ?_
   rintro v w1 w2 Y' hS he ho
   obtain ⟨q3,c3,s3,rfl,hq3,hc3,hS'⟩:=ak hS he ho
   refine ⟨_,hS',sM,?_⟩
   refine aF.cR (i:=9) rfl rfl rfl rfl rfl rfl (fun _ _=>call26 _ _) (fun w _ hS=>(by have:=dY (la[0]'hka).f.a (la[0]'hka).f.c (la[0]'hka).f.f (q3.map (fun b=>⟨b,0,none⟩)) c3 (bT (aE (jA pT (aE pT)))) w (((hia _ (List.getElem_mem hka)).1.mono (fun z hz=>by simp [mA z hz])).at hS) (aL hS 0 rfl (fun e=>(hq3 e).1)) (hia _ (List.getElem_mem hka)).2 gm;rw [show jh (la[0]'hka).f.f (bT (aE (jA pT (aE pT))))=true from by rw [hfa,dt (Cf.yt (bA (gp dW (bA dW))) (by decide+kernel)) (bA (gp dW (bA dW))),decide_eq_true rfl]] at this;exact this)) sL ?_
   have hkb:9<lb.length:=by rw [hlb];decide
   have hfb:(lb[9]'hkb).f.f=bT (aE (jA (ar 0 pT) (gl 0 (aE pT)))):=tR hdb hkb (by decide)
   refine cV 10 (ae.mv rfl rfl rfl rfl) ?_
   refine cV 11 (ae.mv rfl rfl rfl rfl) ?_
   refine cV 12 (ae.dX rfl rfl rfl rfl rfl JQ J2 (9) ⟨rfl,hkb⟩) ?_
   refine cV 13 (ae.fM (a:=some ⟨bb,0,none⟩) (o:=(9)*5) rfl rfl rfl rfl JH rfl Js ((9)*5+0) rfl) ?_
   refine cV 14 (ae.ld rfl rfl rfl rfl Jx (fun w _ hS=>Sl.kU (enc:=LV.cells) (sz:=5) (a:=some ⟨bb,0,none⟩) (Sl.di (hS.get (j:=3) rfl)) (fun _=>rfl) hkb rfl)) ?_
   refine cV 15 (ae.mv rfl rfl rfl rfl) ?_
   refine cV 16 (ae.mv rfl rfl rfl rfl) ?_
   refine aF.call (i:=17) _ rfl rfl rfl rfl rfl rfl (fun _ _=>JJ _ _) (fun w _ hS=>(by exact fL ⟨(qp.map (fun b=>⟨b,0,none⟩)),cp,bT pT⟩ pT w (aL hS 9 rfl (fun e=>(hqp e).1)) rfl dW)) ?_
   rintro v w1 w2 Y' hS he ho
   obtain ⟨q4,c4,s4,rfl,hq4,hc4,hS'⟩:=ak hS he ho
   refine ⟨_,hS',sM,?_⟩
   refine aF.call (i:=18) _ rfl rfl rfl rfl rfl rfl (fun _ _=>call35 _ _) (fun w _ hS=>(by exact rC 0 (by decide) ⟨(q4.map (fun b=>⟨b,0,none⟩)),c4,bT (aE pT)⟩ (aE pT) w (aL hS 0 rfl (fun e=>(hq4 e).1)) rfl (bA dW))) ?_
   rintro v w1 w2 Y' hS he ho
   obtain ⟨q5,c5,s5,rfl,hq5,hc5,hS'⟩:=ak hS he ho
   refine ⟨_,hS',sM,?_⟩
   refine aF.call (i:=19) _ rfl rfl rfl rfl rfl rfl (fun _ _=>call27 _ _) (fun w _ hS=>(by exact pW ⟨(qk.map (fun b=>⟨b,0,none⟩)),ck,bT (ar 0 pT)⟩ ⟨(q5.map (fun b=>⟨b,0,none⟩)),c5,bT (gl 0 (aE pT))⟩ (ar 0 pT) (gl 0 (aE pT)) w (aL hS 12 rfl (fun e=>(hqk e).1)) rfl oO (aL hS 0 rfl (fun e=>(hq5 e).1)) rfl (gX (.inr rfl) (by decide) (bA dW)))) ?_
   rintro v w1 w2 Y' hS he ho
   obtain ⟨q6,c6,s6,rfl,hq6,hc6,hS'⟩:=ak hS he ho
   refine ⟨_,hS',sM,?_⟩
   refine aF.call (i:=20) _ rfl rfl rfl rfl rfl rfl (fun _ _=>JJ _ _) (fun w _ hS=>(by exact fL ⟨(q6.map (fun b=>⟨b,0,none⟩)),c6,bT (jA (ar 0 pT) (gl 0 (aE pT)))⟩ (jA (ar 0 pT) (gl 0 (aE pT))) w (aL hS 0 rfl (fun e=>(hq6 e).1)) rfl (gp oO (gX (.inr rfl) (by decide) (bA dW))))) ?_
   rintro v w1 w2 Y' hS he ho
   obtain ⟨q7,c7,s7,rfl,hq7,hc7,hS'⟩:=ak hS he ho
   refine ⟨_,hS',sM,?_⟩
   refine aF.cR (i:=21) rfl rfl rfl rfl rfl rfl (fun _ _=>call26 _ _) (fun w _ hS=>(by have:=dY (lb[9]'hkb).f.a (lb[9]'hkb).f.c (lb[9]'hkb).f.f (q7.map (fun b=>⟨b,0,none⟩)) c7 (bT (aE (jA (ar 0 pT) (gl 0 (aE pT))))) w (((hib _ (List.getElem_mem hkb)).1.mono (fun z hz=>by simp [mB z hz])).at hS) (aL hS 0 rfl (fun e=>(hq7 e).1)) (hib _ (List.getElem_mem hkb)).2 gm;rw [show jh (lb[9]'hkb).f.f (bT (aE (jA (ar 0 pT) (gl 0 (aE pT)))))=true from by rw [hfb,dt (Cf.yt (bA (gp oO (gX (.inr rfl) (by decide) (bA dW)))) (by decide+kernel)) (bA (gp oO (gX (.inr rfl) (by decide) (bA dW)))),decide_eq_true rfl]] at this;exact this)) sL ?_
   have hkc:6<lc.length:=by rw [hlc];decide
   have hfc:(lc[6]'hkc).f.f=bT (aE (jA (aE pT) (ar 0 pT))):=tR hdc hkc (by decide)
   refine cV 22 (ae.aS rfl rfl rfl rfl rfl) ?_
   refine cV 23 (ae.mv rfl rfl rfl rfl) ?_
   refine cV 24 (ae.mv rfl rfl rfl rfl) ?_
   refine cV 25 (ae.dX rfl rfl rfl rfl rfl JQ J2 (6) ⟨rfl,hkc⟩) ?_
   refine cV 26 (ae.fM (a:=some ⟨bc,0,none⟩) (o:=(6)*5) rfl rfl rfl rfl JH rfl Js ((6)*5+0) rfl) ?_
   refine cV 27 (ae.ld rfl rfl rfl rfl Jx (fun w _ hS=>Sl.kU (enc:=LV.cells) (sz:=5) (a:=some ⟨bc,0,none⟩) (Sl.di (hS.get (j:=4) rfl)) (fun _=>rfl) hkc rfl)) ?_
   refine cV 28 (ae.mv rfl rfl rfl rfl) ?_
   refine cV 30 (ae.mv rfl rfl rfl rfl) ?_
   refine aF.call (i:=29) _ rfl rfl rfl rfl rfl rfl (fun _ _=>JJ _ _) (fun w _ hS=>(by exact fL ⟨(qp.map (fun b=>⟨b,0,none⟩)),cp,bT pT⟩ pT w (aL hS 13 rfl (fun e=>(hqp e).1)) rfl dW)) ?_
   rintro v w1 w2 Y' hS he ho
   obtain ⟨q8,c8,s8,rfl,hq8,hc8,hS'⟩:=ak hS he ho
   refine ⟨_,hS',sM,?_⟩
   refine aF.call (i:=31) _ rfl rfl rfl rfl rfl rfl (fun _ _=>call27 _ _) (fun w _ hS=>(by exact pW ⟨(q8.map (fun b=>⟨b,0,none⟩)),c8,bT (aE pT)⟩ ⟨(qk.map (fun b=>⟨b,0,none⟩)),ck,bT (ar 0 pT)⟩ (aE pT) (ar 0 pT) w (aL hS 0 rfl (fun e=>(hq8 e).1)) rfl (bA dW) (aL hS 15 rfl (fun e=>(hqk e).1)) rfl oO)) ?_
   rintro v w1 w2 Y' hS he ho
   obtain ⟨q9,c9,s9,rfl,hq9,hc9,hS'⟩:=ak hS he ho
   refine ⟨_,hS',sM,?_⟩
   refine aF.call (i:=32) _ rfl rfl rfl rfl rfl rfl (fun _ _=>JJ _ _) (fun w _ hS=>(by exact fL ⟨(q9.map (fun b=>⟨b,0,none⟩)),c9,bT (jA (aE pT) (ar 0 pT))⟩ (jA (aE pT) (ar 0 pT)) w (aL hS 0 rfl (fun e=>(hq9 e).1)) rfl (gp (bA dW) oO))) ?_
   rintro v w1 w2 Y' hS he ho
   obtain ⟨q10,c10,s10,rfl,hq10,hc10,hS'⟩:=ak hS he ho
   refine ⟨_,hS',sM,?_⟩
   refine aF.cR (i:=33) rfl rfl rfl rfl rfl rfl (fun _ _=>call26 _ _) (fun w _ hS=>(by have:=dY (lc[6]'hkc).f.a (lc[6]'hkc).f.c (lc[6]'hkc).f.f (q10.map (fun b=>⟨b,0,none⟩)) c10 (bT (aE (jA (aE pT) (ar 0 pT)))) w (((hic _ (List.getElem_mem hkc)).1.mono (fun z hz=>by simp [mC z hz])).at hS) (aL hS 0 rfl (fun e=>(hq10 e).1)) (hic _ (List.getElem_mem hkc)).2 gm;rw [show jh (lc[6]'hkc).f.f (bT (aE (jA (aE pT) (ar 0 pT))))=true from by rw [hfc,dt (Cf.yt (bA (gp (bA dW) oO)) (by decide+kernel)) (bA (gp (bA dW) oO)),decide_eq_true rfl]] at this;exact this)) sL ?_
   have hkx:9<lx.length:=by rw [hlx];decide
   have hfx:(lx[9]'hkx).f.f=bT (.bin 6 0 0 0 (ar 0 pT) (gl 0 (aE pT))):=tR hdx hkx (by decide)
   refine cV 34 (ae.aS rfl rfl rfl rfl rfl) ?_
   refine cV 35 (ae.mv rfl rfl rfl rfl) ?_
   refine cV 36 (ae.mv rfl rfl rfl rfl) ?_
   refine cV 37 (ae.dX rfl rfl rfl rfl rfl JQ J2 (9) ⟨rfl,hkx⟩) ?_
   refine cV 38 (ae.fM (a:=some ⟨bx,0,none⟩) (o:=(9)*5) rfl rfl rfl rfl JH rfl Js ((9)*5+0) rfl) ?_
   refine cV 39 (ae.ld rfl rfl rfl rfl Jx (fun w _ hS=>Sl.kU (enc:=LV.cells) (sz:=5) (a:=some ⟨bx,0,none⟩) (Sl.di (hS.get (j:=5) rfl)) (fun _=>rfl) hkx rfl)) ?_
   refine cV 40 (ae.mv rfl rfl rfl rfl) ?_
   refine cV 41 (ae.mv rfl rfl rfl rfl) ?_
   refine aF.call (i:=42) _ rfl rfl rfl rfl rfl rfl (fun _ _=>JJ _ _) (fun w _ hS=>(by exact fL ⟨(qp.map (fun b=>⟨b,0,none⟩)),cp,bT pT⟩ pT w (aL hS 16 rfl (fun e=>(hqp e).1)) rfl dW)) ?_
   rintro v w1 w2 Y' hS he ho
   obtain ⟨q11,c11,s11,rfl,hq11,hc11,hS'⟩:=ak hS he ho
   refine ⟨_,hS',sM,?_⟩
   refine aF.call (i:=43) _ rfl rfl rfl rfl rfl rfl (fun _ _=>call35 _ _) (fun w _ hS=>(by exact rC 0 (by decide) ⟨(q11.map (fun b=>⟨b,0,none⟩)),c11,bT (aE pT)⟩ (aE pT) w (aL hS 0 rfl (fun e=>(hq11 e).1)) rfl (bA dW))) ?_
   rintro v w1 w2 Y' hS he ho
   obtain ⟨q12,c12,s12,rfl,hq12,hc12,hS'⟩:=ak hS he ho
   refine ⟨_,hS',sM,?_⟩
   refine aF.call (i:=44) _ rfl rfl rfl rfl rfl rfl (fun _ _=>call28 _ _) (fun w _ hS=>(by exact Cd ⟨(qk.map (fun b=>⟨b,0,none⟩)),ck,bT (ar 0 pT)⟩ ⟨(q12.map (fun b=>⟨b,0,none⟩)),c12,bT (gl 0 (aE pT))⟩ (ar 0 pT) (gl 0 (aE pT)) w (aL hS 19 rfl (fun e=>(hqk e).1)) rfl oO (aL hS 0 rfl (fun e=>(hq12 e).1)) rfl (gX (.inr rfl) (by decide) (bA dW)))) ?_
   rintro v w1 w2 Y' hS he ⟨ho,_⟩
   obtain ⟨q13,c13,s13,rfl,hq13,hc13,hS'⟩:=ak hS he ho
   refine ⟨_,hS',sM,?_⟩
   refine aF.cR (i:=45) rfl rfl rfl rfl rfl rfl (fun _ _=>call26 _ _) (fun w _ hS=>(by have:=dY (lx[9]'hkx).f.a (lx[9]'hkx).f.c (lx[9]'hkx).f.f (q13.map (fun b=>⟨b,0,none⟩)) c13 (bT (.bin 6 0 0 0 (ar 0 pT) (gl 0 (aE pT)))) w (((hix _ (List.getElem_mem hkx)).1.mono (fun z hz=>by simp [mX z hz])).at hS) (aL hS 0 rfl (fun e=>(hq13 e).1)) (hix _ (List.getElem_mem hkx)).2 gm;rw [show jh (lx[9]'hkx).f.f (bT (.bin 6 0 0 0 (ar 0 pT) (gl 0 (aE pT))))=true from by rw [hfx,dt (Cf.yt (jI oO (gX (.inr rfl) (by decide) (bA dW))) (by decide+kernel)) (jI oO (gX (.inr rfl) (by decide) (bA dW))),decide_eq_true rfl]] at this;exact this)) sL ?_
   have ht0:0<t3.length:=by rw [hl3];decide
   have hs0:(t3[0]'ht0).d.set=3#64:=by have:=congrArg (fun x=>x[0]?) hd3;simp only [List.getElem?_map,List.getElem?_eq_getElem ht0,Option.map_some] at this;exact congrArg SD.set (Option.some.inj this)
   refine cV 46 (ae.aS rfl rfl rfl rfl rfl) ?_
   refine cV 47 (ae.mv rfl rfl rfl rfl) ?_
   refine cV 48 (ae.aG rfl rfl rfl rfl Jv rfl (by exact JM) 2 rfl) ?_
   refine cV 49 (ae.dw rfl rfl rfl rfl JO 0 rfl rfl) ?_
   refine cV 50 (ae.dX rfl rfl rfl rfl rfl JG Jw (0) ⟨rfl,ht0⟩) ?_
   refine cV 51 (ae.fM (a:=some ⟨bo3,0,none⟩) (o:=(0)*5) rfl rfl rfl rfl Jq rfl JC ((0)*5+0) rfl) ?_
   refine cV 52 (ae.ld rfl rfl rfl rfl JI (fun w _ hS=>Sl.kU (enc:=SV.cells) (sz:=5) (a:=some ⟨bo3,0,none⟩) (Sl.di (hS.get (j:=1) rfl)) (fun _=>rfl) ht0 rfl)) ?_
   refine cV 53 (ae.bin (b:=U 3#64) rfl rfl rfl rfl (zN (v:=true) (by rw [hs0];rfl)) rfl) ?_
   have ht1:1<t3.length:=by rw [hl3];decide
   have hs1:(t3[1]'ht1).d.set=6#64:=by have:=congrArg (fun x=>x[1]?) hd3;simp only [List.getElem?_map,List.getElem?_eq_getElem ht1,Option.map_some] at this;exact congrArg SD.set (Option.some.inj this)
   refine cV 54 (ae.aS rfl rfl rfl rfl rfl) ?_
   refine cV 55 (ae.mv rfl rfl rfl rfl) ?_
   refine cV 56 (ae.aG rfl rfl rfl rfl Jv rfl (by exact JM) 2 rfl) ?_
   refine cV 57 (ae.dw rfl rfl rfl rfl JO 0 rfl rfl) ?_
   refine cV 58 (ae.dX rfl rfl rfl rfl rfl JG Jw (1) ⟨rfl,ht1⟩) ?_
   refine cV 59 (ae.fM (a:=some ⟨bo3,0,none⟩) (o:=(1)*5) rfl rfl rfl rfl Jq rfl JC ((1)*5+0) rfl) ?_
   refine cV 60 (ae.ld rfl rfl rfl rfl JI (fun w _ hS=>Sl.kU (enc:=SV.cells) (sz:=5) (a:=some ⟨bo3,0,none⟩) (Sl.di (hS.get (j:=1) rfl)) (fun _=>rfl) ht1 rfl)) ?_
   refine cV 61 (ae.bin (b:=U 6#64) rfl rfl rfl rfl (zN (v:=true) (by rw [hs1];rfl)) rfl) ?_
   refine cV 62 (ae.aS rfl rfl rfl rfl rfl) ?_
   refine cV 63 (ae.mv rfl rfl rfl rfl) ?_
   refine cV 64 (ae.mv rfl rfl rfl rfl) ?_
   refine cV 65 (ae.bin rfl rfl rfl rfl (zM (v:=true) rfl) rfl) ?_
   refine cV 66 (ae.aS rfl rfl rfl rfl rfl) ?_
   refine cV 67 (ae.mv rfl rfl rfl rfl) ?_
   refine cV 68 (ae.mv rfl rfl rfl rfl) ?_
   refine aF.cR (i:=69) rfl rfl rfl rfl rfl rfl (fun _ _=>call25 _ _) (fun w _ hS=>(by have:=pV 2 (some ⟨bc,0,none⟩) cc lc w (yQ hS 17 rfl (fun e=>by cases e) (fun x hx=>⟨(hic x hx).1.mono (fun z hz=>by simp [mC z hz]),(hic x hx).2⟩)) (hT.ex hS.ext);rw [FX hdc] at this;exact this)) sL ?_
   refine cV 70 (ae.bin rfl rfl rfl rfl (zM (v:=true) rfl) rfl) ?_
   refine cV 71 (ae.aS rfl rfl rfl rfl rfl) ?_
   refine cV 72 (ae.mv rfl rfl rfl rfl) ?_
   refine cV 73 (ae.mv rfl rfl rfl rfl) ?_
   refine aF.cR (i:=74) rfl rfl rfl rfl rfl rfl (fun _ _=>call25 _ _) (fun w _ hS=>(by have:=pV 0 (some ⟨bb,0,none⟩) cb lb w (yQ hS 16 rfl (fun e=>by cases e) (fun x hx=>⟨(hib x hx).1.mono (fun z hz=>by simp [mB z hz]),(hib x hx).2⟩)) (hT.ex hS.ext);rw [FY hdb] at this;exact this)) sL ?_
   refine cV 75 (ae.bin rfl rfl rfl rfl (zM (v:=true) rfl) rfl) ?_
   refine cV 76 (ae.aS rfl rfl rfl rfl rfl) ?_
   refine cV 77 (ae.fD rfl rfl rfl rfl) ?_
   refine aF.done rfl ?_
   refine gE ?_
   refine gT func10 fun w' hS=>?_
   exact ⟨hS.ext,rfl⟩
  · -- the first part
   refine gR ?_
   iterate 2 refine ah ?_
   refine gM rfl rfl rfl rfl rfl JL (fun w _ hS=>(by exact jo ⟨(qp.map (fun b=>⟨b,0,none⟩)),cp,bT pT⟩ ⟨(qp.map (fun b=>⟨b,0,none⟩)),cp,bT pT⟩ pT pT w (aL hS 12 rfl (fun e=>(hqp e).1)) rfl dW (aL hS 12 rfl (fun e=>(hqp e).1)) rfl dW)) ?_
   rintro v w1 w2 Y' hS he ho
   obtain ⟨qi,ci,si,rfl,hqi,hci,hS'⟩:=ak hS he ho
   refine ⟨_,hS',?_⟩
   refine gM rfl rfl rfl rfl rfl call15 (fun w _ hS=>(by exact kZ ⟨(qi.map (fun b=>⟨b,0,none⟩)),ci,bT (aP pT pT)⟩ w (aL hS 0 rfl (fun e=>(hqi e).1)) (gm (t:=aP pT pT)))) ?_
   rintro v w1 w2 Y' hS he ⟨sv,lj,rfl,⟨qj,cj,sj,Hj,rfl,hqj,hcj,hnj,hij⟩,_,_⟩
   refine ⟨_,hS.fi (pre:=[_]) he hnj,?_⟩
   rw [Fz]
   refine ah ?_
   iterate 2 refine fZ ?_
   iterate 2 refine ai ?_
   refine gE ?_
   exact K () _ _ sF (fun _ _ hS=>by rw [hHR];exact (hS.aS (pre:=[_,_,_,_,_,_,_,_,_,_,_,_,_,_,_]) (pre':=[_,_,_,_,_,_,_,_]) (HR:=((((((Ha++Hb)++H1)++Hc)++H2)++H3)++Hx)++Hj) [3,5,12,11,8,2,14,13] (by decide) rfl).dN (List.Sublist.append (List.Sublist.refl _) (List.sublist_append_left _ _)))
end Go.Proofs.YtnfmegcknckahaaGreatDoor
namespace Go.Proofs.YtnfmegcknckahaaGreatDoor
open Go.RowKit Go.Proofs.Wit Tryz
theorem BB {b:List NV} {ss:List SV} (h:qN b ss):b.length≤maxLen∧ss.length≤maxLen:=by
 obtain ⟨h1,h2,_⟩:=h
 unfold maxLen;omega
end Go.Proofs.YtnfmegcknckahaaGreatDoor
namespace Go.Proofs.YtnfmegcknckahaaGreatDoor
open Go.RowKit Go.Proofs.Wit Tryz
section
variable {l:Int} {b:List NV} {L:List SD}
theorem te (h:xu l b L=0):gZ l b L∧(fS af b L).2.bad=false:=by
 unfold xu at h
 by_cases h1:nH l b L=0
 ·rw [if_neg (by simpa using h1)] at h
  refine ⟨iw.1 h1,?_⟩
  by_cases h2:(fS af b L).2.bad=true
  ·rw [if_pos h2] at h;cases h
  simpa using h2
 rw [if_pos h1] at h;exact absurd h h1
theorem yi (h:xu l b L=0) {ls:List LV} (hd:ls.map LV.d=EE b L):fN l ls=0∧∃hlt:ls.length - 1<ls.length,aW ls[ls.length - 1].f.f=0∧jh ls[ls.length - 1].f.f (bT (dh b (cu L ((L.length - 1:Nat):Int))))=true:=by
 obtain ⟨hR,hbad⟩:=te h
 obtain ⟨_,hG,hH,hLs⟩:=hR.HT
 have h1:=hLs hbad
 obtain ⟨h2,h3⟩:=hH hbad
 have hlen:ls.length=(fS af b L).2.ls.length:=by
  have:=congrArg List.length hd
  simpa [EE] using this
 have hck:=mm hG hR.log (by omega) hd
 have hlt:ls.length - 1<ls.length:=by omega
 have hcf:=(mo.1 (wT hck _ hlt)).1
 have e1:ls[ls.length - 1].f.f=bT (dh b (cu L ((L.length - 1:Nat):Int))):=by
  have:=tR hd hlt (by omega)
  rw [this,←h3]
  unfold fQ
  have e2:ls.length - 1=(fS af b L).1:=by omega
  simp only [e2]
  simp [List.getD_eq_getElem?_getD,h2]
 have hok:(dh b (cu L ((L.length - 1:Nat):Int))).ok:=by
  have hp:=hR.pos
  refine (mW hR.base (fun n hn=>?_)).1
  rw [dL (by omega)] at hn
  exact (hR.kX (L.length - 1) (by omega)).1 n hn
 refine ⟨hck,hlt,hcf,?_⟩
 have hne:=(aA.1 hcf).pos
 rw [e1] at hne⊢
 rw [dt (Cf.yt hok (fun e=>by rw [e] at hne;cases hne)) hok,decide_eq_true rfl]
end
set_option maxRecDepth 8000 in
theorem ng (l:Int) (A:Option Addr) (cA:Nat) (b:List NV) (B:Option Addr) (cB:Nat) (ss:List SV) (w:World) (hT:EP w) (hA:FA w A b) (hB:ue w B ss):
    Cn Tryz.prog 9 [.agg (bL l A b.length cA B ss.length cB)] w (fun v _=>v=.bool true):=by
  refine Cn.of func9 rfl rfl ?_
  refine gS (gR ?_)
  refine ab.bx rfl rfl rfl rfl (fun b1=>?_)
  refine ai ?_;refine gE (gS (gS (gR ?_)))
  refine gP rfl rfl rfl rfl rfl call10 (fun w _ hS=>(by exact rv w (hT.ex hS.ext))) ?_
  refine eZ bG ?_;refine ah ?_
  refine ab.v (ae.iA rfl rfl rfl rfl JS 0 rfl Jz rfl) ?_
  refine gP rfl rfl rfl rfl rfl call11 (fun w _ hS=>(by exact CO l A cA b B cB ss w (hB.ay hS.ext))) ?_
  refine eZ bG ?_;refine bB ?_;refine gE ?_
  refine gC (fun hc=>?_) fun hc=>?_
  ·
   have h1:¬qN b ss:=by simpa using hc
   refine gS (gR ?_)
   refine gP rfl rfl rfl rfl rfl call10 (fun w _ hS=>(by exact rv w (hT.ex hS.ext))) ?_
   refine ai ?_;refine gE ?_
   refine gT func9 fun w' hS=>?_
   exact ⟨hS.ext,rfl⟩
  have h1:qN b ss:=by simpa using hc
  obtain ⟨hbl,hsl⟩:=BB h1
  refine gK (gS (gR ?_))
  refine ab.v (ae.iA rfl rfl rfl rfl JS 0 rfl Jz rfl) ?_
  refine gM rfl rfl rfl rfl rfl call20 (fun w _ hS=>(by exact sN l A cA b B cB ss w (hA.ay hS.ext) (hB.ay hS.ext) hbl hsl)) ?_
  rintro v w1 w2 Y' hS he ⟨sv,x1,rfl,⟨q1,c1,s1,H1,rfl,hq1,hc1,hn1,hi1⟩,hx1,hx1'⟩
  refine ⟨_,hS.fi (pre:=[_]) he hn1,?_⟩
  refine ah ?_
  iterate 2 refine fZ ?_
  iterate 2 refine ai ?_
  refine gE (gS (gS (gR ?_)));refine ah ?_;refine aw gJ ?_;refine gE ?_
  refine gC (fun hc=>?_) fun hc=>?_
  ·
   have h2:xu l b (ec ss)≠0:=by simpa using hc
   obtain rfl:=hx1' h2
   refine gS (gR ?_);refine ah ?_;refine dM JQ ?_;refine aw bd ?_;refine ai ?_;refine gE ?_
   refine gT func9 fun w' hS=>?_
   exact ⟨hS.ext,rfl⟩
  have h2:xu l b (ec ss)=0:=by simpa using hc
  have hd:=hx1 h2
  obtain ⟨hR,hbad⟩:=te h2
  have hrf:nH l b (ec ss)=0:=iw.2 hR
  obtain ⟨hck,hlt,hcf,hsm⟩:=yi h2 hd
  have hx4:=(iC.1 hck).2.2.1
  have hin:iM b (cu (ec ss) ((ss.length - 1:Nat):Int)):=fun n hn=>by
    have hp:=hR.pos
    rw [cW] at hp
    rw [dL (by rw [cW];omega)] at hn
    exact (hR.kX (ss.length - 1) (by rw [cW];omega)).1 n hn
  have hcj:(jM ((dG (cu (ec ss) ((ss.length - 1:Nat):Int))).map (aa b))).ok:=(sh (fun u hu=>by
    obtain ⟨n,hn,rfl⟩:=List.mem_map.1 hu
    exact hR.base.fr (hin n (cH.1 hn)))).1
  rw [cW] at hsm
  refine gK (gS (gR ?_))
  refine ab.v (ae.iA rfl rfl rfl rfl JS 1 rfl Jz rfl) ?_
  refine gM rfl rfl rfl rfl rfl call29 (fun w _ hS=>(by exact uu l A cA b B cB ss w (hA.ay hS.ext) (hB.ay hS.ext) hbl hsl)) ?_
  rintro v w1 w2 Y' hS he ⟨v1,rfl,hgs⟩
  obtain ⟨gs,⟨q2,c2,s2,H2,rfl,hq2,hc2,hn2,hi2⟩,hgm⟩:=hgs hrf
  rw [hrf]
  have hall:ju (gs.map FV.f)=bT (jM ((dG (cu (ec ss) ((ss.length - 1:Nat):Int))).map (aa b))):=by
    rw [hgm,show (dG (cu (ec ss) ((ss.length - 1:Nat):Int))).map (fun i=>bT (aa b i))=((dG (cu (ec ss) ((ss.length - 1:Nat):Int))).map (aa b)).map bT from by rw [List.map_map];rfl]
    exact oh (fun u hu=>by
      obtain ⟨n,hn,rfl⟩:=List.mem_map.1 hu
      exact hR.base.ok (hin n (cH.1 hn)))
  refine ⟨_,hS.fi (pre:=[_]) he hn2,?_⟩
  obtain ⟨b1q,rfl⟩:∃b,q1=some b:=by
    cases q1 with
    |none=>have:=(hq1 rfl).1;omega
    |some b=>exact ⟨b,rfl⟩
  have hp64:(dG (cu (ec ss) ((ss.length - 1:Nat):Int))).length≤64:=@jd _ 64
  have hgsl:gs.length≤maxLen:=by
    have:=congrArg List.length hgm
    simp at this;unfold maxLen;omega
  have hgl2:∀g∈gs,g.f.length≤maxLen:=fun g hg=>by
    have h1:g.f∈gs.map FV.f:=List.mem_map_of_mem hg
    rw [hgm] at h1
    obtain ⟨u,_,hu⟩:=List.mem_map.1 h1
    rw [←hu];exact gm
  have hcp2:gs.length≤c2:=by
    have:=hc2
    simp at this;omega
  refine ah ?_
  iterate 2 refine fZ ?_
  iterate 2 refine ai ?_
  refine gE (gS ?_)
  refine ab.dS 29 mixed ?_
  refine cV 0 (ae.mv rfl rfl rfl rfl) ?_
  refine cV 1 (ae.bin rfl rfl rfl rfl (zM (v:=true) rfl) rfl) ?_
  refine cV 2 (ae.mv rfl rfl rfl rfl) ?_
  refine cV 3 (ae.aG rfl rfl rfl rfl Jv rfl (by exact Ji) 0 rfl) ?_
  refine cV 4 (ae.dw rfl rfl rfl rfl Jj 2 rfl rfl) ?_
  refine cV 5 (ae.mv rfl rfl rfl rfl) ?_
  refine aF.cR (i:=6) rfl rfl rfl rfl rfl rfl (fun _ _=>call25 _ _) (fun w _ hS=>(by exact pV l (some ⟨b1q,0,none⟩) c1 x1 w (yQ hS 1 rfl (fun e=>by cases e) (fun x hx=>⟨(hi1 x hx).1.mono (fun z hz=>by simp [hz]),(hi1 x hx).2⟩)) (hT.ex hS.ext))) sL ?_
  refine cV 7 (ae.bin rfl rfl rfl rfl (zM (v:=true) (by rw [hck];rfl)) rfl) ?_
  refine cV 8 (ae.aS rfl rfl rfl rfl rfl) ?_
  refine cV 9 (ae.mv rfl rfl rfl rfl) ?_
  refine cV 10 (ae.mv rfl rfl rfl rfl) ?_
  refine cV 11 (ae.blt rfl rfl rfl (eX JQ) rfl) ?_
  refine cV 12 (ae.bin rfl rfl rfl rfl (Hn (v:=true) (by simp;omega)) rfl) ?_
  refine cV 13 (ae.aS rfl rfl rfl rfl rfl) ?_
  refine cV 14 (ae.mv rfl rfl rfl rfl) ?_
  refine cV 15 (ae.mv rfl rfl rfl rfl) ?_
  refine cV 16 (ae.mv rfl rfl rfl rfl) ?_
  refine cV 17 (ae.blt rfl rfl rfl (eX JQ) rfl) ?_
  refine cV 18 (ae.bin rfl rfl rfl rfl (iQ (c:=((x1.length - 1:Nat):Int)) (by omega) (by omega)) rfl) ?_
  refine cV 19 (ae.dX rfl rfl rfl rfl rfl JQ J2 ((x1.length - 1)) ⟨rfl,hlt⟩) ?_
  refine cV 20 (ae.fM (a:=some ⟨b1q,0,none⟩) (o:=((x1.length - 1))*5) rfl rfl rfl rfl JH rfl Js (((x1.length - 1))*5+0) rfl) ?_
  refine cV 21 (ae.ld rfl rfl rfl rfl Jx (fun w _ hS=>Sl.kU (enc:=LV.cells) (sz:=5) (a:=some ⟨b1q,0,none⟩) (Sl.di (hS.get (j:=1) rfl)) (fun _=>rfl) hlt rfl)) ?_
  refine cV 22 (ae.mv rfl rfl rfl rfl) ?_
  refine aF.call (i:=23) _ rfl rfl rfl rfl rfl rfl (fun _ _=>call30 _ _) (fun w _ hS=>(by exact vh (q2.map (fun b=>⟨b,0,none⟩)) c2 gs w (vu hS 0 rfl (fun e=>(hq2 e).1)) (fun g hg=>((hi2 g hg).mono (fun z hz=>by simp [hz])).at hS) hgl2 hgsl hcp2)) ?_
  rintro v w1 w2 Y' hS he ho
  rw [hall] at ho
  obtain ⟨q3,c3,s3,rfl,hq3,hc3,hS'⟩:=ak hS he ho
  refine ⟨_,hS',sM,?_⟩
  refine aF.call (i:=24) _ rfl rfl rfl rfl rfl rfl (fun _ _=>JJ _ _) (fun w _ hS=>(by exact fL ⟨(q3.map (fun b=>⟨b,0,none⟩)),c3,bT _⟩ _ w (aL hS 0 rfl (fun e=>(hq3 e).1)) rfl hcj)) ?_
  rintro v w1 w2 Y' hS he ho
  obtain ⟨q4,c4,s4,rfl,hq4,hc4,hS'⟩:=ak hS he ho
  refine ⟨_,hS',sM,?_⟩
  refine aF.cR (i:=25) rfl rfl rfl rfl rfl rfl (fun _ _=>call26 _ _) (fun w _ hS=>(by have:=dY x1[x1.length - 1].f.a x1[x1.length - 1].f.c x1[x1.length - 1].f.f (q4.map (fun b=>⟨b,0,none⟩)) c4 _ w (((hi1 _ (List.getElem_mem hlt)).1.mono (fun z hz=>by simp [hz])).at hS) (aL hS 0 rfl (fun e=>(hq4 e).1)) (hi1 _ (List.getElem_mem hlt)).2 gm;rw [show jh x1[x1.length - 1].f.f (bT (aE _))=true from hsm] at this;exact this)) sL ?_
  refine cV 26 (ae.aS rfl rfl rfl rfl rfl) ?_
  refine cV 27 (ae.fD rfl rfl rfl rfl) ?_
  refine aF.done rfl ?_
  refine gE ?_
  refine gT func9 fun w' hS=>?_
  exact ⟨hS.ext,rfl⟩
end Go.Proofs.YtnfmegcknckahaaGreatDoor
