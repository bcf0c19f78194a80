/- What calls of the program return, under the conditions that each theorem states. -/
import Derived.Test.YtnfmegcknckahaaGreatDoorXC44
import Derived.Test.YtnfmegcknckahaaGreatDoorXC03
import Derived.Test.YtnfmegcknckahaaGreatDoorXC04
import Derived.Test.YtnfmegcknckahaaGreatDoorXC41
import Derived.Test.YtnfmegcknckahaaGreatDoorXC33
import Derived.Test.YtnfmegcknckahaaGreatDoorXC42
import Derived.Test.YtnfmegcknckahaaGreatDoorXC43
import Derived.Test.YtnfmegcknckahaaGreatDoorXC24
namespace Go.Proofs.YtnfmegcknckahaaGreatDoor
open Go.RowKit Go.Proofs.Wit Tryz
/-! the writer: the steps: the program -/
theorem yN {p:SP} {σ:Sg} (h:p.x.d.av=6∨p.x.d.av=7):bL af p.b (dE p.tl) p.full p.x.d p.last σ=FD p (dC p.b p.x.d.set) σ:=by
 unfold bL FD SP.ag SP.ns SP.tg SP.own SP.line SP.S0
 rcases h with h|h<;>simp [h]
set_option maxRecDepth 8000 in
theorem Aj (p:SP) (k:Nat) (hR:Hl) (Γ:List FV) (σ:Sg) (w:World) (hin:Gs p hR) (hp:p.Ok k) (hlast:qv p.b (dE p.tl) σ p.last k):
    XW p.bw Γ σ 46 [.pointer (some ⟨p.bs,0,none⟩)] w hR (bL af p.b (dE p.tl) p.full p.x.d p.last σ):=by
  have hb:=hp.base
  have hins:=hp.lX.1
  have hGo:(dC p.b p.x.d.set).ok:=(oW hb hins).1
  have hfrj:∀(m:Nat) (hm:m<p.x.d.fr.length),∃j:Nat,p.x.d.fr[m]=(j:Int)∧j<p.last.length∧p.x.d.fr.getD m 0=(j:Int)∧(σ.bad=false→p.last.getD j 0<σ.ls.length):=fun m hm=>by
    have:=hp.lX.me (List.getElem_mem hm)
    refine ⟨p.x.d.fr[m].toNat,by omega,by rw [hp.FF];omega,by simp [List.getD_eq_getElem?_getD,hm];omega,fun h=>(hlast _ (by omega) h).1⟩
  have hon:p.x.d.av≠6→p.x.d.av≠7→p.x.d.av≠2→p.x.d.av≠3→∃o:Nat,p.x.d.on=(o:Int)∧o<p.b.length∧(p.x.d.av=5→(nd p.b p.x.d.on).op=9):=fun n6 n7 n2 n3=>by
    rcases hp.lX.2 with ⟨e,_,h|h⟩|⟨e,_⟩|⟨e,_⟩|⟨e,h,_⟩|⟨e,_,_,h,_⟩|⟨e,_⟩|⟨e,_⟩
    · obtain ⟨o,q1,q2,_⟩:=h.1.nat hb;exact ⟨o,q1,q2,fun h=>by omega⟩
    · obtain ⟨o,q1,_⟩:=fR.1 h.1;have:=h.2.1;exact ⟨o,q1,by omega,fun h=>by omega⟩
    · exact absurd e n2
    · exact absurd e n3
    · exact ⟨p.x.d.on.toNat,by omega,by omega,fun h=>by omega⟩
    · obtain ⟨o,q1,q2,_,q4⟩:=h.nat hb;exact ⟨o,q1,q2,fun _=>q4⟩
    · exact absurd e n6
    exact absurd e n7
  refine rB.of func46 rfl rfl (fun s hW hH=>?_)
  have hr:SR p (cJ (cn 73 48 (xE σ.bad) p.bw s)) w:=hin.r hH
  have HB:∀{w':World} {j:Nat} {u:Value},Ex (cJ (cn 73 48 (xE σ.bad) p.bw s)) w w'→p.cs[j]?=some u→w'.cell? ⟨p.bs,j,none⟩=some u:=fun e hu=>Ex.cell (Ex.refl _ _) (hr.ex e).di hu
  obtain ⟨bs,hbs⟩:∃bs,bs=p.bs:=⟨_,rfl⟩
  rw [←hbs] at HB
  have hpb:(Value.pointer (some ⟨p.bs,0,none⟩))=.pointer (some ⟨bs,0,none⟩):=by rw [hbs]
  rw [hpb]
  refine gS (gR ?_);refine ai ?_;refine gE (gS ?_)
  refine ab.jG 18 (([])) mixed ?_
  refine cV 0 (ae.mv rfl rfl rfl rfl) ?_
  refine cV 1 (ae.ep rfl rfl rfl rfl) ?_
  refine cV 2 (ae.aG rfl rfl rfl rfl JV rfl (by exact sizeOf70) 0 rfl) ?_
  refine cV 3 (ae.ld (p:=⟨bs,0,none⟩) rfl rfl rfl rfl isAgg70 (fun w _ hS=>HB hS.ext rfl)) ?_
  refine cV 4 (ae.mv rfl rfl rfl rfl) ?_
  refine cV 5 (ae.ep rfl rfl rfl rfl) ?_
  refine cV 6 (ae.aG rfl rfl rfl rfl JV rfl (by exact JB) 1 rfl) ?_
  refine cV 7 (ae.aG rfl rfl rfl rfl Jx rfl (by exact Jw) 2 rfl) ?_
  refine cV 8 (ae.ld (p:=⟨bs,2,none⟩) rfl rfl rfl rfl JC (fun w _ hS=>HB hS.ext rfl)) ?_
  refine cV 9 (ae.mv rfl rfl rfl rfl) ?_
  refine cV 10 (ae.ep rfl rfl rfl rfl) ?_
  refine cV 11 (ae.aG rfl rfl rfl rfl JV rfl (by exact Jz) 4 rfl) ?_
  refine cV 12 (ae.aG rfl rfl rfl rfl Ju rfl (by exact JF) 4 rfl) ?_
  refine cV 13 (ae.ld (p:=⟨bs,4,none⟩) rfl rfl rfl rfl JL (fun w _ hS=>HB hS.ext rfl)) ?_
  refine aH.one (i:=14) rfl (du.iF (pre:=[]) (u:=dC p.b p.x.d.set) hW rfl rfl rfl rfl rfl (fun _ _=>call48 _ _) (fun w Y' hS=>rH p.A p.cA p.b p.x.d.set w (hr.ex hS.ext).fa hb hins) (fun y s1 hyf hyz hW1=>⟨List.nil_sublist _,?_⟩)) rfl
  refine cV 15 (ae.fC rfl rfl rfl rfl) ?_
  refine cV 16 (ae.fC rfl rfl rfl rfl) ?_
  refine aH.done rfl ?_
  refine gE (gS (gS (gR ?_)));refine ah ?_;refine kp ?_;refine al JV Jz 4 ?_;refine al Ju Jm 5 ?_
  refine ab.v (ae.ld (p:=⟨bs,5,none⟩) rfl rfl rfl rfl Jn (fun w _ hS=>HB hS.ext rfl)) ?_
  refine gE (gB (gS (gR ?_)));refine ax bh ?_;refine ai ?_;refine gE ?_
  refine gC (fun hc=>?_) fun hc=>?_
  ·
   have r1:p.x.d.av=1:=by simpa using hc
   obtain ⟨o,ho,hol,_⟩:=hon (by omega) (by omega) (by omega) (by omega)
   have hnd:nd p.b p.x.d.on=p.b[o]:=by rw [ho,dJ hol]
   have htA:tA p.b p.x.d.on=aa p.b o:=by rw [ho,jc]
   have hcO:=(wy hb hol).2
   refine gS (gS ?_)
   refine ab.draw 14 mixed rfl ?_
   refine ko ?_;refine xu ?_;refine kM JV JB 1 ?_;refine kM Jx Jw 2 ?_
   refine aA.v (ae.ld (p:=⟨bs,2,none⟩) rfl rfl rfl rfl JC (fun w _ hS=>HB hS.ext rfl)) ?_
   refine ko ?_;refine xu ?_;refine kM JV Jz 4 ?_;refine kM Ju Jm 6 ?_
   refine aA.v (ae.ld (p:=⟨bs,6,none⟩) rfl rfl rfl rfl Jn (fun w _ hS=>HB hS.ext rfl)) ?_
   refine aA.v (ae.dK rfl rfl rfl rfl rfl Jv Jq ⟨_,(hr.EO).at_⟩ (aw (enc:=NV.cells) (sz:=6) (fun _=>rfl)) (by decide) (o) ⟨ho,hol⟩) ?_
   refine aA.v (ae.fM rfl rfl rfl rfl Jo rfl Jm ((o)*6+0) rfl) ?_
   refine aA.v (ae.ld rfl rfl rfl rfl Jn (fun w _ hS=>Sl.kU (enc:=NV.cells) (sz:=6) ((hr.EO).ay hS.ext).at_ (fun _=>rfl) hol rfl)) ?_
   refine AR bh ?_
   refine aA.nil ?_
   refine gE ?_
   refine gC (fun hc=>?_) fun hc=>?_
   ·
    have h2:p.b[o].op=2:=by simpa using hc
    have hE:bL af p.b (dE p.tl) p.full p.x.d p.last σ=aU af (dC p.b p.x.d.set) [] σ:=by unfold bL;simp only [if_pos r1,hnd,if_pos h2]
    refine gS (gR ?_)
    iterate 2 refine ah ?_
    refine ab.bB (pre:=[]) (hR':=[]) hH hW1 (List.nil_sublist _) rfl rfl rfl rfl rfl (fun _ _=>JY _ _) (fun w Y' hS=>by exact mg p.bw _ _ y _ w (List.mem_cons_self ..) hyf hGo hyz) (fun s2 Γ2 hW2 hg2=>?_)
    refine ai ?_;refine gE ?_
    refine gT func46 fun w' hS=>?_
    exact dT (pre:=[]) hE rfl hW2 (fun _ h=>hg2 (List.mem_cons_of_mem _ h)) hS
   have h2:¬p.b[o].op=2:=by simpa using hc
   have hE:bL af p.b (dE p.tl) p.full p.x.d p.last σ=aU af (dC p.b p.x.d.set) [(aJ af false (aa p.b o) σ).1] (aJ af false (aa p.b o) σ).2:=by unfold bL;simp only [if_pos r1,hnd,if_neg h2,htA]
   refine gK (gS (gR ?_))
   iterate 5 refine ah ?_
   refine kp ?_;refine al JV Jz 4 ?_;refine al Ju Jm 6 ?_
   refine ab.v (ae.ld (p:=⟨bs,6,none⟩) rfl rfl rfl rfl Jn (fun w _ hS=>HB hS.ext rfl)) ?_
   rw [hbs]
   refine ab.uC (pre:=[]) (u:=aa p.b o) hW1 rfl rfl rfl rfl rfl (fun _ _=>call81 _ _) (fun w Y' hS=>by rw [←htA];exact ig p _ w (hr.ex hS.ext) hb (by omega)) (fun x2 s2 hf2 hW2=>?_)
   refine ab.bB (pre:=[]) (hR':=[]) hH hW2 (List.nil_sublist _) rfl rfl rfl rfl rfl (fun _ _=>call43 _ _) (fun w Y' hS=>by exact xH p.bw (SizeOf.sizeOf (aa p.b o)+1) _ (Nat.lt_succ_self _) (hb.nf o hol) _ σ x2 w (List.mem_cons_self ..) (by rw [hf2];exact hcO)) (fun s3 Γ3 hW3 hg3=>?_)
   refine ab.ew (c:=[_]) rfl rfl rfl rfl Jt Jm JJ rfl rfl (fun b57=>?_)
   refine ab.bB (pre:=[_]) (hR':=[(some b57,ob bM 3 (iL [(aJ af false (aa p.b o) σ).1]) [])]) hH hW3 (.cons_cons _ (List.nil_sublist _)) rfl rfl rfl rfl rfl (fun _ _=>JY _ _) (fun w Y' hS=>bG p.bw _ _ y _ (some b57) [(aJ af false (aa p.b o) σ).1] 1 [] w (hg3 (by simp)) hyf hGo hyz (fun e=>by cases e) (fun h n hn=>by rw [List.mem_singleton.1 hn];exact (eD h).1) (by simp)) (fun s4 Γ4 hW4 hg4=>?_)
   refine ai ?_;refine gE ?_
   refine gT func46 fun w' hS=>?_
   exact dT (pre:=[_]) hE rfl hW4 (fun _ h=>hg4 (hg3 (by simp [h]))) hS
  have r1:¬p.x.d.av=1:=by simpa using hc
  refine gS (gR ?_);refine ax bh ?_;refine ai ?_;refine gE ?_
  refine gC (fun hc=>?_) fun hc=>?_
  ·
   have r2:p.x.d.av=2:=by simpa using hc
   obtain ⟨j,j1,j2,j3,j4⟩:=hfrj 0 (ir hp.lX r1)
   have hE:bL af p.b (dE p.tl) p.full p.x.d p.last σ=aU af (dC p.b p.x.d.set) [p.last.getD j 0] σ:=by unfold bL;simp only [if_neg r1,if_pos r2,j3,Int.toNat_natCast]
   refine gS (gR ?_)
   iterate 3 refine ah ?_
   refine gP rfl rfl rfl rfl rfl call82 (fun w _ hS=>(by rw [hbs];exact kA p 0 j w (hr.ex hS.ext) (ir hp.lX r1) j1 j2)) ?_
   refine ab.ew (c:=[_]) rfl rfl rfl rfl Jt Jm JJ rfl rfl (fun b65=>?_)
   refine ab.bB (pre:=[_]) (hR':=[(some b65,ob bM 3 (iL [p.last.getD j 0]) [])]) hH hW1 (.cons_cons _ (List.nil_sublist _)) rfl rfl rfl rfl rfl (fun _ _=>JY _ _) (fun w Y' hS=>bG p.bw _ _ y _ (some b65) [p.last.getD j 0] 1 [] w (List.mem_cons_self ..) hyf hGo hyz (fun e=>by cases e) (fun h n hn=>by rw [List.mem_singleton.1 hn];exact j4 h) (by simp)) (fun s4 Γ4 hW4 hg4=>?_)
   refine ai ?_;refine gE ?_
   refine gT func46 fun w' hS=>?_
   exact dT (pre:=[_]) hE rfl hW4 (fun _ h=>hg4 (by simp [h])) hS
  have r2:¬p.x.d.av=2:=by simpa using hc
  refine gS (gR ?_);refine ax bh ?_;refine ai ?_;refine gE ?_
  refine gC (fun hc=>?_) fun hc=>?_
  ·
   have r3:p.x.d.av=3:=by simpa using hc
   obtain ⟨j,j1,j2,j3,j4⟩:=hfrj 0 (ir hp.lX r1)
   obtain ⟨i,i1,i2,i3,i4⟩:=hfrj 1 (nm hp.lX (.inl r3))
   have hE:bL af p.b (dE p.tl) p.full p.x.d p.last σ=aU af (dC p.b p.x.d.set) [p.last.getD j 0,p.last.getD i 0] σ:=by unfold bL;simp only [if_neg r1,if_neg r2,if_pos r3,j3,i3,Int.toNat_natCast]
   refine gS (gR ?_)
   iterate 3 refine ah ?_
   refine gP rfl rfl rfl rfl rfl call82 (fun w _ hS=>(by rw [hbs];exact kA p 0 j w (hr.ex hS.ext) (ir hp.lX r1) j1 j2)) ?_
   refine ah ?_
   refine gP rfl rfl rfl rfl rfl call82 (fun w _ hS=>(by rw [hbs];exact kA p 1 i w (hr.ex hS.ext) (nm hp.lX (.inl r3)) i1 i2)) ?_
   refine ab.ew (c:=[_,_]) rfl rfl rfl rfl Jt Jm JJ rfl rfl (fun b75=>?_)
   refine ab.bB (pre:=[_]) (hR':=[(some b75,ob bM 3 (iL [p.last.getD j 0,p.last.getD i 0]) [])]) hH hW1 (.cons_cons _ (List.nil_sublist _)) rfl rfl rfl rfl rfl (fun _ _=>JY _ _) (fun w Y' hS=>bG p.bw _ _ y _ (some b75) [p.last.getD j 0,p.last.getD i 0] 2 [] w (List.mem_cons_self ..) hyf hGo hyz (fun e=>by cases e) (fun h n hn=>by
     simp only [List.mem_cons,List.not_mem_nil,or_false] at hn
     rcases hn with rfl|rfl
     · exact j4 h
     exact i4 h) (by simp)) (fun s4 Γ4 hW4 hg4=>?_)
   refine ai ?_;refine gE ?_
   refine gT func46 fun w' hS=>?_
   exact dT (pre:=[_]) hE rfl hW4 (fun _ h=>hg4 (by simp [h])) hS
  have r3:¬p.x.d.av=3:=by simpa using hc
  refine gS (gR ?_);refine ax bh ?_;refine ai ?_;refine gE ?_
  refine gC (fun hc=>?_) fun hc=>?_
  ·
   have r4:p.x.d.av=4:=by simpa using hc
   obtain ⟨j,j1,j2,j3,j4⟩:=hfrj 0 (ir hp.lX r1)
   obtain ⟨i,i1,i2,i3,i4⟩:=hfrj 1 (nm hp.lX (.inr r4))
   obtain ⟨o,ho,hol,_⟩:=hon (by omega) (by omega) r2 r3
   have htA:tA p.b p.x.d.on=aa p.b o:=by rw [ho,jc]
   have hcO:=(wy hb hol).2
   obtain ⟨Q,hQ⟩:∃Q,Q=aJ af true (aa p.b o) σ:=⟨_,rfl⟩
   have hQle:σ.Le Q.2:=by rw [hQ];exact ik
   have hE:bL af p.b (dE p.tl) p.full p.x.d p.last σ=aU af (dC p.b p.x.d.set) [Q.1,p.last.getD j 0,p.last.getD i 0] Q.2:=by unfold bL;simp only [if_neg r1,if_neg r2,if_neg r3,if_pos r4,j3,i3,Int.toNat_natCast,htA,hQ]
   refine gS (gR ?_)
   iterate 5 refine ah ?_
   refine kp ?_;refine al JV Jz 4 ?_;refine al Ju Jm 6 ?_
   refine ab.v (ae.ld (p:=⟨bs,6,none⟩) rfl rfl rfl rfl Jn (fun w _ hS=>HB hS.ext rfl)) ?_
   rw [hbs]
   refine ab.uC (pre:=[]) (u:=aa p.b o) hW1 rfl rfl rfl rfl rfl (fun _ _=>call81 _ _) (fun w Y' hS=>by rw [←htA];exact ig p _ w (hr.ex hS.ext) hb (by omega)) (fun x2 s2 hf2 hW2=>?_)
   refine ab.bB (pre:=[]) (hR':=[]) hH hW2 (List.nil_sublist _) rfl rfl rfl rfl rfl (fun _ _=>call45 _ _) (fun w Y' hS=>by exact xG p.bw (SizeOf.sizeOf (aa p.b o)+1) _ (Nat.lt_succ_self _) (hb.nf o hol) _ σ x2 w (List.mem_cons_self ..) (by rw [hf2];exact hcO)) (fun s3 Γ3 hW3 hg3=>?_)
   rw [←hQ] at hW3⊢
   refine ah ?_
   refine gP rfl rfl rfl rfl rfl call82 (fun w _ hS=>(by exact kA p 0 j w (hr.ex hS.ext) (ir hp.lX r1) j1 j2)) ?_
   refine ah ?_
   refine gP rfl rfl rfl rfl rfl call82 (fun w _ hS=>(by exact kA p 1 i w (hr.ex hS.ext) (nm hp.lX (.inr r4)) i1 i2)) ?_
   refine ab.ew (c:=[_,_,_]) rfl rfl rfl rfl Jt Jm JJ rfl rfl (fun b94=>?_)
   refine ab.bB (pre:=[_]) (hR':=[(some b94,ob bM 3 (iL [Q.1,p.last.getD j 0,p.last.getD i 0]) [])]) hH hW3 (.cons_cons _ (List.nil_sublist _)) rfl rfl rfl rfl rfl (fun _ _=>JY _ _) (fun w Y' hS=>bG p.bw _ _ y _ (some b94) [Q.1,p.last.getD j 0,p.last.getD i 0] 3 [] w (hg3 (by simp)) hyf hGo hyz (fun e=>by cases e) (fun h n hn=>by
     simp only [List.mem_cons,List.not_mem_nil,or_false] at hn
     rcases hn with rfl|rfl|rfl
     · rw [hQ] at h⊢;exact (eD h).1
     · exact Nat.lt_of_lt_of_le (j4 (hQle.ok h)) hQle.pre.length_le
     exact Nat.lt_of_lt_of_le (i4 (hQle.ok h)) hQle.pre.length_le) (by simp)) (fun s4 Γ4 hW4 hg4=>?_)
   refine ai ?_;refine gE ?_
   refine gT func46 fun w' hS=>?_
   exact dT (pre:=[_]) hE rfl hW4 (fun _ h=>hg4 (hg3 (by simp [h]))) hS
  have r4:¬p.x.d.av=4:=by simpa using hc
  refine gS (gR ?_);refine ax bh ?_;refine ai ?_;refine gE ?_
  refine gC (fun hc=>?_) fun hc=>?_
  ·
   have r5:p.x.d.av=5:=by simpa using hc
   obtain ⟨j,j1,j2,j3,j4⟩:=hfrj 0 (ir hp.lX r1)
   obtain ⟨o,ho,hol,ho9⟩:=hon (by omega) (by omega) r2 r3
   have ho9:=ho9 r5
   have hnd:nd p.b p.x.d.on=p.b[o]:=by rw [ho,dJ hol]
   have htA:tA p.b p.x.d.on=aa p.b o:=by rw [ho,jc]
   have hx5:=hb.x hol (by rw [←ho];omega)
   rw [dJ hol] at hx5
   have hx5':0≤p.b[o].x∧p.b[o].x<p.b.length:=by omega
   have hoo:=hb.ok hol
   have hxo:=xR hb hx5'
   obtain ⟨Q,hQ⟩:∃Q,Q=bS af (aP (aa p.b o) (tA p.b p.b[o].x)) 3 0 0 0 σ:=⟨_,rfl⟩
   have hQle:σ.Le Q.2:=by rw [hQ];exact df
   have hE:bL af p.b (dE p.tl) p.full p.x.d p.last σ=aU af (dC p.b p.x.d.set) [Q.1,p.last.getD j 0] Q.2:=by unfold bL;simp only [if_neg r1,if_neg r2,if_neg r3,if_neg r4,if_pos r5,j3,Int.toNat_natCast,htA,hnd,hQ]
   refine gS (gR ?_)
   iterate 2 refine ah ?_
   refine kp ?_;refine al JV Jz 4 ?_;refine al Ju Jm 6 ?_
   refine ab.v (ae.ld (p:=⟨bs,6,none⟩) rfl rfl rfl rfl Jn (fun w _ hS=>HB hS.ext rfl)) ?_
   rw [hbs]
   refine ab.uC (pre:=[]) (u:=aa p.b o) hW1 rfl rfl rfl rfl rfl (fun _ _=>call81 _ _) (fun w Y' hS=>by rw [←htA];exact ig p _ w (hr.ex hS.ext) hb (by omega)) (fun x2 s2 hf2 hW2=>?_)
   skip
   refine ai ?_
   rw [←hbs]
   refine gE (gS ?_)
   refine ab.jG 22 (([])) mixed ?_
   refine cV 0 (ae.mv rfl rfl rfl rfl) ?_
   refine cV 1 (ae.mv rfl rfl rfl rfl) ?_
   refine cV 2 (ae.mv rfl rfl rfl rfl) ?_
   refine cV 3 (ae.mv rfl rfl rfl rfl) ?_
   refine cV 4 (ae.ep rfl rfl rfl rfl) ?_
   refine cV 5 (ae.aG rfl rfl rfl rfl JV rfl (by exact JB) 1 rfl) ?_
   refine cV 6 (ae.aG rfl rfl rfl rfl Jx rfl (by exact Jw) 2 rfl) ?_
   refine cV 7 (ae.ld (p:=⟨bs,2,none⟩) rfl rfl rfl rfl JC (fun w _ hS=>HB hS.ext rfl)) ?_
   refine cV 8 (ae.mv rfl rfl rfl rfl) ?_
   refine cV 9 (ae.ep rfl rfl rfl rfl) ?_
   refine cV 10 (ae.aG rfl rfl rfl rfl JV rfl (by exact Jz) 4 rfl) ?_
   refine cV 11 (ae.aG rfl rfl rfl rfl Ju rfl (by exact Jm) 6 rfl) ?_
   refine cV 12 (ae.ld (p:=⟨bs,6,none⟩) rfl rfl rfl rfl Jn (fun w _ hS=>HB hS.ext rfl)) ?_
   refine cV 13 (ae.dK rfl rfl rfl rfl rfl Jv Jq ⟨_,(hr.EO).at_⟩ (aw (enc:=NV.cells) (sz:=6) (fun _=>rfl)) (by decide) (o) ⟨ho,hol⟩) ?_
   refine cV 14 (ae.fM rfl rfl rfl rfl Jo rfl Jm ((o)*6+4) rfl) ?_
   refine cV 15 (ae.ld rfl rfl rfl rfl Jn (fun w _ hS=>Sl.kU (enc:=NV.cells) (sz:=6) ((hr.EO).ay hS.ext).at_ (fun _=>rfl) hol rfl)) ?_
   rw [hbs]
   refine aH.one (i:=16) rfl (du.uC (pre:=[]) (u:=tA p.b p.b[o].x) hW2 rfl rfl rfl rfl rfl (fun _ _=>call81 _ _) (fun w Y' hS=>ig p _ w (hr.ex hS.ext) hb hx5') (fun x3 s3 hf3 hW3=>⟨List.nil_sublist _,?_⟩)) rfl
   refine aH.one (i:=17) rfl (du.iF (pre:=[]) (u:=aP (aa p.b o) (tA p.b p.b[o].x)) hW3 rfl rfl rfl rfl rfl (fun _ _=>JR _ _) (fun w Y' hS=>fJ x2 x3 _ _ w (hW3.fa (pre:=[]) (by simp) hS) hf2 hoo (hW3.fa (pre:=[]) (by simp) hS) hf3 hxo) (fun x4 s4 hf4 hz4 hW4=>⟨List.nil_sublist _,?_⟩)) rfl
   refine cV 18 (ae.eP rfl rfl rfl rfl (bd48 (c:=[_,_,_,_,_]) rfl)) ?_
   refine aH.one (i:=19) rfl (du.bB (pre:=[]) (hR':=[]) hH hW4 (List.nil_sublist _) rfl rfl rfl rfl rfl (fun _ _=>call83 _ _) (fun w Y' hS=>iZ p.bw _ _ x4 _ 3 0 0 0 w (List.mem_cons_self ..) hf4 (dD hoo hxo) hz4) (fun s5 Γ5 hW5 hg5=>⟨List.nil_sublist _,?_⟩)) rfl
   rw [←hQ] at hW5⊢
   refine cV 20 (ae.fC rfl rfl rfl rfl) ?_
   refine aH.done rfl ?_
   refine gE (gS (gR ?_))
   iterate 4 refine ah ?_
   refine gP rfl rfl rfl rfl rfl call82 (fun w _ hS=>(by exact kA p 0 j w (hr.ex hS.ext) (ir hp.lX r1) j1 j2)) ?_
   refine ab.ew (c:=[_,_]) rfl rfl rfl rfl Jt Jm JJ rfl rfl (fun b130=>?_)
   refine ab.bB (pre:=[_]) (hR':=[(some b130,ob bM 3 (iL [Q.1,p.last.getD j 0]) [])]) hH hW5 (.cons_cons _ (List.nil_sublist _)) rfl rfl rfl rfl rfl (fun _ _=>JY _ _) (fun w Y' hS=>bG p.bw _ _ y _ (some b130) [Q.1,p.last.getD j 0] 2 [] w (hg5 (by simp)) hyf hGo hyz (fun e=>by cases e) (fun h n hn=>by
     simp only [List.mem_cons,List.not_mem_nil,or_false] at hn
     rcases hn with rfl|rfl
     · rw [hQ] at h⊢;exact (bQ h).1
     exact Nat.lt_of_lt_of_le (j4 (hQle.ok h)) hQle.pre.length_le) (by simp)) (fun s6 Γ6 hW6 hg6=>?_)
   refine ai ?_;refine gE ?_
   refine gT func46 fun w' hS=>?_
   exact dT (pre:=[_]) hE rfl hW6 (fun _ h=>hg6 (hg5 (by simp [h]))) hS
  have r5:¬p.x.d.av=5:=by simpa using hc
  have h67:p.x.d.av=6∨p.x.d.av=7:=by
    rcases hp.lX.2 with ⟨e,_⟩|⟨e,_⟩|⟨e,_⟩|⟨e,_⟩|⟨e,_⟩|⟨e,_⟩|⟨e,_⟩<;>omega
  refine gK (dN (gS (gR ?_)))
  iterate 2 refine ah ?_
  rw [hbs]
  refine ab.bB (pre:=[]) (hR':=hR) hH hW1 (List.Sublist.refl _) rfl rfl rfl rfl rfl (fun _ _=>call84 _ _) (fun w Y' hS=>by exact xF p k hR _ σ y _ w hin hp h67 hlast (List.mem_cons_self ..) hyf hGo hyz) (fun s2 Γ2 hW2 hg2=>?_)
  refine ai ?_;refine gE ?_
  refine gT func46 fun w' hS=>?_
  exact dT (pre:=[]) (yN h67) rfl hW2 (fun _ h=>hg2 (List.mem_cons_of_mem _ h)) hS
end Go.Proofs.YtnfmegcknckahaaGreatDoor
namespace Go.Proofs.YtnfmegcknckahaaGreatDoor
open Go.RowKit Go.Proofs.Wit Tryz
/-! Proof: the program -/
set_option maxRecDepth 8000 in
theorem xD (l:Int) (A:Option Addr) (cA:Nat) (b:List NV) (B:Option Addr) (cB:Nat) (ss:List SV) (w:World) (hA:FA w A b) (hB:sJ w B ss) (hl:b.length≤maxLen) (hsl:ss.length≤maxLen):
    Cn Tryz.prog 20 [.agg (bK l A b.length cA B ss.length cB)] w (fun v w'=>∃sv ls,v=.tuple #[sv,.int .i64 (Df l b (dE ss))]∧ia 66 48 w w' sv ls∧(Df l b (dE ss)=0→ls.map LV.d=GA b (dE ss))∧(Df l b (dE ss)≠0→ls=[])):=by
  obtain ⟨iI,hiI,hzI,hszI,hbyI⟩:=info_parts uN
  refine Cn.of func20 rfl rfl ?_
  refine gS (gR ?_)
  refine ab.bx rfl rfl rfl rfl (fun b1=>?_)
  iterate 2 refine ai ?_
  refine gE (gS (gS (gR ?_)))
  refine ab.v (ae.gJ rfl rfl rfl rfl JS 0 rfl JB rfl) ?_
  refine gP rfl rfl rfl rfl rfl call22 (fun w _ hS=>(by exact jY l A cA b B cB ss w (hA.ay hS.ext) (hB.ay hS.ext) hl hsl)) ?_
  refine ai ?_;refine gE (gS (gR ?_));refine ah ?_;refine ax fX ?_;refine gE ?_
  refine gC (fun hc=>?_) fun hc=>?_
  ·
   have h1:mQ l b (dE ss)≠0:=by simpa using hc
   have hE:Df l b (dE ss)=mQ l b (dE ss):=if_pos h1
   refine gS (gR ?_);refine ah ?_
   iterate 2 refine ai ?_
   refine gE ?_
   refine gT func20 fun w' hS=>?_
   exact ⟨hS.ext,_,[],by rw [hE];rfl,ia.nil,fun h=>absurd (hE ▸ h) h1,fun _=>rfl⟩
  have h1:mQ l b (dE ss)=0:=by simpa using hc
  have hok:=jd.1 h1
  have hE:Df l b (dE ss)=if (gI af b (dE ss)).2.bad=true then 8 else 0:=if_neg (by simp [h1])
  obtain ⟨L,hLd⟩:∃L,L=dE ss:=⟨_,rfl⟩
  have hLl:L.length=ss.length:=by rw [hLd,cH]
  have hp0:=hok.pos
  have hp4:=hok.len
  rw [cH] at hp0 hp4
  have hnl:ss.length - 1<ss.length:=by omega
  refine gK (gS (gR ?_))
  refine ab.v (ae.gJ rfl rfl rfl rfl JS 0 rfl JB rfl) ?_
  refine gM rfl rfl rfl rfl rfl call36 (fun w _ hS=>(by exact vh l A cA b B cB ss w (hA.ay hS.ext) (hB.ay hS.ext) hok)) ?_
  rintro v w1 w2 Y' hS he ⟨v1,v2,os,ws,rfl,⟨qa,qo,qw,ca,co,cw,spa,spo,spw,H,rfl,rfl,hqa,hqo,hqw,hnew,hin⟩,hos,hws⟩
  refine ⟨_,hS.fE he (pre:=[_,_,_]) hnew,?_⟩
  rw [←hLd] at hok hos hws hE⊢
  have hol:os.length=(cy b L).length:=by rw [←hos,cH]
  have hwl:ws.length=os.length:=by
    have:=congrArg List.length hws
    rw [List.length_map,lA (Nat.le_refl _)] at this
    rw [hol,ku];exact this
  have hot:=hok.tr.pos
  have hot4:=hok.tr.len
  have hop:0<os.length:=by omega
  obtain ⟨bo,rfl⟩:∃b,qo=some b:=by
    cases qo with
    |none=>have:=hqo rfl;omega
    |some b=>exact ⟨b,rfl⟩
  obtain ⟨bq,rfl⟩:∃b,qw=some b:=by
    cases qw with
    |none=>have:=hqw rfl;omega
    |some b=>exact ⟨b,rfl⟩
  refine ah ?_
  iterate 2 refine ga ?_
  refine ab.eH rfl rfl rfl (fun _=>Ke _) (fun b5=>?_)
  refine ab.dw rfl rfl rfl rfl JB 0 rfl rfl rfl rfl ?_
  refine ai ?_;refine gE (gS (gR ?_))
  refine ab.v (ae.eP rfl rfl rfl rfl (bd73 (c:=[_,_]) rfl)) ?_
  refine ab.bx rfl rfl rfl rfl (fun b25=>?_)
  refine ai ?_;refine gE (gS (gR ?_));refine ai ?_;refine gE (gS (gS (gR ?_)));refine al Jx JK 2 ?_;refine aq JM 1 ?_;refine dt JI ?_;refine ah ?_;refine gE (gB ?_)
  refine ab.cS (xv 48 [] []) ?_
  refine ab.cS (ob bM 3 [] []) ?_
  refine ab.aX (pre:=[_,_,_,_,_,_,_,_]) (pre':=[(none,ob bM 3 [] []),(some b5,.cells (bK l (qa.map (fun b=>⟨b,0,none⟩)) b.length ca (some ⟨bo,0,none⟩) os.length co) 25 (0,0)),(qa,eX 66 b spa),(some bo,mc 41 os spo),(some bq,mc 41 ws spw),(some b1,.cells (bK l A b.length cA B ss.length cB) 25 (0,0)),(some b25,.cells #[cR none 0 0,xE false] 73 (0,0)),(none,xv 48 [] [])]) H [0,3,4,5,6,7,2,1] (by decide) rfl ?_
  refine ab.loop (σ:=Nat×Option Nat×Nat×List Value×Ws×List FV) (fun z=>[(1,.pointer (some ⟨b1,0,none⟩)),(5,.pointer (some ⟨b5,0,none⟩)),(6,.slice (some ⟨bq,0,none⟩) ws.length cw),(7,.pointer (some ⟨b25,0,none⟩)),(8,cR z.2.1 (iL (aT af b (cy b L) (cQ L L.length) z.1).1).length z.2.2.1),(27,.slice (some ⟨bo,0,none⟩) os.length co),(28,.int .i64 os.length),(29,.int .i64 z.1)])
    (fun z=>[(z.2.1,ob bM 3 (iL (aT af b (cy b L) (cQ L L.length) z.1).1) z.2.2.2.1),(some b5,.cells (bK l (qa.map (fun b=>⟨b,0,none⟩)) b.length ca (some ⟨bo,0,none⟩) os.length co) 25 (0,0)),(qa,eX 66 b spa),(some bo,mc 41 os spo),(some bq,mc 41 ws spw),(some b1,.cells (bK l A b.length cA B ss.length cB) 25 (0,0))]++(cn 73 48 (xE (aT af b (cy b L) (cQ L L.length) z.1).2.bad) b25 z.2.2.2.2.1++H))
    (fun z=>z.1≤os.length∧(z.2.1=none→(iL (aT af b (cy b L) (cQ L L.length) z.1).1).length=0∧z.2.2.1=0)∧((iL (aT af b (cy b L) (cQ L L.length) z.1).1).map bM++z.2.2.2.1).length=z.2.2.1∧fw 66 z.2.2.2.2.2 (aT af b (cy b L) (cQ L L.length) z.1).2 z.2.2.2.2.1)
    (fun z=>os.length - z.1) (0,none,0,[],⟨none,0,[],[],[]⟩,[]) ⟨Nat.zero_le _,fun _=>⟨rfl,rfl⟩,rfl,fw.start⟩ ⟨rfl,rfl,rfl,rfl,rfl,rfl,rfl,rfl,trivial⟩ (List.Sublist.refl _) (fun z hI IH=>?_)
  obtain ⟨i,q8,c8,sp8,s,Γ⟩:=z
  obtain ⟨hi,hq8,hc8,hW⟩:=hI
  dsimp only at hi hq8 hc8 hW IH⊢
  have hlal:=lO (T:=af) (b:=b) (tl:=cy b L) (fl:=cQ L L.length) (q:=i) (by omega)
  have hlaok:=kz (T:=af) (b:=b) (tl:=cy b L) (fl:=cQ L L.length) (q:=i) (by omega)
  have hsuc:∀(h:i<(cy b L).length),aT af b (cy b L) (cQ L L.length) (i+1)=((aT af b (cy b L) (cQ L L.length) i).1++[(bL af b (cy b L) ((cQ L L.length).getD i 0#64) (cy b L)[i] (aT af b (cy b L) (cQ L L.length) i).1 (aT af b (cy b L) (cQ L L.length) i).2).1],(bL af b (cy b L) ((cQ L L.length).getD i 0#64) (cy b L)[i] (aT af b (cy b L) (cQ L L.length) i).1 (aT af b (cy b L) (cQ L L.length) i).2).2):=fun h=>eO h
  obtain ⟨PR,hPR⟩:∃PR,PR=aT af b (cy b L) (cQ L L.length) i:=⟨_,rfl⟩
  rw [←hPR] at hq8 hc8 hW hlal hlaok hsuc⊢
  obtain ⟨la,σi⟩:=PR
  dsimp only at hq8 hc8 hW hlal hlaok hsuc⊢
  have hil8:(iL la).length=la.length:=iG
  refine gS (gR ?_);refine ax iJ ?_;refine gE (gS ?_)
  refine gC (fun hc=>?_) fun hc=>?_
  ·
   have hlt:i<os.length:=by simpa using hc
   have hltw:i<ws.length:=by omega
   have hltt:i<(cy b L).length:=by omega
   have hsuc:=hsuc hltt
   have hxi:os[i].d=(cy b L)[i]:=by
     have:(dE os)[i]'(by rw [cH];exact hlt)=os[i].d:=my hlt
     rw [←this];simp only [hos]
   have hfi:ws[i].d.set=(cQ L L.length).getD i 0#64:=by
     have:=congrArg (fun x=>x[i]?) hws
     simp only [List.getElem?_map,List.getElem?_eq_getElem hltw,Option.map_some] at this
     rw [List.getD_eq_getElem?_getD,←this];rfl
   rw [←hfi,←hxi] at hsuc
   obtain ⟨hxin,hxl⟩:=hin os[i] (List.getElem_mem hlt)
   refine gK (gS (gB (gS (gR ?_))));refine ah ?_
   refine ab.v (ae.dZ rfl rfl rfl rfl rfl JI Jz (i) ⟨rfl,hlt⟩) ?_
   refine ab.v (ae.mq (cs:=SV.cells os[i]) rfl rfl rfl rfl J5 Jz (fun w _ hS=>Sl.many (enc:=SV.cells) (sz:=5) (a:=some ⟨bo,0,none⟩) (Sl.di (hS.get (j:=3) rfl)) (fun _=>rfl) hlt)) ?_
   rw [hil8]
   refine ab.eH rfl rfl rfl (fun _=>Kf _) (fun b10=>?_)
   refine ai ?_
   refine ab.dw rfl rfl rfl rfl Jz 0 rfl rfl rfl rfl ?_
   refine gE (gS ?_)
   refine ab.jG 13 (([(some b10,.cells (SV.cells os[i]).toArray 41 (0,0)),(some b5,.cells (bK l (qa.map (fun b=>⟨b,0,none⟩)) b.length ca (some ⟨bo,0,none⟩) os.length co) 25 (0,0)),(some bq,mc 41 ws spw)])) mixed ?_
   refine cV 0 (ae.mv rfl rfl rfl rfl) ?_
   refine cV 1 (ae.gJ rfl rfl rfl rfl JS 1 rfl JB rfl) ?_
   refine cV 2 (ae.gJ rfl rfl rfl rfl J5 0 rfl Jz rfl) ?_
   refine cV 3 (ae.mv rfl rfl rfl rfl) ?_
   refine cV 4 (ae.mv rfl rfl rfl rfl) ?_
   refine cV 5 (ae.dZ rfl rfl rfl rfl rfl JI Jz (i) ⟨rfl,hltw⟩) ?_
   refine cV 6 (ae.fM (a:=some ⟨bq,0,none⟩) (o:=(i)*5) rfl rfl rfl rfl Ju rfl JF ((i)*5+0) rfl) ?_
   refine cV 7 (ae.ld rfl rfl rfl rfl JL (fun w _ hS=>Sl.kU (enc:=SV.cells) (sz:=5) (a:=some ⟨bq,0,none⟩) (Sl.di (hS.get (j:=2) rfl)) (fun _=>rfl) hltw rfl)) ?_
   refine cV 8 (ae.mv rfl rfl rfl rfl) ?_
   refine cV 9 (ae.eP rfl rfl rfl rfl (bd76 (c:=[_,_,_,_,_,_,_,_,_,_,_]) rfl)) ?_
   refine aH.one (i:=10) rfl (du.bx rfl rfl rfl rfl (fun b44=>⟨sL,?_⟩)) rfl
   refine cV 11 (ae.fC rfl rfl rfl rfl) ?_
   refine aH.done rfl ?_
   refine gE (gS (gR ?_))
   iterate 2 refine ah ?_
   obtain ⟨p,hp⟩:∃p:SP,p=⟨b25,b44,l,qa.map (fun b=>⟨b,0,none⟩),ca,b,some ⟨bo,0,none⟩,co,os,os[i],ws[i].d.set,q8.map (fun b=>⟨b,0,none⟩),c8,la⟩:=⟨_,rfl⟩
   have hpO:p.Ok i:=hok.GP (by rw [hp]) (by rw [hp]) (by rw [hp];exact hos) (by rw [hp];exact hlt) (by simp only [hp]) (by rw [hp];exact hfi) (by rw [hp];exact hlal)
   have hpI:Gs p ([(some b44,.cells p.cs 76 (0,0)),(some b10,.cells (SV.cells os[i]).toArray 41 (0,0)),(q8,ob bM 3 (iL la) sp8),(some b5,.cells (bK l (qa.map (fun b=>⟨b,0,none⟩)) b.length ca (some ⟨bo,0,none⟩) os.length co) 25 (0,0)),(qa,eX 66 b spa),(some bo,mc 41 os spo),(some bq,mc 41 ws spw),(some b1,.cells (bK l A b.length cA B ss.length cB) 25 (0,0))]++H):=by
     constructor
     · exact List.mem_append_left _ (by rw [show p.bs=b44 by rw [hp]];exact List.mem_cons_self ..)
     · exact ⟨qa,spa,by rw [hp];simp,by rw [hp],fun e=>by rw [hp];exact hqa e⟩
     · exact ⟨some bo,spo,by rw [hp];simp,by rw [hp];rfl,fun e=>by cases e⟩
     · obtain ⟨qx,spx,x1,x2,x3⟩:=hxin
       exact ⟨qx,spx,by rw [hp];exact List.mem_append_right _ x1,by rw [hp];exact x2,fun e=>by rw [hp];exact x3 e⟩
     exact ⟨q8,sp8,by rw [hp];exact List.mem_append_left _ (.tail _ (.tail _ (.head _))),by rw [hp],fun e=>by rw [hp,←hil8];exact (hq8 e).1⟩
   have hpcs:p.cs=#[.pointer (some ⟨b25,0,none⟩),.int .i64 l,.slice (qa.map (fun b=>⟨b,0,none⟩)) b.length ca,.slice (some ⟨bo,0,none⟩) os.length co,U os[i].d.set,.int .i64 os[i].d.av,.int .i64 os[i].d.on,.int .i64 os[i].d.e,.slice os[i].fa os[i].d.fr.length os[i].fc,U ws[i].d.set,.slice (q8.map (fun b=>⟨b,0,none⟩)) la.length c8]:=by rw [hp];rfl
   have hpbw:p.bw=b25:=by rw [hp]
   have hpbs:p.bs=b44:=by rw [hp]
   have hpst:bL af b (cy b L) ws[i].d.set os[i].d la σi=bL af p.b (dE p.tl) p.full p.x.d p.last σi:=by rw [hp];dsimp only;rw [hos]
   have hplast:qv p.b (dE p.tl) σi p.last i:=by rw [hp];dsimp only;rw [hos];exact hlaok
   refine ab.Ee (ef:=xE) (pre:=[_,_,_,_,_,_,_,_]) (H:=H) (hR':=([(some b44,.cells p.cs 76 (0,0)),(some b10,.cells (SV.cells os[i]).toArray 41 (0,0)),(q8,ob bM 3 (iL la) sp8),(some b5,.cells (bK l (qa.map (fun b=>⟨b,0,none⟩)) b.length ca (some ⟨bo,0,none⟩) os.length co) 25 (0,0)),(qa,eX 66 b spa),(some bo,mc 41 os spo),(some bq,mc 41 ws spw),(some b1,.cells (bK l A b.length cA B ss.length cB) 25 (0,0))]++H)) (res:=bL af b (cy b L) ws[i].d.set os[i].d la σi) hW (by rw [hpcs];exact List.Sublist.refl _) rfl rfl rfl rfl rfl (fun _ _=>call46 _ _) (fun w Y' hS=>by have:=Aj p i ([(some b44,.cells p.cs 76 (0,0)),(some b10,.cells (SV.cells os[i]).toArray 41 (0,0)),(q8,ob bM 3 (iL la) sp8),(some b5,.cells (bK l (qa.map (fun b=>⟨b,0,none⟩)) b.length ca (some ⟨bo,0,none⟩) os.length co) 25 (0,0)),(qa,eX 66 b spa),(some bo,mc 41 os spo),(some bq,mc 41 ws spw),(some b1,.cells (bK l A b.length cA B ss.length cB) 25 (0,0))]++H) Γ σi w hpI hpO hplast;rw [hpbw,hpbs,←hpst] at this;exact this) (fun s2 Γ2 hW2 hg2=>?_)
   obtain ⟨Q,hQ⟩:∃Q,Q=bL af b (cy b L) ws[i].d.set os[i].d la σi:=⟨_,rfl⟩
   rw [←hQ] at hsuc hW2⊢
   rw [←hil8]
   refine ab.ew (c:=[_]) rfl rfl rfl rfl Jt Jm JJ rfl rfl (fun b48=>?_)
   refine ab.oh bM (news:=[(Q.1:Int)]) (spn:=[]) (xs:=iL la) (sp:=sp8) (q:=q8) rfl rfl rfl rfl rfl Jt hiI hzI hszI rfl hq8 3 rfl 0 rfl hc8 rfl (by decide) (fun _=>rfl) (by unfold maxLen;omega) (by rw [hbyI];omega) (fun b' sp' cap' hlen=>?_)
   rw [←oX] at hlen⊢
   refine ai ?_;refine gE (gS (gR ?_));refine ah ?_;refine kp ?_;refine al J6 Jm 1 ?_;refine aq Jn 9 ?_;refine ax fX ?_;refine gE ?_
   refine gC (fun hc=>?_) fun hc=>?_
   ·
    have hb:Q.2.bad=true:=by
      cases hb:Q.2.bad with
      |true=>rfl
      |false=>rw [hb] at hc;simp at hc
    have hbW:(gI af b L).2.bad=true:=by
      cases hbW:(gI af b L).2.bad with
      |true=>rfl
      |false=>
        have:=(sZ (T:=af) (b:=b) (tl:=cy b L) (fl:=cQ L L.length) (q:=i+1) (r:=(cy b L).length) (by omega) (Nat.le_refl _)).trans (AX (T:=af) (b:=b) (L:=L))
        have:=this.ok hbW
        rw [hsuc,hb] at this;cases this
    rw [if_pos hbW] at hE
    have hE8:(if Q.2.bad=true then (8:Int) else 0)=8:=if_pos hb
    refine gS ?_
    refine ab.draw 6 mixed rfl ?_
    refine ko ?_;refine xu ?_;refine kM J6 Jm 1 ?_;refine qT Jn 9 ?_
    iterate 2 refine AS ?_
    refine aA.nil ?_
    refine gE ?_
    refine gT func20 fun w' hS=>?_
    exact ⟨hS.ext,_,[],by rw [hE,←hE8];rfl,ia.nil,fun h=>absurd (hE ▸ h) (by decide),fun _=>rfl⟩
   refine gK (dN (gR ?_));refine cU rfl rfl rfl rfl (cC (by omega)) ?_;refine ah ?_;refine gE ?_
   refine ab.aX (pre:=[_,_,_,_,_,_,_,_,_]) (pre':=[_,_,_,_,_,_]) (cn 73 48 (xE Q.2.bad) b25 s2++H) [3,4,5,6,7,8] (by decide) rfl ?_
   refine IH (i+1,some b',cap',sp',s2,Γ2) _ _ ⟨hlt,(fun e=>by cases e),by dsimp only;rw [hsuc];exact hlen,by dsimp only;rw [hsuc];exact hW2⟩ (by dsimp only;omega) ⟨rfl,rfl,rfl,rfl,by dsimp only;rw [hsuc];rfl,rfl,rfl,rfl,trivial⟩ (by dsimp only;rw [hsuc];exact List.Sublist.refl _)
  have hge:¬i<os.length:=by simpa using hc
  obtain rfl:i=os.length:=by omega
  have hlo:os.length - 1<os.length:=by omega
  obtain ⟨sn,hsn⟩:∃sn,sn=os[os.length - 1].d.set:=⟨_,rfl⟩
  obtain ⟨sm,hsm⟩:∃sm,sm=ss[ss.length - 1].d.set:=⟨_,rfl⟩
  have hsnS:dh (cy b L) (((cy b L).length - 1:Nat):Int)=sn:=by rw [←hol,←hos,sf hlo,hsn]
  have hsmS:dh L ((L.length - 1:Nat):Int)=sm:=by rw [hLl,hLd,sf hnl,hsm]
  have hsmI:ju b sm:=by
    rw [←hsmS,eN (by omega)];exact (hok.lX _ (by omega)).1
  have hnoneO:(dC b sm).ok:=(oW hok.base hsmI).1
  obtain ⟨ln,hln⟩:∃ln,ln=la.getD (os.length - 1) 0:=⟨_,rfl⟩
  have hlnL:σi.bad=false→ln<σi.ls.length:=fun h=>by rw [hln];exact (hlaok (os.length - 1) (by omega) h).1
  rw [hol] at hPR
  have hPWd:gI af b L=if sn=sm then (ln,σi) else aU af (dC b sm) [ln] σi:=by
    unfold gI;dsimp only
    rw [←hPR,hsnS,hsmS,hln,hol]
  have hla0:la.length - 1<(iL la).length:=by omega
  have hlai:(iL la).getD (la.length - 1) 0=(ln:Int):=by 
    have e:la.length - 1=os.length - 1:=by omega
    rw [nT (show la.length - 1<la.length by omega),hln]
    simp [List.getD_eq_getElem?_getD,e,show os.length - 1<la.length by omega]
  obtain ⟨b8,rfl⟩:∃b,q8=some b:=by
    cases q8 with
    |none=>have:=(hq8 rfl).1;omega
    |some b=>exact ⟨b,rfl⟩
  refine ab.G5 (h':=[(some b8,ob bM 3 (iL la) sp8),(some b5,.cells (bK l (qa.map (fun b=>⟨b,0,none⟩)) b.length ca (some ⟨bo,0,none⟩) os.length co) 25 (0,0)),(some bo,mc 41 os spo),(some b1,.cells (bK l A b.length cA B ss.length cB) 25 (0,0))]++cn 73 48 (xE σi.bad) b25 s) (fun _ _ hS=>hS.dO (.cons_cons _ (.cons_cons _ (.cons _ (.cons_cons _ (.cons _ (.cons_cons _ (List.sublist_append_left _ _)))))))) ?_
  refine ab.exit rfl (gS ?_)
  refine ab.draw 20 mixed rfl ?_
  refine kM Jx JK 2 ?_;refine qT JM 1 ?_;refine kM Jx JK 2 ?_;refine qT JM 1 ?_;refine Gz JI ?_
  refine aA.v (ae.bin rfl rfl rfl rfl (iM (c:=((os.length - 1:Nat):Int)) (by omega) (by omega)) rfl) ?_
  refine aA.v (ae.dZ rfl rfl rfl rfl rfl JI Jz ((os.length - 1)) ⟨rfl,hlo⟩) ?_
  refine aA.v (ae.fM (a:=some ⟨bo,0,none⟩) (o:=((os.length - 1))*5) rfl rfl rfl rfl Ju rfl JF (((os.length - 1))*5+0) rfl) ?_
  refine aA.v (ae.ld rfl rfl rfl rfl JL (fun w _ hS=>Sl.kU (enc:=SV.cells) (sz:=5) (a:=some ⟨bo,0,none⟩) (Sl.di (hS.get (j:=2) rfl)) (fun _=>rfl) hlo rfl)) ?_
  refine kM Jx JK 2 ?_;refine qT JM 3 ?_;refine kM Jx JK 2 ?_;refine qT JM 3 ?_;refine Gz JI ?_
  refine aA.v (ae.bin rfl rfl rfl rfl (iM (c:=((ss.length - 1:Nat):Int)) (by omega) (by omega)) rfl) ?_
  refine aA.v (ae.dK rfl rfl rfl rfl rfl JI Jz ⟨_,(hB).at_⟩ (aw (enc:=SV.cells) (sz:=5) (fun _=>rfl)) (by decide) ((ss.length - 1)) ⟨rfl,hnl⟩) ?_
  skip
  refine aA.v (ae.fM rfl rfl rfl rfl Ju rfl JF (((ss.length - 1))*5+0) rfl) ?_
  refine aA.v (ae.ld rfl rfl rfl rfl JL (fun w _ hS=>Sl.kU (enc:=SV.cells) (sz:=5) ((hB).ay hS.ext).at_ (fun _=>rfl) hnl rfl)) ?_
  iterate 2 refine AS ?_
  refine aA.nil ?_
  refine gE (gS ?_)
  refine ab.jM (α:={z:Ws×List FV // fw 66 z.2 (gI af b L).2 z.1}) (fun _=>[(7,.pointer (some ⟨b25,0,none⟩))]) (fun z=>cn 73 48 (xE (gI af b L).2.bad) b25 z.1.1) (fun z=>?_) (fun K=>?_)
  obtain ⟨⟨s9,Γ9⟩,hW9⟩:=z
  dsimp only at hW9⊢
  · -- what comes behind
   refine gS (gS (gR ?_));refine ah ?_;refine kp ?_;refine al J6 Jm 1 ?_;refine aq Jn 0 ?_;refine ax fX ?_;refine gE ?_
   refine gC (fun hc=>?_) fun hc=>?_
   ·
    have hb:(gI af b L).2.bad=true:=by
      cases hb:(gI af b L).2.bad with
      |true=>rfl
      |false=>rw [hb] at hc;simp at hc
    rw [if_pos hb] at hE
    have hE8:(if (gI af b L).2.bad=true then (8:Int) else 0)=8:=if_pos hb
    refine gS ?_
    refine ab.draw 6 mixed rfl ?_
    refine ko ?_;refine xu ?_;refine kM J6 Jm 1 ?_;refine qT Jn 0 ?_
    iterate 2 refine AS ?_
    refine aA.nil ?_
    refine gE ?_
    refine gT func20 fun w' hS=>?_
    exact ⟨hS.ext,_,[],by rw [hE,←hE8];rfl,ia.nil,fun h=>absurd (hE ▸ h) (by decide),fun _=>rfl⟩
   have hb:(gI af b L).2.bad=false:=by
     cases hb:(gI af b L).2.bad with
     |false=>rfl
     |true=>rw [hb] at hc;simp at hc
   rw [if_neg (by rw [hb];simp)] at hE
   refine gK (gS (gR ?_));refine ah ?_;refine kp ?_;refine al J6 Kd 0 ?_;refine aq isAgg31 0 ?_
   iterate 2 refine ai ?_
   refine gE ?_
   refine gT func20 fun w' hS=>?_
   exact ⟨hS.ext,_,s9.ls,by rw [hE];rfl,hW9.own (pre:=[]) hS,fun _=>hW9.BJ,fun h=>absurd hE h⟩
  · -- the first part
   refine gS (gR ?_)
   iterate 2 refine ah ?_
   refine ax B3 ?_;refine gE ?_
   refine gC (fun hc=>?_) fun hc=>?_
   ·
    have hne:¬sn=sm:=by rw [hsn,hsm];simpa using hc
    have hPW:gI af b L=aU af (dC b sm) [ln] σi:=by rw [hPWd,if_neg hne]
    rw [←hsm]
    refine ab.jG 14 (([(some b8,ob bM 3 (iL la) sp8),(some b1,.cells (bK l A b.length cA B ss.length cB) 25 (0,0))])) mixed ?_
    refine cV 0 (ae.mv rfl rfl rfl rfl) ?_
    refine cV 1 (ae.aG rfl rfl rfl rfl Jx rfl (by exact Jw) 1 rfl) ?_
    refine cV 2 (ae.dz rfl rfl rfl rfl JC 1 rfl rfl) ?_
    refine cV 3 (ae.mv rfl rfl rfl rfl) ?_
    refine cV 5 (ae.mv rfl rfl rfl rfl) ?_
    refine cV 6 (ae.mv rfl rfl rfl rfl) ?_
    refine cV 7 (ae.blt rfl rfl rfl (iu Jt) rfl) ?_
    refine cV 8 (ae.bin rfl rfl rfl rfl (iM (c:=((la.length - 1:Nat):Int)) (by omega) (by omega)) rfl) ?_
    refine cV 9 (ae.dZ rfl rfl rfl rfl rfl Jt Jm ((la.length - 1)) ⟨rfl,hla0⟩) ?_
    refine cV 10 (ae.rj bM 0 rfl rfl rfl rfl Jn 0 rfl hla0) ?_
    rw [hlai]
    refine aH.two (i:=4) (j:=11) rfl (du.iF (pre:=[_,_,_,_]) (u:=dC b sm) hW rfl rfl rfl rfl rfl (fun _ _=>call48 _ _) (fun w Y' hS=>rH A cA b sm w (hA.ay hS.ext) hok.base hsmI) (fun y s3 hyf hyz hW3=>⟨(.cons_cons _ (.cons _ (.cons _ (.cons_cons _ (List.nil_sublist _))))),?_⟩)) rfl (du.ew (c:=[_]) rfl rfl rfl rfl Jt Jm JJ rfl rfl (fun b92=>⟨.cons _ (.cons_cons _ (.cons _ (.cons _ (.cons_cons _ (List.nil_sublist _))))),?_⟩)) rfl
    · -- operation 4 next
     refine aH.one (i:=11) rfl (du.ew (c:=[_]) rfl rfl rfl rfl Jt Jm JJ rfl rfl (fun b92=>⟨sL,?_⟩)) rfl
     refine aH.one (i:=12) rfl (du.qm (ef:=xE) (pre:=[_,_,_,_,_]) (hR':=[(some b92,ob bM 3 (iL [ln]) [])]) hW3 (.cons_cons _ (List.nil_sublist _)) rfl rfl rfl rfl rfl (fun _ _=>JY _ _) (fun w Y' hS=>bG b25 _ σi y _ (some b92) [ln] 1 [] w (List.mem_cons_self ..) hyf hnoneO hyz (fun e=>by cases e) (fun h n hn=>by rw [List.mem_singleton.1 hn];exact hlnL h) (by simp)) (fun s4 Γ4 hW4 hg4=>⟨.cons _ (.cons_cons _ (.cons _ (.cons _ (.cons_cons _ (List.nil_sublist _))))),?_⟩)) rfl
     refine aH.done rfl ?_
     refine gE ?_
     exact K ⟨(s4,Γ4),by rw [hPW];exact hW4⟩ _ _ sF (fun _ _ hS=>by dsimp only;rw [hPW];exact hS.dO (List.sublist_append_right [_,_,_,_,_] _))
    · -- operation 11 next
     refine aH.one (i:=4) rfl (du.iF (pre:=[_,_,_,_,_]) (u:=dC b sm) hW rfl rfl rfl rfl rfl (fun _ _=>call48 _ _) (fun w Y' hS=>rH A cA b sm w (hA.ay hS.ext) hok.base hsmI) (fun y s3 hyf hyz hW3=>⟨.cons _ (.cons_cons _ (.cons _ (.cons _ (.cons_cons _ (List.nil_sublist _))))),?_⟩)) rfl
     refine aH.one (i:=12) rfl (du.qm (ef:=xE) (pre:=[_,_,_,_,_]) (hR':=[(some b92,ob bM 3 (iL [ln]) [])]) hW3 (.cons_cons _ (List.nil_sublist _)) rfl rfl rfl rfl rfl (fun _ _=>JY _ _) (fun w Y' hS=>bG b25 _ σi y _ (some b92) [ln] 1 [] w (List.mem_cons_self ..) hyf hnoneO hyz (fun e=>by cases e) (fun h n hn=>by rw [List.mem_singleton.1 hn];exact hlnL h) (by simp)) (fun s4 Γ4 hW4 hg4=>⟨.cons _ (.cons_cons _ (.cons _ (.cons _ (.cons_cons _ (List.nil_sublist _))))),?_⟩)) rfl
     refine aH.done rfl ?_
     refine gE ?_
     exact K ⟨(s4,Γ4),by rw [hPW];exact hW4⟩ _ _ sF (fun _ _ hS=>by dsimp only;rw [hPW];exact hS.dO (List.sublist_append_right [_,_,_,_,_] _))
   have he:sn=sm:=by rw [hsn,hsm];simpa using hc
   have hPW:gI af b L=(ln,σi):=by rw [hPWd,if_pos he]
   refine gK ?_
   exact K ⟨(s,Γ),by rw [hPW];exact hW⟩ _ _ sF (fun _ _ hS=>by dsimp only;rw [hPW];exact hS.dO (List.sublist_append_right [_,_,_,_] _))
end Go.Proofs.YtnfmegcknckahaaGreatDoor
namespace Go.Proofs.YtnfmegcknckahaaGreatDoor
open Go.RowKit Go.Proofs.Wit Tryz
/-! the examples are awake -/
theorem zN {P:Program} {t:TypeId} {a b:aB} {v:Bool} (h:(a==b)=v):kH P .eql t (U a) (U b) (.bool v):=h ▸ xm
set_option maxRecDepth 8000 in
set_option maxHeartbeats 1000000 in
theorem rz (w:World) (hT:EU w):Cn Tryz.prog 10 [] w (fun v _=>v=.bool true):=by
  refine Cn.of func10 rfl rfl ?_
  refine gS (gR ?_);refine ai ?_;refine gE (gS (gR ?_))
  refine gM rfl rfl rfl rfl rfl call31 (fun w _ hS=>(by exact zg 0 w)) ?_
  rintro v w1 w2 Y' hS he ho
  rw [D8] at ho
  obtain ⟨qp,cp,sp,rfl,hqp,hcp,hS'⟩:=ak hS he ho
  refine ⟨_,hS',?_⟩
  refine ai ?_;refine gE (gS (gR ?_));refine ah ?_
  refine gM rfl rfl rfl rfl rfl JQ (fun w _ hS=>(by exact iU 0 (by decide) ⟨(qp.map (fun b=>⟨b,0,none⟩)),cp,bT pT⟩ pT w (aM hS 0 rfl (fun e=>(hqp e).1)) rfl dV)) ?_
  rintro v w1 w2 Y' hS he ho
  obtain ⟨qk,ck,sk,rfl,hqk,hck,hS'⟩:=ak hS he ho
  refine ⟨_,hS',?_⟩
  refine ai ?_;refine gE (gS (gR ?_));refine ah ?_
  refine gM rfl rfl rfl rfl rfl call15 (fun w _ hS=>(by exact kY ⟨(qp.map (fun b=>⟨b,0,none⟩)),cp,bT pT⟩ w (aM hS 1 rfl (fun e=>(hqp e).1)) (gV (t:=pT)))) ?_
  rintro v w1 w2 Y' hS he ⟨sv,la,rfl,⟨qa,ca,sa,Ha,rfl,hqa,hca,hna,hia⟩,hda,_⟩
  have hda:=(hda DE.1).trans DE.2
  have hla:=congrArg List.length hda
  simp only [List.length_map] at hla
  refine ⟨_,hS.fE (pre:=[_]) he hna,?_⟩
  rw [DE.1]
  refine ah ?_
  iterate 2 refine ga ?_
  iterate 2 refine ai ?_
  refine gE (gS (gR ?_));refine ah ?_
  refine gM rfl rfl rfl rfl rfl call15 (fun w _ hS=>(by exact kY ⟨(qk.map (fun b=>⟨b,0,none⟩)),ck,bT (ar 0 pT)⟩ w (aM hS 1 rfl (fun e=>(hqk e).1)) (gV (t:=ar 0 pT)))) ?_
  rintro v w1 w2 Y' hS he ⟨sv,lb,rfl,⟨qb,cb,sb,Hb,rfl,hqb,hcb,hnb,hib⟩,hdb,_⟩
  have hdb:=(hdb wU.1).trans wU.2
  have hlb:=congrArg List.length hdb
  simp only [List.length_map] at hlb
  refine ⟨_,hS.fE (pre:=[_]) he hnb,?_⟩
  rw [wU.1]
  refine ah ?_
  iterate 2 refine ga ?_
  iterate 2 refine ai ?_
  refine gE (gS (gR ?_))
  refine gM rfl rfl rfl rfl rfl call33 (fun w _ hS=>(by exact vk w)) ?_
  rintro v w1 w2 Y' hS he ⟨t1,⟨qn1,qo1,cn1,co1,sn1,so1,H1,rfl,hqn1,hqo1,hn1,hi1⟩,hd1⟩
  refine ⟨_,hS.fE (pre:=[_,_]) he hn1,?_⟩
  have hl1:t1.length≤maxLen:=by have:=congrArg List.length hd1;simp only [List.length_map] at this;rw [this];decide
  have hlB:gO.length≤maxLen:=by decide
  refine gM rfl rfl rfl rfl rfl call20 (fun w _ hS=>(by exact xD 2 (qn1.map (fun b=>⟨b,0,none⟩)) cn1 gO (qo1.map (fun b=>⟨b,0,none⟩)) co1 t1 w (aM hS 0 rfl hqn1) (qR hS 1 rfl hqo1 (fun x hx=>⟨(hi1 x hx).1.mono (fun z hz=>by simp [hz]),(hi1 x hx).2⟩)) hlB hl1)) ?_
  rintro v w1 w2 Y' hS he ⟨sv,lc,rfl,⟨qc,cc,sc,Hc,rfl,hqc,hcc,hnc,hic⟩,hdc,_⟩
  have hdc:=(hdc (by rw [hd1];exact De.1)).trans (show GA gO (dE t1)=EL.map (fun x=>x.v.d) by rw [hd1];exact De.2)
  have hlc:=congrArg List.length hdc
  simp only [List.length_map] at hlc
  refine ⟨_,hS.fE (pre:=[_]) he hnc,?_⟩
  rw [hd1,De.1]
  refine ah ?_
  iterate 2 refine ga ?_
  iterate 2 refine ai ?_
  refine gE (gS (gR ?_))
  refine gM rfl rfl rfl rfl rfl call33 (fun w _ hS=>(by exact vk w)) ?_
  rintro v w1 w2 Y' hS he ⟨t2,⟨qn2,qo2,cn2,co2,sn2,so2,H2,rfl,hqn2,hqo2,hn2,hi2⟩,hd2⟩
  refine ⟨_,hS.fE (pre:=[_,_]) he hn2,?_⟩
  have hl2:t2.length≤maxLen:=by have:=congrArg List.length hd2;simp only [List.length_map] at this;rw [this];decide
  refine gM rfl rfl rfl rfl rfl call12 (fun w _ hS=>(by exact vi 2 (qn2.map (fun b=>⟨b,0,none⟩)) cn2 gO (qo2.map (fun b=>⟨b,0,none⟩)) co2 t2 w (aM hS 0 rfl hqn2) (qR hS 1 rfl hqo2 (fun x hx=>⟨(hi2 x hx).1.mono (fun z hz=>by simp [hz]),(hi2 x hx).2⟩)) hlB hl2)) ?_
  rintro v w1 w2 Y' hS he ⟨v1,rfl,hd,_⟩
  rw [hd2] at hd
  obtain ⟨t3,⟨qn3,qo3,cn3,co3,sn3,so3,H3,rfl,hqn3,hqo3,hn3,hi3⟩,hd3⟩:=hd (jd.2 vm)
  rw [pk] at hd3
  have hl3:=congrArg List.length hd3
  simp only [List.length_map] at hl3
  obtain ⟨bo3,rfl⟩:∃b,qo3=some b:=by
    cases qo3 with
    |none=>have:=hqo3 rfl;rw [hl3] at this;cases this
    |some b=>exact ⟨b,rfl⟩
  refine ⟨_,hS.fE (pre:=[_,_]) he hn3,?_⟩
  rw [hd2,show mQ 2 gO dF=0 from jd.2 vm]
  refine ah ?_
  iterate 2 refine ga ?_
  refine ab.eH rfl rfl rfl (fun _=>Ke _) (fun b9=>?_)
  refine ab.dw rfl rfl rfl rfl JB 0 rfl rfl rfl rfl ?_
  refine ai ?_;refine gE (gS (gR ?_));refine ah ?_
  refine gM rfl rfl rfl rfl rfl call17 (fun w _ hS=>(by exact wo ⟨(qk.map (fun b=>⟨b,0,none⟩)),ck,bT (ar 0 pT)⟩ w (aM hS 10 rfl (fun e=>(hqk e).1)) (gV (t:=ar 0 pT)))) ?_
  rintro v w1 w2 Y' hS he ⟨sv,lx,rfl,⟨qx,cx,sx,Hx,rfl,hqx,hcx,hnx,hix⟩,hdx,_⟩
  have hdx:=(hdx wU.1).trans wU.2
  have hlx:=congrArg List.length hdx
  simp only [List.length_map] at hlx
  refine ⟨_,hS.fE (pre:=[_]) he hnx,?_⟩
  rw [wU.1]
  refine ah ?_
  iterate 2 refine ga ?_
  iterate 2 refine ai ?_
  refine gE (gS (gS (gR ?_)));refine ah ?_
  refine cU rfl rfl rfl rfl (mF (v:=false) rfl) ?_
  iterate 2 refine ah ?_
  refine cU rfl rfl rfl rfl (mF (v:=false) rfl) ?_
  refine bA ?_
  iterate 2 refine ah ?_
  refine cU rfl rfl rfl rfl (mF (v:=false) rfl) ?_
  refine bA ?_
  iterate 2 refine ah ?_
  refine cU rfl rfl rfl rfl (mF (v:=false) rfl) ?_
  refine bA ?_
  iterate 2 refine ah ?_
  refine cU rfl rfl rfl rfl (mF (v:=false) rfl) ?_
  refine bA ?_
  iterate 2 refine ah ?_
  refine dt J3 ?_
  refine cU rfl rfl rfl rfl (mF (v:=false) (by rw [hla];rfl)) ?_
  refine bA ?_
  iterate 2 refine ah ?_
  refine dt J3 ?_
  refine cU rfl rfl rfl rfl (mF (v:=false) (by rw [hlb];rfl)) ?_
  refine bA ?_
  iterate 2 refine ah ?_
  refine dt J3 ?_
  refine cU rfl rfl rfl rfl (mF (v:=false) (by rw [hlc];rfl)) ?_
  refine bA ?_
  iterate 2 refine ah ?_
  refine dt J3 ?_
  refine cU rfl rfl rfl rfl (mF (v:=false) (by rw [hlx];rfl)) ?_
  refine bA ?_;refine ah ?_;refine al Jx JK 2 ?_;refine aq JM 1 ?_;refine dt JI ?_
  refine cU rfl rfl rfl rfl (mF (v:=false) (by rw [hl3];rfl)) ?_
  refine bA ?_;refine gE (ab.gp rfl (gK (gS ?_)))
  obtain ⟨ba,rfl⟩:∃b,qa=some b:=by
    cases qa with
    |none=>have:=(hqa rfl).1;rw [hla] at this;cases this
    |some b=>exact ⟨b,rfl⟩
  obtain ⟨bb,rfl⟩:∃b,qb=some b:=by
    cases qb with
    |none=>have:=(hqb rfl).1;rw [hlb] at this;cases this
    |some b=>exact ⟨b,rfl⟩
  obtain ⟨bc,rfl⟩:∃b,qc=some b:=by
    cases qc with
    |none=>have:=(hqc rfl).1;rw [hlc] at this;cases this
    |some b=>exact ⟨b,rfl⟩
  obtain ⟨bx,rfl⟩:∃b,qx=some b:=by
    cases qx with
    |none=>have:=(hqx rfl).1;rw [hlx] at this;cases this
    |some b=>exact ⟨b,rfl⟩
  obtain ⟨HR,hHR⟩:∃HR,HR=(((((Ha++Hb)++H1)++Hc)++H2)++H3)++Hx:=⟨_,rfl⟩
  have mA:∀z∈Ha,z∈HR:=fun z hz=>by rw [hHR];simp [hz]
  have mB:∀z∈Hb,z∈HR:=fun z hz=>by rw [hHR];simp [hz]
  have mC:∀z∈Hc,z∈HR:=fun z hz=>by rw [hHR];simp [hz]
  have mX:∀z∈Hx,z∈HR:=fun z hz=>by rw [hHR];simp [hz]
  refine ab.jM (α:=Unit) (fun _=>[(1,cR qp (bT pT).length cp),(2,cR qk (bT (ar 0 pT)).length ck),(3,cR (some ba) la.length ca),(5,cR (some bb) lb.length cb),(7,cR (some bc) lc.length cc),(11,cR (some bx) lx.length cx),(9,.pointer (some ⟨b9,0,none⟩)),(14,.int .i64 10)]) (fun _=>[(some b9,.cells (bK 2 (qn3.map (fun b=>⟨b,0,none⟩)) gO.length cn3 ((some bo3).map (fun b=>⟨b,0,none⟩)) t3.length co3) 25 (0,0)),(some bo3,mc 41 t3 so3),(some ba,xv 48 la sa),(some bb,xv 48 lb sb),(some bc,xv 48 lc sc),(some bx,xv 48 lx sx),(qp,eX 66 (bT pT) sp),(qk,eX 66 (bT (ar 0 pT)) sk)]++HR) (fun _=>?_) (fun K=>?_)
  · -- what comes behind
   refine gS ?_
   refine ab.eg 79 mixed ?_
   have hka:0<la.length:=by rw [hla];decide
   have hfa:(la[0]'hka).f.f=bT (aF (jv pT (aF pT))):=vZ hda hka (by decide)
   refine cV 0 (ae.mv rfl rfl rfl rfl) ?_
   refine cV 1 (ae.dZ rfl rfl rfl rfl rfl J3 J8 (0) ⟨rfl,hka⟩) ?_
   refine cV 2 (ae.fM (a:=some ⟨ba,0,none⟩) (o:=(0)*5) rfl rfl rfl rfl JO rfl Jw ((0)*5+0) rfl) ?_
   refine cV 3 (ae.ld rfl rfl rfl rfl JC (fun w _ hS=>Sl.kU (enc:=LV.cells) (sz:=5) (a:=some ⟨ba,0,none⟩) (Sl.di (hS.get (j:=2) rfl)) (fun _=>rfl) hka rfl)) ?_
   refine cV 4 (ae.mv rfl rfl rfl rfl) ?_
   refine cV 5 (ae.mv rfl rfl rfl rfl) ?_
   refine aH.call (i:=6) _ rfl rfl rfl rfl rfl rfl (fun _ _=>JP _ _) (fun w _ hS=>(by exact fZ ⟨(qp.map (fun b=>⟨b,0,none⟩)),cp,bT pT⟩ pT w (aM hS 6 rfl (fun e=>(hqp e).1)) rfl dV)) ?_
   rintro v w1 w2 Y' hS he ho
   obtain ⟨q1,c1,s1,rfl,hq1,hc1,hS'⟩:=ak hS he ho
   refine ⟨_,hS',sM,?_⟩
   refine aH.call (i:=7) _ rfl rfl rfl rfl rfl rfl (fun _ _=>call27 _ _) (fun w _ hS=>(by exact pS ⟨(qp.map (fun b=>⟨b,0,none⟩)),cp,bT pT⟩ ⟨(q1.map (fun b=>⟨b,0,none⟩)),c1,bT (aF pT)⟩ pT (aF pT) w (aM hS 7 rfl (fun e=>(hqp e).1)) rfl dV (aM hS 0 rfl (fun e=>(hq1 e).1)) rfl (bC dV))) ?_
   rintro v w1 w2 Y' hS he ho
   obtain ⟨q2,c2,s2,rfl,hq2,hc2,hS'⟩:=ak hS he ho
   refine ⟨_,hS',sM,?_⟩
   refine aH.call (i:=8) _ rfl rfl rfl rfl rfl rfl (fun _ _=>JP _ _) (fun w _ hS=>(by exact fZ ⟨(q2.map (fun b=>⟨b,0,none⟩)),c2,bT (jv pT (aF pT))⟩ (jv pT (aF pT)) w (aM hS 0 rfl (fun e=>(hq2 e).1)) rfl (gq dV (bC dV)))) ?_
   rintro v w1 w2 Y' hS he ho
   obtain ⟨q3,c3,s3,rfl,hq3,hc3,hS'⟩:=ak hS he ho
   refine ⟨_,hS',sM,?_⟩
   refine aH.cM (i:=9) rfl rfl rfl rfl rfl rfl (fun _ _=>call26 _ _) (fun w _ hS=>(by have:=eA (la[0]'hka).f.a (la[0]'hka).f.c (la[0]'hka).f.f (q3.map (fun b=>⟨b,0,none⟩)) c3 (bT (aF (jv pT (aF pT)))) w (((hia _ (List.getElem_mem hka)).1.mono (fun z hz=>by simp [mA z hz])).at hS) (aM hS 0 rfl (fun e=>(hq3 e).1)) (hia _ (List.getElem_mem hka)).2 gV;rw [show jZ (la[0]'hka).f.f (bT (aF (jv pT (aF pT))))=true from by rw [hfa,dI (Cf.Ab (bC (gq dV (bC dV))) (by decide+kernel)) (bC (gq dV (bC dV))),decide_eq_true rfl]] at this;exact this)) sL ?_
   have hkb:9<lb.length:=by rw [hlb];decide
   have hfb:(lb[9]'hkb).f.f=bT (aF (jv (ar 0 pT) (gl 0 (aF pT)))):=vZ hdb hkb (by decide)
   refine cV 10 (ae.mv rfl rfl rfl rfl) ?_
   refine cV 11 (ae.mv rfl rfl rfl rfl) ?_
   refine cV 12 (ae.dZ rfl rfl rfl rfl rfl J3 J8 (9) ⟨rfl,hkb⟩) ?_
   refine cV 13 (ae.fM (a:=some ⟨bb,0,none⟩) (o:=(9)*5) rfl rfl rfl rfl JO rfl Jw ((9)*5+0) rfl) ?_
   refine cV 14 (ae.ld rfl rfl rfl rfl JC (fun w _ hS=>Sl.kU (enc:=LV.cells) (sz:=5) (a:=some ⟨bb,0,none⟩) (Sl.di (hS.get (j:=3) rfl)) (fun _=>rfl) hkb rfl)) ?_
   refine cV 15 (ae.mv rfl rfl rfl rfl) ?_
   refine cV 16 (ae.mv rfl rfl rfl rfl) ?_
   refine aH.call (i:=17) _ rfl rfl rfl rfl rfl rfl (fun _ _=>JP _ _) (fun w _ hS=>(by exact fZ ⟨(qp.map (fun b=>⟨b,0,none⟩)),cp,bT pT⟩ pT w (aM hS 9 rfl (fun e=>(hqp e).1)) rfl dV)) ?_
   rintro v w1 w2 Y' hS he ho
   obtain ⟨q4,c4,s4,rfl,hq4,hc4,hS'⟩:=ak hS he ho
   refine ⟨_,hS',sM,?_⟩
   refine aH.call (i:=18) _ rfl rfl rfl rfl rfl rfl (fun _ _=>call35 _ _) (fun w _ hS=>(by exact rF 0 (by decide) ⟨(q4.map (fun b=>⟨b,0,none⟩)),c4,bT (aF pT)⟩ (aF pT) w (aM hS 0 rfl (fun e=>(hq4 e).1)) rfl (bC dV))) ?_
   rintro v w1 w2 Y' hS he ho
   obtain ⟨q5,c5,s5,rfl,hq5,hc5,hS'⟩:=ak hS he ho
   refine ⟨_,hS',sM,?_⟩
   refine aH.call (i:=19) _ rfl rfl rfl rfl rfl rfl (fun _ _=>call27 _ _) (fun w _ hS=>(by exact pS ⟨(qk.map (fun b=>⟨b,0,none⟩)),ck,bT (ar 0 pT)⟩ ⟨(q5.map (fun b=>⟨b,0,none⟩)),c5,bT (gl 0 (aF pT))⟩ (ar 0 pT) (gl 0 (aF pT)) w (aM hS 12 rfl (fun e=>(hqk e).1)) rfl oL (aM hS 0 rfl (fun e=>(hq5 e).1)) rfl (hJ (.inr rfl) (by decide) (bC dV)))) ?_
   rintro v w1 w2 Y' hS he ho
   obtain ⟨q6,c6,s6,rfl,hq6,hc6,hS'⟩:=ak hS he ho
   refine ⟨_,hS',sM,?_⟩
   refine aH.call (i:=20) _ rfl rfl rfl rfl rfl rfl (fun _ _=>JP _ _) (fun w _ hS=>(by exact fZ ⟨(q6.map (fun b=>⟨b,0,none⟩)),c6,bT (jv (ar 0 pT) (gl 0 (aF pT)))⟩ (jv (ar 0 pT) (gl 0 (aF pT))) w (aM hS 0 rfl (fun e=>(hq6 e).1)) rfl (gq oL (hJ (.inr rfl) (by decide) (bC dV))))) ?_
   rintro v w1 w2 Y' hS he ho
   obtain ⟨q7,c7,s7,rfl,hq7,hc7,hS'⟩:=ak hS he ho
   refine ⟨_,hS',sM,?_⟩
   refine aH.cM (i:=21) rfl rfl rfl rfl rfl rfl (fun _ _=>call26 _ _) (fun w _ hS=>(by have:=eA (lb[9]'hkb).f.a (lb[9]'hkb).f.c (lb[9]'hkb).f.f (q7.map (fun b=>⟨b,0,none⟩)) c7 (bT (aF (jv (ar 0 pT) (gl 0 (aF pT))))) w (((hib _ (List.getElem_mem hkb)).1.mono (fun z hz=>by simp [mB z hz])).at hS) (aM hS 0 rfl (fun e=>(hq7 e).1)) (hib _ (List.getElem_mem hkb)).2 gV;rw [show jZ (lb[9]'hkb).f.f (bT (aF (jv (ar 0 pT) (gl 0 (aF pT)))))=true from by rw [hfb,dI (Cf.Ab (bC (gq oL (hJ (.inr rfl) (by decide) (bC dV)))) (by decide+kernel)) (bC (gq oL (hJ (.inr rfl) (by decide) (bC dV)))),decide_eq_true rfl]] at this;exact this)) sL ?_
   have hkc:6<lc.length:=by rw [hlc];decide
   have hfc:(lc[6]'hkc).f.f=bT (aF (jv (aF pT) (ar 0 pT))):=vZ hdc hkc (by decide)
   refine cV 22 (ae.aX rfl rfl rfl rfl rfl) ?_
   refine cV 23 (ae.mv rfl rfl rfl rfl) ?_
   refine cV 24 (ae.mv rfl rfl rfl rfl) ?_
   refine cV 25 (ae.dZ rfl rfl rfl rfl rfl J3 J8 (6) ⟨rfl,hkc⟩) ?_
   refine cV 26 (ae.fM (a:=some ⟨bc,0,none⟩) (o:=(6)*5) rfl rfl rfl rfl JO rfl Jw ((6)*5+0) rfl) ?_
   refine cV 27 (ae.ld rfl rfl rfl rfl JC (fun w _ hS=>Sl.kU (enc:=LV.cells) (sz:=5) (a:=some ⟨bc,0,none⟩) (Sl.di (hS.get (j:=4) rfl)) (fun _=>rfl) hkc rfl)) ?_
   refine cV 28 (ae.mv rfl rfl rfl rfl) ?_
   refine cV 30 (ae.mv rfl rfl rfl rfl) ?_
   refine aH.call (i:=29) _ rfl rfl rfl rfl rfl rfl (fun _ _=>JP _ _) (fun w _ hS=>(by exact fZ ⟨(qp.map (fun b=>⟨b,0,none⟩)),cp,bT pT⟩ pT w (aM hS 13 rfl (fun e=>(hqp e).1)) rfl dV)) ?_
   rintro v w1 w2 Y' hS he ho
   obtain ⟨q8,c8,s8,rfl,hq8,hc8,hS'⟩:=ak hS he ho
   refine ⟨_,hS',sM,?_⟩
   refine aH.call (i:=31) _ rfl rfl rfl rfl rfl rfl (fun _ _=>call27 _ _) (fun w _ hS=>(by exact pS ⟨(q8.map (fun b=>⟨b,0,none⟩)),c8,bT (aF pT)⟩ ⟨(qk.map (fun b=>⟨b,0,none⟩)),ck,bT (ar 0 pT)⟩ (aF pT) (ar 0 pT) w (aM hS 0 rfl (fun e=>(hq8 e).1)) rfl (bC dV) (aM hS 15 rfl (fun e=>(hqk e).1)) rfl oL)) ?_
   rintro v w1 w2 Y' hS he ho
   obtain ⟨q9,c9,s9,rfl,hq9,hc9,hS'⟩:=ak hS he ho
   refine ⟨_,hS',sM,?_⟩
   refine aH.call (i:=32) _ rfl rfl rfl rfl rfl rfl (fun _ _=>JP _ _) (fun w _ hS=>(by exact fZ ⟨(q9.map (fun b=>⟨b,0,none⟩)),c9,bT (jv (aF pT) (ar 0 pT))⟩ (jv (aF pT) (ar 0 pT)) w (aM hS 0 rfl (fun e=>(hq9 e).1)) rfl (gq (bC dV) oL))) ?_
   rintro v w1 w2 Y' hS he ho
   obtain ⟨q10,c10,s10,rfl,hq10,hc10,hS'⟩:=ak hS he ho
   refine ⟨_,hS',sM,?_⟩
   refine aH.cM (i:=33) rfl rfl rfl rfl rfl rfl (fun _ _=>call26 _ _) (fun w _ hS=>(by have:=eA (lc[6]'hkc).f.a (lc[6]'hkc).f.c (lc[6]'hkc).f.f (q10.map (fun b=>⟨b,0,none⟩)) c10 (bT (aF (jv (aF pT) (ar 0 pT)))) w (((hic _ (List.getElem_mem hkc)).1.mono (fun z hz=>by simp [mC z hz])).at hS) (aM hS 0 rfl (fun e=>(hq10 e).1)) (hic _ (List.getElem_mem hkc)).2 gV;rw [show jZ (lc[6]'hkc).f.f (bT (aF (jv (aF pT) (ar 0 pT))))=true from by rw [hfc,dI (Cf.Ab (bC (gq (bC dV) oL)) (by decide+kernel)) (bC (gq (bC dV) oL)),decide_eq_true rfl]] at this;exact this)) sL ?_
   have hkx:9<lx.length:=by rw [hlx];decide
   have hfx:(lx[9]'hkx).f.f=bT (.bin 6 0 0 0 (ar 0 pT) (gl 0 (aF pT))):=vZ hdx hkx (by decide)
   refine cV 34 (ae.aX rfl rfl rfl rfl rfl) ?_
   refine cV 35 (ae.mv rfl rfl rfl rfl) ?_
   refine cV 36 (ae.mv rfl rfl rfl rfl) ?_
   refine cV 37 (ae.dZ rfl rfl rfl rfl rfl J3 J8 (9) ⟨rfl,hkx⟩) ?_
   refine cV 38 (ae.fM (a:=some ⟨bx,0,none⟩) (o:=(9)*5) rfl rfl rfl rfl JO rfl Jw ((9)*5+0) rfl) ?_
   refine cV 39 (ae.ld rfl rfl rfl rfl JC (fun w _ hS=>Sl.kU (enc:=LV.cells) (sz:=5) (a:=some ⟨bx,0,none⟩) (Sl.di (hS.get (j:=5) rfl)) (fun _=>rfl) hkx rfl)) ?_
   refine cV 40 (ae.mv rfl rfl rfl rfl) ?_
   refine cV 41 (ae.mv rfl rfl rfl rfl) ?_
   refine aH.call (i:=42) _ rfl rfl rfl rfl rfl rfl (fun _ _=>JP _ _) (fun w _ hS=>(by exact fZ ⟨(qp.map (fun b=>⟨b,0,none⟩)),cp,bT pT⟩ pT w (aM hS 16 rfl (fun e=>(hqp e).1)) rfl dV)) ?_
   rintro v w1 w2 Y' hS he ho
   obtain ⟨q11,c11,s11,rfl,hq11,hc11,hS'⟩:=ak hS he ho
   refine ⟨_,hS',sM,?_⟩
   refine aH.call (i:=43) _ rfl rfl rfl rfl rfl rfl (fun _ _=>call35 _ _) (fun w _ hS=>(by exact rF 0 (by decide) ⟨(q11.map (fun b=>⟨b,0,none⟩)),c11,bT (aF pT)⟩ (aF pT) w (aM hS 0 rfl (fun e=>(hq11 e).1)) rfl (bC dV))) ?_
   rintro v w1 w2 Y' hS he ho
   obtain ⟨q12,c12,s12,rfl,hq12,hc12,hS'⟩:=ak hS he ho
   refine ⟨_,hS',sM,?_⟩
   refine aH.call (i:=44) _ rfl rfl rfl rfl rfl rfl (fun _ _=>call28 _ _) (fun w _ hS=>(by exact Cg ⟨(qk.map (fun b=>⟨b,0,none⟩)),ck,bT (ar 0 pT)⟩ ⟨(q12.map (fun b=>⟨b,0,none⟩)),c12,bT (gl 0 (aF pT))⟩ (ar 0 pT) (gl 0 (aF pT)) w (aM hS 19 rfl (fun e=>(hqk e).1)) rfl oL (aM hS 0 rfl (fun e=>(hq12 e).1)) rfl (hJ (.inr rfl) (by decide) (bC dV)))) ?_
   rintro v w1 w2 Y' hS he ⟨ho,_⟩
   obtain ⟨q13,c13,s13,rfl,hq13,hc13,hS'⟩:=ak hS he ho
   refine ⟨_,hS',sM,?_⟩
   refine aH.cM (i:=45) rfl rfl rfl rfl rfl rfl (fun _ _=>call26 _ _) (fun w _ hS=>(by have:=eA (lx[9]'hkx).f.a (lx[9]'hkx).f.c (lx[9]'hkx).f.f (q13.map (fun b=>⟨b,0,none⟩)) c13 (bT (.bin 6 0 0 0 (ar 0 pT) (gl 0 (aF pT)))) w (((hix _ (List.getElem_mem hkx)).1.mono (fun z hz=>by simp [mX z hz])).at hS) (aM hS 0 rfl (fun e=>(hq13 e).1)) (hix _ (List.getElem_mem hkx)).2 gV;rw [show jZ (lx[9]'hkx).f.f (bT (.bin 6 0 0 0 (ar 0 pT) (gl 0 (aF pT))))=true from by rw [hfx,dI (Cf.Ab (jD oL (hJ (.inr rfl) (by decide) (bC dV))) (by decide+kernel)) (jD oL (hJ (.inr rfl) (by decide) (bC dV))),decide_eq_true rfl]] at this;exact this)) sL ?_
   have ht0:0<t3.length:=by rw [hl3];decide
   have hs0:(t3[0]'ht0).d.set=3#64:=by have:=congrArg (fun x=>x[0]?) hd3;simp only [List.getElem?_map,List.getElem?_eq_getElem ht0,Option.map_some] at this;exact congrArg SD.set (Option.some.inj this)
   refine cV 46 (ae.aX rfl rfl rfl rfl rfl) ?_
   refine cV 47 (ae.mv rfl rfl rfl rfl) ?_
   refine cV 48 (ae.aG rfl rfl rfl rfl Jx rfl (by exact JK) 2 rfl) ?_
   refine cV 49 (ae.dz rfl rfl rfl rfl JM 0 rfl rfl) ?_
   refine cV 50 (ae.dZ rfl rfl rfl rfl rfl JI Jz (0) ⟨rfl,ht0⟩) ?_
   refine cV 51 (ae.fM (a:=some ⟨bo3,0,none⟩) (o:=(0)*5) rfl rfl rfl rfl Ju rfl JF ((0)*5+0) rfl) ?_
   refine cV 52 (ae.ld rfl rfl rfl rfl JL (fun w _ hS=>Sl.kU (enc:=SV.cells) (sz:=5) (a:=some ⟨bo3,0,none⟩) (Sl.di (hS.get (j:=1) rfl)) (fun _=>rfl) ht0 rfl)) ?_
   refine cV 53 (ae.bin (b:=U 3#64) rfl rfl rfl rfl (zN (v:=true) (by rw [hs0];rfl)) rfl) ?_
   have ht1:1<t3.length:=by rw [hl3];decide
   have hs1:(t3[1]'ht1).d.set=6#64:=by have:=congrArg (fun x=>x[1]?) hd3;simp only [List.getElem?_map,List.getElem?_eq_getElem ht1,Option.map_some] at this;exact congrArg SD.set (Option.some.inj this)
   refine cV 54 (ae.aX rfl rfl rfl rfl rfl) ?_
   refine cV 55 (ae.mv rfl rfl rfl rfl) ?_
   refine cV 56 (ae.aG rfl rfl rfl rfl Jx rfl (by exact JK) 2 rfl) ?_
   refine cV 57 (ae.dz rfl rfl rfl rfl JM 0 rfl rfl) ?_
   refine cV 58 (ae.dZ rfl rfl rfl rfl rfl JI Jz (1) ⟨rfl,ht1⟩) ?_
   refine cV 59 (ae.fM (a:=some ⟨bo3,0,none⟩) (o:=(1)*5) rfl rfl rfl rfl Ju rfl JF ((1)*5+0) rfl) ?_
   refine cV 60 (ae.ld rfl rfl rfl rfl JL (fun w _ hS=>Sl.kU (enc:=SV.cells) (sz:=5) (a:=some ⟨bo3,0,none⟩) (Sl.di (hS.get (j:=1) rfl)) (fun _=>rfl) ht1 rfl)) ?_
   refine cV 61 (ae.bin (b:=U 6#64) rfl rfl rfl rfl (zN (v:=true) (by rw [hs1];rfl)) rfl) ?_
   refine cV 62 (ae.aX rfl rfl rfl rfl rfl) ?_
   refine cV 63 (ae.mv rfl rfl rfl rfl) ?_
   refine cV 64 (ae.mv rfl rfl rfl rfl) ?_
   refine cV 65 (ae.bin rfl rfl rfl rfl (ve (v:=true) rfl) rfl) ?_
   refine cV 66 (ae.aX rfl rfl rfl rfl rfl) ?_
   refine cV 67 (ae.mv rfl rfl rfl rfl) ?_
   refine cV 68 (ae.mv rfl rfl rfl rfl) ?_
   refine aH.cM (i:=69) rfl rfl rfl rfl rfl rfl (fun _ _=>call25 _ _) (fun w _ hS=>(by have:=tL 2 (some ⟨bc,0,none⟩) cc lc w (Cp hS 17 rfl (fun e=>by cases e) (fun x hx=>⟨(hic x hx).1.mono (fun z hz=>by simp [mC z hz]),(hic x hx).2⟩)) (hT.ex hS.ext);rw [F8 hdc] at this;exact this)) sL ?_
   refine cV 70 (ae.bin rfl rfl rfl rfl (ve (v:=true) rfl) rfl) ?_
   refine cV 71 (ae.aX rfl rfl rfl rfl rfl) ?_
   refine cV 72 (ae.mv rfl rfl rfl rfl) ?_
   refine cV 73 (ae.mv rfl rfl rfl rfl) ?_
   refine aH.cM (i:=74) rfl rfl rfl rfl rfl rfl (fun _ _=>call25 _ _) (fun w _ hS=>(by have:=tL 0 (some ⟨bb,0,none⟩) cb lb w (Cp hS 16 rfl (fun e=>by cases e) (fun x hx=>⟨(hib x hx).1.mono (fun z hz=>by simp [mB z hz]),(hib x hx).2⟩)) (hT.ex hS.ext);rw [F9 hdb] at this;exact this)) sL ?_
   refine cV 75 (ae.bin rfl rfl rfl rfl (ve (v:=true) rfl) rfl) ?_
   refine cV 76 (ae.aX rfl rfl rfl rfl rfl) ?_
   refine cV 77 (ae.fC rfl rfl rfl rfl) ?_
   refine aH.done rfl ?_
   refine gE ?_
   refine gT func10 fun w' hS=>?_
   exact ⟨hS.ext,rfl⟩
  · -- the first part
   refine gR ?_
   iterate 2 refine ah ?_
   refine gM rfl rfl rfl rfl rfl JR (fun w _ hS=>(by exact jh ⟨(qp.map (fun b=>⟨b,0,none⟩)),cp,bT pT⟩ ⟨(qp.map (fun b=>⟨b,0,none⟩)),cp,bT pT⟩ pT pT w (aM hS 12 rfl (fun e=>(hqp e).1)) rfl dV (aM hS 12 rfl (fun e=>(hqp e).1)) rfl dV)) ?_
   rintro v w1 w2 Y' hS he ho
   obtain ⟨qi,ci,si,rfl,hqi,hci,hS'⟩:=ak hS he ho
   refine ⟨_,hS',?_⟩
   refine gM rfl rfl rfl rfl rfl call15 (fun w _ hS=>(by exact kY ⟨(qi.map (fun b=>⟨b,0,none⟩)),ci,bT (aP pT pT)⟩ w (aM hS 0 rfl (fun e=>(hqi e).1)) (gV (t:=aP pT pT)))) ?_
   rintro v w1 w2 Y' hS he ⟨sv,lj,rfl,⟨qj,cj,sj,Hj,rfl,hqj,hcj,hnj,hij⟩,_,_⟩
   refine ⟨_,hS.fE (pre:=[_]) he hnj,?_⟩
   rw [FE]
   refine ah ?_
   iterate 2 refine ga ?_
   iterate 2 refine ai ?_
   refine gE ?_
   exact K () _ _ sF (fun _ _ hS=>by rw [hHR];exact (hS.aX (pre:=[_,_,_,_,_,_,_,_,_,_,_,_,_,_,_]) (pre':=[_,_,_,_,_,_,_,_]) (HR:=((((((Ha++Hb)++H1)++Hc)++H2)++H3)++Hx)++Hj) [3,5,12,11,8,2,14,13] (by decide) rfl).dO (List.Sublist.append (List.Sublist.refl _) (List.sublist_append_left _ _)))
end Go.Proofs.YtnfmegcknckahaaGreatDoor
namespace Go.Proofs.YtnfmegcknckahaaGreatDoor
open Go.RowKit Go.Proofs.Wit Tryz
/-! the law ExtractLess -/
theorem BB {b:List NV} {ss:List SV} (h:qK b ss):b.length≤maxLen∧ss.length≤maxLen:=by
 obtain ⟨h1,h2,_⟩:=h
 unfold maxLen;omega
theorem rD.none {w w':World}:rD w w' 0 [] (.agg (bK 0 none 0 0 none 0 0)) []:=⟨.none,.none,0,0,[],[],[],rfl,fun _=>rfl,fun _=>rfl,gi.HZ,fun _ h=>by cases h⟩
theorem vg (l:Int) (A:Option Addr) (cA:Nat) (b:List NV) (B:Option Addr) (cB:Nat) (ss:List SV) (w:World) (hA:FA w A b) (hB:sJ w B ss) (hl:b.length≤maxLen) (hsl:ss.length≤maxLen):
  Cn Tryz.prog 12 [.agg (bK l A b.length cA B ss.length cB)] w (fun v w'=>∃v1 l' b' os,v=.tuple #[v1,.int .i64 (mQ l b (dE ss))]∧rD w w' l' b' v1 os∧(mQ l b (dE ss)=0→l'=l∧b'=b∧dE os=cy b (dE ss))∧(mQ l b (dE ss)≠0→os=[])):=
 (vi l A cA b B cB ss w hA hB hl hsl).mono (fun v w' _ ⟨v1,h1,h2,h3⟩=>by
  by_cases e:mQ l b (dE ss)=0
  ·obtain ⟨os,h4,h5⟩:=h2 e
   exact ⟨v1,l,b,os,h1,h4,fun _=>⟨rfl,rfl,h5⟩,fun h=>absurd e h⟩
  rw [h3 e] at h1
  exact ⟨_,0,[],[],h1,rD.none,fun h=>absurd h e,fun _=>rfl⟩)
open Classical in
set_option maxRecDepth 8000 in
theorem qF (l:Int) (A:Option Addr) (cA:Nat) (b:List NV) (B:Option Addr) (cB:Nat) (ss:List SV) (w:World) (hT:EU w) (hA:FA w A b) (hB:sJ w B ss):
    Cn Tryz.prog 6 [.agg (bK l A b.length cA B ss.length cB)] w (fun v _=>v=.bool true):=by
  refine Cn.of func6 rfl rfl ?_
  refine gS (gR ?_)
  refine ab.bx rfl rfl rfl rfl (fun b1=>?_)
  refine ai ?_;refine gE (gS (gS (gR ?_)))
  refine gP rfl rfl rfl rfl rfl call10 (fun w _ hS=>(by exact rz w (hT.ex hS.ext))) ?_
  refine eY bH ?_;refine ah ?_
  refine ab.v (ae.gJ rfl rfl rfl rfl JS 0 rfl JB rfl) ?_
  refine gP rfl rfl rfl rfl rfl call11 (fun w _ hS=>(by exact CO l A cA b B cB ss w (hB.ay hS.ext))) ?_
  refine eY bH ?_;refine bA ?_;refine gE ?_
  refine gC (fun hc=>?_) fun hc=>?_
  ·
   have h1:¬qK b ss:=by simpa using hc
   refine gS (gR ?_)
   refine gP rfl rfl rfl rfl rfl call10 (fun w _ hS=>(by exact rz w (hT.ex hS.ext))) ?_
   refine ai ?_;refine gE ?_
   refine gT func6 fun w' hS=>?_
   exact ⟨hS.ext,rfl⟩
  have h1:qK b ss:=by simpa using hc
  obtain ⟨hbl,hsl⟩:=BB h1
  refine gK (gS (gR ?_))
  refine ab.v (ae.gJ rfl rfl rfl rfl JS 0 rfl JB rfl) ?_
  refine gM rfl rfl rfl rfl rfl call12 (fun w _ hS=>(by exact vg l A cA b B cB ss w (hA.ay hS.ext) (hB.ay hS.ext) hbl hsl)) ?_
  rintro v w1 w2 Y' hS he ⟨v1,l',b',os,rfl,⟨qa,qo,ca,co,spa,spo,H,rfl,hqa,hqo,hnew,hin⟩,hok,hno⟩
  refine ⟨_,hS.fE (pre:=[_,_]) he hnew,?_⟩
  refine ah ?_
  iterate 2 refine ga ?_
  refine ab.eH rfl rfl rfl (fun _=>Ke _) (fun b3=>?_)
  refine ab.dw rfl rfl rfl rfl JB 0 rfl rfl rfl rfl ?_
  refine ai ?_;refine gE (gS (gS (gR ?_)))
  refine ab.v (ae.gJ rfl rfl rfl rfl JS 3 rfl JB rfl) ?_
  refine gP rfl rfl rfl rfl rfl call22 (fun w _ hS=>(by exact jY l A cA b B cB ss w (hA.ay hS.ext) (hB.ay hS.ext) hbl hsl)) ?_
  refine ax fX ?_;refine gE ?_
  refine gC (fun hc=>?_) fun hc=>?_
  ·
   have h2:mQ l b (dE ss)≠0:=by simpa using hc
   obtain rfl:=hno h2
   refine gS (gR ?_);refine ah ?_
   refine ab.v (ae.gJ rfl rfl rfl rfl JS 3 rfl JB rfl) ?_
   refine gP rfl rfl rfl rfl rfl call22 (fun w _ hS=>(by exact jY l A cA b B cB ss w (hA.ay hS.ext) (hB.ay hS.ext) hbl hsl)) ?_
   refine cU rfl rfl rfl rfl (ve (v:=true) (beq_self_eq_true _)) ?_
   refine ah ?_;refine al Jx JK 2 ?_;refine aq JM 0 ?_;refine dt JI ?_
   refine cU rfl rfl rfl rfl (ve (v:=true) rfl) ?_
   refine bV ?_;refine ai ?_;refine gE ?_
   refine gT func6 fun w' hS=>?_
   exact ⟨hS.ext,rfl⟩
  have h2:mQ l b (dE ss)=0:=by simpa using hc
  obtain ⟨rfl,rfl,hdo⟩:=hok h2
  have hR:=jd.1 h2
  have hRt:=hR.tr
  rw [←hdo] at hRt
  have h3:mQ l' b' (dE os)=0:=jd.2 hRt
  have hpos:0<os.length:=by have:=hRt.pos;rwa [cH] at this
  have h4096:os.length≤4096:=by have:=hRt.len;rwa [cH] at this
  have hle:os.length≤ss.length:=by
    have h5:=congrArg List.length hdo
    rw [ku,cH,cH] at h5
    have:=o7 (p:=cX (dE ss)) (k:=ss.length)
    omega
  have hom:os.length≤maxLen:=by unfold maxLen;omega
  have hsb:=h1.2.1
  have hlt:os.length - 1<os.length:=by omega
  have hlt2:ss.length - 1<ss.length:=by omega
  have hset:os[os.length - 1].d.set &&& ~~~ ss[ss.length - 1].d.set=0#64:=by
    obtain ⟨k1,k2,k3,_⟩:=hR.vn
    have e1:os[os.length - 1].d=(cy b' (dE ss))[(cy b' (dE ss)).length - 1]:=by
      have h5:(dE os)[os.length - 1]?=(cy b' (dE ss))[(cy b' (dE ss)).length - 1]?:=by rw [←hdo,cH]
      rw [List.getElem?_eq_getElem k1,List.getElem?_map,List.getElem?_eq_getElem hlt] at h5
      exact Option.some.inj h5
    rw [e1,k3,lL]
    intro n hn
    have hn':(mJ b' (dE ss) ((dE ss).length - 1)).getLsbD n=true:=hn
    have:=hR.sub _ k2 n hn'
    simpa [cH] using this
  have hag:cy b' (dE os)=dE os:=by rw [hdo];exact hR.again
  obtain ⟨bo,rfl⟩:∃b,qo=some b:=by
    cases qo with
    |none=>have:=hqo rfl;omega
    |some b=>exact ⟨b,rfl⟩
  rw [h2]
  refine gK (gS (gR ?_));refine al Jx JK 2 ?_;refine aq JM 0 ?_;refine dt JI ?_;refine ai ?_;refine gE (gS (gS ?_))
  refine ab.draw 45 mixed rfl ?_
  refine ko ?_
  refine aA.v (ae.bin rfl rfl rfl rfl (mF (v:=false) rfl) rfl) ?_
  refine ko ?_
  refine aA.v (ae.gJ rfl rfl rfl rfl JS 0 rfl JB rfl) ?_
  refine aA.cM rfl rfl rfl rfl rfl (fun _ _=>call22 _ _) (fun w _ hS=>(by exact jY l' (qa.map (fun b=>⟨b,0,none⟩)) ca b' (some ⟨bo,0,none⟩) co os w (aM hS 1 rfl hqa) (qR hS 2 rfl (fun e=>by cases e) (fun x hx=>⟨(hin x hx).1.mono (fun z hz=>by simp [hz]),(hin x hx).2⟩)) hbl hom)) ?_
  refine aA.v (ae.bin rfl rfl rfl rfl (mF (v:=false) (by rw [h3];rfl)) rfl) ?_
  refine C9 ?_
  iterate 2 refine ko ?_
  refine aA.v (ae.bin rfl rfl rfl rfl (ve (v:=false) (by simp only [beq_eq_false_iff_ne];omega)) rfl) ?_
  refine C9 ?_
  iterate 2 refine ko ?_
  refine kM Jx JK 2 ?_;refine qT JM 3 ?_;refine Gz JI ?_
  refine aA.v (ae.bin rfl rfl rfl rfl (Hu (v:=false) (by simp;omega)) rfl) ?_
  refine C9 ?_;refine ko ?_;refine kM Jx Jm 0 ?_;refine qT Jn 0 ?_;refine kM Jx Jm 0 ?_;refine qT Jn 3 ?_
  refine aA.v (ae.bin rfl rfl rfl rfl (mF (v:=false) (by simp)) rfl) ?_
  refine C9 ?_;refine ko ?_;refine kM Jx JK 2 ?_;refine qT JM 0 ?_;refine ko ?_
  refine aA.v (ae.bin rfl rfl rfl rfl (iM (c:=((os.length - 1:Nat):Int)) (by omega) (by omega)) rfl) ?_
  refine aA.v (ae.dZ rfl rfl rfl rfl rfl JI Jz ((os.length - 1)) ⟨rfl,hlt⟩) ?_
  refine aA.v (ae.fM (a:=some ⟨bo,0,none⟩) (o:=((os.length - 1))*5) rfl rfl rfl rfl Ju rfl JF (((os.length - 1))*5+0) rfl) ?_
  refine aA.v (ae.ld rfl rfl rfl rfl JL (fun w _ hS=>Sl.kU (enc:=SV.cells) (sz:=5) (a:=some ⟨bo,0,none⟩) (Sl.di (hS.get (j:=2) rfl)) (fun _=>rfl) hlt rfl)) ?_
  refine kM Jx JK 2 ?_;refine qT JM 3 ?_;refine kM Jx JK 2 ?_;refine qT JM 3 ?_;refine Gz JI ?_
  refine aA.v (ae.bin rfl rfl rfl rfl (iM (c:=((ss.length - 1:Nat):Int)) (by omega) (by omega)) rfl) ?_
  refine aA.v (ae.dK rfl rfl rfl rfl rfl JI Jz ⟨_,(hB).at_⟩ (aw (enc:=SV.cells) (sz:=5) (fun _=>rfl)) (by decide) ((ss.length - 1)) ⟨rfl,hlt2⟩) ?_
  refine aA.v (ae.fM rfl rfl rfl rfl Ju rfl JF (((ss.length - 1))*5+0) rfl) ?_
  refine aA.v (ae.ld rfl rfl rfl rfl JL (fun w _ hS=>Sl.kU (enc:=SV.cells) (sz:=5) ((hB).ay hS.ext).at_ (fun _=>rfl) hlt2 rfl)) ?_
  refine AR gG ?_
  refine aA.v (ae.bin (b:=U 0#64) rfl rfl rfl rfl (Gh (v:=false) (by rw [hset];rfl)) rfl) ?_
  refine C9 ?_
  refine aA.nil ?_
  refine gE (ab.gp rfl (gK (gS (gR ?_))))
  refine ab.v (ae.gJ rfl rfl rfl rfl JS 0 rfl JB rfl) ?_
  refine gM rfl rfl rfl rfl rfl call12 (fun w _ hS=>(by exact vg l' (qa.map (fun b=>⟨b,0,none⟩)) ca b' (some ⟨bo,0,none⟩) co os w (aM hS 1 rfl hqa) (qR hS 2 rfl (fun e=>by cases e) (fun x hx=>⟨(hin x hx).1.mono (fun z hz=>by simp [hz]),(hin x hx).2⟩)) hbl hom)) ?_
  rintro v w1 w2 Y' hS he ⟨v1,l2,c2,os2,rfl,⟨qa2,qo2,ca2,co2,spa2,spo2,H2,rfl,hqa2,hqo2,hnew2,hin2⟩,hok2,hno2⟩
  obtain ⟨rfl,rfl,hdo2⟩:=hok2 h3
  rw [h3]
  refine ⟨_,hS.fE (pre:=[_,_]) he hnew2,?_⟩
  refine ah ?_
  iterate 2 refine ga ?_
  refine ab.eH rfl rfl rfl (fun _=>Ke _) (fun b6=>?_)
  refine ab.dw rfl rfl rfl rfl JB 0 rfl rfl rfl rfl ?_
  refine ai ?_;refine gE (gS (gR ?_));refine ah ?_
  refine cU rfl rfl rfl rfl (ve (v:=true) rfl) ?_
  refine ah ?_
  refine ab.v (ae.gJ rfl rfl rfl rfl JS 0 rfl JB rfl) ?_
  refine ab.v (ae.gJ rfl rfl rfl rfl JS 3 rfl JB rfl) ?_
  refine gP rfl rfl rfl rfl rfl call14 (fun w _ hS=>(by exact xC l2 (qa2.map (fun b=>⟨b,0,none⟩)) ca2 c2 (qo2.map (fun b=>⟨b,0,none⟩)) co2 os2 l2 (qa.map (fun b=>⟨b,0,none⟩)) ca c2 (some ⟨bo,0,none⟩) co os w (aM hS 1 rfl hqa2) (qR hS 2 rfl hqo2 (fun x hx=>⟨(hin2 x hx).1.mono (fun z hz=>by simp [hz]),(hin2 x hx).2⟩)) (aM hS 4 rfl hqa) (qR hS 5 rfl (fun e=>by cases e) (fun x hx=>⟨(hin x hx).1.mono (fun z hz=>by simp [hz]),(hin x hx).2⟩)) hbl (by have:=congrArg List.length hdo2;rw [hag,cH,cH] at this;omega))) ?_
  rw [decide_eq_true ⟨rfl,rfl,hdo2.trans hag⟩]
  refine bV ?_;refine ai ?_;refine gE ?_
  refine gT func6 fun w' hS=>?_
  exact ⟨hS.ext,rfl⟩
end Go.Proofs.YtnfmegcknckahaaGreatDoor
