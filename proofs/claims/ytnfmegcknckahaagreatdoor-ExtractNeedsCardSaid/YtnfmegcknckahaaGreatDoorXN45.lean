/- What calls of the program return, under the conditions that each theorem states. -/
import Derived.Test.YtnfmegcknckahaaGreatDoorXN44
import Derived.Test.YtnfmegcknckahaaGreatDoorXN03
import Derived.Test.YtnfmegcknckahaaGreatDoorXN04
import Derived.Test.YtnfmegcknckahaaGreatDoorXN41
import Derived.Test.YtnfmegcknckahaaGreatDoorXN33
import Derived.Test.YtnfmegcknckahaaGreatDoorXN42
import Derived.Test.YtnfmegcknckahaaGreatDoorXN43
import Derived.Test.YtnfmegcknckahaaGreatDoorXN24
namespace Go.Proofs.YtnfmegcknckahaaGreatDoor
open Go.RowKit Go.Proofs.Wit Tryz
/-! the writer: the steps: the program -/
theorem yE {p:SP} {σ:Sg} (h:p.x.d.av=6∨p.x.d.av=7):bL af p.b (dW p.tl) p.full p.x.d p.last σ=Fv p (dA p.b p.x.d.set) σ:=by
 unfold bL Fv SP.ag SP.ns SP.tg SP.own SP.line SP.S0
 rcases h with h|h<;>simp [h]
set_option maxRecDepth 8000 in
theorem Ac (p:SP) (k:Nat) (hR:Hl) (Γ:List FV) (σ:Sg) (w:World) (hin:Gg p hR) (hp:p.Ok k) (hlast:qA p.b (dW p.tl) σ p.last k):
    XW p.bw Γ σ 46 [.pointer (some ⟨p.bs,0,none⟩)] w hR (bL af p.b (dW p.tl) p.full p.x.d p.last σ):=by
  have hb:=hp.base
  have hins:=hp.lV.1
  have hGo:(dA p.b p.x.d.set).ok:=(oW hb hins).1
  have hfrj:∀(m:Nat) (hm:m<p.x.d.fr.length),∃j:Nat,p.x.d.fr[m]=(j:Int)∧j<p.last.length∧p.x.d.fr.getD m 0=(j:Int)∧(σ.bad=false→p.last.getD j 0<σ.ls.length):=fun m hm=>by
    have:=hp.lV.l8 (List.getElem_mem hm)
    refine ⟨p.x.d.fr[m].toNat,by omega,by rw [hp.Fx];omega,by simp [List.getD_eq_getElem?_getD,hm];omega,fun h=>(hlast _ (by omega) h).1⟩
  have hon:p.x.d.av≠6→p.x.d.av≠7→p.x.d.av≠2→p.x.d.av≠3→∃o:Nat,p.x.d.on=(o:Int)∧o<p.b.length∧(p.x.d.av=5→(nd p.b p.x.d.on).op=9):=fun n6 n7 n2 n3=>by
    rcases hp.lV.2 with ⟨e,_,h|h⟩|⟨e,_⟩|⟨e,_⟩|⟨e,h,_⟩|⟨e,_,_,h,_⟩|⟨e,_⟩|⟨e,_⟩
    · obtain ⟨o,q1,q2,_⟩:=h.1.nat hb;exact ⟨o,q1,q2,fun h=>by omega⟩
    · obtain ⟨o,q1,_⟩:=fN.1 h.1;have:=h.2.1;exact ⟨o,q1,by omega,fun h=>by omega⟩
    · exact absurd e n2
    · exact absurd e n3
    · exact ⟨p.x.d.on.toNat,by omega,by omega,fun h=>by omega⟩
    · obtain ⟨o,q1,q2,_,q4⟩:=h.nat hb;exact ⟨o,q1,q2,fun _=>q4⟩
    · exact absurd e n6
    exact absurd e n7
  refine rC.of func46 rfl rfl (fun s hW hH=>?_)
  have hr:SR p (cI (cg 73 48 (xE σ.bad) p.bw s)) w:=hin.r hH
  have HB:∀{w':World} {j:Nat} {u:Value},Ex (cI (cg 73 48 (xE σ.bad) p.bw s)) w w'→p.cs[j]?=some u→w'.cell? ⟨p.bs,j,none⟩=some u:=fun e hu=>Ex.cell (Ex.refl _ _) (hr.ex e).df hu
  obtain ⟨bs,hbs⟩:∃bs,bs=p.bs:=⟨_,rfl⟩
  rw [←hbs] at HB
  have hpb:(Value.pointer (some ⟨p.bs,0,none⟩))=.pointer (some ⟨bs,0,none⟩):=by rw [hbs]
  rw [hpb]
  refine gS (gR ?_);refine ai ?_;refine gE (gS ?_)
  refine ab.jE 18 (([])) mixed ?_
  refine cV 0 (ae.mv rfl rfl rfl rfl) ?_
  refine cV 1 (ae.ed rfl rfl rfl rfl) ?_
  refine cV 2 (ae.aF rfl rfl rfl rfl JM rfl (by exact sizeOf70) 0 rfl) ?_
  refine cV 3 (ae.ld (p:=⟨bs,0,none⟩) rfl rfl rfl rfl isAgg70 (fun w _ hS=>HB hS.ext rfl)) ?_
  refine cV 4 (ae.mv rfl rfl rfl rfl) ?_
  refine cV 5 (ae.ed rfl rfl rfl rfl) ?_
  refine cV 6 (ae.aF rfl rfl rfl rfl JM rfl (by exact Jt) 1 rfl) ?_
  refine cV 7 (ae.aF rfl rfl rfl rfl Js rfl (by exact Jo) 2 rfl) ?_
  refine cV 8 (ae.ld (p:=⟨bs,2,none⟩) rfl rfl rfl rfl Ju (fun w _ hS=>HB hS.ext rfl)) ?_
  refine cV 9 (ae.mv rfl rfl rfl rfl) ?_
  refine cV 10 (ae.ed rfl rfl rfl rfl) ?_
  refine cV 11 (ae.aF rfl rfl rfl rfl JM rfl (by exact Jr) 4 rfl) ?_
  refine cV 12 (ae.aF rfl rfl rfl rfl Jm rfl (by exact Jz) 4 rfl) ?_
  refine cV 13 (ae.ld (p:=⟨bs,4,none⟩) rfl rfl rfl rfl JE (fun w _ hS=>HB hS.ext rfl)) ?_
  refine aG.one (i:=14) rfl (dn.iD (pre:=[]) (u:=dA p.b p.x.d.set) hW rfl rfl rfl rfl rfl (fun _ _=>call48 _ _) (fun w Y' hS=>rI p.A p.cA p.b p.x.d.set w (hr.ex hS.ext).fa hb hins) (fun y s1 hyf hyz hW1=>⟨List.nil_sublist _,?_⟩)) rfl
  refine cV 15 (ae.fA rfl rfl rfl rfl) ?_
  refine cV 16 (ae.fA rfl rfl rfl rfl) ?_
  refine aG.done rfl ?_
  refine gE (gS (gS (gR ?_)));refine ah ?_;refine ko ?_;refine al JM Jr 4 ?_;refine al Jm Je 5 ?_
  refine ab.v (ae.ld (p:=⟨bs,5,none⟩) rfl rfl rfl rfl Jf (fun w _ hS=>HB hS.ext rfl)) ?_
  refine gE (gB (gS (gR ?_)));refine aw bd ?_;refine ai ?_;refine gE ?_
  refine gC (fun hc=>?_) fun hc=>?_
  ·
   have r1:p.x.d.av=1:=by simpa using hc
   obtain ⟨o,ho,hol,_⟩:=hon (by omega) (by omega) (by omega) (by omega)
   have hnd:nd p.b p.x.d.on=p.b[o]:=by rw [ho,dH hol]
   have htA:tA p.b p.x.d.on=aa p.b o:=by rw [ho,jc]
   have hcO:=(wo hb hol).2
   refine gS (gS ?_)
   refine ab.draw 14 mixed rfl ?_
   refine mO ?_;refine xm ?_;refine mP JM Jt 1 ?_;refine mP Js Jo 2 ?_
   refine aM.v (ae.ld (p:=⟨bs,2,none⟩) rfl rfl rfl rfl Ju (fun w _ hS=>HB hS.ext rfl)) ?_
   refine mO ?_;refine xm ?_;refine mP JM Jr 4 ?_;refine mP Jm Je 6 ?_
   refine aM.v (ae.ld (p:=⟨bs,6,none⟩) rfl rfl rfl rfl Jf (fun w _ hS=>HB hS.ext rfl)) ?_
   refine aM.v (ae.eg rfl rfl rfl rfl rfl Jn Ji ⟨_,(hr.EG).at_⟩ (ax (enc:=NV.cells) (sz:=6) (fun _=>rfl)) (by decide) (o) ⟨ho,hol⟩) ?_
   refine aM.v (ae.fH rfl rfl rfl rfl Jg rfl Je ((o)*6+0) rfl) ?_
   refine aM.v (ae.ld rfl rfl rfl rfl Jf (fun w _ hS=>Sl.kO (enc:=NV.cells) (sz:=6) ((hr.EG).aA hS.ext).at_ (fun _=>rfl) hol rfl)) ?_
   refine C0 bd ?_
   refine aM.nil ?_
   refine gE ?_
   refine gC (fun hc=>?_) fun hc=>?_
   ·
    have h2:p.b[o].op=2:=by simpa using hc
    have hE:bL af p.b (dW p.tl) p.full p.x.d p.last σ=aU af (dA p.b p.x.d.set) [] σ:=by unfold bL;simp only [if_pos r1,hnd,if_pos h2]
    refine gS (gR ?_)
    iterate 2 refine ah ?_
    refine ab.bu (pre:=[]) (hR':=[]) hH hW1 (List.nil_sublist _) rfl rfl rfl rfl rfl (fun _ _=>JP _ _) (fun w Y' hS=>by exact mc p.bw _ _ y _ w (List.mem_cons_self ..) hyf hGo hyz) (fun s2 Γ2 hW2 hg2=>?_)
    refine ai ?_;refine gE ?_
    refine gT func46 fun w' hS=>?_
    exact dR (pre:=[]) hE rfl hW2 (fun _ h=>hg2 (List.mem_cons_of_mem _ h)) hS
   have h2:¬p.b[o].op=2:=by simpa using hc
   have hE:bL af p.b (dW p.tl) p.full p.x.d p.last σ=aU af (dA p.b p.x.d.set) [(aI af false (aa p.b o) σ).1] (aI af false (aa p.b o) σ).2:=by unfold bL;simp only [if_pos r1,hnd,if_neg h2,htA]
   refine gK (gS (gR ?_))
   iterate 5 refine ah ?_
   refine ko ?_;refine al JM Jr 4 ?_;refine al Jm Je 6 ?_
   refine ab.v (ae.ld (p:=⟨bs,6,none⟩) rfl rfl rfl rfl Jf (fun w _ hS=>HB hS.ext rfl)) ?_
   rw [hbs]
   refine ab.uy (pre:=[]) (u:=aa p.b o) hW1 rfl rfl rfl rfl rfl (fun _ _=>call81 _ _) (fun w Y' hS=>by rw [←htA];exact ia p _ w (hr.ex hS.ext) hb (by omega)) (fun x2 s2 hf2 hW2=>?_)
   refine ab.bu (pre:=[]) (hR':=[]) hH hW2 (List.nil_sublist _) rfl rfl rfl rfl rfl (fun _ _=>call43 _ _) (fun w Y' hS=>by exact xA p.bw (SizeOf.sizeOf (aa p.b o)+1) _ (Nat.lt_succ_self _) (hb.nf o hol) _ σ x2 w (List.mem_cons_self ..) (by rw [hf2];exact hcO)) (fun s3 Γ3 hW3 hg3=>?_)
   refine ab.eh (c:=[_]) rfl rfl rfl rfl Jl Je JA rfl rfl (fun b57=>?_)
   refine ab.bu (pre:=[_]) (hR':=[(some b57,ob bK 3 (iL [(aI af false (aa p.b o) σ).1]) [])]) hH hW3 (.cons_cons _ (List.nil_sublist _)) rfl rfl rfl rfl rfl (fun _ _=>JP _ _) (fun w Y' hS=>bG p.bw _ _ y _ (some b57) [(aI af false (aa p.b o) σ).1] 1 [] w (hg3 (by simp)) hyf hGo hyz (fun e=>by cases e) (fun h n hn=>by rw [List.mem_singleton.1 hn];exact (eA h).1) (by simp)) (fun s4 Γ4 hW4 hg4=>?_)
   refine ai ?_;refine gE ?_
   refine gT func46 fun w' hS=>?_
   exact dR (pre:=[_]) hE rfl hW4 (fun _ h=>hg4 (hg3 (by simp [h]))) hS
  have r1:¬p.x.d.av=1:=by simpa using hc
  refine gS (gR ?_);refine aw bd ?_;refine ai ?_;refine gE ?_
  refine gC (fun hc=>?_) fun hc=>?_
  ·
   have r2:p.x.d.av=2:=by simpa using hc
   obtain ⟨j,j1,j2,j3,j4⟩:=hfrj 0 (ig hp.lV r1)
   have hE:bL af p.b (dW p.tl) p.full p.x.d p.last σ=aU af (dA p.b p.x.d.set) [p.last.getD j 0] σ:=by unfold bL;simp only [if_neg r1,if_pos r2,j3,Int.toNat_natCast]
   refine gS (gR ?_)
   iterate 3 refine ah ?_
   refine gP rfl rfl rfl rfl rfl call82 (fun w _ hS=>(by rw [hbs];exact kv p 0 j w (hr.ex hS.ext) (ig hp.lV r1) j1 j2)) ?_
   refine ab.eh (c:=[_]) rfl rfl rfl rfl Jl Je JA rfl rfl (fun b65=>?_)
   refine ab.bu (pre:=[_]) (hR':=[(some b65,ob bK 3 (iL [p.last.getD j 0]) [])]) hH hW1 (.cons_cons _ (List.nil_sublist _)) rfl rfl rfl rfl rfl (fun _ _=>JP _ _) (fun w Y' hS=>bG p.bw _ _ y _ (some b65) [p.last.getD j 0] 1 [] w (List.mem_cons_self ..) hyf hGo hyz (fun e=>by cases e) (fun h n hn=>by rw [List.mem_singleton.1 hn];exact j4 h) (by simp)) (fun s4 Γ4 hW4 hg4=>?_)
   refine ai ?_;refine gE ?_
   refine gT func46 fun w' hS=>?_
   exact dR (pre:=[_]) hE rfl hW4 (fun _ h=>hg4 (by simp [h])) hS
  have r2:¬p.x.d.av=2:=by simpa using hc
  refine gS (gR ?_);refine aw bd ?_;refine ai ?_;refine gE ?_
  refine gC (fun hc=>?_) fun hc=>?_
  ·
   have r3:p.x.d.av=3:=by simpa using hc
   obtain ⟨j,j1,j2,j3,j4⟩:=hfrj 0 (ig hp.lV r1)
   obtain ⟨i,i1,i2,i3,i4⟩:=hfrj 1 (nh hp.lV (.inl r3))
   have hE:bL af p.b (dW p.tl) p.full p.x.d p.last σ=aU af (dA p.b p.x.d.set) [p.last.getD j 0,p.last.getD i 0] σ:=by unfold bL;simp only [if_neg r1,if_neg r2,if_pos r3,j3,i3,Int.toNat_natCast]
   refine gS (gR ?_)
   iterate 3 refine ah ?_
   refine gP rfl rfl rfl rfl rfl call82 (fun w _ hS=>(by rw [hbs];exact kv p 0 j w (hr.ex hS.ext) (ig hp.lV r1) j1 j2)) ?_
   refine ah ?_
   refine gP rfl rfl rfl rfl rfl call82 (fun w _ hS=>(by rw [hbs];exact kv p 1 i w (hr.ex hS.ext) (nh hp.lV (.inl r3)) i1 i2)) ?_
   refine ab.eh (c:=[_,_]) rfl rfl rfl rfl Jl Je JA rfl rfl (fun b75=>?_)
   refine ab.bu (pre:=[_]) (hR':=[(some b75,ob bK 3 (iL [p.last.getD j 0,p.last.getD i 0]) [])]) hH hW1 (.cons_cons _ (List.nil_sublist _)) rfl rfl rfl rfl rfl (fun _ _=>JP _ _) (fun w Y' hS=>bG p.bw _ _ y _ (some b75) [p.last.getD j 0,p.last.getD i 0] 2 [] w (List.mem_cons_self ..) hyf hGo hyz (fun e=>by cases e) (fun h n hn=>by
     simp only [List.mem_cons,List.not_mem_nil,or_false] at hn
     rcases hn with rfl|rfl
     · exact j4 h
     exact i4 h) (by simp)) (fun s4 Γ4 hW4 hg4=>?_)
   refine ai ?_;refine gE ?_
   refine gT func46 fun w' hS=>?_
   exact dR (pre:=[_]) hE rfl hW4 (fun _ h=>hg4 (by simp [h])) hS
  have r3:¬p.x.d.av=3:=by simpa using hc
  refine gS (gR ?_);refine aw bd ?_;refine ai ?_;refine gE ?_
  refine gC (fun hc=>?_) fun hc=>?_
  ·
   have r4:p.x.d.av=4:=by simpa using hc
   obtain ⟨j,j1,j2,j3,j4⟩:=hfrj 0 (ig hp.lV r1)
   obtain ⟨i,i1,i2,i3,i4⟩:=hfrj 1 (nh hp.lV (.inr r4))
   obtain ⟨o,ho,hol,_⟩:=hon (by omega) (by omega) r2 r3
   have htA:tA p.b p.x.d.on=aa p.b o:=by rw [ho,jc]
   have hcO:=(wo hb hol).2
   obtain ⟨Q,hQ⟩:∃Q,Q=aI af true (aa p.b o) σ:=⟨_,rfl⟩
   have hQle:σ.Le Q.2:=by rw [hQ];exact ic
   have hE:bL af p.b (dW p.tl) p.full p.x.d p.last σ=aU af (dA p.b p.x.d.set) [Q.1,p.last.getD j 0,p.last.getD i 0] Q.2:=by unfold bL;simp only [if_neg r1,if_neg r2,if_neg r3,if_pos r4,j3,i3,Int.toNat_natCast,htA,hQ]
   refine gS (gR ?_)
   iterate 5 refine ah ?_
   refine ko ?_;refine al JM Jr 4 ?_;refine al Jm Je 6 ?_
   refine ab.v (ae.ld (p:=⟨bs,6,none⟩) rfl rfl rfl rfl Jf (fun w _ hS=>HB hS.ext rfl)) ?_
   rw [hbs]
   refine ab.uy (pre:=[]) (u:=aa p.b o) hW1 rfl rfl rfl rfl rfl (fun _ _=>call81 _ _) (fun w Y' hS=>by rw [←htA];exact ia p _ w (hr.ex hS.ext) hb (by omega)) (fun x2 s2 hf2 hW2=>?_)
   refine ab.bu (pre:=[]) (hR':=[]) hH hW2 (List.nil_sublist _) rfl rfl rfl rfl rfl (fun _ _=>call45 _ _) (fun w Y' hS=>by exact xz p.bw (SizeOf.sizeOf (aa p.b o)+1) _ (Nat.lt_succ_self _) (hb.nf o hol) _ σ x2 w (List.mem_cons_self ..) (by rw [hf2];exact hcO)) (fun s3 Γ3 hW3 hg3=>?_)
   rw [←hQ] at hW3⊢
   refine ah ?_
   refine gP rfl rfl rfl rfl rfl call82 (fun w _ hS=>(by exact kv p 0 j w (hr.ex hS.ext) (ig hp.lV r1) j1 j2)) ?_
   refine ah ?_
   refine gP rfl rfl rfl rfl rfl call82 (fun w _ hS=>(by exact kv p 1 i w (hr.ex hS.ext) (nh hp.lV (.inr r4)) i1 i2)) ?_
   refine ab.eh (c:=[_,_,_]) rfl rfl rfl rfl Jl Je JA rfl rfl (fun b94=>?_)
   refine ab.bu (pre:=[_]) (hR':=[(some b94,ob bK 3 (iL [Q.1,p.last.getD j 0,p.last.getD i 0]) [])]) hH hW3 (.cons_cons _ (List.nil_sublist _)) rfl rfl rfl rfl rfl (fun _ _=>JP _ _) (fun w Y' hS=>bG p.bw _ _ y _ (some b94) [Q.1,p.last.getD j 0,p.last.getD i 0] 3 [] w (hg3 (by simp)) hyf hGo hyz (fun e=>by cases e) (fun h n hn=>by
     simp only [List.mem_cons,List.not_mem_nil,or_false] at hn
     rcases hn with rfl|rfl|rfl
     · rw [hQ] at h⊢;exact (eA h).1
     · exact Nat.lt_of_lt_of_le (j4 (hQle.ok h)) hQle.pre.length_le
     exact Nat.lt_of_lt_of_le (i4 (hQle.ok h)) hQle.pre.length_le) (by simp)) (fun s4 Γ4 hW4 hg4=>?_)
   refine ai ?_;refine gE ?_
   refine gT func46 fun w' hS=>?_
   exact dR (pre:=[_]) hE rfl hW4 (fun _ h=>hg4 (hg3 (by simp [h]))) hS
  have r4:¬p.x.d.av=4:=by simpa using hc
  refine gS (gR ?_);refine aw bd ?_;refine ai ?_;refine gE ?_
  refine gC (fun hc=>?_) fun hc=>?_
  ·
   have r5:p.x.d.av=5:=by simpa using hc
   obtain ⟨j,j1,j2,j3,j4⟩:=hfrj 0 (ig hp.lV r1)
   obtain ⟨o,ho,hol,ho9⟩:=hon (by omega) (by omega) r2 r3
   have ho9:=ho9 r5
   have hnd:nd p.b p.x.d.on=p.b[o]:=by rw [ho,dH hol]
   have htA:tA p.b p.x.d.on=aa p.b o:=by rw [ho,jc]
   have hx5:=hb.x hol (by rw [←ho];omega)
   rw [dH hol] at hx5
   have hx5':0≤p.b[o].x∧p.b[o].x<p.b.length:=by omega
   have hoo:=hb.ok hol
   have hxo:=xL hb hx5'
   obtain ⟨Q,hQ⟩:∃Q,Q=bR af (aP (aa p.b o) (tA p.b p.b[o].x)) 3 0 0 0 σ:=⟨_,rfl⟩
   have hQle:σ.Le Q.2:=by rw [hQ];exact db
   have hE:bL af p.b (dW p.tl) p.full p.x.d p.last σ=aU af (dA p.b p.x.d.set) [Q.1,p.last.getD j 0] Q.2:=by unfold bL;simp only [if_neg r1,if_neg r2,if_neg r3,if_neg r4,if_pos r5,j3,Int.toNat_natCast,htA,hnd,hQ]
   refine gS (gR ?_)
   iterate 2 refine ah ?_
   refine ko ?_;refine al JM Jr 4 ?_;refine al Jm Je 6 ?_
   refine ab.v (ae.ld (p:=⟨bs,6,none⟩) rfl rfl rfl rfl Jf (fun w _ hS=>HB hS.ext rfl)) ?_
   rw [hbs]
   refine ab.uy (pre:=[]) (u:=aa p.b o) hW1 rfl rfl rfl rfl rfl (fun _ _=>call81 _ _) (fun w Y' hS=>by rw [←htA];exact ia p _ w (hr.ex hS.ext) hb (by omega)) (fun x2 s2 hf2 hW2=>?_)
   skip
   refine ai ?_
   rw [←hbs]
   refine gE (gS ?_)
   refine ab.jE 22 (([])) mixed ?_
   refine cV 0 (ae.mv rfl rfl rfl rfl) ?_
   refine cV 1 (ae.mv rfl rfl rfl rfl) ?_
   refine cV 2 (ae.mv rfl rfl rfl rfl) ?_
   refine cV 3 (ae.mv rfl rfl rfl rfl) ?_
   refine cV 4 (ae.ed rfl rfl rfl rfl) ?_
   refine cV 5 (ae.aF rfl rfl rfl rfl JM rfl (by exact Jt) 1 rfl) ?_
   refine cV 6 (ae.aF rfl rfl rfl rfl Js rfl (by exact Jo) 2 rfl) ?_
   refine cV 7 (ae.ld (p:=⟨bs,2,none⟩) rfl rfl rfl rfl Ju (fun w _ hS=>HB hS.ext rfl)) ?_
   refine cV 8 (ae.mv rfl rfl rfl rfl) ?_
   refine cV 9 (ae.ed rfl rfl rfl rfl) ?_
   refine cV 10 (ae.aF rfl rfl rfl rfl JM rfl (by exact Jr) 4 rfl) ?_
   refine cV 11 (ae.aF rfl rfl rfl rfl Jm rfl (by exact Je) 6 rfl) ?_
   refine cV 12 (ae.ld (p:=⟨bs,6,none⟩) rfl rfl rfl rfl Jf (fun w _ hS=>HB hS.ext rfl)) ?_
   refine cV 13 (ae.eg rfl rfl rfl rfl rfl Jn Ji ⟨_,(hr.EG).at_⟩ (ax (enc:=NV.cells) (sz:=6) (fun _=>rfl)) (by decide) (o) ⟨ho,hol⟩) ?_
   refine cV 14 (ae.fH rfl rfl rfl rfl Jg rfl Je ((o)*6+4) rfl) ?_
   refine cV 15 (ae.ld rfl rfl rfl rfl Jf (fun w _ hS=>Sl.kO (enc:=NV.cells) (sz:=6) ((hr.EG).aA hS.ext).at_ (fun _=>rfl) hol rfl)) ?_
   rw [hbs]
   refine aG.one (i:=16) rfl (dn.uy (pre:=[]) (u:=tA p.b p.b[o].x) hW2 rfl rfl rfl rfl rfl (fun _ _=>call81 _ _) (fun w Y' hS=>ia p _ w (hr.ex hS.ext) hb hx5') (fun x3 s3 hf3 hW3=>⟨List.nil_sublist _,?_⟩)) rfl
   refine aG.one (i:=17) rfl (dn.iD (pre:=[]) (u:=aP (aa p.b o) (tA p.b p.b[o].x)) hW3 rfl rfl rfl rfl rfl (fun _ _=>JI _ _) (fun w Y' hS=>fD x2 x3 _ _ w (hW3.fa (pre:=[]) (by simp) hS) hf2 hoo (hW3.fa (pre:=[]) (by simp) hS) hf3 hxo) (fun x4 s4 hf4 hz4 hW4=>⟨List.nil_sublist _,?_⟩)) rfl
   refine cV 18 (ae.eP rfl rfl rfl rfl (bd48 (c:=[_,_,_,_,_]) rfl)) ?_
   refine aG.one (i:=19) rfl (dn.bu (pre:=[]) (hR':=[]) hH hW4 (List.nil_sublist _) rfl rfl rfl rfl rfl (fun _ _=>call83 _ _) (fun w Y' hS=>iZ p.bw _ _ x4 _ 3 0 0 0 w (List.mem_cons_self ..) hf4 (dB hoo hxo) hz4) (fun s5 Γ5 hW5 hg5=>⟨List.nil_sublist _,?_⟩)) rfl
   rw [←hQ] at hW5⊢
   refine cV 20 (ae.fA rfl rfl rfl rfl) ?_
   refine aG.done rfl ?_
   refine gE (gS (gR ?_))
   iterate 4 refine ah ?_
   refine gP rfl rfl rfl rfl rfl call82 (fun w _ hS=>(by exact kv p 0 j w (hr.ex hS.ext) (ig hp.lV r1) j1 j2)) ?_
   refine ab.eh (c:=[_,_]) rfl rfl rfl rfl Jl Je JA rfl rfl (fun b130=>?_)
   refine ab.bu (pre:=[_]) (hR':=[(some b130,ob bK 3 (iL [Q.1,p.last.getD j 0]) [])]) hH hW5 (.cons_cons _ (List.nil_sublist _)) rfl rfl rfl rfl rfl (fun _ _=>JP _ _) (fun w Y' hS=>bG p.bw _ _ y _ (some b130) [Q.1,p.last.getD j 0] 2 [] w (hg5 (by simp)) hyf hGo hyz (fun e=>by cases e) (fun h n hn=>by
     simp only [List.mem_cons,List.not_mem_nil,or_false] at hn
     rcases hn with rfl|rfl
     · rw [hQ] at h⊢;exact (bP h).1
     exact Nat.lt_of_lt_of_le (j4 (hQle.ok h)) hQle.pre.length_le) (by simp)) (fun s6 Γ6 hW6 hg6=>?_)
   refine ai ?_;refine gE ?_
   refine gT func46 fun w' hS=>?_
   exact dR (pre:=[_]) hE rfl hW6 (fun _ h=>hg6 (hg5 (by simp [h]))) hS
  have r5:¬p.x.d.av=5:=by simpa using hc
  have h67:p.x.d.av=6∨p.x.d.av=7:=by
    rcases hp.lV.2 with ⟨e,_⟩|⟨e,_⟩|⟨e,_⟩|⟨e,_⟩|⟨e,_⟩|⟨e,_⟩|⟨e,_⟩<;>omega
  refine gK (dJ (gS (gR ?_)))
  iterate 2 refine ah ?_
  rw [hbs]
  refine ab.bu (pre:=[]) (hR':=hR) hH hW1 (List.Sublist.refl _) rfl rfl rfl rfl rfl (fun _ _=>call84 _ _) (fun w Y' hS=>by exact xy p k hR _ σ y _ w hin hp h67 hlast (List.mem_cons_self ..) hyf hGo hyz) (fun s2 Γ2 hW2 hg2=>?_)
  refine ai ?_;refine gE ?_
  refine gT func46 fun w' hS=>?_
  exact dR (pre:=[]) (yE h67) rfl hW2 (fun _ h=>hg2 (List.mem_cons_of_mem _ h)) hS
end Go.Proofs.YtnfmegcknckahaaGreatDoor
namespace Go.Proofs.YtnfmegcknckahaaGreatDoor
open Go.RowKit Go.Proofs.Wit Tryz
/-! Proof: the program -/
set_option maxRecDepth 8000 in
theorem xx (l:Int) (A:Option Addr) (cA:Nat) (b:List NV) (B:Option Addr) (cB:Nat) (ss:List SV) (w:World) (hA:FA w A b) (hB:uc w B ss) (hl:b.length≤maxLen) (hsl:ss.length≤maxLen):
    Cn Tryz.prog 20 [.agg (bH l A b.length cA B ss.length cB)] w (fun v w'=>∃sv ls,v=.tuple #[sv,.int .i64 (C6 l b (dW ss))]∧gY 66 48 w w' sv ls∧(C6 l b (dW ss)=0→ls.map LV.d=Gn b (dW ss))∧(C6 l b (dW ss)≠0→ls=[])):=by
  obtain ⟨iI,hiI,hzI,hszI,hbyI⟩:=info_parts uJ
  refine Cn.of func20 rfl rfl ?_
  refine gS (gR ?_)
  refine ab.bx rfl rfl rfl rfl (fun b1=>?_)
  iterate 2 refine ai ?_
  refine gE (gS (gS (gR ?_)))
  refine ab.v (ae.iE rfl rfl rfl rfl JV 0 rfl Jt rfl) ?_
  refine gP rfl rfl rfl rfl rfl call22 (fun w _ hS=>(by exact qV l A cA b B cB ss w (hA.aA hS.ext) (hB.aA hS.ext) hl hsl)) ?_
  refine ai ?_;refine gE (gS (gR ?_));refine ah ?_;refine aw gO ?_;refine gE ?_
  refine gC (fun hc=>?_) fun hc=>?_
  ·
   have h1:nJ l b (dW ss)≠0:=by simpa using hc
   have hE:C6 l b (dW ss)=nJ l b (dW ss):=if_pos h1
   refine gS (gR ?_);refine ah ?_
   iterate 2 refine ai ?_
   refine gE ?_
   refine gT func20 fun w' hS=>?_
   exact ⟨hS.ext,_,[],by rw [hE];rfl,gY.nil,fun h=>absurd (hE ▸ h) h1,fun _=>rfl⟩
  have h1:nJ l b (dW ss)=0:=by simpa using hc
  have hok:=jZ.1 h1
  have hE:C6 l b (dW ss)=if (gF af b (dW ss)).2.bad=true then 8 else 0:=if_neg (by simp [h1])
  obtain ⟨L,hLd⟩:∃L,L=dW ss:=⟨_,rfl⟩
  have hLl:L.length=ss.length:=by rw [hLd,dg]
  have hp0:=hok.pos
  have hp4:=hok.len
  rw [dg] at hp0 hp4
  have hnl:ss.length - 1<ss.length:=by omega
  refine gK (gS (gR ?_))
  refine ab.v (ae.iE rfl rfl rfl rfl JV 0 rfl Jt rfl) ?_
  refine gM rfl rfl rfl rfl rfl call36 (fun w _ hS=>(by exact u9 l A cA b B cB ss w (hA.aA hS.ext) (hB.aA hS.ext) hok)) ?_
  rintro v w1 w2 Y' hS he ⟨v1,v2,os,ws,rfl,⟨qa,qo,qw,ca,co,cw,spa,spo,spw,H,rfl,rfl,hqa,hqo,hqw,hnew,hin⟩,hos,hws⟩
  refine ⟨_,hS.fC he (pre:=[_,_,_]) hnew,?_⟩
  rw [←hLd] at hok hos hws hE⊢
  have hol:os.length=(dk b L).length:=by rw [←hos,dg]
  have hwl:ws.length=os.length:=by
    have:=congrArg List.length hws
    rw [List.length_map,lz (Nat.le_refl _)] at this
    rw [hol,mG];exact this
  have hot:=hok.tr.pos
  have hot4:=hok.tr.len
  have hop:0<os.length:=by omega
  obtain ⟨bo,rfl⟩:∃b,qo=some b:=by
    cases qo with
    |none=>have:=hqo rfl;omega
    |some b=>exact ⟨b,rfl⟩
  obtain ⟨bq,rfl⟩:∃b,qw=some b:=by
    cases qw with
    |none=>have:=hqw rfl;omega
    |some b=>exact ⟨b,rfl⟩
  refine ah ?_
  iterate 2 refine gh ?_
  refine ab.eK rfl rfl rfl (fun _=>J7 _) (fun b5=>?_)
  refine ab.dD rfl rfl rfl rfl Jt 0 rfl rfl rfl rfl ?_
  refine ai ?_;refine gE (gS (gR ?_))
  refine ab.v (ae.eP rfl rfl rfl rfl (bd73 (c:=[_,_]) rfl)) ?_
  refine ab.bx rfl rfl rfl rfl (fun b25=>?_)
  refine ai ?_;refine gE (gS (gR ?_));refine ai ?_;refine gE (gS (gS (gR ?_)));refine al Js JH 2 ?_;refine aq JJ 1 ?_;refine dL JB ?_;refine ah ?_;refine gE (gB ?_)
  refine ab.cQ (xo 48 [] []) ?_
  refine ab.cQ (ob bK 3 [] []) ?_
  refine ab.aX (pre:=[_,_,_,_,_,_,_,_]) (pre':=[(none,ob bK 3 [] []),(some b5,.cells (bH l (qa.map (fun b=>⟨b,0,none⟩)) b.length ca (some ⟨bo,0,none⟩) os.length co) 25 (0,0)),(qa,eO 66 b spa),(some bo,lk 41 os spo),(some bq,lk 41 ws spw),(some b1,.cells (bH l A b.length cA B ss.length cB) 25 (0,0)),(some b25,.cells #[cP none 0 0,xE false] 73 (0,0)),(none,xo 48 [] [])]) H [0,3,4,5,6,7,2,1] (by decide) rfl ?_
  refine ab.loop (σ:=Nat×Option Nat×Nat×List Value×Ws×List FV) (fun z=>[(1,.pointer (some ⟨b1,0,none⟩)),(5,.pointer (some ⟨b5,0,none⟩)),(6,.slice (some ⟨bq,0,none⟩) ws.length cw),(7,.pointer (some ⟨b25,0,none⟩)),(8,cP z.2.1 (iL (aS af b (dk b L) (cM L L.length) z.1).1).length z.2.2.1),(27,.slice (some ⟨bo,0,none⟩) os.length co),(28,.int .i64 os.length),(29,.int .i64 z.1)])
    (fun z=>[(z.2.1,ob bK 3 (iL (aS af b (dk b L) (cM L L.length) z.1).1) z.2.2.2.1),(some b5,.cells (bH l (qa.map (fun b=>⟨b,0,none⟩)) b.length ca (some ⟨bo,0,none⟩) os.length co) 25 (0,0)),(qa,eO 66 b spa),(some bo,lk 41 os spo),(some bq,lk 41 ws spw),(some b1,.cells (bH l A b.length cA B ss.length cB) 25 (0,0))]++(cg 73 48 (xE (aS af b (dk b L) (cM L L.length) z.1).2.bad) b25 z.2.2.2.2.1++H))
    (fun z=>z.1≤os.length∧(z.2.1=none→(iL (aS af b (dk b L) (cM L L.length) z.1).1).length=0∧z.2.2.1=0)∧((iL (aS af b (dk b L) (cM L L.length) z.1).1).map bK++z.2.2.2.1).length=z.2.2.1∧fg 66 z.2.2.2.2.2 (aS af b (dk b L) (cM L L.length) z.1).2 z.2.2.2.2.1)
    (fun z=>os.length - z.1) (0,none,0,[],⟨none,0,[],[],[]⟩,[]) ⟨Nat.zero_le _,fun _=>⟨rfl,rfl⟩,rfl,fg.start⟩ ⟨rfl,rfl,rfl,rfl,rfl,rfl,rfl,rfl,trivial⟩ (List.Sublist.refl _) (fun z hI IH=>?_)
  obtain ⟨i,q8,c8,sp8,s,Γ⟩:=z
  obtain ⟨hi,hq8,hc8,hW⟩:=hI
  dsimp only at hi hq8 hc8 hW IH⊢
  have hlal:=lM (T:=af) (b:=b) (tl:=dk b L) (fl:=cM L L.length) (q:=i) (by omega)
  have hlaok:=ku (T:=af) (b:=b) (tl:=dk b L) (fl:=cM L L.length) (q:=i) (by omega)
  have hsuc:∀(h:i<(dk b L).length),aS af b (dk b L) (cM L L.length) (i+1)=((aS af b (dk b L) (cM L L.length) i).1++[(bL af b (dk b L) ((cM L L.length).getD i 0#64) (dk b L)[i] (aS af b (dk b L) (cM L L.length) i).1 (aS af b (dk b L) (cM L L.length) i).2).1],(bL af b (dk b L) ((cM L L.length).getD i 0#64) (dk b L)[i] (aS af b (dk b L) (cM L L.length) i).1 (aS af b (dk b L) (cM L L.length) i).2).2):=fun h=>eN h
  obtain ⟨PR,hPR⟩:∃PR,PR=aS af b (dk b L) (cM L L.length) i:=⟨_,rfl⟩
  rw [←hPR] at hq8 hc8 hW hlal hlaok hsuc⊢
  obtain ⟨la,σi⟩:=PR
  dsimp only at hq8 hc8 hW hlal hlaok hsuc⊢
  have hil8:(iL la).length=la.length:=iF
  refine gS (gR ?_);refine aw iK ?_;refine gE (gS ?_)
  refine gC (fun hc=>?_) fun hc=>?_
  ·
   have hlt:i<os.length:=by simpa using hc
   have hltw:i<ws.length:=by omega
   have hltt:i<(dk b L).length:=by omega
   have hsuc:=hsuc hltt
   have hxi:os[i].d=(dk b L)[i]:=by
     have:(dW os)[i]'(by rw [dg];exact hlt)=os[i].d:=jO hlt
     rw [←this];simp only [hos]
   have hfi:ws[i].d.set=(cM L L.length).getD i 0#64:=by
     have:=congrArg (fun x=>x[i]?) hws
     simp only [List.getElem?_map,List.getElem?_eq_getElem hltw,Option.map_some] at this
     rw [List.getD_eq_getElem?_getD,←this];rfl
   rw [←hfi,←hxi] at hsuc
   obtain ⟨hxin,hxl⟩:=hin os[i] (List.getElem_mem hlt)
   refine gK (gS (gB (gS (gR ?_))));refine ah ?_
   refine ab.v (ae.dx rfl rfl rfl rfl rfl JB Jr (i) ⟨rfl,hlt⟩) ?_
   refine ab.v (ae.nQ (cs:=SV.cells os[i]) rfl rfl rfl rfl J0 Jr (fun w _ hS=>Sl.many (enc:=SV.cells) (sz:=5) (a:=some ⟨bo,0,none⟩) (Sl.df (hS.get (j:=3) rfl)) (fun _=>rfl) hlt)) ?_
   rw [hil8]
   refine ab.eK rfl rfl rfl (fun _=>J9 _) (fun b10=>?_)
   refine ai ?_
   refine ab.dD rfl rfl rfl rfl Jr 0 rfl rfl rfl rfl ?_
   refine gE (gS ?_)
   refine ab.jE 13 (([(some b10,.cells (SV.cells os[i]).toArray 41 (0,0)),(some b5,.cells (bH l (qa.map (fun b=>⟨b,0,none⟩)) b.length ca (some ⟨bo,0,none⟩) os.length co) 25 (0,0)),(some bq,lk 41 ws spw)])) mixed ?_
   refine cV 0 (ae.mv rfl rfl rfl rfl) ?_
   refine cV 1 (ae.iE rfl rfl rfl rfl JV 1 rfl Jt rfl) ?_
   refine cV 2 (ae.iE rfl rfl rfl rfl J0 0 rfl Jr rfl) ?_
   refine cV 3 (ae.mv rfl rfl rfl rfl) ?_
   refine cV 4 (ae.mv rfl rfl rfl rfl) ?_
   refine cV 5 (ae.dx rfl rfl rfl rfl rfl JB Jr (i) ⟨rfl,hltw⟩) ?_
   refine cV 6 (ae.fH (a:=some ⟨bq,0,none⟩) (o:=(i)*5) rfl rfl rfl rfl Jm rfl Jz ((i)*5+0) rfl) ?_
   refine cV 7 (ae.ld rfl rfl rfl rfl JE (fun w _ hS=>Sl.kO (enc:=SV.cells) (sz:=5) (a:=some ⟨bq,0,none⟩) (Sl.df (hS.get (j:=2) rfl)) (fun _=>rfl) hltw rfl)) ?_
   refine cV 8 (ae.mv rfl rfl rfl rfl) ?_
   refine cV 9 (ae.eP rfl rfl rfl rfl (bd76 (c:=[_,_,_,_,_,_,_,_,_,_,_]) rfl)) ?_
   refine aG.one (i:=10) rfl (dn.bx rfl rfl rfl rfl (fun b44=>⟨sL,?_⟩)) rfl
   refine cV 11 (ae.fA rfl rfl rfl rfl) ?_
   refine aG.done rfl ?_
   refine gE (gS (gR ?_))
   iterate 2 refine ah ?_
   obtain ⟨p,hp⟩:∃p:SP,p=⟨b25,b44,l,qa.map (fun b=>⟨b,0,none⟩),ca,b,some ⟨bo,0,none⟩,co,os,os[i],ws[i].d.set,q8.map (fun b=>⟨b,0,none⟩),c8,la⟩:=⟨_,rfl⟩
   have hpO:p.Ok i:=hok.GD (by rw [hp]) (by rw [hp]) (by rw [hp];exact hos) (by rw [hp];exact hlt) (by simp only [hp]) (by rw [hp];exact hfi) (by rw [hp];exact hlal)
   have hpI:Gg p ([(some b44,.cells p.cs 76 (0,0)),(some b10,.cells (SV.cells os[i]).toArray 41 (0,0)),(q8,ob bK 3 (iL la) sp8),(some b5,.cells (bH l (qa.map (fun b=>⟨b,0,none⟩)) b.length ca (some ⟨bo,0,none⟩) os.length co) 25 (0,0)),(qa,eO 66 b spa),(some bo,lk 41 os spo),(some bq,lk 41 ws spw),(some b1,.cells (bH l A b.length cA B ss.length cB) 25 (0,0))]++H):=by
     constructor
     · exact List.mem_append_left _ (by rw [show p.bs=b44 by rw [hp]];exact List.mem_cons_self ..)
     · exact ⟨qa,spa,by rw [hp];simp,by rw [hp],fun e=>by rw [hp];exact hqa e⟩
     · exact ⟨some bo,spo,by rw [hp];simp,by rw [hp];rfl,fun e=>by cases e⟩
     · obtain ⟨qx,spx,x1,x2,x3⟩:=hxin
       exact ⟨qx,spx,by rw [hp];exact List.mem_append_right _ x1,by rw [hp];exact x2,fun e=>by rw [hp];exact x3 e⟩
     exact ⟨q8,sp8,by rw [hp];exact List.mem_append_left _ (.tail _ (.tail _ (.head _))),by rw [hp],fun e=>by rw [hp,←hil8];exact (hq8 e).1⟩
   have hpcs:p.cs=#[.pointer (some ⟨b25,0,none⟩),.int .i64 l,.slice (qa.map (fun b=>⟨b,0,none⟩)) b.length ca,.slice (some ⟨bo,0,none⟩) os.length co,U os[i].d.set,.int .i64 os[i].d.av,.int .i64 os[i].d.on,.int .i64 os[i].d.e,.slice os[i].fa os[i].d.fr.length os[i].fc,U ws[i].d.set,.slice (q8.map (fun b=>⟨b,0,none⟩)) la.length c8]:=by rw [hp];rfl
   have hpbw:p.bw=b25:=by rw [hp]
   have hpbs:p.bs=b44:=by rw [hp]
   have hpst:bL af b (dk b L) ws[i].d.set os[i].d la σi=bL af p.b (dW p.tl) p.full p.x.d p.last σi:=by rw [hp];dsimp only;rw [hos]
   have hplast:qA p.b (dW p.tl) σi p.last i:=by rw [hp];dsimp only;rw [hos];exact hlaok
   refine ab.D5 (ef:=xE) (pre:=[_,_,_,_,_,_,_,_]) (H:=H) (hR':=([(some b44,.cells p.cs 76 (0,0)),(some b10,.cells (SV.cells os[i]).toArray 41 (0,0)),(q8,ob bK 3 (iL la) sp8),(some b5,.cells (bH l (qa.map (fun b=>⟨b,0,none⟩)) b.length ca (some ⟨bo,0,none⟩) os.length co) 25 (0,0)),(qa,eO 66 b spa),(some bo,lk 41 os spo),(some bq,lk 41 ws spw),(some b1,.cells (bH l A b.length cA B ss.length cB) 25 (0,0))]++H)) (res:=bL af b (dk b L) ws[i].d.set os[i].d la σi) hW (by rw [hpcs];exact List.Sublist.refl _) rfl rfl rfl rfl rfl (fun _ _=>call46 _ _) (fun w Y' hS=>by have:=Ac p i ([(some b44,.cells p.cs 76 (0,0)),(some b10,.cells (SV.cells os[i]).toArray 41 (0,0)),(q8,ob bK 3 (iL la) sp8),(some b5,.cells (bH l (qa.map (fun b=>⟨b,0,none⟩)) b.length ca (some ⟨bo,0,none⟩) os.length co) 25 (0,0)),(qa,eO 66 b spa),(some bo,lk 41 os spo),(some bq,lk 41 ws spw),(some b1,.cells (bH l A b.length cA B ss.length cB) 25 (0,0))]++H) Γ σi w hpI hpO hplast;rw [hpbw,hpbs,←hpst] at this;exact this) (fun s2 Γ2 hW2 hg2=>?_)
   obtain ⟨Q,hQ⟩:∃Q,Q=bL af b (dk b L) ws[i].d.set os[i].d la σi:=⟨_,rfl⟩
   rw [←hQ] at hsuc hW2⊢
   rw [←hil8]
   refine ab.eh (c:=[_]) rfl rfl rfl rfl Jl Je JA rfl rfl (fun b48=>?_)
   refine ab.od bK (news:=[(Q.1:Int)]) (spn:=[]) (xs:=iL la) (sp:=sp8) (q:=q8) rfl rfl rfl rfl rfl Jl hiI hzI hszI rfl hq8 3 rfl 0 rfl hc8 rfl (by decide) (fun _=>rfl) (by unfold maxLen;omega) (by rw [hbyI];omega) (fun b' sp' cap' hlen=>?_)
   rw [←oX] at hlen⊢
   refine ai ?_;refine gE (gS (gR ?_));refine ah ?_;refine ko ?_;refine al JX Je 1 ?_;refine aq Jf 9 ?_;refine aw gO ?_;refine gE ?_
   refine gC (fun hc=>?_) fun hc=>?_
   ·
    have hb:Q.2.bad=true:=by
      cases hb:Q.2.bad with
      |true=>rfl
      |false=>rw [hb] at hc;simp at hc
    have hbW:(gF af b L).2.bad=true:=by
      cases hbW:(gF af b L).2.bad with
      |true=>rfl
      |false=>
        have:=(sY (T:=af) (b:=b) (tl:=dk b L) (fl:=cM L L.length) (q:=i+1) (r:=(dk b L).length) (by omega) (Nat.le_refl _)).trans (AQ (T:=af) (b:=b) (L:=L))
        have:=this.ok hbW
        rw [hsuc,hb] at this;cases this
    rw [if_pos hbW] at hE
    have hE8:(if Q.2.bad=true then (8:Int) else 0)=8:=if_pos hb
    refine gS ?_
    refine ab.draw 6 mixed rfl ?_
    refine mO ?_;refine xm ?_;refine mP JX Je 1 ?_;refine xn Jf 9 ?_
    iterate 2 refine AL ?_
    refine aM.nil ?_
    refine gE ?_
    refine gT func20 fun w' hS=>?_
    exact ⟨hS.ext,_,[],by rw [hE,←hE8];rfl,gY.nil,fun h=>absurd (hE ▸ h) (by decide),fun _=>rfl⟩
   refine gK (dJ (gR ?_));refine cG rfl rfl rfl rfl (cu (by omega)) ?_;refine ah ?_;refine gE ?_
   refine ab.aX (pre:=[_,_,_,_,_,_,_,_,_]) (pre':=[_,_,_,_,_,_]) (cg 73 48 (xE Q.2.bad) b25 s2++H) [3,4,5,6,7,8] (by decide) rfl ?_
   refine IH (i+1,some b',cap',sp',s2,Γ2) _ _ ⟨hlt,(fun e=>by cases e),by dsimp only;rw [hsuc];exact hlen,by dsimp only;rw [hsuc];exact hW2⟩ (by dsimp only;omega) ⟨rfl,rfl,rfl,rfl,by dsimp only;rw [hsuc];rfl,rfl,rfl,rfl,trivial⟩ (by dsimp only;rw [hsuc];exact List.Sublist.refl _)
  have hge:¬i<os.length:=by simpa using hc
  obtain rfl:i=os.length:=by omega
  have hlo:os.length - 1<os.length:=by omega
  obtain ⟨sn,hsn⟩:∃sn,sn=os[os.length - 1].d.set:=⟨_,rfl⟩
  obtain ⟨sm,hsm⟩:∃sm,sm=ss[ss.length - 1].d.set:=⟨_,rfl⟩
  have hsnS:de (dk b L) (((dk b L).length - 1:Nat):Int)=sn:=by rw [←hol,←hos,sf hlo,hsn]
  have hsmS:de L ((L.length - 1:Nat):Int)=sm:=by rw [hLl,hLd,sf hnl,hsm]
  have hsmI:jt b sm:=by
    rw [←hsmS,eM (by omega)];exact (hok.lV _ (by omega)).1
  have hnoneO:(dA b sm).ok:=(oW hok.base hsmI).1
  obtain ⟨ln,hln⟩:∃ln,ln=la.getD (os.length - 1) 0:=⟨_,rfl⟩
  have hlnL:σi.bad=false→ln<σi.ls.length:=fun h=>by rw [hln];exact (hlaok (os.length - 1) (by omega) h).1
  rw [hol] at hPR
  have hPWd:gF af b L=if sn=sm then (ln,σi) else aU af (dA b sm) [ln] σi:=by
    unfold gF;dsimp only
    rw [←hPR,hsnS,hsmS,hln,hol]
  have hla0:la.length - 1<(iL la).length:=by omega
  have hlai:(iL la).getD (la.length - 1) 0=(ln:Int):=by 
    have e:la.length - 1=os.length - 1:=by omega
    rw [nR (show la.length - 1<la.length by omega),hln]
    simp [List.getD_eq_getElem?_getD,e,show os.length - 1<la.length by omega]
  obtain ⟨b8,rfl⟩:∃b,q8=some b:=by
    cases q8 with
    |none=>have:=(hq8 rfl).1;omega
    |some b=>exact ⟨b,rfl⟩
  refine ab.GU (h':=[(some b8,ob bK 3 (iL la) sp8),(some b5,.cells (bH l (qa.map (fun b=>⟨b,0,none⟩)) b.length ca (some ⟨bo,0,none⟩) os.length co) 25 (0,0)),(some bo,lk 41 os spo),(some b1,.cells (bH l A b.length cA B ss.length cB) 25 (0,0))]++cg 73 48 (xE σi.bad) b25 s) (fun _ _ hS=>hS.dM (.cons_cons _ (.cons_cons _ (.cons _ (.cons_cons _ (.cons _ (.cons_cons _ (List.sublist_append_left _ _)))))))) ?_
  refine ab.exit rfl (gS ?_)
  refine ab.draw 20 mixed rfl ?_
  refine mP Js JH 2 ?_;refine xn JJ 1 ?_;refine mP Js JH 2 ?_;refine xn JJ 1 ?_;refine HN JB ?_
  refine aM.v (ae.bin rfl rfl rfl rfl (iJ (c:=((os.length - 1:Nat):Int)) (by omega) (by omega)) rfl) ?_
  refine aM.v (ae.dx rfl rfl rfl rfl rfl JB Jr ((os.length - 1)) ⟨rfl,hlo⟩) ?_
  refine aM.v (ae.fH (a:=some ⟨bo,0,none⟩) (o:=((os.length - 1))*5) rfl rfl rfl rfl Jm rfl Jz (((os.length - 1))*5+0) rfl) ?_
  refine aM.v (ae.ld rfl rfl rfl rfl JE (fun w _ hS=>Sl.kO (enc:=SV.cells) (sz:=5) (a:=some ⟨bo,0,none⟩) (Sl.df (hS.get (j:=2) rfl)) (fun _=>rfl) hlo rfl)) ?_
  refine mP Js JH 2 ?_;refine xn JJ 3 ?_;refine mP Js JH 2 ?_;refine xn JJ 3 ?_;refine HN JB ?_
  refine aM.v (ae.bin rfl rfl rfl rfl (iJ (c:=((ss.length - 1:Nat):Int)) (by omega) (by omega)) rfl) ?_
  refine aM.v (ae.eg rfl rfl rfl rfl rfl JB Jr ⟨_,(hB).at_⟩ (ax (enc:=SV.cells) (sz:=5) (fun _=>rfl)) (by decide) ((ss.length - 1)) ⟨rfl,hnl⟩) ?_
  skip
  refine aM.v (ae.fH rfl rfl rfl rfl Jm rfl Jz (((ss.length - 1))*5+0) rfl) ?_
  refine aM.v (ae.ld rfl rfl rfl rfl JE (fun w _ hS=>Sl.kO (enc:=SV.cells) (sz:=5) ((hB).aA hS.ext).at_ (fun _=>rfl) hnl rfl)) ?_
  iterate 2 refine AL ?_
  refine aM.nil ?_
  refine gE (gS ?_)
  refine ab.jL (α:={z:Ws×List FV // fg 66 z.2 (gF af b L).2 z.1}) (fun _=>[(7,.pointer (some ⟨b25,0,none⟩))]) (fun z=>cg 73 48 (xE (gF af b L).2.bad) b25 z.1.1) (fun z=>?_) (fun K=>?_)
  obtain ⟨⟨s9,Γ9⟩,hW9⟩:=z
  dsimp only at hW9⊢
  · -- what comes behind
   refine gS (gS (gR ?_));refine ah ?_;refine ko ?_;refine al JX Je 1 ?_;refine aq Jf 0 ?_;refine aw gO ?_;refine gE ?_
   refine gC (fun hc=>?_) fun hc=>?_
   ·
    have hb:(gF af b L).2.bad=true:=by
      cases hb:(gF af b L).2.bad with
      |true=>rfl
      |false=>rw [hb] at hc;simp at hc
    rw [if_pos hb] at hE
    have hE8:(if (gF af b L).2.bad=true then (8:Int) else 0)=8:=if_pos hb
    refine gS ?_
    refine ab.draw 6 mixed rfl ?_
    refine mO ?_;refine xm ?_;refine mP JX Je 1 ?_;refine xn Jf 0 ?_
    iterate 2 refine AL ?_
    refine aM.nil ?_
    refine gE ?_
    refine gT func20 fun w' hS=>?_
    exact ⟨hS.ext,_,[],by rw [hE,←hE8];rfl,gY.nil,fun h=>absurd (hE ▸ h) (by decide),fun _=>rfl⟩
   have hb:(gF af b L).2.bad=false:=by
     cases hb:(gF af b L).2.bad with
     |false=>rfl
     |true=>rw [hb] at hc;simp at hc
   rw [if_neg (by rw [hb];simp)] at hE
   refine gK (gS (gR ?_));refine ah ?_;refine ko ?_;refine al JX J5 0 ?_;refine aq isAgg31 0 ?_
   iterate 2 refine ai ?_
   refine gE ?_
   refine gT func20 fun w' hS=>?_
   exact ⟨hS.ext,_,s9.ls,by rw [hE];rfl,hW9.own (pre:=[]) hS,fun _=>hW9.BB,fun h=>absurd hE h⟩
  · -- the first part
   refine gS (gR ?_)
   iterate 2 refine ah ?_
   refine aw Ga ?_;refine gE ?_
   refine gC (fun hc=>?_) fun hc=>?_
   ·
    have hne:¬sn=sm:=by rw [hsn,hsm];simpa using hc
    have hPW:gF af b L=aU af (dA b sm) [ln] σi:=by rw [hPWd,if_neg hne]
    rw [←hsm]
    refine ab.jE 14 (([(some b8,ob bK 3 (iL la) sp8),(some b1,.cells (bH l A b.length cA B ss.length cB) 25 (0,0))])) mixed ?_
    refine cV 0 (ae.mv rfl rfl rfl rfl) ?_
    refine cV 1 (ae.aF rfl rfl rfl rfl Js rfl (by exact Jo) 1 rfl) ?_
    refine cV 2 (ae.dw rfl rfl rfl rfl Ju 1 rfl rfl) ?_
    refine cV 3 (ae.mv rfl rfl rfl rfl) ?_
    refine cV 5 (ae.mv rfl rfl rfl rfl) ?_
    refine cV 6 (ae.mv rfl rfl rfl rfl) ?_
    refine cV 7 (ae.blt rfl rfl rfl (ij Jl) rfl) ?_
    refine cV 8 (ae.bin rfl rfl rfl rfl (iJ (c:=((la.length - 1:Nat):Int)) (by omega) (by omega)) rfl) ?_
    refine cV 9 (ae.dx rfl rfl rfl rfl rfl Jl Je ((la.length - 1)) ⟨rfl,hla0⟩) ?_
    refine cV 10 (ae.qD bK 0 rfl rfl rfl rfl Jf 0 rfl hla0) ?_
    rw [hlai]
    refine aG.two (i:=4) (j:=11) rfl (dn.iD (pre:=[_,_,_,_]) (u:=dA b sm) hW rfl rfl rfl rfl rfl (fun _ _=>call48 _ _) (fun w Y' hS=>rI A cA b sm w (hA.aA hS.ext) hok.base hsmI) (fun y s3 hyf hyz hW3=>⟨(.cons_cons _ (.cons _ (.cons _ (.cons_cons _ (List.nil_sublist _))))),?_⟩)) rfl (dn.eh (c:=[_]) rfl rfl rfl rfl Jl Je JA rfl rfl (fun b92=>⟨.cons _ (.cons_cons _ (.cons _ (.cons _ (.cons_cons _ (List.nil_sublist _))))),?_⟩)) rfl
    · -- operation 4 next
     refine aG.one (i:=11) rfl (dn.eh (c:=[_]) rfl rfl rfl rfl Jl Je JA rfl rfl (fun b92=>⟨sL,?_⟩)) rfl
     refine aG.one (i:=12) rfl (dn.qu (ef:=xE) (pre:=[_,_,_,_,_]) (hR':=[(some b92,ob bK 3 (iL [ln]) [])]) hW3 (.cons_cons _ (List.nil_sublist _)) rfl rfl rfl rfl rfl (fun _ _=>JP _ _) (fun w Y' hS=>bG b25 _ σi y _ (some b92) [ln] 1 [] w (List.mem_cons_self ..) hyf hnoneO hyz (fun e=>by cases e) (fun h n hn=>by rw [List.mem_singleton.1 hn];exact hlnL h) (by simp)) (fun s4 Γ4 hW4 hg4=>⟨.cons _ (.cons_cons _ (.cons _ (.cons _ (.cons_cons _ (List.nil_sublist _))))),?_⟩)) rfl
     refine aG.done rfl ?_
     refine gE ?_
     exact K ⟨(s4,Γ4),by rw [hPW];exact hW4⟩ _ _ sF (fun _ _ hS=>by dsimp only;rw [hPW];exact hS.dM (List.sublist_append_right [_,_,_,_,_] _))
    · -- operation 11 next
     refine aG.one (i:=4) rfl (dn.iD (pre:=[_,_,_,_,_]) (u:=dA b sm) hW rfl rfl rfl rfl rfl (fun _ _=>call48 _ _) (fun w Y' hS=>rI A cA b sm w (hA.aA hS.ext) hok.base hsmI) (fun y s3 hyf hyz hW3=>⟨.cons _ (.cons_cons _ (.cons _ (.cons _ (.cons_cons _ (List.nil_sublist _))))),?_⟩)) rfl
     refine aG.one (i:=12) rfl (dn.qu (ef:=xE) (pre:=[_,_,_,_,_]) (hR':=[(some b92,ob bK 3 (iL [ln]) [])]) hW3 (.cons_cons _ (List.nil_sublist _)) rfl rfl rfl rfl rfl (fun _ _=>JP _ _) (fun w Y' hS=>bG b25 _ σi y _ (some b92) [ln] 1 [] w (List.mem_cons_self ..) hyf hnoneO hyz (fun e=>by cases e) (fun h n hn=>by rw [List.mem_singleton.1 hn];exact hlnL h) (by simp)) (fun s4 Γ4 hW4 hg4=>⟨.cons _ (.cons_cons _ (.cons _ (.cons _ (.cons_cons _ (List.nil_sublist _))))),?_⟩)) rfl
     refine aG.done rfl ?_
     refine gE ?_
     exact K ⟨(s4,Γ4),by rw [hPW];exact hW4⟩ _ _ sF (fun _ _ hS=>by dsimp only;rw [hPW];exact hS.dM (List.sublist_append_right [_,_,_,_,_] _))
   have he:sn=sm:=by rw [hsn,hsm];simpa using hc
   have hPW:gF af b L=(ln,σi):=by rw [hPWd,if_pos he]
   refine gK ?_
   exact K ⟨(s,Γ),by rw [hPW];exact hW⟩ _ _ sF (fun _ _ hS=>by dsimp only;rw [hPW];exact hS.dM (List.sublist_append_right [_,_,_,_] _))
end Go.Proofs.YtnfmegcknckahaaGreatDoor
namespace Go.Proofs.YtnfmegcknckahaaGreatDoor
open Go.RowKit Go.Proofs.Wit Tryz
/-! the examples are awake -/
theorem zG {P:Program} {t:TypeId} {a b:ay} {v:Bool} (h:(a==b)=v):kF P .eql t (U a) (U b) (.bool v):=h ▸ xg
set_option maxRecDepth 8000 in
set_option maxHeartbeats 1000000 in
theorem rA (w:World) (hT:EL w):Cn Tryz.prog 10 [] w (fun v _=>v=.bool true):=by
  refine Cn.of func10 rfl rfl ?_
  refine gS (gR ?_);refine ai ?_;refine gE (gS (gR ?_))
  refine gM rfl rfl rfl rfl rfl call31 (fun w _ hS=>(by exact y9 0 w)) ?_
  rintro v w1 w2 Y' hS he ho
  rw [DZ] at ho
  obtain ⟨qp,cp,sp,rfl,hqp,hcp,hS'⟩:=ak hS he ho
  refine ⟨_,hS',?_⟩
  refine ai ?_;refine gE (gS (gR ?_));refine ah ?_
  refine gM rfl rfl rfl rfl rfl JG (fun w _ hS=>(by exact iU 0 (by decide) ⟨(qp.map (fun b=>⟨b,0,none⟩)),cp,bT pT⟩ pT w (aL hS 0 rfl (fun e=>(hqp e).1)) rfl dT)) ?_
  rintro v w1 w2 Y' hS he ho
  obtain ⟨qk,ck,sk,rfl,hqk,hck,hS'⟩:=ak hS he ho
  refine ⟨_,hS',?_⟩
  refine ai ?_;refine gE (gS (gR ?_));refine ah ?_
  refine gM rfl rfl rfl rfl rfl call15 (fun w _ hS=>(by exact kU ⟨(qp.map (fun b=>⟨b,0,none⟩)),cp,bT pT⟩ w (aL hS 1 rfl (fun e=>(hqp e).1)) (gN (t:=pT)))) ?_
  rintro v w1 w2 Y' hS he ⟨sv,la,rfl,⟨qa,ca,sa,Ha,rfl,hqa,hca,hna,hia⟩,hda,_⟩
  have hda:=(hda Dw.1).trans Dw.2
  have hla:=congrArg List.length hda
  simp only [List.length_map] at hla
  refine ⟨_,hS.fC (pre:=[_]) he hna,?_⟩
  rw [Dw.1]
  refine ah ?_
  iterate 2 refine gh ?_
  iterate 2 refine ai ?_
  refine gE (gS (gR ?_));refine ah ?_
  refine gM rfl rfl rfl rfl rfl call15 (fun w _ hS=>(by exact kU ⟨(qk.map (fun b=>⟨b,0,none⟩)),ck,bT (ar 0 pT)⟩ w (aL hS 1 rfl (fun e=>(hqk e).1)) (gN (t:=ar 0 pT)))) ?_
  rintro v w1 w2 Y' hS he ⟨sv,lb,rfl,⟨qb,cb,sb,Hb,rfl,hqb,hcb,hnb,hib⟩,hdb,_⟩
  have hdb:=(hdb wP.1).trans wP.2
  have hlb:=congrArg List.length hdb
  simp only [List.length_map] at hlb
  refine ⟨_,hS.fC (pre:=[_]) he hnb,?_⟩
  rw [wP.1]
  refine ah ?_
  iterate 2 refine gh ?_
  iterate 2 refine ai ?_
  refine gE (gS (gR ?_))
  refine gM rfl rfl rfl rfl rfl call33 (fun w _ hS=>(by exact vf w)) ?_
  rintro v w1 w2 Y' hS he ⟨t1,⟨qn1,qo1,cn1,co1,sn1,so1,H1,rfl,hqn1,hqo1,hn1,hi1⟩,hd1⟩
  refine ⟨_,hS.fC (pre:=[_,_]) he hn1,?_⟩
  have hl1:t1.length≤maxLen:=by have:=congrArg List.length hd1;simp only [List.length_map] at this;rw [this];decide
  have hlB:gI.length≤maxLen:=by decide
  refine gM rfl rfl rfl rfl rfl call20 (fun w _ hS=>(by exact xx 2 (qn1.map (fun b=>⟨b,0,none⟩)) cn1 gI (qo1.map (fun b=>⟨b,0,none⟩)) co1 t1 w (aL hS 0 rfl hqn1) (B9 hS 1 rfl hqo1 (fun x hx=>⟨(hi1 x hx).1.mono (fun z hz=>by simp [hz]),(hi1 x hx).2⟩)) hlB hl1)) ?_
  rintro v w1 w2 Y' hS he ⟨sv,lc,rfl,⟨qc,cc,sc,Hc,rfl,hqc,hcc,hnc,hic⟩,hdc,_⟩
  have hdc:=(hdc (by rw [hd1];exact C5.1)).trans (show Gn gI (dW t1)=ED.map (fun x=>x.v.d) by rw [hd1];exact C5.2)
  have hlc:=congrArg List.length hdc
  simp only [List.length_map] at hlc
  refine ⟨_,hS.fC (pre:=[_]) he hnc,?_⟩
  rw [hd1,C5.1]
  refine ah ?_
  iterate 2 refine gh ?_
  iterate 2 refine ai ?_
  refine gE (gS (gR ?_))
  refine gM rfl rfl rfl rfl rfl call33 (fun w _ hS=>(by exact vf w)) ?_
  rintro v w1 w2 Y' hS he ⟨t2,⟨qn2,qo2,cn2,co2,sn2,so2,H2,rfl,hqn2,hqo2,hn2,hi2⟩,hd2⟩
  refine ⟨_,hS.fC (pre:=[_,_]) he hn2,?_⟩
  have hl2:t2.length≤maxLen:=by have:=congrArg List.length hd2;simp only [List.length_map] at this;rw [this];decide
  refine gM rfl rfl rfl rfl rfl call12 (fun w _ hS=>(by exact vd 2 (qn2.map (fun b=>⟨b,0,none⟩)) cn2 gI (qo2.map (fun b=>⟨b,0,none⟩)) co2 t2 w (aL hS 0 rfl hqn2) (B9 hS 1 rfl hqo2 (fun x hx=>⟨(hi2 x hx).1.mono (fun z hz=>by simp [hz]),(hi2 x hx).2⟩)) hlB hl2)) ?_
  rintro v w1 w2 Y' hS he ⟨v1,rfl,hd,_⟩
  rw [hd2] at hd
  obtain ⟨t3,⟨qn3,qo3,cn3,co3,sn3,so3,H3,rfl,hqn3,hqo3,hn3,hi3⟩,hd3⟩:=hd (jZ.2 vg)
  rw [pj] at hd3
  have hl3:=congrArg List.length hd3
  simp only [List.length_map] at hl3
  obtain ⟨bo3,rfl⟩:∃b,qo3=some b:=by
    cases qo3 with
    |none=>have:=hqo3 rfl;rw [hl3] at this;cases this
    |some b=>exact ⟨b,rfl⟩
  refine ⟨_,hS.fC (pre:=[_,_]) he hn3,?_⟩
  rw [hd2,show nJ 2 gI dC=0 from jZ.2 vg]
  refine ah ?_
  iterate 2 refine gh ?_
  refine ab.eK rfl rfl rfl (fun _=>J7 _) (fun b9=>?_)
  refine ab.dD rfl rfl rfl rfl Jt 0 rfl rfl rfl rfl ?_
  refine ai ?_;refine gE (gS (gR ?_));refine ah ?_
  refine gM rfl rfl rfl rfl rfl call17 (fun w _ hS=>(by exact wh ⟨(qk.map (fun b=>⟨b,0,none⟩)),ck,bT (ar 0 pT)⟩ w (aL hS 10 rfl (fun e=>(hqk e).1)) (gN (t:=ar 0 pT)))) ?_
  rintro v w1 w2 Y' hS he ⟨sv,lx,rfl,⟨qx,cx,sx,Hx,rfl,hqx,hcx,hnx,hix⟩,hdx,_⟩
  have hdx:=(hdx wP.1).trans wP.2
  have hlx:=congrArg List.length hdx
  simp only [List.length_map] at hlx
  refine ⟨_,hS.fC (pre:=[_]) he hnx,?_⟩
  rw [wP.1]
  refine ah ?_
  iterate 2 refine gh ?_
  iterate 2 refine ai ?_
  refine gE (gS (gS (gR ?_)));refine ah ?_
  refine cG rfl rfl rfl rfl (oO (v:=false) rfl) ?_
  iterate 2 refine ah ?_
  refine cG rfl rfl rfl rfl (oO (v:=false) rfl) ?_
  refine bA ?_
  iterate 2 refine ah ?_
  refine cG rfl rfl rfl rfl (oO (v:=false) rfl) ?_
  refine bA ?_
  iterate 2 refine ah ?_
  refine cG rfl rfl rfl rfl (oO (v:=false) rfl) ?_
  refine bA ?_
  iterate 2 refine ah ?_
  refine cG rfl rfl rfl rfl (oO (v:=false) rfl) ?_
  refine bA ?_
  iterate 2 refine ah ?_
  refine dL JU ?_
  refine cG rfl rfl rfl rfl (oO (v:=false) (by rw [hla];rfl)) ?_
  refine bA ?_
  iterate 2 refine ah ?_
  refine dL JU ?_
  refine cG rfl rfl rfl rfl (oO (v:=false) (by rw [hlb];rfl)) ?_
  refine bA ?_
  iterate 2 refine ah ?_
  refine dL JU ?_
  refine cG rfl rfl rfl rfl (oO (v:=false) (by rw [hlc];rfl)) ?_
  refine bA ?_
  iterate 2 refine ah ?_
  refine dL JU ?_
  refine cG rfl rfl rfl rfl (oO (v:=false) (by rw [hlx];rfl)) ?_
  refine bA ?_;refine ah ?_;refine al Js JH 2 ?_;refine aq JJ 1 ?_;refine dL JB ?_
  refine cG rfl rfl rfl rfl (oO (v:=false) (by rw [hl3];rfl)) ?_
  refine bA ?_;refine gE (ab.fQ rfl (gK (gS ?_)))
  obtain ⟨ba,rfl⟩:∃b,qa=some b:=by
    cases qa with
    |none=>have:=(hqa rfl).1;rw [hla] at this;cases this
    |some b=>exact ⟨b,rfl⟩
  obtain ⟨bb,rfl⟩:∃b,qb=some b:=by
    cases qb with
    |none=>have:=(hqb rfl).1;rw [hlb] at this;cases this
    |some b=>exact ⟨b,rfl⟩
  obtain ⟨bc,rfl⟩:∃b,qc=some b:=by
    cases qc with
    |none=>have:=(hqc rfl).1;rw [hlc] at this;cases this
    |some b=>exact ⟨b,rfl⟩
  obtain ⟨bx,rfl⟩:∃b,qx=some b:=by
    cases qx with
    |none=>have:=(hqx rfl).1;rw [hlx] at this;cases this
    |some b=>exact ⟨b,rfl⟩
  obtain ⟨HR,hHR⟩:∃HR,HR=(((((Ha++Hb)++H1)++Hc)++H2)++H3)++Hx:=⟨_,rfl⟩
  have mA:∀z∈Ha,z∈HR:=fun z hz=>by rw [hHR];simp [hz]
  have mB:∀z∈Hb,z∈HR:=fun z hz=>by rw [hHR];simp [hz]
  have mC:∀z∈Hc,z∈HR:=fun z hz=>by rw [hHR];simp [hz]
  have mX:∀z∈Hx,z∈HR:=fun z hz=>by rw [hHR];simp [hz]
  refine ab.jL (α:=Unit) (fun _=>[(1,cP qp (bT pT).length cp),(2,cP qk (bT (ar 0 pT)).length ck),(3,cP (some ba) la.length ca),(5,cP (some bb) lb.length cb),(7,cP (some bc) lc.length cc),(11,cP (some bx) lx.length cx),(9,.pointer (some ⟨b9,0,none⟩)),(14,.int .i64 10)]) (fun _=>[(some b9,.cells (bH 2 (qn3.map (fun b=>⟨b,0,none⟩)) gI.length cn3 ((some bo3).map (fun b=>⟨b,0,none⟩)) t3.length co3) 25 (0,0)),(some bo3,lk 41 t3 so3),(some ba,xo 48 la sa),(some bb,xo 48 lb sb),(some bc,xo 48 lc sc),(some bx,xo 48 lx sx),(qp,eO 66 (bT pT) sp),(qk,eO 66 (bT (ar 0 pT)) sk)]++HR) (fun _=>?_) (fun K=>?_)
  · -- what comes behind
   refine gS ?_
   refine ab.dY 79 mixed ?_
   have hka:0<la.length:=by rw [hla];decide
   have hfa:(la[0]'hka).f.f=bT (aE (ju pT (aE pT))):=vU hda hka (by decide)
   refine cV 0 (ae.mv rfl rfl rfl rfl) ?_
   refine cV 1 (ae.dx rfl rfl rfl rfl rfl JU JZ (0) ⟨rfl,hka⟩) ?_
   refine cV 2 (ae.fH (a:=some ⟨ba,0,none⟩) (o:=(0)*5) rfl rfl rfl rfl JD rfl Jo ((0)*5+0) rfl) ?_
   refine cV 3 (ae.ld rfl rfl rfl rfl Ju (fun w _ hS=>Sl.kO (enc:=LV.cells) (sz:=5) (a:=some ⟨ba,0,none⟩) (Sl.df (hS.get (j:=2) rfl)) (fun _=>rfl) hka rfl)) ?_
   refine cV 4 (ae.mv rfl rfl rfl rfl) ?_
   refine cV 5 (ae.mv rfl rfl rfl rfl) ?_
   refine aG.call (i:=6) _ rfl rfl rfl rfl rfl rfl (fun _ _=>JF _ _) (fun w _ hS=>(by exact fU ⟨(qp.map (fun b=>⟨b,0,none⟩)),cp,bT pT⟩ pT w (aL hS 6 rfl (fun e=>(hqp e).1)) rfl dT)) ?_
   rintro v w1 w2 Y' hS he ho
   obtain ⟨q1,c1,s1,rfl,hq1,hc1,hS'⟩:=ak hS he ho
   refine ⟨_,hS',sM,?_⟩
   refine aG.call (i:=7) _ rfl rfl rfl rfl rfl rfl (fun _ _=>call27 _ _) (fun w _ hS=>(by exact pV ⟨(qp.map (fun b=>⟨b,0,none⟩)),cp,bT pT⟩ ⟨(q1.map (fun b=>⟨b,0,none⟩)),c1,bT (aE pT)⟩ pT (aE pT) w (aL hS 7 rfl (fun e=>(hqp e).1)) rfl dT (aL hS 0 rfl (fun e=>(hq1 e).1)) rfl (bC dT))) ?_
   rintro v w1 w2 Y' hS he ho
   obtain ⟨q2,c2,s2,rfl,hq2,hc2,hS'⟩:=ak hS he ho
   refine ⟨_,hS',sM,?_⟩
   refine aG.call (i:=8) _ rfl rfl rfl rfl rfl rfl (fun _ _=>JF _ _) (fun w _ hS=>(by exact fU ⟨(q2.map (fun b=>⟨b,0,none⟩)),c2,bT (ju pT (aE pT))⟩ (ju pT (aE pT)) w (aL hS 0 rfl (fun e=>(hq2 e).1)) rfl (gk dT (bC dT)))) ?_
   rintro v w1 w2 Y' hS he ho
   obtain ⟨q3,c3,s3,rfl,hq3,hc3,hS'⟩:=ak hS he ho
   refine ⟨_,hS',sM,?_⟩
   refine aG.cW (i:=9) rfl rfl rfl rfl rfl rfl (fun _ _=>call26 _ _) (fun w _ hS=>(by have:=ew (la[0]'hka).f.a (la[0]'hka).f.c (la[0]'hka).f.f (q3.map (fun b=>⟨b,0,none⟩)) c3 (bT (aE (ju pT (aE pT)))) w (((hia _ (List.getElem_mem hka)).1.mono (fun z hz=>by simp [mA z hz])).at hS) (aL hS 0 rfl (fun e=>(hq3 e).1)) (hia _ (List.getElem_mem hka)).2 gN;rw [show jY (la[0]'hka).f.f (bT (aE (ju pT (aE pT))))=true from by rw [hfa,dF (Cf.zX (bC (gk dT (bC dT))) (by decide+kernel)) (bC (gk dT (bC dT))),decide_eq_true rfl]] at this;exact this)) sL ?_
   have hkb:9<lb.length:=by rw [hlb];decide
   have hfb:(lb[9]'hkb).f.f=bT (aE (ju (ar 0 pT) (ga 0 (aE pT)))):=vU hdb hkb (by decide)
   refine cV 10 (ae.mv rfl rfl rfl rfl) ?_
   refine cV 11 (ae.mv rfl rfl rfl rfl) ?_
   refine cV 12 (ae.dx rfl rfl rfl rfl rfl JU JZ (9) ⟨rfl,hkb⟩) ?_
   refine cV 13 (ae.fH (a:=some ⟨bb,0,none⟩) (o:=(9)*5) rfl rfl rfl rfl JD rfl Jo ((9)*5+0) rfl) ?_
   refine cV 14 (ae.ld rfl rfl rfl rfl Ju (fun w _ hS=>Sl.kO (enc:=LV.cells) (sz:=5) (a:=some ⟨bb,0,none⟩) (Sl.df (hS.get (j:=3) rfl)) (fun _=>rfl) hkb rfl)) ?_
   refine cV 15 (ae.mv rfl rfl rfl rfl) ?_
   refine cV 16 (ae.mv rfl rfl rfl rfl) ?_
   refine aG.call (i:=17) _ rfl rfl rfl rfl rfl rfl (fun _ _=>JF _ _) (fun w _ hS=>(by exact fU ⟨(qp.map (fun b=>⟨b,0,none⟩)),cp,bT pT⟩ pT w (aL hS 9 rfl (fun e=>(hqp e).1)) rfl dT)) ?_
   rintro v w1 w2 Y' hS he ho
   obtain ⟨q4,c4,s4,rfl,hq4,hc4,hS'⟩:=ak hS he ho
   refine ⟨_,hS',sM,?_⟩
   refine aG.call (i:=18) _ rfl rfl rfl rfl rfl rfl (fun _ _=>call35 _ _) (fun w _ hS=>(by exact rG 0 (by decide) ⟨(q4.map (fun b=>⟨b,0,none⟩)),c4,bT (aE pT)⟩ (aE pT) w (aL hS 0 rfl (fun e=>(hq4 e).1)) rfl (bC dT))) ?_
   rintro v w1 w2 Y' hS he ho
   obtain ⟨q5,c5,s5,rfl,hq5,hc5,hS'⟩:=ak hS he ho
   refine ⟨_,hS',sM,?_⟩
   refine aG.call (i:=19) _ rfl rfl rfl rfl rfl rfl (fun _ _=>call27 _ _) (fun w _ hS=>(by exact pV ⟨(qk.map (fun b=>⟨b,0,none⟩)),ck,bT (ar 0 pT)⟩ ⟨(q5.map (fun b=>⟨b,0,none⟩)),c5,bT (ga 0 (aE pT))⟩ (ar 0 pT) (ga 0 (aE pT)) w (aL hS 12 rfl (fun e=>(hqk e).1)) rfl oK (aL hS 0 rfl (fun e=>(hq5 e).1)) rfl (gX (.inr rfl) (by decide) (bC dT)))) ?_
   rintro v w1 w2 Y' hS he ho
   obtain ⟨q6,c6,s6,rfl,hq6,hc6,hS'⟩:=ak hS he ho
   refine ⟨_,hS',sM,?_⟩
   refine aG.call (i:=20) _ rfl rfl rfl rfl rfl rfl (fun _ _=>JF _ _) (fun w _ hS=>(by exact fU ⟨(q6.map (fun b=>⟨b,0,none⟩)),c6,bT (ju (ar 0 pT) (ga 0 (aE pT)))⟩ (ju (ar 0 pT) (ga 0 (aE pT))) w (aL hS 0 rfl (fun e=>(hq6 e).1)) rfl (gk oK (gX (.inr rfl) (by decide) (bC dT))))) ?_
   rintro v w1 w2 Y' hS he ho
   obtain ⟨q7,c7,s7,rfl,hq7,hc7,hS'⟩:=ak hS he ho
   refine ⟨_,hS',sM,?_⟩
   refine aG.cW (i:=21) rfl rfl rfl rfl rfl rfl (fun _ _=>call26 _ _) (fun w _ hS=>(by have:=ew (lb[9]'hkb).f.a (lb[9]'hkb).f.c (lb[9]'hkb).f.f (q7.map (fun b=>⟨b,0,none⟩)) c7 (bT (aE (ju (ar 0 pT) (ga 0 (aE pT))))) w (((hib _ (List.getElem_mem hkb)).1.mono (fun z hz=>by simp [mB z hz])).at hS) (aL hS 0 rfl (fun e=>(hq7 e).1)) (hib _ (List.getElem_mem hkb)).2 gN;rw [show jY (lb[9]'hkb).f.f (bT (aE (ju (ar 0 pT) (ga 0 (aE pT)))))=true from by rw [hfb,dF (Cf.zX (bC (gk oK (gX (.inr rfl) (by decide) (bC dT)))) (by decide+kernel)) (bC (gk oK (gX (.inr rfl) (by decide) (bC dT)))),decide_eq_true rfl]] at this;exact this)) sL ?_
   have hkc:6<lc.length:=by rw [hlc];decide
   have hfc:(lc[6]'hkc).f.f=bT (aE (ju (aE pT) (ar 0 pT))):=vU hdc hkc (by decide)
   refine cV 22 (ae.aX rfl rfl rfl rfl rfl) ?_
   refine cV 23 (ae.mv rfl rfl rfl rfl) ?_
   refine cV 24 (ae.mv rfl rfl rfl rfl) ?_
   refine cV 25 (ae.dx rfl rfl rfl rfl rfl JU JZ (6) ⟨rfl,hkc⟩) ?_
   refine cV 26 (ae.fH (a:=some ⟨bc,0,none⟩) (o:=(6)*5) rfl rfl rfl rfl JD rfl Jo ((6)*5+0) rfl) ?_
   refine cV 27 (ae.ld rfl rfl rfl rfl Ju (fun w _ hS=>Sl.kO (enc:=LV.cells) (sz:=5) (a:=some ⟨bc,0,none⟩) (Sl.df (hS.get (j:=4) rfl)) (fun _=>rfl) hkc rfl)) ?_
   refine cV 28 (ae.mv rfl rfl rfl rfl) ?_
   refine cV 30 (ae.mv rfl rfl rfl rfl) ?_
   refine aG.call (i:=29) _ rfl rfl rfl rfl rfl rfl (fun _ _=>JF _ _) (fun w _ hS=>(by exact fU ⟨(qp.map (fun b=>⟨b,0,none⟩)),cp,bT pT⟩ pT w (aL hS 13 rfl (fun e=>(hqp e).1)) rfl dT)) ?_
   rintro v w1 w2 Y' hS he ho
   obtain ⟨q8,c8,s8,rfl,hq8,hc8,hS'⟩:=ak hS he ho
   refine ⟨_,hS',sM,?_⟩
   refine aG.call (i:=31) _ rfl rfl rfl rfl rfl rfl (fun _ _=>call27 _ _) (fun w _ hS=>(by exact pV ⟨(q8.map (fun b=>⟨b,0,none⟩)),c8,bT (aE pT)⟩ ⟨(qk.map (fun b=>⟨b,0,none⟩)),ck,bT (ar 0 pT)⟩ (aE pT) (ar 0 pT) w (aL hS 0 rfl (fun e=>(hq8 e).1)) rfl (bC dT) (aL hS 15 rfl (fun e=>(hqk e).1)) rfl oK)) ?_
   rintro v w1 w2 Y' hS he ho
   obtain ⟨q9,c9,s9,rfl,hq9,hc9,hS'⟩:=ak hS he ho
   refine ⟨_,hS',sM,?_⟩
   refine aG.call (i:=32) _ rfl rfl rfl rfl rfl rfl (fun _ _=>JF _ _) (fun w _ hS=>(by exact fU ⟨(q9.map (fun b=>⟨b,0,none⟩)),c9,bT (ju (aE pT) (ar 0 pT))⟩ (ju (aE pT) (ar 0 pT)) w (aL hS 0 rfl (fun e=>(hq9 e).1)) rfl (gk (bC dT) oK))) ?_
   rintro v w1 w2 Y' hS he ho
   obtain ⟨q10,c10,s10,rfl,hq10,hc10,hS'⟩:=ak hS he ho
   refine ⟨_,hS',sM,?_⟩
   refine aG.cW (i:=33) rfl rfl rfl rfl rfl rfl (fun _ _=>call26 _ _) (fun w _ hS=>(by have:=ew (lc[6]'hkc).f.a (lc[6]'hkc).f.c (lc[6]'hkc).f.f (q10.map (fun b=>⟨b,0,none⟩)) c10 (bT (aE (ju (aE pT) (ar 0 pT)))) w (((hic _ (List.getElem_mem hkc)).1.mono (fun z hz=>by simp [mC z hz])).at hS) (aL hS 0 rfl (fun e=>(hq10 e).1)) (hic _ (List.getElem_mem hkc)).2 gN;rw [show jY (lc[6]'hkc).f.f (bT (aE (ju (aE pT) (ar 0 pT))))=true from by rw [hfc,dF (Cf.zX (bC (gk (bC dT) oK)) (by decide+kernel)) (bC (gk (bC dT) oK)),decide_eq_true rfl]] at this;exact this)) sL ?_
   have hkx:9<lx.length:=by rw [hlx];decide
   have hfx:(lx[9]'hkx).f.f=bT (.bin 6 0 0 0 (ar 0 pT) (ga 0 (aE pT))):=vU hdx hkx (by decide)
   refine cV 34 (ae.aX rfl rfl rfl rfl rfl) ?_
   refine cV 35 (ae.mv rfl rfl rfl rfl) ?_
   refine cV 36 (ae.mv rfl rfl rfl rfl) ?_
   refine cV 37 (ae.dx rfl rfl rfl rfl rfl JU JZ (9) ⟨rfl,hkx⟩) ?_
   refine cV 38 (ae.fH (a:=some ⟨bx,0,none⟩) (o:=(9)*5) rfl rfl rfl rfl JD rfl Jo ((9)*5+0) rfl) ?_
   refine cV 39 (ae.ld rfl rfl rfl rfl Ju (fun w _ hS=>Sl.kO (enc:=LV.cells) (sz:=5) (a:=some ⟨bx,0,none⟩) (Sl.df (hS.get (j:=5) rfl)) (fun _=>rfl) hkx rfl)) ?_
   refine cV 40 (ae.mv rfl rfl rfl rfl) ?_
   refine cV 41 (ae.mv rfl rfl rfl rfl) ?_
   refine aG.call (i:=42) _ rfl rfl rfl rfl rfl rfl (fun _ _=>JF _ _) (fun w _ hS=>(by exact fU ⟨(qp.map (fun b=>⟨b,0,none⟩)),cp,bT pT⟩ pT w (aL hS 16 rfl (fun e=>(hqp e).1)) rfl dT)) ?_
   rintro v w1 w2 Y' hS he ho
   obtain ⟨q11,c11,s11,rfl,hq11,hc11,hS'⟩:=ak hS he ho
   refine ⟨_,hS',sM,?_⟩
   refine aG.call (i:=43) _ rfl rfl rfl rfl rfl rfl (fun _ _=>call35 _ _) (fun w _ hS=>(by exact rG 0 (by decide) ⟨(q11.map (fun b=>⟨b,0,none⟩)),c11,bT (aE pT)⟩ (aE pT) w (aL hS 0 rfl (fun e=>(hq11 e).1)) rfl (bC dT))) ?_
   rintro v w1 w2 Y' hS he ho
   obtain ⟨q12,c12,s12,rfl,hq12,hc12,hS'⟩:=ak hS he ho
   refine ⟨_,hS',sM,?_⟩
   refine aG.call (i:=44) _ rfl rfl rfl rfl rfl rfl (fun _ _=>call28 _ _) (fun w _ hS=>(by exact B6 ⟨(qk.map (fun b=>⟨b,0,none⟩)),ck,bT (ar 0 pT)⟩ ⟨(q12.map (fun b=>⟨b,0,none⟩)),c12,bT (ga 0 (aE pT))⟩ (ar 0 pT) (ga 0 (aE pT)) w (aL hS 19 rfl (fun e=>(hqk e).1)) rfl oK (aL hS 0 rfl (fun e=>(hq12 e).1)) rfl (gX (.inr rfl) (by decide) (bC dT)))) ?_
   rintro v w1 w2 Y' hS he ⟨ho,_⟩
   obtain ⟨q13,c13,s13,rfl,hq13,hc13,hS'⟩:=ak hS he ho
   refine ⟨_,hS',sM,?_⟩
   refine aG.cW (i:=45) rfl rfl rfl rfl rfl rfl (fun _ _=>call26 _ _) (fun w _ hS=>(by have:=ew (lx[9]'hkx).f.a (lx[9]'hkx).f.c (lx[9]'hkx).f.f (q13.map (fun b=>⟨b,0,none⟩)) c13 (bT (.bin 6 0 0 0 (ar 0 pT) (ga 0 (aE pT)))) w (((hix _ (List.getElem_mem hkx)).1.mono (fun z hz=>by simp [mX z hz])).at hS) (aL hS 0 rfl (fun e=>(hq13 e).1)) (hix _ (List.getElem_mem hkx)).2 gN;rw [show jY (lx[9]'hkx).f.f (bT (.bin 6 0 0 0 (ar 0 pT) (ga 0 (aE pT))))=true from by rw [hfx,dF (Cf.zX (jB oK (gX (.inr rfl) (by decide) (bC dT))) (by decide+kernel)) (jB oK (gX (.inr rfl) (by decide) (bC dT))),decide_eq_true rfl]] at this;exact this)) sL ?_
   have ht0:0<t3.length:=by rw [hl3];decide
   have hs0:(t3[0]'ht0).d.set=3#64:=by have:=congrArg (fun x=>x[0]?) hd3;simp only [List.getElem?_map,List.getElem?_eq_getElem ht0,Option.map_some] at this;exact congrArg SD.set (Option.some.inj this)
   refine cV 46 (ae.aX rfl rfl rfl rfl rfl) ?_
   refine cV 47 (ae.mv rfl rfl rfl rfl) ?_
   refine cV 48 (ae.aF rfl rfl rfl rfl Js rfl (by exact JH) 2 rfl) ?_
   refine cV 49 (ae.dw rfl rfl rfl rfl JJ 0 rfl rfl) ?_
   refine cV 50 (ae.dx rfl rfl rfl rfl rfl JB Jr (0) ⟨rfl,ht0⟩) ?_
   refine cV 51 (ae.fH (a:=some ⟨bo3,0,none⟩) (o:=(0)*5) rfl rfl rfl rfl Jm rfl Jz ((0)*5+0) rfl) ?_
   refine cV 52 (ae.ld rfl rfl rfl rfl JE (fun w _ hS=>Sl.kO (enc:=SV.cells) (sz:=5) (a:=some ⟨bo3,0,none⟩) (Sl.df (hS.get (j:=1) rfl)) (fun _=>rfl) ht0 rfl)) ?_
   refine cV 53 (ae.bin (b:=U 3#64) rfl rfl rfl rfl (zG (v:=true) (by rw [hs0];rfl)) rfl) ?_
   have ht1:1<t3.length:=by rw [hl3];decide
   have hs1:(t3[1]'ht1).d.set=6#64:=by have:=congrArg (fun x=>x[1]?) hd3;simp only [List.getElem?_map,List.getElem?_eq_getElem ht1,Option.map_some] at this;exact congrArg SD.set (Option.some.inj this)
   refine cV 54 (ae.aX rfl rfl rfl rfl rfl) ?_
   refine cV 55 (ae.mv rfl rfl rfl rfl) ?_
   refine cV 56 (ae.aF rfl rfl rfl rfl Js rfl (by exact JH) 2 rfl) ?_
   refine cV 57 (ae.dw rfl rfl rfl rfl JJ 0 rfl rfl) ?_
   refine cV 58 (ae.dx rfl rfl rfl rfl rfl JB Jr (1) ⟨rfl,ht1⟩) ?_
   refine cV 59 (ae.fH (a:=some ⟨bo3,0,none⟩) (o:=(1)*5) rfl rfl rfl rfl Jm rfl Jz ((1)*5+0) rfl) ?_
   refine cV 60 (ae.ld rfl rfl rfl rfl JE (fun w _ hS=>Sl.kO (enc:=SV.cells) (sz:=5) (a:=some ⟨bo3,0,none⟩) (Sl.df (hS.get (j:=1) rfl)) (fun _=>rfl) ht1 rfl)) ?_
   refine cV 61 (ae.bin (b:=U 6#64) rfl rfl rfl rfl (zG (v:=true) (by rw [hs1];rfl)) rfl) ?_
   refine cV 62 (ae.aX rfl rfl rfl rfl rfl) ?_
   refine cV 63 (ae.mv rfl rfl rfl rfl) ?_
   refine cV 64 (ae.mv rfl rfl rfl rfl) ?_
   refine cV 65 (ae.bin rfl rfl rfl rfl (Eb (v:=true) rfl) rfl) ?_
   refine cV 66 (ae.aX rfl rfl rfl rfl rfl) ?_
   refine cV 67 (ae.mv rfl rfl rfl rfl) ?_
   refine cV 68 (ae.mv rfl rfl rfl rfl) ?_
   refine aG.cW (i:=69) rfl rfl rfl rfl rfl rfl (fun _ _=>call25 _ _) (fun w _ hS=>(by have:=tK 2 (some ⟨bc,0,none⟩) cc lc w (Cg hS 17 rfl (fun e=>by cases e) (fun x hx=>⟨(hic x hx).1.mono (fun z hz=>by simp [mC z hz]),(hic x hx).2⟩)) (hT.ex hS.ext);rw [FT hdc] at this;exact this)) sL ?_
   refine cV 70 (ae.bin rfl rfl rfl rfl (Eb (v:=true) rfl) rfl) ?_
   refine cV 71 (ae.aX rfl rfl rfl rfl rfl) ?_
   refine cV 72 (ae.mv rfl rfl rfl rfl) ?_
   refine cV 73 (ae.mv rfl rfl rfl rfl) ?_
   refine aG.cW (i:=74) rfl rfl rfl rfl rfl rfl (fun _ _=>call25 _ _) (fun w _ hS=>(by have:=tK 0 (some ⟨bb,0,none⟩) cb lb w (Cg hS 16 rfl (fun e=>by cases e) (fun x hx=>⟨(hib x hx).1.mono (fun z hz=>by simp [mB z hz]),(hib x hx).2⟩)) (hT.ex hS.ext);rw [FU hdb] at this;exact this)) sL ?_
   refine cV 75 (ae.bin rfl rfl rfl rfl (Eb (v:=true) rfl) rfl) ?_
   refine cV 76 (ae.aX rfl rfl rfl rfl rfl) ?_
   refine cV 77 (ae.fA rfl rfl rfl rfl) ?_
   refine aG.done rfl ?_
   refine gE ?_
   refine gT func10 fun w' hS=>?_
   exact ⟨hS.ext,rfl⟩
  · -- the first part
   refine gR ?_
   iterate 2 refine ah ?_
   refine gM rfl rfl rfl rfl rfl JI (fun w _ hS=>(by exact jg ⟨(qp.map (fun b=>⟨b,0,none⟩)),cp,bT pT⟩ ⟨(qp.map (fun b=>⟨b,0,none⟩)),cp,bT pT⟩ pT pT w (aL hS 12 rfl (fun e=>(hqp e).1)) rfl dT (aL hS 12 rfl (fun e=>(hqp e).1)) rfl dT)) ?_
   rintro v w1 w2 Y' hS he ho
   obtain ⟨qi,ci,si,rfl,hqi,hci,hS'⟩:=ak hS he ho
   refine ⟨_,hS',?_⟩
   refine gM rfl rfl rfl rfl rfl call15 (fun w _ hS=>(by exact kU ⟨(qi.map (fun b=>⟨b,0,none⟩)),ci,bT (aP pT pT)⟩ w (aL hS 0 rfl (fun e=>(hqi e).1)) (gN (t:=aP pT pT)))) ?_
   rintro v w1 w2 Y' hS he ⟨sv,lj,rfl,⟨qj,cj,sj,Hj,rfl,hqj,hcj,hnj,hij⟩,_,_⟩
   refine ⟨_,hS.fC (pre:=[_]) he hnj,?_⟩
   rw [Fw]
   refine ah ?_
   iterate 2 refine gh ?_
   iterate 2 refine ai ?_
   refine gE ?_
   exact K () _ _ sF (fun _ _ hS=>by rw [hHR];exact (hS.aX (pre:=[_,_,_,_,_,_,_,_,_,_,_,_,_,_,_]) (pre':=[_,_,_,_,_,_,_,_]) (HR:=((((((Ha++Hb)++H1)++Hc)++H2)++H3)++Hx)++Hj) [3,5,12,11,8,2,14,13] (by decide) rfl).dM (List.Sublist.append (List.Sublist.refl _) (List.sublist_append_left _ _)))
end Go.Proofs.YtnfmegcknckahaaGreatDoor
namespace Go.Proofs.YtnfmegcknckahaaGreatDoor
open Go.RowKit Go.Proofs.Wit Tryz
/-! the law ExtractLess -/
theorem Bt {b:List NV} {ss:List SV} (h:qO b ss):b.length≤maxLen∧ss.length≤maxLen:=by
 obtain ⟨h1,h2,_⟩:=h
 unfold maxLen;omega
theorem rE.none {w w':World}:rE w w' 0 [] (.agg (bH 0 none 0 0 none 0 0)) []:=⟨.none,.none,0,0,[],[],[],rfl,fun _=>rfl,fun _=>rfl,fW.HP,fun _ h=>by cases h⟩
theorem Aa (l:Int) (A:Option Addr) (cA:Nat) (b:List NV) (B:Option Addr) (cB:Nat) (ss:List SV) (w:World) (hA:FA w A b) (hB:uc w B ss) (hl:b.length≤maxLen) (hsl:ss.length≤maxLen):
  Cn Tryz.prog 12 [.agg (bH l A b.length cA B ss.length cB)] w (fun v w'=>∃v1 l' b' os,v=.tuple #[v1,.int .i64 (nJ l b (dW ss))]∧rE w w' l' b' v1 os∧(nJ l b (dW ss)=0→l'=l∧b'=b∧dW os=dk b (dW ss))∧(nJ l b (dW ss)≠0→os=[])):=
 (vd l A cA b B cB ss w hA hB hl hsl).mono (fun v w' _ ⟨v1,h1,h2,h3⟩=>by
  by_cases e:nJ l b (dW ss)=0
  ·obtain ⟨os,h4,h5⟩:=h2 e
   exact ⟨v1,l,b,os,h1,h4,fun _=>⟨rfl,rfl,h5⟩,fun h=>absurd e h⟩
  rw [h3 e] at h1
  exact ⟨_,0,[],[],h1,rE.none,fun h=>absurd h e,fun _=>rfl⟩)
end Go.Proofs.YtnfmegcknckahaaGreatDoor
namespace Go.Proofs.YtnfmegcknckahaaGreatDoor
open Go.RowKit Go.Proofs.Wit Tryz
/-! the law ExtractNeeds -/
theorem kZ {s:List Bool} {i:Nat} (hi:i<s.length) (h:sB s i=true):s.set i true=s:=by
 unfold sB at h
 rw [List.getD_eq_getElem?_getD,List.getElem?_eq_getElem hi] at h
 have h2:s[i]=true:=h
 rw [←h2]
 exact List.set_getElem_self hi
open Classical in
set_option maxRecDepth 8000 in
theorem p7 (l:Int) (A:Option Addr) (cA:Nat) (b:List NV) (B:Option Addr) (cB:Nat) (ss:List SV) (w:World) (hT:EL w) (hA:FA w A b) (hB:uc w B ss):
    Cn Tryz.prog 8 [.agg (bH l A b.length cA B ss.length cB)] w (fun v _=>v=.bool true):=by
  obtain ⟨i1,hi1,hz1,hsz1,hby1⟩:=info_parts yQ
  refine Cn.of func8 rfl rfl ?_
  refine gS (gR ?_)
  refine ab.bx rfl rfl rfl rfl (fun b1=>?_)
  refine ai ?_;refine gE (gS (gS (gR ?_)))
  refine gP rfl rfl rfl rfl rfl call10 (fun w _ hS=>(by exact rA w (hT.ex hS.ext))) ?_
  refine eV bB ?_;refine ah ?_
  refine ab.v (ae.iE rfl rfl rfl rfl JV 0 rfl Jt rfl) ?_
  refine gP rfl rfl rfl rfl rfl call11 (fun w _ hS=>(by exact CH l A cA b B cB ss w (hB.aA hS.ext))) ?_
  refine eV bB ?_;refine bA ?_;refine gE ?_
  refine gC (fun hc=>?_) fun hc=>?_
  ·
   have h1:¬qO b ss:=by simpa using hc
   refine gS (gR ?_)
   refine gP rfl rfl rfl rfl rfl call10 (fun w _ hS=>(by exact rA w (hT.ex hS.ext))) ?_
   refine ai ?_;refine gE ?_
   refine gT func8 fun w' hS=>?_
   exact ⟨hS.ext,rfl⟩
  have h1:qO b ss:=by simpa using hc
  obtain ⟨hbl,hsl⟩:=Bt h1
  refine gK (gS (gR ?_))
  refine ab.v (ae.iE rfl rfl rfl rfl JV 0 rfl Jt rfl) ?_
  refine gM rfl rfl rfl rfl rfl call12 (fun w _ hS=>(by exact Aa l A cA b B cB ss w (hA.aA hS.ext) (hB.aA hS.ext) hbl hsl)) ?_
  rintro v w1 w2 Y' hS he ⟨v1,l',b',os,rfl,⟨qa,qo,ca,co,spa,spo,H,rfl,hqa,hqo,hnew,hin⟩,hok,hno⟩
  have hexi:∀x∈os,∃w,Sl w x.fa (x.d.fr.map bK):=fun x hx=>⟨w2,((hin x hx).1.mono (fun z hz=>by simp [hz])).at (hS.fC (pre:=[_,_]) he hnew)⟩
  refine ⟨_,hS.fC (pre:=[_,_]) he hnew,?_⟩
  refine ah ?_
  iterate 2 refine gh ?_
  refine ab.eK rfl rfl rfl (fun _=>J7 _) (fun b3=>?_)
  refine ab.dD rfl rfl rfl rfl Jt 0 rfl rfl rfl rfl ?_
  refine ai ?_;refine gE (gS (gS (gR ?_)));refine ah ?_;refine aw gO ?_;refine gE ?_
  refine gC (fun hc=>?_) fun hc=>?_
  ·
   refine gS (gR ?_);refine ai ?_;refine gE ?_
   refine gT func8 fun w' hS=>?_
   exact ⟨hS.ext,rfl⟩
  have h2:nJ l b (dW ss)=0:=by simpa using hc
  obtain ⟨rfl,rfl,hdo⟩:=hok h2
  have hR:=jZ.1 h2
  have hRt:=hR.tr
  rw [←hdo] at hRt
  have hall:∀q,q<os.length→dG (dW os) q=true:=fun q hq=>by
    have:=hR.Em (q:=q) (by rw [←hdo,dg];exact hq)
    rwa [←hdo] at this
  have hpos:0<os.length:=by have:=hRt.pos;rwa [dg] at this
  have h4096:os.length≤4096:=by have:=hRt.len;rwa [dg] at this
  have hfb:∀(k:Nat) (hk:k<(dW os).length),∀j∈(dW os)[k].fr,0≤j∧j<k:=fun k hk j hj=>(hRt.lV k hk).l8 hj
  have hfb':∀(k:Nat) (hk:k<os.length),∀j∈os[k].d.fr,0≤j∧j<k:=fun k hk j hj=>by
    have:=hfb k (by rw [dg];exact hk) j
    rw [jO hk] at this
    exact this hj
  obtain ⟨bo,rfl⟩:∃b,qo=some b:=by
    cases qo with
    |none=>have:=hqo rfl;omega
    |some b=>exact ⟨b,rfl⟩
  have hoL:(dW os).length=os.length:=dg
  refine gK (gS (gR ?_));refine al Js JH 2 ?_;refine aq JJ 0 ?_;refine dL JB ?_;refine ai ?_;refine gE (gS (gR ?_));refine ah ?_
  refine ab.Dp Value.bool false rfl rfl rfl rfl rfl JL hi1 hz1 rfl hsz1 (by rw [hby1];omega) (by unfold maxLen;omega) (fun b29=>?_)
  refine ai ?_;refine gE (gS (gS (gR ?_)));refine ah ?_
  refine cG rfl rfl rfl rfl (iJ (c:=((os.length - 1:Nat):Int)) (by omega) (by omega)) ?_
  refine ai ?_;refine gE (gB ?_)
  refine ab.loop (σ:=Nat×List Bool) (fun z=>[(3,.pointer (some ⟨b3,0,none⟩)),(5,.int .i64 os.length),(6,.slice (some ⟨b29,0,none⟩) os.length os.length),(7,.int .i64 ((os.length:Int) - 1 - z.1))])
    (fun z=>(some b29,ob Value.bool 4 z.2 [])::((some b3,.cells (bH l' (qa.map (fun b=>⟨b,0,none⟩)) b'.length ca (some ⟨bo,0,none⟩) os.length co) 25 (0,0))::(qa,eO 66 b' spa)::(some bo,lk 41 os spo)::H))
    (fun z=>z.1≤os.length∧z.2.length=os.length∧u7 (dW os) z.1 (z.2.set (os.length - 1) true)∧(0<z.1→sB z.2 (os.length - 1)=true)) (fun z=>os.length - z.1) (0,List.replicate os.length false) ⟨Nat.zero_le _,by simp,by have:=u7.init (ss:=dW os) (by omega);rw [hoL] at this;exact this,fun h=>absurd h (Nat.lt_irrefl _)⟩ ⟨rfl,rfl,rfl,by dsimp only;rw [show (os.length:Int) - 1 - ((0:Nat):Int)=((os.length - 1:Nat):Int) by omega];rfl,trivial⟩ (.cons_cons _ (.cons_cons _ (.cons_cons _ (.cons_cons _ (.cons _ (List.Sublist.refl _)))))) (fun z hZ IH=>?_)
  obtain ⟨i,s⟩:=z
  obtain ⟨hi,hsl2,hU,hi0⟩:=hZ
  dsimp only at hi hsl2 hU hi0 IH⊢
  refine gS (gS (gR ?_));refine ah ?_
  refine cG rfl rfl rfl rfl (Ea (v:=decide (i<os.length)) (by simp only [ge_iff_le,decide_eq_decide];omega)) ?_
  refine gE ?_
  refine gC (fun hc=>?_) fun hc=>?_
  ·
   have hlt:i<os.length:=by simpa using hc
   obtain ⟨k,hkd⟩:∃k,k=os.length - 1 - i:=⟨_,rfl⟩
   have hk:k<os.length:=by omega
   have hki:k+1+i=os.length:=by omega
   have hkI:(os.length:Int) - 1 - i=(k:Int):=by omega
   have hks:k<s.length:=by omega
   have hfl:=(hin os[k] (List.getElem_mem hk)).2
   unfold maxLen at hfl
   rw [hkI]
   refine gK (gS (gB (gS (gS (gR ?_)))))
   iterate 2 refine ah ?_
   refine cG rfl rfl rfl rfl (iJ (c:=((os.length - 1:Nat):Int)) (by omega) (by omega)) ?_
   refine aw bd ?_;refine gE ?_
   refine gC (fun hc=>?_) fun hc=>?_
   ·
    have hk1:k=os.length - 1:=by simp at hc;omega
    refine gR ?_
    iterate 2 refine ah ?_
    refine ab.v (ae.dx rfl rfl rfl rfl rfl JL Jh (k) ⟨rfl,hk⟩) ?_
    obtain ⟨s1,hs1⟩:∃s1,s1=s.set k true:=⟨_,rfl⟩
    have hU1:u7 (dW os) i s1:=by rw [hs1,hk1];exact hU
    have hs1l:s1.length=os.length:=by rw [hs1,List.length_set,hsl2]
    have hlast:sB s1 (os.length - 1)=true:=by rw [hs1,hk1,px (by omega),if_pos rfl]
    refine ab.vm Value.bool _ rfl rfl rfl rfl Jh rfl 0 rfl hks ?_
    rw [←hs1]
    refine gE ?_
    have hks1:k<s1.length:=by omega
    have hnk:sB s1 k=true:=by
      rw [hU1.nd hfb (k:=k) (by omega)]
      exact ep.1 (hall k hk)
    refine gS (gS (gR ?_))
    iterate 2 refine ah ?_
    refine ab.v (ae.dx rfl rfl rfl rfl rfl JL Jh (k) ⟨rfl,hk⟩) ?_
    refine ab.v (ae.qD Value.bool false rfl rfl rfl rfl Jj 0 rfl hks1) ?_
    refine eV bB ?_;refine gE ?_
    refine ab.cond rfl (fun hc=>by exfalso;(replace hc:(!sB s1 k)=true:=hc;rw [hnk] at hc;cases hc)) (fun _=>?_)
    refine gK (gS (gR ?_));refine al Js JH 2 ?_;refine aq JJ 1 ?_;refine ah ?_
    refine ab.v (ae.dx rfl rfl rfl rfl rfl JB Jr (k) ⟨rfl,hk⟩) ?_
    refine ab.v (ae.fH (a:=some ⟨bo,0,none⟩) (o:=(k)*5) rfl rfl rfl rfl Jm rfl JO ((k)*5+4) rfl) ?_
    refine ab.v (ae.ld rfl rfl rfl rfl JW (fun w _ hS=>Sl.kO (enc:=SV.cells) (sz:=5) (a:=some ⟨bo,0,none⟩) (Sl.df (hS.get (j:=3) rfl)) (fun _=>rfl) hk rfl)) ?_
    refine dL Jl ?_;refine ah ?_;refine gE (gB ?_)
    refine ab.loop (σ:=Nat) (fun q=>[(3,.pointer (some ⟨b3,0,none⟩)),(5,.int .i64 os.length),(6,.slice (some ⟨b29,0,none⟩) os.length os.length),(7,.int .i64 (k:Int)),(53,.slice os[k].fa os[k].d.fr.length os[k].fc),(54,.int .i64 os[k].d.fr.length),(55,.int .i64 q)])
      (fun q=>(some b29,ob Value.bool 4 (oJ true s1 (os[k].d.fr.take q)) [])::((some b3,.cells (bH l' (qa.map (fun b=>⟨b,0,none⟩)) b'.length ca (some ⟨bo,0,none⟩) os.length co) 25 (0,0))::(qa,eO 66 b' spa)::(some bo,lk 41 os spo)::H))
      (fun q=>q≤os[k].d.fr.length) (fun q=>os[k].d.fr.length - q) 0 (Nat.zero_le _) ⟨rfl,rfl,rfl,rfl,rfl,rfl,rfl,trivial⟩ (List.Sublist.refl _) (fun q hq IH2=>?_)
    refine gS (gR ?_);refine aw iK ?_;refine gE (gS ?_)
    refine gC (fun hc=>?_) fun hc=>?_
    ·
     have hq2:q<os[k].d.fr.length:=by simpa using hc
     have hjb:=hfb' k hk _ (List.getElem_mem hq2)
     obtain ⟨j,hj⟩:∃j:Nat,os[k].d.fr[q]=(j:Int):=⟨os[k].d.fr[q].toNat,by omega⟩
     obtain ⟨s2,hs2⟩:∃s2,s2=oJ true s1 (os[k].d.fr.take q):=⟨_,rfl⟩
     have hs2l:s2.length=os.length:=by rw [hs2,iT,hs1l]
     have hjl:j<os.length:=by omega
     have hjs:j<s2.length:=by omega
     have hnx:oJ true s1 (os[k].d.fr.take (q+1))=s2.set j true:=by
       rw [List.take_succ_eq_append_getElem hq2,pO,←hs2,hj,Bool.or_true];rfl
     rw [←hs2]
     refine gK (gS (gB (gS (gR ?_))))
     refine ab.v (ae.idx rfl rfl rfl rfl rfl Jl Je (hexi _ (List.getElem_mem hk)) (by simp) q ⟨rfl,by simpa using hq2⟩) ?_
     refine ab.v (ae.ld rfl rfl rfl rfl Jf (fun w _ hS=>Sl.at (enc:=bK) (((hin _ (List.getElem_mem hk)).1.mono (fun z hz=>by simp [hz])).at hS) q hq2)) ?_
     refine ai ?_;refine gE (gS (gS (gR ?_)));refine ah ?_
     refine cG rfl rfl rfl rfl (BU (v:=false) (by simp;omega)) ?_
     iterate 3 refine ah ?_
     refine cG rfl rfl rfl rfl (Ea (v:=false) (by simp;omega)) ?_
     refine bA ?_;refine gE (ab.fQ rfl (gK (gR ?_)))
     iterate 2 refine ah ?_
     refine ab.v (ae.dx rfl rfl rfl rfl rfl JL Jh (j) ⟨hj,hjl⟩) ?_
     refine ab.vm Value.bool _ rfl rfl rfl rfl Jh rfl 0 rfl hjs ?_
     refine gE (dJ (gR ?_));refine cG rfl rfl rfl rfl (cu (by omega)) ?_;refine ah ?_;refine gE ?_
     exact IH2 (q+1) _ _ hq2 (by omega) ⟨rfl,rfl,rfl,rfl,rfl,rfl,rfl,trivial⟩ (by rw [hnx];exact List.Sublist.refl _)
    have hge:¬q<os[k].d.fr.length:=by simpa using hc
    obtain rfl:q=os[k].d.fr.length:=by omega
    have hsn:sB (oJ true s1 os[k].d.fr) (os.length - 1)=true:=by
      rw [py (fun j hj=>by have:=hfb' k hk j hj;omega),hlast];rfl
    refine ab.exit rfl (dJ (gR ?_))
    refine ah ?_;refine cG rfl rfl rfl rfl (mu (by omega)) ?_;refine ai ?_;refine gE ?_
    exact IH (i+1,oJ true s1 os[k].d.fr) _ _ ⟨hlt,(by rw [iT,hs1l]),(by dsimp only;rw [kZ (by rw [iT];omega) hsn];have:=hU1.step hfb (k:=k) (by omega);rw [hnk] at this;rwa [jO hk] at this),fun _=>hsn⟩ (by dsimp only;omega) ⟨rfl,rfl,rfl,by dsimp only;rw [show (os.length:Int) - 1 - ((i+1:Nat):Int)=(k:Int) - 1 by omega];rfl,trivial⟩ (by rw [List.take_length];exact List.Sublist.refl _)
   have hk1:k≠os.length - 1:=by simp at hc;omega
   have hlast:sB s (os.length - 1)=true:=hi0 (by omega)
   obtain ⟨s1,hs1⟩:∃s1,s1=s:=⟨_,rfl⟩
   have hsame:s.set (os.length - 1) true=s:=kZ (by omega) hlast
   have hU1:u7 (dW os) i s1:=by rw [hs1];rwa [hsame] at hU
   have hs1l:s1.length=os.length:=by rw [hs1,hsl2]
   rw [←hs1] at hlast
   rw [←hs1]
   have hks1:k<s1.length:=by omega
   have hnk:sB s1 k=true:=by
     rw [hU1.nd hfb (k:=k) (by omega)]
     exact ep.1 (hall k hk)
   refine gK (gS (gS (gR ?_)))
   iterate 2 refine ah ?_
   refine ab.v (ae.dx rfl rfl rfl rfl rfl JL Jh (k) ⟨rfl,hk⟩) ?_
   refine ab.v (ae.qD Value.bool false rfl rfl rfl rfl Jj 0 rfl hks1) ?_
   refine eV bB ?_;refine gE ?_
   refine ab.cond rfl (fun hc=>by exfalso;(replace hc:(!sB s1 k)=true:=hc;rw [hnk] at hc;cases hc)) (fun _=>?_)
   refine gK (gS (gR ?_));refine al Js JH 2 ?_;refine aq JJ 1 ?_;refine ah ?_
   refine ab.v (ae.dx rfl rfl rfl rfl rfl JB Jr (k) ⟨rfl,hk⟩) ?_
   refine ab.v (ae.fH (a:=some ⟨bo,0,none⟩) (o:=(k)*5) rfl rfl rfl rfl Jm rfl JO ((k)*5+4) rfl) ?_
   refine ab.v (ae.ld rfl rfl rfl rfl JW (fun w _ hS=>Sl.kO (enc:=SV.cells) (sz:=5) (a:=some ⟨bo,0,none⟩) (Sl.df (hS.get (j:=3) rfl)) (fun _=>rfl) hk rfl)) ?_
   refine dL Jl ?_;refine ah ?_;refine gE (gB ?_)
   refine ab.loop (σ:=Nat) (fun q=>[(3,.pointer (some ⟨b3,0,none⟩)),(5,.int .i64 os.length),(6,.slice (some ⟨b29,0,none⟩) os.length os.length),(7,.int .i64 (k:Int)),(53,.slice os[k].fa os[k].d.fr.length os[k].fc),(54,.int .i64 os[k].d.fr.length),(55,.int .i64 q)])
     (fun q=>(some b29,ob Value.bool 4 (oJ true s1 (os[k].d.fr.take q)) [])::((some b3,.cells (bH l' (qa.map (fun b=>⟨b,0,none⟩)) b'.length ca (some ⟨bo,0,none⟩) os.length co) 25 (0,0))::(qa,eO 66 b' spa)::(some bo,lk 41 os spo)::H))
     (fun q=>q≤os[k].d.fr.length) (fun q=>os[k].d.fr.length - q) 0 (Nat.zero_le _) ⟨rfl,rfl,rfl,rfl,rfl,rfl,rfl,trivial⟩ (List.Sublist.refl _) (fun q hq IH2=>?_)
   refine gS (gR ?_);refine aw iK ?_;refine gE (gS ?_)
   refine gC (fun hc=>?_) fun hc=>?_
   ·
    have hq2:q<os[k].d.fr.length:=by simpa using hc
    have hjb:=hfb' k hk _ (List.getElem_mem hq2)
    obtain ⟨j,hj⟩:∃j:Nat,os[k].d.fr[q]=(j:Int):=⟨os[k].d.fr[q].toNat,by omega⟩
    obtain ⟨s2,hs2⟩:∃s2,s2=oJ true s1 (os[k].d.fr.take q):=⟨_,rfl⟩
    have hs2l:s2.length=os.length:=by rw [hs2,iT,hs1l]
    have hjl:j<os.length:=by omega
    have hjs:j<s2.length:=by omega
    have hnx:oJ true s1 (os[k].d.fr.take (q+1))=s2.set j true:=by
      rw [List.take_succ_eq_append_getElem hq2,pO,←hs2,hj,Bool.or_true];rfl
    rw [←hs2]
    refine gK (gS (gB (gS (gR ?_))))
    refine ab.v (ae.idx rfl rfl rfl rfl rfl Jl Je (hexi _ (List.getElem_mem hk)) (by simp) q ⟨rfl,by simpa using hq2⟩) ?_
    refine ab.v (ae.ld rfl rfl rfl rfl Jf (fun w _ hS=>Sl.at (enc:=bK) (((hin _ (List.getElem_mem hk)).1.mono (fun z hz=>by simp [hz])).at hS) q hq2)) ?_
    refine ai ?_;refine gE (gS (gS (gR ?_)));refine ah ?_
    refine cG rfl rfl rfl rfl (BU (v:=false) (by simp;omega)) ?_
    iterate 3 refine ah ?_
    refine cG rfl rfl rfl rfl (Ea (v:=false) (by simp;omega)) ?_
    refine bA ?_;refine gE (ab.fQ rfl (gK (gR ?_)))
    iterate 2 refine ah ?_
    refine ab.v (ae.dx rfl rfl rfl rfl rfl JL Jh (j) ⟨hj,hjl⟩) ?_
    refine ab.vm Value.bool _ rfl rfl rfl rfl Jh rfl 0 rfl hjs ?_
    refine gE (dJ (gR ?_));refine cG rfl rfl rfl rfl (cu (by omega)) ?_;refine ah ?_;refine gE ?_
    exact IH2 (q+1) _ _ hq2 (by omega) ⟨rfl,rfl,rfl,rfl,rfl,rfl,rfl,trivial⟩ (by rw [hnx];exact List.Sublist.refl _)
   have hge:¬q<os[k].d.fr.length:=by simpa using hc
   obtain rfl:q=os[k].d.fr.length:=by omega
   have hsn:sB (oJ true s1 os[k].d.fr) (os.length - 1)=true:=by
     rw [py (fun j hj=>by have:=hfb' k hk j hj;omega),hlast];rfl
   refine ab.exit rfl (dJ (gR ?_))
   refine ah ?_;refine cG rfl rfl rfl rfl (mu (by omega)) ?_;refine ai ?_;refine gE ?_
   exact IH (i+1,oJ true s1 os[k].d.fr) _ _ ⟨hlt,(by rw [iT,hs1l]),(by dsimp only;rw [kZ (by rw [iT];omega) hsn];have:=hU1.step hfb (k:=k) (by omega);rw [hnk] at this;rwa [jO hk] at this),fun _=>hsn⟩ (by dsimp only;omega) ⟨rfl,rfl,rfl,by dsimp only;rw [show (os.length:Int) - 1 - ((i+1:Nat):Int)=(k:Int) - 1 by omega];rfl,trivial⟩ (by rw [List.take_length];exact List.Sublist.refl _)
  have hge:¬i<os.length:=by simpa using hc
  refine ab.exit rfl (gS (gR ?_))
  refine ah ?_
  refine cG rfl rfl rfl rfl (Hh (v:=true) (by simp;omega)) ?_
  refine ai ?_;refine gE ?_
  refine gT func8 fun w' hS=>?_
  exact ⟨hS.ext,rfl⟩
end Go.Proofs.YtnfmegcknckahaaGreatDoor
