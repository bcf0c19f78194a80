/- What calls of the program return, under the conditions that each theorem states. -/
import Derived.Test.YtnfmegcknckahaaGreatDoorXO08
import Derived.Test.YtnfmegcknckahaaGreatDoorXO09
import Derived.Test.YtnfmegcknckahaaGreatDoorXO03
import Derived.Test.YtnfmegcknckahaaGreatDoorXO04
namespace Go.Proofs.YtnfmegcknckahaaGreatDoor
open Go.RowKit Go.Proofs.Wit Tryz
set_option maxRecDepth 8000 in
theorem jh (n:NV) (A:Option Addr) (cA:Nat) (gs:List FV) (G:List (List NV)) (w:World) (hG:G=gs.map FV.f) (hA:qF w A gs) (hfa:∀g∈gs,FA w g.a g.f) (hgl:∀g∈gs,g.f.length≤maxLen) (h2:gs.length≤2):
    Cn Tryz.prog 58 [n.v,.slice A gs.length cA] w (fun v w'=>fY 66 w w' v (aQ n G)):=by
  obtain ⟨iN,hiN,hzN,hszN,hbyN⟩:=info_parts Cd
  have hGl:G.length=gs.length:=by rw [hG];simp
  have hGk:∀(k:Nat) (hk:k<gs.length),G[k]'(by omega)=gs[k].f:=fun k hk=>by subst hG;simp
  refine Cn.of func58 rfl rfl ?_
  refine gS (gR ?_)
  refine ab.bx rfl rfl rfl rfl (fun b2=>?_)
  refine ai ?_;refine gE (gS (gR ?_));refine ai ?_;refine gE (gS (gS (gR ?_)));refine ah ?_;refine dY Jo ?_;refine ah ?_;refine gE (gB ?_)
  refine ab.cQ (eO 66 (outs []) []) ?_
  refine ab.pick (pre:=[_,_]) (pre':=[_,_]) [1,0] (by decide) rfl ?_
  refine ab.loop (σ:=Nat×Option Nat×Nat×List Value) (fun z=>[(2,.pointer (some ⟨b2,0,none⟩)),(5,cK z.2.1 (outs (G.take z.1)).length z.2.2.1),(14,.slice A gs.length cA),(15,.int .i64 gs.length),(16,.int .i64 z.1)]) (fun z=>[(some b2,.cells (NV.cells (eS n G z.1)).toArray 66 (0,0)),(z.2.1,eO 66 (outs (G.take z.1)) z.2.2.2)])
    (fun z=>z.1≤gs.length∧(∀g∈G.take z.1,aV g=0)∧(z.2.1=none→(outs (G.take z.1)).length=0∧z.2.2.1=0)∧((outs (G.take z.1)).flatMap NV.cells++z.2.2.2).length=z.2.2.1*6) (fun z=>gs.length - z.1) (0,none,0,[]) ⟨Nat.zero_le _,fun g hg=>by simp at hg,fun _=>⟨rfl,rfl⟩,rfl⟩ ⟨rfl,rfl,rfl,rfl,rfl,trivial⟩ (List.Sublist.refl _) (fun z hI IH=>?_)
  obtain ⟨k,q,cap,sp⟩:=z
  obtain ⟨hk,hall,hq,ao⟩:=hI
  dsimp only at hk hall hq ao IH⊢
  have hol:=yd hall
  rw [List.length_take] at hol
  refine gS (gR ?_);refine aw jl ?_;refine gE (gS ?_)
  refine gC (fun hc=>?_) fun hc=>?_
  ·
   have hlt:k<gs.length:=by simpa using hc
   have hmem:gs[k]∈gs:=List.getElem_mem hlt
   refine gK (gS (gB (gS (gR ?_))));refine ah ?_
   refine ab.v (ae.idx rfl rfl rfl rfl rfl Jo Jj ⟨_,hA⟩ (by simp) (k) ⟨rfl,by simpa using hlt⟩) ?_
   refine ab.v (ae.ld rfl rfl rfl rfl Jn (fun w _ hS=>(qF.ay hA hS.ext).at (k) hlt)) ?_
   iterate 2 refine ai ?_
   refine gE (gS (gS (gR ?_)));refine ah ?_
   refine gP rfl rfl rfl rfl rfl call54 (fun w _ hS=>(by exact fR gs[k].a gs[k].c gs[k].f w ((hfa _ hmem).ay hS.ext) (hgl _ hmem))) ?_
   refine aw gO ?_;refine gE ?_
   refine gC (fun hc=>?_) fun hc=>?_
   ·
    have h3:aV gs[k].f≠0:=by simpa using hc
    refine gS (gR ?_);refine ai ?_;refine gE ?_
    refine gT func58 fun w' hS=>?_
    have hb:aQ n G=[]:=if_pos ⟨gs[k].f,by rw [hG];exact List.mem_map_of_mem hmem,h3⟩
    exact ⟨hS.ext,by rw [hb];exact fY.oI⟩
   have h3:aV gs[k].f=0:=by simpa using hc
   have hokc:=iy h3
   have hcl:=hokc.len
   have hall2:∀g∈G.take (k+1),aV g=0:=fun g hg=>by
     rw [List.take_succ_eq_append_getElem (by omega:k<G.length)] at hg
     rcases List.mem_append.1 hg with hg|hg
     · exact hall g hg
     rw [List.mem_singleton.1 hg,hGk k hlt];exact h3
   have hot:outs (G.take (k+1))=dP (outs (G.take k)) (aj gs[k].f):=by rw [wv (by omega),hGk k hlt]
   refine gK (gS (gR ?_));refine ah ?_;refine dY Ji ?_;refine ai ?_;refine gE (gS (gS (gR ?_)));refine ah ?_
   refine gM rfl rfl rfl rfl rfl call55 (fun w _ hS=>(by exact dZ gs[k].a gs[k].c gs[k].f w ((hfa _ hmem).ay hS.ext) (hgl _ hmem))) ?_
   rintro v w1 w2 Y' hS he ho
   rw [fN] at ho
   obtain ⟨qc,capc,spc,rfl,hqc,hcapc,hS'⟩:=ak hS he ho
   refine ⟨_,hS',?_⟩
   refine dY Ji ?_;refine ah ?_;refine gE (gB ?_)
   refine ab.loop (σ:=Nat×Option Nat×Nat×List Value) (fun z=>[(2,.pointer (some ⟨b2,0,none⟩)),(5,cK z.2.1 (dP (outs (G.take k)) ((aj gs[k].f).take z.1)).length z.2.2.1),(6,.int .i64 k),(8,.int .i64 (outs (G.take k)).length),(14,.slice A gs.length cA),(15,.int .i64 gs.length),(16,.int .i64 k),(27,cK qc (aj gs[k].f).length capc),(28,.int .i64 (aj gs[k].f).length),(29,.int .i64 z.1)]) (fun z=>[(qc,eO 66 (aj gs[k].f) spc),(some b2,.cells (NV.cells (eS n G k)).toArray 66 (0,0)),(z.2.1,eO 66 (dP (outs (G.take k)) ((aj gs[k].f).take z.1)) z.2.2.2)])
     (fun z=>z.1≤(aj gs[k].f).length∧(z.2.1=none→(dP (outs (G.take k)) ((aj gs[k].f).take z.1)).length=0∧z.2.2.1=0)∧((dP (outs (G.take k)) ((aj gs[k].f).take z.1)).flatMap NV.cells++z.2.2.2).length=z.2.2.1*6) (fun z=>(aj gs[k].f).length - z.1) (0,q,cap,sp) (by rw [p4];exact ⟨Nat.zero_le _,hq,ao⟩) (by rw [p4];exact ⟨rfl,rfl,rfl,rfl,rfl,rfl,rfl,rfl,rfl,rfl,trivial⟩) (by rw [p4];exact List.Sublist.refl _) (fun z hI IH2=>?_)
   obtain ⟨m,q,cap,sp⟩:=z
   obtain ⟨hm,hq,ao⟩:=hI
   dsimp only at hm hq ao IH2⊢
   have hcl2:(dP (outs (G.take k)) ((aj gs[k].f).take m)).length≤1000:=by rw [p6,List.length_take];omega
   refine gS (gR ?_);refine aw jl ?_;refine gE (gS ?_)
   refine gC (fun hc=>?_) fun hc=>?_
   ·
    have hm:m<(aj gs[k].f).length:=by simp at hc;omega
    have hokn:=hokc.at m hm
    obtain ⟨bc,rfl⟩:∃bc,qc=some bc:=by
      cases qc with
      |none=>have:=(hqc rfl).1;omega
      |some b=>exact ⟨b,rfl⟩
    refine gK (gS (gB (gS (gR ?_))))
    refine ab.v (ae.dV rfl rfl rfl rfl rfl Ji Jd m ⟨rfl,hm⟩) ?_
    refine ab.v (ae.nR (cs:=NV.cells (aj gs[k].f)[m]) rfl rfl rfl rfl Jt Jd (fun w _ hS=>Sl.many (enc:=NV.cells) (sz:=6) (a:=some ⟨bc,0,none⟩) (Sl.dg (hS.get (j:=0) rfl)) (fun _=>rfl) hm)) ?_
    refine ab.eN rfl rfl rfl (fun _=>Jq _) (fun b10=>?_)
    refine ab.dG rfl rfl rfl rfl Jd 0 rfl rfl rfl rfl ?_
    refine gE (gS (gR ?_));refine al Jb I9 0 ?_;refine aq Ja 0 ?_
    refine gP rfl rfl rfl rfl rfl call105 (fun w _ hS=>(by exact gV (aj gs[k].f)[m].op w)) ?_
    refine ah ?_
    iterate 2 refine fW ?_
    refine ab.eN rfl rfl rfl (fun _=>JZ _) (fun b11=>?_)
    refine ab.dG rfl rfl rfl rfl Jl 0 rfl rfl rfl rfl ?_
    refine ai ?_;refine gE (gS (gS (gR ?_)));refine al Jf Jc 0 ?_;refine aq Je 0 ?_;refine gE ?_
    refine gC (fun hc=>?_) fun hc=>?_
    ·
     have hX:cF (aj gs[k].f)[m].op=true:=hc
     have hxr:=hokn.x hX
     refine gR ?_;refine al Jb I9 4 ?_;refine aq Ja 1 ?_;refine ah ?_;refine df rfl rfl rfl rfl (cD (by omega)) ?_;refine al Jb I9 4 ?_
     refine ab.st rfl rfl rfl rfl I9 rfl 1 rfl rfl ?_
     refine gE (gS (gS (gR ?_)));refine al Jf Jc 1 ?_;refine aq Je 0 ?_;refine gE ?_
     refine gC (fun hc=>?_) fun hc=>?_
     ·
      have hY:cm (aj gs[k].f)[m].op=true:=hc
      have hyr:=hokn.y hY
      refine gR ?_;refine al Jb I9 5 ?_;refine aq Ja 1 ?_;refine ah ?_;refine df rfl rfl rfl rfl (cD (by omega)) ?_;refine al Jb I9 5 ?_
      refine ab.st rfl rfl rfl rfl I9 rfl 1 rfl rfl ?_
      refine gE (gR ?_);refine ah ?_
      refine ab.v (ae.iR rfl rfl rfl rfl Jt 1 rfl Jd rfl) ?_
      refine ab.eh (c:=[_,_,_,_,_,_]) rfl rfl rfl rfl Ji Jd Jq rfl rfl (fun b55=>?_)
      have hsh:du (outs (G.take k)).length (aj gs[k].f)[m]={(aj gs[k].f)[m] with x:=(aj gs[k].f)[m].x+((outs (G.take k)).length:Int),y:=(aj gs[k].f)[m].y+((outs (G.take k)).length:Int)}:=by simp [du,hX,hY]
      have hct:=p5 (o:=outs (G.take k)) hm
      rw [hsh] at hct
      have e1:(dP (outs (G.take k)) ((aj gs[k].f).take m)).flatMap NV.cells++NV.cells {(aj gs[k].f)[m] with x:=(aj gs[k].f)[m].x+((outs (G.take k)).length:Int),y:=(aj gs[k].f)[m].y+((outs (G.take k)).length:Int)}=(dP (outs (G.take k)) ((aj gs[k].f).take (m+1))).flatMap NV.cells:=by rw [hct,List.flatMap_append];simp
      have e2:(dP (outs (G.take k)) ((aj gs[k].f).take m)).length+1=(dP (outs (G.take k)) ((aj gs[k].f).take (m+1))).length:=by rw [hct];simp
      refine ab.app 6 (xs:=(dP (outs (G.take k)) ((aj gs[k].f).take m)).flatMap NV.cells) (sp:=sp) (nx:=(dP (outs (G.take k)) ((aj gs[k].f).take m)).length) (q:=q) (news:=NV.cells {(aj gs[k].f)[m] with x:=(aj gs[k].f)[m].x+((outs (G.take k)).length:Int),y:=(aj gs[k].f)[m].y+((outs (G.take k)).length:Int)}) (spn:=[]) rfl rfl rfl rfl rfl Ji hiN hzN hszN rfl hq 5 rfl 0 rfl ow ao rfl (by decide) (fun u hu=>by
        simp only [NV.cells,List.mem_cons,List.not_mem_nil,or_false] at hu
        rcases hu with rfl|rfl|rfl|rfl|rfl|rfl<;>rfl) (by unfold maxLen;omega) (by rw [hbyN];omega) (fun b' sp' cap' hlen=>?_)
      simp only [e1,e2] at hlen⊢
      refine ai ?_;refine gE (dQ (gR ?_));refine df rfl rfl rfl rfl (cD (by omega)) ?_;refine ah ?_;refine gE ?_
      exact IH2 (m+1,some b',cap',sp') _ _ ⟨hm,(fun e=>by cases e),hlen⟩ (by dsimp only;omega) ⟨rfl,rfl,rfl,rfl,rfl,rfl,rfl,rfl,rfl,rfl,trivial⟩ (.cons _ (.cons _ (.cons _ (List.Sublist.refl _))))
     have hY:cm (aj gs[k].f)[m].op=false:=hc
     refine gK (gR ?_);refine ah ?_
     refine ab.v (ae.iR rfl rfl rfl rfl Jt 1 rfl Jd rfl) ?_
     refine ab.eh (c:=[_,_,_,_,_,_]) rfl rfl rfl rfl Ji Jd Jq rfl rfl (fun b55=>?_)
     have hsh:du (outs (G.take k)).length (aj gs[k].f)[m]={(aj gs[k].f)[m] with x:=(aj gs[k].f)[m].x+((outs (G.take k)).length:Int)}:=by simp [du,hX,hY]
     have hct:=p5 (o:=outs (G.take k)) hm
     rw [hsh] at hct
     have e1:(dP (outs (G.take k)) ((aj gs[k].f).take m)).flatMap NV.cells++NV.cells {(aj gs[k].f)[m] with x:=(aj gs[k].f)[m].x+((outs (G.take k)).length:Int)}=(dP (outs (G.take k)) ((aj gs[k].f).take (m+1))).flatMap NV.cells:=by rw [hct,List.flatMap_append];simp
     have e2:(dP (outs (G.take k)) ((aj gs[k].f).take m)).length+1=(dP (outs (G.take k)) ((aj gs[k].f).take (m+1))).length:=by rw [hct];simp
     refine ab.app 6 (xs:=(dP (outs (G.take k)) ((aj gs[k].f).take m)).flatMap NV.cells) (sp:=sp) (nx:=(dP (outs (G.take k)) ((aj gs[k].f).take m)).length) (q:=q) (news:=NV.cells {(aj gs[k].f)[m] with x:=(aj gs[k].f)[m].x+((outs (G.take k)).length:Int)}) (spn:=[]) rfl rfl rfl rfl rfl Ji hiN hzN hszN rfl hq 5 rfl 0 rfl ow ao rfl (by decide) (fun u hu=>by
       simp only [NV.cells,List.mem_cons,List.not_mem_nil,or_false] at hu
       rcases hu with rfl|rfl|rfl|rfl|rfl|rfl<;>rfl) (by unfold maxLen;omega) (by rw [hbyN];omega) (fun b' sp' cap' hlen=>?_)
     simp only [e1,e2] at hlen⊢
     refine ai ?_;refine gE (dQ (gR ?_));refine df rfl rfl rfl rfl (cD (by omega)) ?_;refine ah ?_;refine gE ?_
     exact IH2 (m+1,some b',cap',sp') _ _ ⟨hm,(fun e=>by cases e),hlen⟩ (by dsimp only;omega) ⟨rfl,rfl,rfl,rfl,rfl,rfl,rfl,rfl,rfl,rfl,trivial⟩ (.cons _ (.cons _ (.cons _ (List.Sublist.refl _))))
    have hX:cF (aj gs[k].f)[m].op=false:=hc
    have hY:cm (aj gs[k].f)[m].op=false:=by
      cases e:cm (aj gs[k].f)[m].op with
      |false=>rfl
      |true=>exact absurd ((ep e).symm.trans hX) (by decide)
    refine gK (gS (gS (gR ?_)));refine al Jf Jc 1 ?_;refine aq Je 0 ?_;refine gE ?_
    refine ab.cond rfl (fun hc=>by exfalso;(exact absurd (hY.symm.trans hc) (by decide))) (fun _=>?_)
    refine gK (gR ?_);refine ah ?_
    refine ab.v (ae.iR rfl rfl rfl rfl Jt 1 rfl Jd rfl) ?_
    refine ab.eh (c:=[_,_,_,_,_,_]) rfl rfl rfl rfl Ji Jd Jq rfl rfl (fun b55=>?_)
    have hsh:du (outs (G.take k)).length (aj gs[k].f)[m]=(aj gs[k].f)[m]:=by simp [du,hX,hY]
    have hct:=p5 (o:=outs (G.take k)) hm
    rw [hsh] at hct
    have e1:(dP (outs (G.take k)) ((aj gs[k].f).take m)).flatMap NV.cells++NV.cells (aj gs[k].f)[m]=(dP (outs (G.take k)) ((aj gs[k].f).take (m+1))).flatMap NV.cells:=by rw [hct,List.flatMap_append];simp
    have e2:(dP (outs (G.take k)) ((aj gs[k].f).take m)).length+1=(dP (outs (G.take k)) ((aj gs[k].f).take (m+1))).length:=by rw [hct];simp
    refine ab.app 6 (xs:=(dP (outs (G.take k)) ((aj gs[k].f).take m)).flatMap NV.cells) (sp:=sp) (nx:=(dP (outs (G.take k)) ((aj gs[k].f).take m)).length) (q:=q) (news:=NV.cells (aj gs[k].f)[m]) (spn:=[]) rfl rfl rfl rfl rfl Ji hiN hzN hszN rfl hq 5 rfl 0 rfl ow ao rfl (by decide) (fun u hu=>by
      simp only [NV.cells,List.mem_cons,List.not_mem_nil,or_false] at hu
      rcases hu with rfl|rfl|rfl|rfl|rfl|rfl<;>rfl) (by unfold maxLen;omega) (by rw [hbyN];omega) (fun b' sp' cap' hlen=>?_)
    simp only [e1,e2] at hlen⊢
    refine ai ?_;refine gE (dQ (gR ?_));refine df rfl rfl rfl rfl (cD (by omega)) ?_;refine ah ?_;refine gE ?_
    exact IH2 (m+1,some b',cap',sp') _ _ ⟨hm,(fun e=>by cases e),hlen⟩ (by dsimp only;omega) ⟨rfl,rfl,rfl,rfl,rfl,rfl,rfl,rfl,rfl,rfl,trivial⟩ (.cons _ (.cons _ (.cons _ (List.Sublist.refl _))))
   have hge:¬m<(aj gs[k].f).length:=by simp at hc;omega
   obtain rfl:m=(aj gs[k].f).length:=by omega
   rw [List.take_length,←hot] at hq ao hcl2
   rw [List.take_length,←hot]
   refine ab.exit rfl (gS (gR ?_))
   refine ah ?_;refine aw bh ?_;refine gE ?_
   refine gC (fun hc=>?_) fun hc=>?_
   ·
    have hk0:k=0:=by simp at hc;omega
    subst hk0
    refine gR ?_;refine ah ?_;refine dY Ji ?_;refine df rfl rfl rfl rfl (og (by omega)) ?_;refine al Jb I9 4 ?_
    refine ab.st rfl rfl rfl rfl I9 rfl 1 rfl rfl ?_
    refine gE (dQ (gR ?_));refine df rfl rfl rfl rfl (cD (by omega)) ?_;refine ah ?_;refine gE ?_
    exact IH (1,q,cap,sp) _ _ ⟨hlt,hall2,hq,ao⟩ (by dsimp only;omega) ⟨rfl,rfl,rfl,rfl,rfl,trivial⟩ (.cons _ (List.Sublist.refl _))
   have hk0:k≠0:=by simp at hc;omega
   have hnK:=AT (n:=n) (gs:=G) hk0
   refine gR ?_;refine ah ?_;refine dY Ji ?_;refine df rfl rfl rfl rfl (og (by omega)) ?_;refine al Jb I9 5 ?_
   refine ab.st rfl rfl rfl rfl I9 rfl 1 rfl rfl ?_
   refine gE (dQ (gR ?_));refine df rfl rfl rfl rfl (cD (by omega)) ?_;refine ah ?_;refine gE ?_
   exact IH (k+1,q,cap,sp) _ _ ⟨hlt,hall2,hq,ao⟩ (by dsimp only;omega) ⟨rfl,rfl,rfl,rfl,rfl,trivial⟩ (by rw [hnK];exact .cons _ (List.Sublist.refl _))
  have hge:¬k<gs.length:=by simpa using hc
  obtain rfl:k=gs.length:=by omega
  have hGt:G.take gs.length=G:=by rw [←hGl];exact List.take_length
  rw [hGt] at hall hq ao hol
  rw [hGt]
  have hex:¬∃g∈G,aV g≠0:=fun ⟨g,hg,h⟩=>h (hall g hg)
  refine ab.exit rfl (gS (gS (gR ?_)))
  refine ab.v (ae.iR rfl rfl rfl rfl Jt 0 rfl Jd rfl) ?_
  refine ah ?_;refine dY Ji ?_
  refine gP rfl rfl rfl rfl rfl call102 (fun w _ hS=>(by exact ym (eS n G gs.length) (outs G).length w)) ?_
  refine aw gO ?_;refine gE ?_
  refine gC (fun hc=>?_) fun hc=>?_
  ·
   have h3:aK (eS n G gs.length) (outs G).length≠0:=by simpa using hc
   refine gS (gR ?_);refine ai ?_;refine gE ?_
   refine gT func58 fun w' hS=>?_
   have hb:aQ n G=[]:=by rw [aQ,if_neg hex,hGl,if_pos h3]
   exact ⟨hS.ext,by rw [hb];exact fY.oI⟩
  have h3:aK (eS n G gs.length) (outs G).length=0:=by simpa using hc
  have hnn:=vh (AO hall) (gW.1 h3)
  have e1:(outs G).flatMap NV.cells++NV.cells (eS n G gs.length)=(outs G++[eS n G gs.length]).flatMap NV.cells:=by rw [List.flatMap_append];simp
  have e2:(outs G).length+1=(outs G++[eS n G gs.length]).length:=by simp
  have hb2:aQ n G=if 200<(bS (aa (outs G++[eS n G gs.length]) (outs G).length)).length then [] else bS (aa (outs G++[eS n G gs.length]) (outs G).length):=by rw [aQ,if_neg hex,hGl,if_neg (by simp [h3])]
  refine gK (gS (gR ?_));refine ah ?_
  refine ab.v (ae.iR rfl rfl rfl rfl Jt 0 rfl Jd rfl) ?_
  refine ab.eh (c:=[_,_,_,_,_,_]) rfl rfl rfl rfl Ji Jd Jq rfl rfl (fun b76=>?_)
  refine ab.app 6 (xs:=(outs G).flatMap NV.cells) (sp:=sp) (nx:=(outs G).length) (q:=q) (news:=NV.cells (eS n G gs.length)) (spn:=[]) rfl rfl rfl rfl rfl Ji hiN hzN hszN rfl hq 2 rfl 0 rfl ow ao rfl (by decide) (fun u hu=>by
    simp only [NV.cells,List.mem_cons,List.not_mem_nil,or_false] at hu
    rcases hu with rfl|rfl|rfl|rfl|rfl|rfl<;>rfl) (by unfold maxLen;omega) (by rw [hbyN];omega) (fun b' sp' cap' hlen=>?_)
  simp only [e1,e2] at hlen⊢
  refine ah ?_;refine dY Ji ?_
  refine gM rfl rfl rfl rfl rfl call106 (fun w _ hS=>(by exact vH (some ⟨b',0,none⟩) cap' (outs G++[eS n G gs.length]) (outs G).length w ⟨Sl.dg (hS.get (j:=2) rfl)⟩ hnn (by simp;omega) (by simp))) ?_
  rintro v w1 w2 Y' hS he ho
  obtain ⟨qr,capr,spr,rfl,hqr,hcapr,hS'⟩:=ak hS he ho
  refine ⟨_,hS',?_⟩
  refine ai ?_;refine gE (gS (gS (gR ?_)));refine ah ?_;refine dY Ji ?_;refine aw w6 ?_;refine gE ?_
  refine gC (fun hc=>?_) fun hc=>?_
  ·
   have h4:200<(bS (aa (outs G++[eS n G gs.length]) (outs G).length)).length:=by simp at hc;omega
   refine gS (gR ?_);refine ai ?_;refine gE ?_
   refine gT func58 fun w' hS=>?_
   exact ⟨hS.ext,by rw [hb2,if_pos h4];exact fY.oI⟩
  have h4:¬200<(bS (aa (outs G++[eS n G gs.length]) (outs G).length)).length:=by simp at hc;omega
  refine gK (gS (gR ?_));refine ah ?_;refine ai ?_;refine gE ?_
  refine gT func58 fun w' hS=>?_
  exact ⟨hS.ext,by rw [hb2,if_neg h4];exact ⟨aI.mk hS 0 rfl rfl hqr hcapr,fun e=>absurd e (List.ne_nil_of_length_pos (jf _))⟩⟩
theorem cY (n:NV) (A:Option Addr) (cA:Nat) (gs:List FV) (G:List (List NV)) (w:World) (hG:G=gs.map FV.f) (hA:qF w A gs) (hfa:∀g∈gs,FA w g.a g.f) (hgl:∀g∈gs,g.f.length≤maxLen) (h2:gs.length≤2):
  Cn Tryz.prog 58 [n.v,.slice A gs.length cA] w (fun v w'=>aI 66 w w' v (aQ n G)):=(jh n A cA gs G w hG hA hfa hgl h2).mono (fun _ _ _ h=>h.1)
end Go.Proofs.YtnfmegcknckahaaGreatDoor
