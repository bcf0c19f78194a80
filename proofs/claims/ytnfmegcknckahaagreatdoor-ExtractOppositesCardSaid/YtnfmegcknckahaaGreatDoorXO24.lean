/- What calls of the program return, under the conditions that each theorem states. -/
import Derived.Test.YtnfmegcknckahaaGreatDoorXO22
import Derived.Test.YtnfmegcknckahaaGreatDoorXO23
import Derived.Test.YtnfmegcknckahaaGreatDoorXO03
import Derived.Test.YtnfmegcknckahaaGreatDoorXO04
namespace Go.Proofs.YtnfmegcknckahaaGreatDoor
open Go.RowKit Go.Proofs.Wit Tryz
def km (l:Int) (A:Option Addr) (n cA:Nat):Array Value:=#[.int .i64 l,.slice A n cA]
def two (a b:Int):Array Value:=#[.int .i64 a,.int .i64 b]
theorem Aa {a b:Int} {k:Nat} (h:k<2):(two a b)[k]?=some (.int .i64 ([a,b].getD k 0)):=by
 match k,h with
 |0,_=>rfl
 |1,_=>rfl
 |k+2,h=>omega
set_option maxRecDepth 8000 in
theorem wA (bp:Nat) (l:Int) (A:Option Addr) (cA:Nat) (ls:List LV) (i:Nat) (w:World) (hb:w.heap[bp]?=some (.cells (km l A ls.length cA) 95 (0,0))) (hA:LA w A ls) (hi:i<ls.length):
    Cn Tryz.prog 108 [.pointer (some ⟨bp,0,none⟩),.int .i64 i] w (fun v _=>v=.int .i64 (iM i ls[i])):=by
  have HB:∀{w':World} {j:Nat} {u:Value},Ex [] w w'→(km l A ls.length cA)[j]?=some u→w'.cell? ⟨bp,j,none⟩=some u:=fun e h=>Ex.cell e hb h
  obtain ⟨x,hx⟩:∃x,x=ls[i]:=⟨_,rfl⟩
  refine Cn.of func108 rfl rfl ?_
  refine gS (gR ?_);refine ai ?_;refine gE (gS (gR ?_));refine ah ?_;refine kk ?_;refine al J5 J0 1 ?_
  refine ab.v (ae.ld (p:=⟨bp,1,none⟩) rfl rfl rfl rfl isAgg31 (fun w _ hS=>HB hS.ext rfl)) ?_
  refine ah ?_
  refine ab.v (ae.ez rfl rfl rfl rfl rfl JD JQ ⟨_,(hA).at_⟩ (aD (enc:=LV.cells) (sz:=5) (fun _=>rfl)) (by decide) (i) ⟨rfl,hi⟩) ?_
  refine ab.v (ae.nR (cs:=LV.cells x) rfl rfl rfl rfl isAgg48 JQ (fun w _ hS=>by rw [hx];exact Sl.many (enc:=LV.cells) (sz:=5) (hA.ay hS.ext).at_ (fun _=>rfl) hi)) ?_
  refine ab.eN rfl rfl rfl (fun _=>zeroValue48 _) (fun b5=>?_)
  refine ab.dG rfl rfl rfl rfl JQ 0 rfl rfl rfl rfl ?_
  refine gE (gS (gS (gR ?_)));refine al Jw I9 2 ?_;refine aq Ja 0 ?_;refine al Jw I9 3 ?_;refine aq Ja 0 ?_
  refine ab.v (ae.eM rfl rfl rfl rfl (G4 (c:=[_,_]) underlying160 I9 zeroValue160 rfl)) ?_
  refine ah ?_;refine gE (gB ?_)
  refine ab.loop (σ:=Nat) (fun k=>[(1,.int .i64 i),(5,.pointer (some ⟨b5,0,none⟩)),(19,.agg (two x.a x.b)),(20,.int .i64 k)]) (fun _=>[(some b5,.cells (LV.cells x).toArray 48 (0,0))])
    (fun k=>k≤2∧∀j:Nat,j<k→jk (ed x.r) j ([x.a,x.b].getD j 0) i=false) (fun k=>2 - k) 0 ⟨Nat.zero_le _,fun j hj=>absurd hj (Nat.not_lt_zero _)⟩ ⟨rfl,rfl,rfl,rfl,trivial⟩ (List.Sublist.refl _) (fun k hI IH=>?_)
  obtain ⟨hk,hall⟩:=hI
  refine gS (gR ?_);refine aw jl ?_;refine gE (gS ?_)
  refine gC (fun hc=>?_) fun hc=>?_
  ·
   have hk2:k<2:=by simp at hc;omega
   obtain ⟨nn,hnn⟩:∃nn,nn=[x.a,x.b].getD k 0:=⟨_,rfl⟩
   have hbad:jk (ed x.r) k nn i=true→iM i x=3:=fun h=>by
     refine if_pos ?_
     rw [hnn] at h
     rcases (by omega:k=0∨k=1) with e|e<;>subst e
     · exact Bool.or_eq_true_iff.2 (.inl h)
     exact Bool.or_eq_true_iff.2 (.inr h)
   have hstep:jk (ed x.r) k nn i=false→∀j:Nat,j<k+1→jk (ed x.r) j ([x.a,x.b].getD j 0) i=false:=fun h j hj=>by
     by_cases e:j=k
     · subst e;rw [←hnn];exact h
     exact hall j (by omega)
   refine gK (gS (gB (gS (gR ?_))));refine ah ?_
   refine ab.v (ae.Ih (v:=.int .i64 nn) rfl rfl rfl rfl rfl underlying160 I9 Ja k ⟨rfl,hk2⟩ (by rw [hnn];exact Aa hk2)) ?_
   iterate 2 refine ai ?_
   refine gE (gS (gR ?_));refine ah ?_;refine al Jw I9 1 ?_;refine aq Ja 0 ?_
   refine gP rfl rfl rfl rfl rfl call155 (fun w _ hS=>(by exact uk x.r w)) ?_
   refine aw oN ?_;refine ah ?_
   refine eD 29 (fun hc=>?_) fun hc=>?_
   ·
    have h1:(k:Int)≥ed x.r:=by simpa using hc
    refine ah ?_;refine aw gO ?_;refine cz ?_;refine ah ?_
    refine eD 33 (fun hc=>?_) fun hc=>?_
    ·
     have h2:nn≠0:=by simpa using hc
     iterate 14 refine cy ?_
     refine cz ?_;refine gE (ab.bX rfl (gS (gR ?_)));refine ai ?_;refine gE ?_
     refine gT func108 fun w' hS=>?_
     exact ⟨hS.ext,by rw [←hx,hbad (by unfold jk;simp;left;exact ⟨h1,h2⟩)];rfl⟩
    have h2:nn=0:=by simpa using hc
    refine ah ?_;refine al Jw I9 1 ?_;refine aq Ja 0 ?_
    refine gP rfl rfl rfl rfl rfl call155 (fun w _ hS=>(by exact uk x.r w)) ?_
    refine df rfl rfl rfl rfl (FW (v:=false) (decide_eq_false (by omega))) ?_
    refine ah ?_
    iterate 7 refine cy ?_
    iterate 2 refine bE ?_
    refine gE (ab.gj rfl (gK (dQ (gR ?_))));refine df rfl rfl rfl rfl (cD (by omega)) ?_;refine ah ?_;refine gE ?_
    exact IH (k+1) _ _ ⟨hk2,hstep (by unfold jk;simp;omega)⟩ (by omega) ⟨rfl,rfl,rfl,rfl,trivial⟩ (List.Sublist.refl _)
   have h1:¬(k:Int)≥ed x.r:=by simpa using hc
   iterate 2 refine cy ?_
   refine bE ?_
   iterate 2 refine ah ?_
   refine al Jw I9 1 ?_;refine aq Ja 0 ?_
   refine gP rfl rfl rfl rfl rfl call155 (fun w _ hS=>(by exact uk x.r w)) ?_
   refine df rfl rfl rfl rfl (FW (v:=true) (decide_eq_true (by omega))) ?_
   iterate 2 refine ah ?_
   refine aw jl ?_;refine ah ?_
   refine eD 42 (fun hc=>?_) fun hc=>?_
   ·
    have h2:nn<0:=by simpa using hc
    iterate 3 refine cy ?_
    iterate 2 refine cz ?_
    refine bE ?_;refine gE (ab.bX rfl (gS (gR ?_)));refine ai ?_;refine gE ?_
    refine gT func108 fun w' hS=>?_
    exact ⟨hS.ext,by rw [←hx,hbad (by unfold jk;simp;omega)];rfl⟩
   have h2:¬nn<0:=by simpa using hc
   iterate 2 refine ah ?_
   refine aw oN ?_;refine bE ?_;refine cz ?_;refine bE ?_;refine gE ?_
   refine gC (fun hc=>?_) fun hc=>?_
   ·
    have h3:nn≥i:=by simpa using hc
    refine gS (gR ?_);refine ai ?_;refine gE ?_
    refine gT func108 fun w' hS=>?_
    exact ⟨hS.ext,by rw [←hx,hbad (by unfold jk;simp;omega)];rfl⟩
   have h3:¬nn≥i:=by simpa using hc
   refine gK (dQ (gR ?_));refine df rfl rfl rfl rfl (cD (by omega)) ?_;refine ah ?_;refine gE ?_
   exact IH (k+1) _ _ ⟨hk2,hstep (by unfold jk;simp;omega)⟩ (by omega) ⟨rfl,rfl,rfl,rfl,trivial⟩ (List.Sublist.refl _)
  have hge:¬k<2:=by simp at hc;omega
  have hno:(jk (ed x.r) 0 x.a i||jk (ed x.r) 1 x.b i)=false:=by
    rw [Bool.or_eq_false_iff]
    exact ⟨hall 0 (by omega),hall 1 (by omega)⟩
  refine ab.exit rfl (gS (gS (gR ?_)))
  refine al Jw I9 1 ?_;refine aq Ja 0 ?_;refine aw gO ?_;refine gE ?_
  refine gC (fun hc=>?_) fun hc=>?_
  ·
   have hr:x.r≠11:=by simpa using hc
   refine gS (gS (gR ?_));refine al Jw I9 4 ?_;refine aq Ja 0 ?_;refine aw gO ?_;refine gE ?_
   refine gC (fun hc=>?_) fun hc=>?_
   ·
    have hg:x.g≠0:=by simpa using hc
    refine gS (gR ?_);refine ai ?_;refine gE ?_
    refine gT func108 fun w' hS=>?_
    exact ⟨hS.ext,by rw [←hx,iM,if_neg (by rw [hno];simp),if_pos hr,if_pos hg];rfl⟩
   have hg:x.g=0:=by simpa using hc
   refine gK (gS (gR ?_));refine ai ?_;refine gE ?_
   refine gT func108 fun w' hS=>?_
   exact ⟨hS.ext,by rw [←hx,iM,if_neg (by rw [hno];simp),if_pos hr,if_neg (by simp [hg])];rfl⟩
  have hr:x.r=11:=by simpa using hc
  refine gK (gS (gS (gR ?_)));refine al Jw I9 4 ?_;refine aq Ja 0 ?_;refine aw jl ?_;refine ah ?_
  refine eD 59 (fun hc=>?_) fun hc=>?_
  ·
   have hg:x.g<0:=by simpa using hc
   iterate 3 refine cy ?_
   refine cz ?_;refine gE (ab.bX rfl (gS (gR ?_)));refine ai ?_;refine gE ?_
   refine gT func108 fun w' hS=>?_
   exact ⟨hS.ext,by rw [←hx,iM,if_neg (by rw [hno];simp),if_neg (by simp [hr]),if_pos (.inl hg)];rfl⟩
  have hg:¬x.g<0:=by simpa using hc
  refine al Jw I9 4 ?_;refine aq Ja 0 ?_;refine aw oN ?_;refine bE ?_;refine gE ?_
  refine gC (fun hc=>?_) fun hc=>?_
  ·
   have hg4:x.g≥4:=by simpa using hc
   refine gS (gR ?_);refine ai ?_;refine gE ?_
   refine gT func108 fun w' hS=>?_
   exact ⟨hS.ext,by rw [←hx,iM,if_neg (by rw [hno];simp),if_neg (by simp [hr]),if_pos (.inr hg4)];rfl⟩
  have hg4:¬x.g≥4:=by simpa using hc
  refine gK (gS (gR ?_));refine ai ?_;refine gE ?_
  refine gT func108 fun w' hS=>?_
  exact ⟨hS.ext,by rw [←hx,iM,if_neg (by rw [hno];simp),if_neg (by simp [hr]),if_neg (by omega)];rfl⟩
end Go.Proofs.YtnfmegcknckahaaGreatDoor
namespace Go.Proofs.YtnfmegcknckahaaGreatDoor
open Go.RowKit Go.Proofs.Wit Tryz
/-- what is known of a line whose numbers are right -/
structure Eg (ls:List LV) (i:Nat) (x:LV):Prop where
  iY:aV x.f.f=0
  r1:1≤x.r
  H0:x.r≤12
  Hi:10≤x.r→0≤x.a∧x.a<i
  Iq:x.r=10→0≤x.b∧x.b<i
  ag:x.r=11→0≤x.g∧x.g<4
  Gk:∀(j:Nat) (hj:j<ls.length),j<i→aV ls[j].f.f=0
  il:i<ls.length
set_option maxRecDepth 8000 in
theorem wR (bp:Nat) (l:Int) (A:Option Addr) (cA:Nat) (ls:List LV) (i:Nat) (x:LV) (w:World) (hb:w.heap[bp]?=some (.cells (km l A ls.length cA) 95 (0,0))) (hA:LA w A ls) (hT:EE w) (hx:Eg ls i x) (hf:FA w x.f.a x.f.f) (hfl:x.f.f.length≤maxLen):
    Cn Tryz.prog 110 [.pointer (some ⟨bp,0,none⟩),.agg (LV.cells x).toArray] w (fun v _=>∃b,v=.bool b∧(b=true↔jR ls x)):=by
  have HB:∀{w':World} {j:Nat} {u:Value},Ex [] w w'→(km l A ls.length cA)[j]?=some u→w'.cell? ⟨bp,j,none⟩=some u:=fun e h=>Ex.cell e hb h
  obtain ⟨t,ht⟩:∃t,t=aO x.f.f:=⟨_,rfl⟩
  have hto:t.ok:=by rw [ht];exact (aA.1 hx.iY).top
  have hcc:Cf (aj x.f.f) t:=by
    rw [dt hx.iY,←ht]
    exact Cf.of hto (by have:=yF hx.iY;rw [←ht] at this;exact this)
  have hxl:=hx.il
  refine Cn.of func110 rfl rfl ?_
  refine gS (gR ?_)
  refine ab.bx rfl rfl rfl rfl (fun b3=>?_)
  refine ai ?_;refine gE (gS (gR ?_));refine al Jw Jj 0 ?_;refine aq Jn 0 ?_
  refine gM rfl rfl rfl rfl rfl call55 (fun w _ hS=>(by exact dZ x.f.a x.f.c x.f.f w (hf.ay hS.ext) hfl)) ?_
  rintro v w1 w2 Y' hS he ho
  rw [fN] at ho
  obtain ⟨qc,cc,spc,rfl,hqc,hcapc,hS'⟩:=ak hS he ho
  refine ⟨_,hS',?_⟩
  refine ai ?_;refine gE (gS (gS (gR ?_)));refine al Jw I9 1 ?_;refine aq Ja 1 ?_;refine gE (gB (gS (gR ?_)));refine aw bh ?_;refine ai ?_;refine gE ?_
  refine gC (fun hc=>?_) fun hc=>?_
  ·
   have hr:x.r=10:=by simpa using hc
   obtain ⟨ha0,hai⟩:=hx.Hi (by omega)
   obtain ⟨hb0,hbi⟩:=hx.Iq hr
   obtain ⟨ja,hja⟩:∃j:Nat,x.a=(j:Int):=⟨x.a.toNat,by omega⟩
   obtain ⟨jb,hjb⟩:∃j:Nat,x.b=(j:Int):=⟨x.b.toNat,by omega⟩
   have hjal:ja<ls.length:=by omega
   have hjbl:jb<ls.length:=by omega
   obtain ⟨hfa,hla⟩:=hA.fs ls[ja] (List.getElem_mem hjal)
   obtain ⟨hfb,hlb⟩:=hA.fs ls[jb] (List.getElem_mem hjbl)
   have hca:=hx.Gk ja hjal (by omega)
   have hcb:=hx.Gk jb hjbl (by omega)
   have hao:(aO ls[ja].f.f).ok:=(aA.1 hca).top
   have hfol:jR ls x↔aO ls[jb].f.f=aR (aO ls[ja].f.f) t:=by rw [jR,if_pos hr,mT hjal hja,mT hjbl hjb,←ht]
   refine gS ?_
   refine ab.dK 23 mixed ?_
   refine cV 0 (ae.mv rfl rfl rfl rfl) ?_
   refine cV 1 (ae.eg rfl rfl rfl rfl) ?_
   refine cV 2 (ae.aH rfl rfl rfl rfl J5 rfl (by exact J0) 1 rfl) ?_
   refine cV 3 (ae.ld (p:=⟨bp,1,none⟩) rfl rfl rfl rfl isAgg31 (fun w _ hS=>HB hS.ext rfl)) ?_
   refine cV 4 (ae.aH rfl rfl rfl rfl Jw rfl (by exact I9) 3 rfl) ?_
   refine cV 5 (ae.dw rfl rfl rfl rfl Ja 1 rfl rfl) ?_
   refine cV 6 (ae.ez rfl rfl rfl rfl rfl JD JQ ⟨_,(hA).at_⟩ (aD (enc:=LV.cells) (sz:=5) (fun _=>rfl)) (by decide) (jb) ⟨hjb,hjbl⟩) ?_
   refine cV 7 (ae.fQ rfl rfl rfl rfl Jw rfl Jj ((jb)*5+0) rfl) ?_
   refine cV 8 (ae.ld rfl rfl rfl rfl Jn (fun w _ hS=>Sl.kO (enc:=LV.cells) (sz:=5) ((hA).ay hS.ext).at_ (fun _=>rfl) hjbl rfl)) ?_
   refine cV 9 (ae.mv rfl rfl rfl rfl) ?_
   refine cV 10 (ae.eg rfl rfl rfl rfl) ?_
   refine cV 11 (ae.aH rfl rfl rfl rfl J5 rfl (by exact J0) 1 rfl) ?_
   refine cV 12 (ae.ld (p:=⟨bp,1,none⟩) rfl rfl rfl rfl isAgg31 (fun w _ hS=>HB hS.ext rfl)) ?_
   refine cV 13 (ae.aH rfl rfl rfl rfl Jw rfl (by exact I9) 2 rfl) ?_
   refine cV 14 (ae.dw rfl rfl rfl rfl Ja 1 rfl rfl) ?_
   refine cV 15 (ae.ez rfl rfl rfl rfl rfl JD JQ ⟨_,(hA).at_⟩ (aD (enc:=LV.cells) (sz:=5) (fun _=>rfl)) (by decide) (ja) ⟨hja,hjal⟩) ?_
   refine cV 16 (ae.fQ rfl rfl rfl rfl Jw rfl Jj ((ja)*5+0) rfl) ?_
   refine cV 17 (ae.ld rfl rfl rfl rfl Jn (fun w _ hS=>Sl.kO (enc:=LV.cells) (sz:=5) ((hA).ay hS.ext).at_ (fun _=>rfl) hjal rfl)) ?_
   refine cV 18 (ae.mv rfl rfl rfl rfl) ?_
   refine aG.call (i:=19) _ rfl rfl rfl rfl rfl rfl (fun _ _=>JC _ _) (fun w _ hS=>(by exact yL ls[ja].f.a ls[ja].f.c ls[ja].f.f (qc.map (fun b=>⟨b,0,none⟩)) cc (aj x.f.f) w (hfa.ay hS.ext) hla (aL hS 0 rfl (fun e=>(hqc e).1)) (aC hcc.eq))) ?_
   rintro v w1 w2 Y' hS he ho
   rw [show aQ ⟨7,0,0,0,0,0⟩ [ls[ja].f.f,aj x.f.f]=bT (aR (aO ls[ja].f.f) t) from by have:=BI (n:=⟨7,0,0,0,0,0⟩) hca hcc.iY (by decide) rfl rfl;rw [hcc.top] at this;exact this] at ho
   obtain ⟨q,cq,spq,rfl,hq,hcq,hS'⟩:=ak hS he ho
   refine ⟨_,hS',sM,?_⟩
   refine aG.cC (i:=20) rfl rfl rfl rfl rfl rfl (fun _ _=>call26 _ _) (fun w _ hS=>(by exact dM ls[jb].f.a ls[jb].f.c ls[jb].f.f (q.map (fun b=>⟨b,0,none⟩)) cq _ w (hfb.ay hS.ext) (aL hS 0 rfl (fun e=>(hq e).1)) hlb (aC rfl))) sL ?_
   refine cV 21 (ae.fh rfl rfl rfl rfl) ?_
   refine aG.done rfl ?_
   refine gE ?_
   refine gT func110 fun w' hS=>?_
   exact ⟨hS.ext,_,rfl,by rw [pv hcb (dB hao hto),decide_eq_true_eq,hfol]⟩
  have hr:¬x.r=10:=by simpa using hc
  refine gS (gR ?_);refine aw bh ?_;refine ai ?_;refine gE ?_
  refine gC (fun hc=>?_) fun hc=>?_
  ·
   have hr2:x.r=11:=by simpa using hc
   obtain ⟨ha0,hai⟩:=hx.Hi (by omega)
   have hag:=hx.ag hr2
   obtain ⟨ja,hja⟩:∃j:Nat,x.a=(j:Int):=⟨x.a.toNat,by omega⟩
   have hjal:ja<ls.length:=by omega
   obtain ⟨hfa,hla⟩:=hA.fs ls[ja] (List.getElem_mem hjal)
   have hca:=hx.Gk ja hjal (by omega)
   have hao:(aO ls[ja].f.f).ok:=(aA.1 hca).top
   have hfol:jR ls x↔t=ar x.g (aO ls[ja].f.f):=by rw [jR,if_neg hr,if_pos hr2,mT hjal hja,←ht]
   refine gS ?_
   refine ab.dK 16 mixed ?_
   refine cV 0 (ae.mv rfl rfl rfl rfl) ?_
   refine cV 1 (ae.aH rfl rfl rfl rfl Jw rfl (by exact I9) 4 rfl) ?_
   refine cV 2 (ae.dw rfl rfl rfl rfl Ja 1 rfl rfl) ?_
   refine cV 3 (ae.mv rfl rfl rfl rfl) ?_
   refine cV 4 (ae.eg rfl rfl rfl rfl) ?_
   refine cV 5 (ae.aH rfl rfl rfl rfl J5 rfl (by exact J0) 1 rfl) ?_
   refine cV 6 (ae.ld (p:=⟨bp,1,none⟩) rfl rfl rfl rfl isAgg31 (fun w _ hS=>HB hS.ext rfl)) ?_
   refine cV 7 (ae.aH rfl rfl rfl rfl Jw rfl (by exact I9) 2 rfl) ?_
   refine cV 8 (ae.dw rfl rfl rfl rfl Ja 1 rfl rfl) ?_
   refine cV 9 (ae.ez rfl rfl rfl rfl rfl JD JQ ⟨_,(hA).at_⟩ (aD (enc:=LV.cells) (sz:=5) (fun _=>rfl)) (by decide) (ja) ⟨hja,hjal⟩) ?_
   refine cV 10 (ae.fQ rfl rfl rfl rfl Jw rfl Jj ((ja)*5+0) rfl) ?_
   refine cV 11 (ae.ld rfl rfl rfl rfl Jn (fun w _ hS=>Sl.kO (enc:=LV.cells) (sz:=5) ((hA).ay hS.ext).at_ (fun _=>rfl) hjal rfl)) ?_
   refine aG.call (i:=12) _ rfl rfl rfl rfl rfl rfl (fun _ _=>JA _ _) (fun w _ hS=>(by exact rP x.g ls[ja].f.a ls[ja].f.c ls[ja].f.f w (hfa.ay hS.ext) hla)) ?_
   rintro v w1 w2 Y' hS he ho
   rw [show aQ ⟨9,x.g,0,0,0,0⟩ [ls[ja].f.f]=bT (ar x.g (aO ls[ja].f.f)) from D0 (n:=⟨9,x.g,0,0,0,0⟩) hca (show 1≤(9:Int)∧(9:Int)≤21 by decide) rfl rfl (rW hag) rfl] at ho
   obtain ⟨q,cq,spq,rfl,hq,hcq,hS'⟩:=ak hS he ho
   refine ⟨_,hS',sM,?_⟩
   refine aG.cC (i:=13) rfl rfl rfl rfl rfl rfl (fun _ _=>call26 _ _) (fun w _ hS=>(by exact dM (qc.map (fun b=>⟨b,0,none⟩)) cc (aj x.f.f) (q.map (fun b=>⟨b,0,none⟩)) cq _ w (aL hS 1 rfl (fun e=>(hqc e).1)) (aL hS 0 rfl (fun e=>(hq e).1)) (aC hcc.eq) (aC rfl))) sL ?_
   refine cV 14 (ae.fh rfl rfl rfl rfl) ?_
   refine aG.done rfl ?_
   refine gE ?_
   refine gT func110 fun w' hS=>?_
   exact ⟨hS.ext,_,rfl,by rw [dn hcc (bt hag hao),decide_eq_true_eq,hfol]⟩
  have hr2:¬x.r=11:=by simpa using hc
  refine gS (gR ?_);refine aw bh ?_;refine ai ?_;refine gE ?_
  refine gC (fun hc=>?_) fun hc=>?_
  ·
   have hr3:x.r=12:=by simpa using hc
   obtain ⟨ha0,hai⟩:=hx.Hi (by omega)
   obtain ⟨ja,hja⟩:∃j:Nat,x.a=(j:Int):=⟨x.a.toNat,by omega⟩
   have hjal:ja<ls.length:=by omega
   obtain ⟨hfa,hla⟩:=hA.fs ls[ja] (List.getElem_mem hjal)
   have hca:=hx.Gk ja hjal (by omega)
   have hfol:jR ls x↔Cx (aO ls[ja].f.f) t:=by rw [jR,if_neg hr,if_neg hr2,if_pos hr3,mT hjal hja,←ht]
   refine gS ?_
   refine ab.dK 13 mixed ?_
   refine cV 0 (ae.mv rfl rfl rfl rfl) ?_
   refine cV 1 (ae.mv rfl rfl rfl rfl) ?_
   refine cV 2 (ae.eg rfl rfl rfl rfl) ?_
   refine cV 3 (ae.aH rfl rfl rfl rfl J5 rfl (by exact J0) 1 rfl) ?_
   refine cV 4 (ae.ld (p:=⟨bp,1,none⟩) rfl rfl rfl rfl isAgg31 (fun w _ hS=>HB hS.ext rfl)) ?_
   refine cV 5 (ae.aH rfl rfl rfl rfl Jw rfl (by exact I9) 2 rfl) ?_
   refine cV 6 (ae.dw rfl rfl rfl rfl Ja 1 rfl rfl) ?_
   refine cV 7 (ae.ez rfl rfl rfl rfl rfl JD JQ ⟨_,(hA).at_⟩ (aD (enc:=LV.cells) (sz:=5) (fun _=>rfl)) (by decide) (ja) ⟨hja,hjal⟩) ?_
   refine cV 8 (ae.fQ rfl rfl rfl rfl Jw rfl Jj ((ja)*5+0) rfl) ?_
   refine cV 9 (ae.ld rfl rfl rfl rfl Jn (fun w _ hS=>Sl.kO (enc:=LV.cells) (sz:=5) ((hA).ay hS.ext).at_ (fun _=>rfl) hjal rfl)) ?_
   refine aG.call (i:=10) _ rfl rfl rfl rfl rfl rfl (fun _ _=>call157 _ _) (fun w _ hS=>(by exact wO (qc.map (fun b=>⟨b,0,none⟩)) cc (aj x.f.f) t ls[ja].f.a ls[ja].f.c ls[ja].f.f w (aL hS 0 rfl (fun e=>(hqc e).1)) hcc (hfa.ay hS.ext) hca hla)) ?_
   rintro v w1 w2 Y' hS he ⟨b,rfl,hb⟩
   refine ⟨_,hS.later he,sM,?_⟩
   refine cV 11 (ae.fh rfl rfl rfl rfl) ?_
   refine aG.done rfl ?_
   refine gE ?_
   refine gT func110 fun w' hS=>?_
   exact ⟨hS.ext,_,rfl,by rw [hb,hfol]⟩
  have hr3:¬x.r=12:=by simpa using hc
  have h9:x.r≤9:=by have:=hx.H0;omega
  have h1:=hx.r1
  have hfol:jR ls x↔oD x.r t:=by rw [jR,if_neg hr,if_neg hr2,if_neg hr3,←ht]
  refine gK (dQ (gS (gR ?_)));refine al Jw I9 1 ?_;refine aq Ja 1 ?_
  refine ab.v (ae.wP rfl rfl rfl rfl rfl underlying163 sizeOf35 x.r.toNat (by omega) (by omega)) ?_
  refine ab.v (ae.ld rfl rfl rfl rfl isAgg35 (fun w _ hS=>(by rw [Nat.zero_add,(hT.ex hS.ext).cell _ (by omega) (by omega),Int.toNat_of_nonneg (by omega)]))) ?_
  refine ah ?_
  refine ab.ni (gf:=lA x.r) (fun _ v _=>∃b,v=.bool b∧(b=true↔oD x.r t)) rfl rfl rfl rfl rfl (BP h1 h9) (fun w _ hS=>zB x.r (qc.map (fun b=>⟨b,0,none⟩)) cc (aj x.f.f) t w h1 h9 (aL hS 0 rfl (fun e=>(hqc e).1)) hcc) ?_
  rintro v w1 w2 Y' hS he ⟨b,rfl,hb⟩
  refine ⟨_,hS.later he,?_⟩
  refine ai ?_;refine gE ?_
  refine gT func110 fun w' hS=>?_
  exact ⟨hS.ext,_,rfl,by rw [hb,hfol]⟩
end Go.Proofs.YtnfmegcknckahaaGreatDoor
namespace Go.Proofs.YtnfmegcknckahaaGreatDoor
open Go.RowKit Go.Proofs.Wit Tryz
theorem rh {f:List NV} (h:fE f=0):aV f=0:=by
 unfold fE at h
 by_cases h1:aV f=0
 ·exact h1
 rw [if_pos h1] at h;exact h
theorem A5 {ls:List LV} {i:Nat} (hi:i<ls.length) (hbef:∀(j:Nat) (hj:j<ls.length),j<i→aV ls[j].f.f=0) (h1:fE ls[i].f.f=0) (h2:¬(ls[i].r<1∨12<ls[i].r)) (h3:iM i ls[i]=0):Eg ls i ls[i]:=by
 obtain ⟨ka,kb,_,kg⟩:=qQ h3
 refine ⟨rh h1,by omega,by omega,fun h=>?_,fun h=>?_,kg,hbef,hi⟩
 ·refine jH ka ?_
  unfold ed
  by_cases e:ls[i].r=10
  ·rw [if_pos e];decide
  rw [if_neg e,if_pos (by omega)];decide
 refine jH kb ?_
 rw [ed,if_pos h];decide
set_option maxRecDepth 8000 in
theorem Dk (bp:Nat) (l:Int) (A:Option Addr) (cA:Nat) (ls:List LV) (i:Nat) (w:World) (hb:w.heap[bp]?=some (.cells (km l A ls.length cA) 95 (0,0))) (hA:LA w A ls) (hT:EE w) (hl:0≤l∧l≤6) (hi:i<ls.length) (hbef:∀(j:Nat) (hj:j<ls.length),j<i→aV ls[j].f.f=0):
    Cn Tryz.prog 60 [.pointer (some ⟨bp,0,none⟩),.int .i64 i] w (fun v _=>v=.int .i64 (dJ l ls i ls[i])):=by
  have HB:∀{w':World} {j:Nat} {u:Value},Ex [] w w'→(km l A ls.length cA)[j]?=some u→w'.cell? ⟨bp,j,none⟩=some u:=fun e h=>Ex.cell e hb h
  obtain ⟨x,hx⟩:∃x,x=ls[i]:=⟨_,rfl⟩
  obtain ⟨hfa,hla⟩:=hA.fs ls[i] (List.getElem_mem hi)
  rw [←hx] at hfa hla
  refine Cn.of func60 rfl rfl ?_
  refine gS (gR ?_);refine ai ?_;refine gE (gS (gR ?_));refine ah ?_;refine kk ?_;refine al J5 J0 1 ?_
  refine ab.v (ae.ld (p:=⟨bp,1,none⟩) rfl rfl rfl rfl isAgg31 (fun w _ hS=>HB hS.ext rfl)) ?_
  refine ah ?_
  refine ab.v (ae.ez rfl rfl rfl rfl rfl JD JQ ⟨_,(hA).at_⟩ (aD (enc:=LV.cells) (sz:=5) (fun _=>rfl)) (by decide) (i) ⟨rfl,hi⟩) ?_
  refine ab.v (ae.nR (cs:=LV.cells x) rfl rfl rfl rfl isAgg48 JQ (fun w _ hS=>by rw [hx];exact Sl.many (enc:=LV.cells) (sz:=5) (hA.ay hS.ext).at_ (fun _=>rfl) hi)) ?_
  refine ab.eN rfl rfl rfl (fun _=>zeroValue48 _) (fun b5=>?_)
  refine ab.dG rfl rfl rfl rfl JQ 0 rfl rfl rfl rfl ?_
  refine gE (gS (gS (gR ?_)));refine al Jw Jj 0 ?_;refine aq Jn 0 ?_
  refine gP rfl rfl rfl rfl rfl call107 (fun w _ hS=>(by exact yT x.f.a x.f.c x.f.f w (hfa.ay hS.ext) hla)) ?_
  refine ai ?_;refine gE (gS (gR ?_));refine ah ?_;refine aw gO ?_;refine gE ?_
  refine gC (fun hc=>?_) fun hc=>?_
  ·
   have h1:fE x.f.f≠0:=by simpa using hc
   refine gS (gR ?_);refine ah ?_;refine ai ?_;refine gE ?_
   refine gT func60 fun w' hS=>?_
   exact ⟨hS.ext,by rw [←hx,dJ,if_pos h1];rfl⟩
  have h1:fE x.f.f=0:=by simpa using hc
  refine gK (gS (gS (gR ?_)));refine al Jw I9 1 ?_;refine aq Ja 0 ?_;refine aw jl ?_;refine ah ?_
  refine eD 24 (fun hc=>?_) fun hc=>?_
  ·
   have h2:x.r<1:=by simpa using hc
   iterate 3 refine cy ?_
   refine cz ?_;refine gE (ab.bX rfl (gS (gR ?_)));refine ai ?_;refine gE ?_
   refine gT func60 fun w' hS=>?_
   exact ⟨hS.ext,by rw [←hx,dJ,if_neg (by simp [h1]),if_pos (.inl h2)];rfl⟩
  have h2:¬x.r<1:=by simpa using hc
  refine al Jw I9 1 ?_;refine aq Ja 0 ?_;refine aw w6 ?_;refine bE ?_;refine gE ?_
  refine gC (fun hc=>?_) fun hc=>?_
  ·
   have h3:12<x.r:=by simpa using hc
   refine gS (gR ?_);refine ai ?_;refine gE ?_
   refine gT func60 fun w' hS=>?_
   exact ⟨hS.ext,by rw [←hx,dJ,if_neg (by simp [h1]),if_pos (.inr h3)];rfl⟩
  have h3:¬12<x.r:=by simpa using hc
  have h23:¬(x.r<1∨12<x.r):=by omega
  refine gK (gS (gS (gR ?_)))
  iterate 2 refine ah ?_
  refine gP rfl rfl rfl rfl rfl call108 (fun w _ hS=>(by have:=wA bp l A cA ls i w (hS.ext.gG hb) (hA.ay hS.ext) hi;rw [←hx] at this;exact this)) ?_
  refine ai ?_;refine gE (gS (gR ?_));refine ah ?_;refine aw gO ?_;refine gE ?_
  refine gC (fun hc=>?_) fun hc=>?_
  ·
   have h4:iM i x≠0:=by simpa using hc
   refine gS (gR ?_);refine ah ?_;refine ai ?_;refine gE ?_
   refine gT func60 fun w' hS=>?_
   exact ⟨hS.ext,by rw [←hx,dJ,if_neg (by simp [h1]),if_neg h23,if_pos h4];rfl⟩
  have h4:iM i x=0:=by simpa using hc
  have hok:Eg ls i x:=by rw [hx] at h1 h23 h4⊢;exact A5 hi hbef h1 h23 h4
  refine gK (gS (gS ?_))
  refine ab.dK 9 mixed ?_
  refine cV 0 (ae.mv rfl rfl rfl rfl) ?_
  refine cV 1 (ae.eg rfl rfl rfl rfl) ?_
  refine cV 2 (ae.aH rfl rfl rfl rfl J5 rfl (by exact I9) 0 rfl) ?_
  refine cV 3 (ae.ld (p:=⟨bp,0,none⟩) rfl rfl rfl rfl Ja (fun w _ hS=>HB hS.ext rfl)) ?_
  refine cV 4 (ae.aH rfl rfl rfl rfl Jw rfl (by exact I9) 1 rfl) ?_
  refine cV 5 (ae.dw rfl rfl rfl rfl Ja 0 rfl rfl) ?_
  refine aG.cC (i:=6) rfl rfl rfl rfl rfl rfl (fun _ _=>call109 _ _) (fun w _ hS=>(by exact DG l x.r w hl)) sL ?_
  refine cV 7 (ae.un rfl rfl rfl bG rfl) ?_
  refine aG.done rfl ?_
  refine gE ?_
  refine gC (fun hc=>?_) fun hc=>?_
  ·
   have h5:cg l x.r=false:=by simpa using hc
   refine gS (gR ?_);refine ai ?_;refine gE ?_
   refine gT func60 fun w' hS=>?_
   exact ⟨hS.ext,by rw [←hx,dJ,if_neg (by simp [h1]),if_neg h23,if_neg (by simp [h4]),if_pos h5];rfl⟩
  have h5:cg l x.r=true:=by simpa using hc
  refine gK (gS (gS (gR ?_)));refine ah ?_
  refine ab.v (ae.iR rfl rfl rfl rfl isAgg48 0 rfl JQ rfl) ?_
  refine gM rfl rfl rfl rfl rfl call110 (fun w _ hS=>(by exact wR bp l A cA ls i x w (hS.ext.gG hb) (hA.ay hS.ext) (hT.ex hS.ext) hok (hfa.ay hS.ext) hla)) ?_
  rintro v w1 w2 Y' hS he ⟨b,rfl,hb2⟩
  refine ⟨_,hS.later he,?_⟩
  refine fe bG ?_;refine gE ?_
  refine gC (fun hc=>?_) fun hc=>?_
  ·
   have hbf:b=false:=by simpa using hc
   have h6:¬jR ls x:=fun h=>by rw [hb2.2 h] at hbf;cases hbf
   refine gS (gR ?_);refine ai ?_;refine gE ?_
   refine gT func60 fun w' hS=>?_
   exact ⟨hS.ext,by rw [←hx,dJ,if_neg (by simp [h1]),if_neg h23,if_neg (by simp [h4]),if_neg (by simp [h5]),if_neg h6];rfl⟩
  have hbt:b=true:=by simpa using hc
  refine gK (gS (gR ?_));refine ai ?_;refine gE ?_
  refine gT func60 fun w' hS=>?_
  exact ⟨hS.ext,by rw [←hx,dJ,if_neg (by simp [h1]),if_neg h23,if_neg (by simp [h4]),if_neg (by simp [h5]),if_pos (hb2.1 hbt)];rfl⟩
theorem ot {l:Int} {ls:List LV} {k:Nat} (h:cU l ls k=0) (hk:k<ls.length):cU l ls (k+1)=dJ l ls k ls[k]:=by
 show (if cU l ls k≠0 then cU l ls k else match ls[k]? with|some x=>dJ l ls k x|none=>0)=_
 rw [if_neg (by simp [h]),List.getElem?_eq_getElem hk]
theorem l8 {l:Int} {ls:List LV} {k:Nat} (h:cU l ls k≠0):∀d,cU l ls (k+d)=cU l ls k
 |0=>rfl
 |d+1=>by
  have ih:=l8 h d
  show (if cU l ls (k+d)≠0 then cU l ls (k+d) else _)=_
  rw [if_pos (by rw [ih];exact h),ih]
theorem uD {l:Int} {ls:List LV} {k:Nat} {x:LV} (h:dJ l ls k x=0):fE x.f.f=0:=by
 unfold dJ at h
 by_cases h1:fE x.f.f=0
 ·exact h1
 rw [if_pos h1] at h;exact h
theorem pM {l:Int} {ls:List LV}:∀{k:Nat},cU l ls k=0→k≤ls.length→∀(j:Nat) (hj:j<ls.length),j<k→dJ l ls j ls[j]=0
 |0,_,_,j,_,h=>absurd h (Nat.not_lt_zero _)
 |k+1,h,hk,j,hj,hjk=>by
  have h0:cU l ls k=0:=Classical.byContradiction (fun hne=>hne (by have:=l8 hne 1;rw [h] at this;exact this.symm))
  by_cases e:j=k
  ·subst e;rw [←ot h0 hj];exact h
  exact pM h0 (by omega) j hj (by omega)
set_option maxRecDepth 8000 in
theorem mW (l:Int) (A:Option Addr) (cA:Nat) (ls:List LV) (w:World) (hA:LA w A ls) (hT:EE w):
    Cn Tryz.prog 25 [.int .i64 l,.slice A ls.length cA] w (fun v _=>v=.int .i64 (fB l ls)):=by
  refine Cn.of func25 rfl rfl ?_
  refine gS (gR ?_);refine ai ?_;refine gE (gS (gB (gS (gR ?_))));refine ah ?_
  refine gP rfl rfl rfl rfl rfl call59 (fun w _ hS=>(by exact Al l w)) ?_
  refine fe bG ?_;refine ai ?_;refine gE ?_
  refine gC (fun hc=>?_) fun hc=>?_
  ·
   have h1:¬(0≤l∧l≤6):=by simp at hc;omega
   refine gS (gR ?_);refine ai ?_;refine gE ?_
   refine gT func25 fun w' hS=>?_
   exact ⟨hS.ext,by rw [fB,if_pos h1];rfl⟩
  have h1:0≤l∧l≤6:=by simp at hc;omega
  refine gS (gR ?_);refine ah ?_;refine dY JD ?_;refine aw bh ?_;refine ai ?_;refine gE ?_
  refine gC (fun hc=>?_) fun hc=>?_
  ·
   have h2:ls.length=0:=by simpa using hc
   refine gS (gR ?_);refine ai ?_;refine gE ?_
   refine gT func25 fun w' hS=>?_
   exact ⟨hS.ext,by rw [fB,if_neg (by omega),if_pos h2];rfl⟩
  have h2:¬ls.length=0:=by simpa using hc
  refine gS (gR ?_);refine ah ?_;refine dY JD ?_;refine aw w6 ?_;refine ai ?_;refine gE ?_
  refine gC (fun hc=>?_) fun hc=>?_
  ·
   have h3:400<ls.length:=by simp at hc;omega
   refine gS (gR ?_);refine ai ?_;refine gE ?_
   refine gT func25 fun w' hS=>?_
   exact ⟨hS.ext,by rw [fB,if_neg (by omega),if_neg h2,if_pos h3];rfl⟩
  have h3:¬400<ls.length:=by simp at hc;omega
  have hE:fB l ls=cU l ls ls.length:=by rw [fB,if_neg (by omega),if_neg h2,if_neg h3]
  refine gK (dQ (gS (gR ?_)))
  iterate 2 refine ah ?_
  refine ab.v (ae.eM rfl rfl rfl rfl (bd95 (c:=[_,_]) rfl)) ?_
  refine ab.bx rfl rfl rfl rfl (fun b23=>?_)
  refine ai ?_;refine gE (gS (gS (gR ?_)));refine ah ?_;refine dY JD ?_;refine ah ?_;refine gE (gB ?_)
  refine ab.loop (σ:=Nat) (fun k=>[(5,.pointer (some ⟨b23,0,none⟩)),(25,.int .i64 ls.length),(26,.int .i64 k)]) (fun _=>[(some b23,.cells (km l A ls.length cA) 95 (0,0))])
    (fun k=>k≤ls.length∧cU l ls k=0) (fun k=>ls.length - k) 0 ⟨Nat.zero_le _,rfl⟩ ⟨rfl,rfl,rfl,trivial⟩ (List.Sublist.refl _) (fun k hI IH=>?_)
  obtain ⟨hk,h0⟩:=hI
  refine gS (gR ?_);refine aw jl ?_;refine gE (gS ?_)
  refine gC (fun hc=>?_) fun hc=>?_
  ·
   have hlt:k<ls.length:=by simpa using hc
   have hs:=ot h0 hlt
   refine gK (gS (gB (gS (gR ?_))));refine ah ?_;refine ai ?_;refine gE (gS (gR ?_))
   iterate 2 refine ah ?_
   refine gP rfl rfl rfl rfl rfl call60 (fun w _ hS=>(by exact Dk b23 l A cA ls k w (hS.get (j:=0) rfl) (hA.ay hS.ext) (hT.ex hS.ext) h1 hlt (fun j hj hjk=>rh (uD (pM h0 hk j hj hjk))))) ?_
   refine ai ?_;refine gE (gS (gR ?_));refine ah ?_;refine aw gO ?_;refine gE ?_
   refine gC (fun hc=>?_) fun hc=>?_
   ·
    have h4:dJ l ls k ls[k]≠0:=by simpa using hc
    refine gS (gR ?_);refine ah ?_;refine ai ?_;refine gE ?_
    refine gT func25 fun w' hS=>?_
    exact ⟨hS.ext,by rw [hE];have:=l8 (l:=l) (ls:=ls) (k:=k+1) (by rw [hs];exact h4) (ls.length - (k+1));rw [show k+1+(ls.length - (k+1))=ls.length by omega,hs] at this;rw [this];rfl⟩
   have h4:dJ l ls k ls[k]=0:=by simpa using hc
   refine gK (dQ (gR ?_));refine df rfl rfl rfl rfl (cD (by omega)) ?_;refine ah ?_;refine gE ?_
   exact IH (k+1) _ _ ⟨hlt,by rw [hs];exact h4⟩ (by omega) ⟨rfl,rfl,rfl,trivial⟩ (List.Sublist.refl _)
  have hge:¬k<ls.length:=by simpa using hc
  obtain rfl:k=ls.length:=by omega
  refine ab.exit rfl (gS (gR ?_))
  refine ai ?_;refine gE ?_
  refine gT func25 fun w' hS=>?_
  exact ⟨hS.ext,by rw [hE,h0];rfl⟩
end Go.Proofs.YtnfmegcknckahaaGreatDoor
