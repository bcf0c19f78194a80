/- What calls of the program return, under the conditions that each theorem states. -/
import Derived.Test.YtnfmegcknckahaaGreatDoorXA22
import Derived.Test.YtnfmegcknckahaaGreatDoorXA23
import Derived.Test.YtnfmegcknckahaaGreatDoorXA03
import Derived.Test.YtnfmegcknckahaaGreatDoorXA04
namespace Go.Proofs.YtnfmegcknckahaaGreatDoor
open Go.RowKit Go.Proofs.Wit Tryz
def kz (l:Int) (A:Option Addr) (n cA:Nat):Array Value:=#[.int .i64 l,.slice A n cA]
def two (a b:Int):Array Value:=#[.int .i64 a,.int .i64 b]
theorem Ao {a b:Int} {k:Nat} (h:k<2):(two a b)[k]?=some (.int .i64 ([a,b].getD k 0)):=by
 match k,h with
 |0,_=>rfl
 |1,_=>rfl
 |k+2,h=>omega
set_option maxRecDepth 8000 in
theorem wL (bp:Nat) (l:Int) (A:Option Addr) (cA:Nat) (ls:List LV) (i:Nat) (w:World) (hb:w.heap[bp]?=some (.cells (kz l A ls.length cA) 95 (0,0))) (hA:LA w A ls) (hi:i<ls.length):
    Cn Tryz.prog 108 [.pointer (some ⟨bp,0,none⟩),.int .i64 i] w (fun v _=>v=.int .i64 (iT i ls[i])):=by
  have HB:∀{w':World} {j:Nat} {u:Value},Ex [] w w'→(kz l A ls.length cA)[j]?=some u→w'.cell? ⟨bp,j,none⟩=some u:=fun e h=>Ex.cell e hb h
  obtain ⟨x,hx⟩:∃x,x=ls[i]:=⟨_,rfl⟩
  refine Cn.of func108 rfl rfl ?_
  refine gS (gR ?_);refine ai ?_;refine gE (gS (gR ?_));refine ah ?_;refine ku ?_;refine al Ke J9 1 ?_
  refine ab.v (ae.ld (p:=⟨bp,1,none⟩) rfl rfl rfl rfl isAgg31 (fun w _ hS=>HB hS.ext rfl)) ?_
  refine ah ?_
  refine ab.v (ae.ed rfl rfl rfl rfl rfl JQ J2 ⟨_,(hA).at_⟩ (ax (enc:=LV.cells) (sz:=5) (fun _=>rfl)) (by decide) (i) ⟨rfl,hi⟩) ?_
  refine ab.v (ae.nV (cs:=LV.cells x) rfl rfl rfl rfl isAgg48 J2 (fun w _ hS=>by rw [hx];exact Sl.many (enc:=LV.cells) (sz:=5) (hA.ay hS.ext).at_ (fun _=>rfl) hi)) ?_
  refine ab.eO rfl rfl rfl (fun _=>zeroValue48 _) (fun b5=>?_)
  refine ab.dF rfl rfl rfl rfl J2 0 rfl rfl rfl rfl ?_
  refine gE (gS (gS (gR ?_)));refine al JH Ji 2 ?_;refine aq Jj 0 ?_;refine al JH Ji 3 ?_;refine aq Jj 0 ?_
  refine ab.v (ae.eN rfl rfl rfl rfl (Hh (c:=[_,_]) underlying160 Ji zeroValue160 rfl)) ?_
  refine ah ?_;refine gE (gB ?_)
  refine ab.loop (σ:=Nat) (fun k=>[(1,.int .i64 i),(5,.pointer (some ⟨b5,0,none⟩)),(19,.agg (two x.a x.b)),(20,.int .i64 k)]) (fun _=>[(some b5,.cells (LV.cells x).toArray 48 (0,0))])
    (fun k=>k≤2∧∀j:Nat,j<k→jv (ej x.r) j ([x.a,x.b].getD j 0) i=false) (fun k=>2 - k) 0 ⟨Nat.zero_le _,fun j hj=>absurd hj (Nat.not_lt_zero _)⟩ ⟨rfl,rfl,rfl,rfl,trivial⟩ (List.Sublist.refl _) (fun k hI IH=>?_)
  obtain ⟨hk,hall⟩:=hI
  refine gS (gR ?_);refine aw iX ?_;refine gE (gS ?_)
  refine gC (fun hc=>?_) fun hc=>?_
  ·
   have hk2:k<2:=by simp at hc;omega
   obtain ⟨nn,hnn⟩:∃nn,nn=[x.a,x.b].getD k 0:=⟨_,rfl⟩
   have hbad:jv (ej x.r) k nn i=true→iT i x=3:=fun h=>by
     refine if_pos ?_
     rw [hnn] at h
     rcases (by omega:k=0∨k=1) with e|e<;>subst e
     · exact Bool.or_eq_true_iff.2 (.inl h)
     exact Bool.or_eq_true_iff.2 (.inr h)
   have hstep:jv (ej x.r) k nn i=false→∀j:Nat,j<k+1→jv (ej x.r) j ([x.a,x.b].getD j 0) i=false:=fun h j hj=>by
     by_cases e:j=k
     · subst e;rw [←hnn];exact h
     exact hall j (by omega)
   refine gK (gS (gB (gS (gR ?_))));refine ah ?_
   refine ab.v (ae.Ir (v:=.int .i64 nn) rfl rfl rfl rfl rfl underlying160 Ji Jj k ⟨rfl,hk2⟩ (by rw [hnn];exact Ao hk2)) ?_
   iterate 2 refine ai ?_
   refine gE (gS (gR ?_));refine ah ?_;refine al JH Ji 1 ?_;refine aq Jj 0 ?_
   refine gP rfl rfl rfl rfl rfl call155 (fun w _ hS=>(by exact ux x.r w)) ?_
   refine aw oT ?_;refine ah ?_
   refine eC 29 (fun hc=>?_) fun hc=>?_
   ·
    have h1:(k:Int)≥ej x.r:=by simpa using hc
    refine ah ?_;refine aw gJ ?_;refine cF ?_;refine ah ?_
    refine eC 33 (fun hc=>?_) fun hc=>?_
    ·
     have h2:nn≠0:=by simpa using hc
     iterate 14 refine cD ?_
     refine cF ?_;refine gE (ab.bV rfl (gS (gR ?_)));refine ai ?_;refine gE ?_
     refine gT func108 fun w' hS=>?_
     exact ⟨hS.ext,by rw [←hx,hbad (by unfold jv;simp;left;exact ⟨h1,h2⟩)];rfl⟩
    have h2:nn=0:=by simpa using hc
    refine ah ?_;refine al JH Ji 1 ?_;refine aq Jj 0 ?_
    refine gP rfl rfl rfl rfl rfl call155 (fun w _ hS=>(by exact ux x.r w)) ?_
    refine db rfl rfl rfl rfl (Ge (v:=false) (decide_eq_false (by omega))) ?_
    refine ah ?_
    iterate 7 refine cD ?_
    iterate 2 refine bB ?_
    refine gE (ab.gD rfl (gK (dO (gR ?_))));refine db rfl rfl rfl rfl (cz (by omega)) ?_;refine ah ?_;refine gE ?_
    exact IH (k+1) _ _ ⟨hk2,hstep (by unfold jv;simp;omega)⟩ (by omega) ⟨rfl,rfl,rfl,rfl,trivial⟩ (List.Sublist.refl _)
   have h1:¬(k:Int)≥ej x.r:=by simpa using hc
   iterate 2 refine cD ?_
   refine bB ?_
   iterate 2 refine ah ?_
   refine al JH Ji 1 ?_;refine aq Jj 0 ?_
   refine gP rfl rfl rfl rfl rfl call155 (fun w _ hS=>(by exact ux x.r w)) ?_
   refine db rfl rfl rfl rfl (Ge (v:=true) (decide_eq_true (by omega))) ?_
   iterate 2 refine ah ?_
   refine aw iX ?_;refine ah ?_
   refine eC 42 (fun hc=>?_) fun hc=>?_
   ·
    have h2:nn<0:=by simpa using hc
    iterate 3 refine cD ?_
    iterate 2 refine cF ?_
    refine bB ?_;refine gE (ab.bV rfl (gS (gR ?_)));refine ai ?_;refine gE ?_
    refine gT func108 fun w' hS=>?_
    exact ⟨hS.ext,by rw [←hx,hbad (by unfold jv;simp;omega)];rfl⟩
   have h2:¬nn<0:=by simpa using hc
   iterate 2 refine ah ?_
   refine aw oT ?_;refine bB ?_;refine cF ?_;refine bB ?_;refine gE ?_
   refine gC (fun hc=>?_) fun hc=>?_
   ·
    have h3:nn≥i:=by simpa using hc
    refine gS (gR ?_);refine ai ?_;refine gE ?_
    refine gT func108 fun w' hS=>?_
    exact ⟨hS.ext,by rw [←hx,hbad (by unfold jv;simp;omega)];rfl⟩
   have h3:¬nn≥i:=by simpa using hc
   refine gK (dO (gR ?_));refine db rfl rfl rfl rfl (cz (by omega)) ?_;refine ah ?_;refine gE ?_
   exact IH (k+1) _ _ ⟨hk2,hstep (by unfold jv;simp;omega)⟩ (by omega) ⟨rfl,rfl,rfl,rfl,trivial⟩ (List.Sublist.refl _)
  have hge:¬k<2:=by simp at hc;omega
  have hno:(jv (ej x.r) 0 x.a i||jv (ej x.r) 1 x.b i)=false:=by
    rw [Bool.or_eq_false_iff]
    exact ⟨hall 0 (by omega),hall 1 (by omega)⟩
  refine ab.exit rfl (gS (gS (gR ?_)))
  refine al JH Ji 1 ?_;refine aq Jj 0 ?_;refine aw gJ ?_;refine gE ?_
  refine gC (fun hc=>?_) fun hc=>?_
  ·
   have hr:x.r≠11:=by simpa using hc
   refine gS (gS (gR ?_));refine al JH Ji 4 ?_;refine aq Jj 0 ?_;refine aw gJ ?_;refine gE ?_
   refine gC (fun hc=>?_) fun hc=>?_
   ·
    have hg:x.g≠0:=by simpa using hc
    refine gS (gR ?_);refine ai ?_;refine gE ?_
    refine gT func108 fun w' hS=>?_
    exact ⟨hS.ext,by rw [←hx,iT,if_neg (by rw [hno];simp),if_pos hr,if_pos hg];rfl⟩
   have hg:x.g=0:=by simpa using hc
   refine gK (gS (gR ?_));refine ai ?_;refine gE ?_
   refine gT func108 fun w' hS=>?_
   exact ⟨hS.ext,by rw [←hx,iT,if_neg (by rw [hno];simp),if_pos hr,if_neg (by simp [hg])];rfl⟩
  have hr:x.r=11:=by simpa using hc
  refine gK (gS (gS (gR ?_)));refine al JH Ji 4 ?_;refine aq Jj 0 ?_;refine aw iX ?_;refine ah ?_
  refine eC 59 (fun hc=>?_) fun hc=>?_
  ·
   have hg:x.g<0:=by simpa using hc
   iterate 3 refine cD ?_
   refine cF ?_;refine gE (ab.bV rfl (gS (gR ?_)));refine ai ?_;refine gE ?_
   refine gT func108 fun w' hS=>?_
   exact ⟨hS.ext,by rw [←hx,iT,if_neg (by rw [hno];simp),if_neg (by simp [hr]),if_pos (.inl hg)];rfl⟩
  have hg:¬x.g<0:=by simpa using hc
  refine al JH Ji 4 ?_;refine aq Jj 0 ?_;refine aw oT ?_;refine bB ?_;refine gE ?_
  refine gC (fun hc=>?_) fun hc=>?_
  ·
   have hg4:x.g≥4:=by simpa using hc
   refine gS (gR ?_);refine ai ?_;refine gE ?_
   refine gT func108 fun w' hS=>?_
   exact ⟨hS.ext,by rw [←hx,iT,if_neg (by rw [hno];simp),if_neg (by simp [hr]),if_pos (.inr hg4)];rfl⟩
  have hg4:¬x.g≥4:=by simpa using hc
  refine gK (gS (gR ?_));refine ai ?_;refine gE ?_
  refine gT func108 fun w' hS=>?_
  exact ⟨hS.ext,by rw [←hx,iT,if_neg (by rw [hno];simp),if_neg (by simp [hr]),if_neg (by omega)];rfl⟩
end Go.Proofs.YtnfmegcknckahaaGreatDoor
namespace Go.Proofs.YtnfmegcknckahaaGreatDoor
open Go.RowKit Go.Proofs.Wit Tryz
/-- what is known of a line whose numbers are right -/
structure Es (ls:List LV) (i:Nat) (x:LV):Prop where
  jD:aW x.f.f=0
  r1:1≤x.r
  Ie:x.r≤12
  Hv:10≤x.r→0≤x.a∧x.a<i
  Iz:x.r=10→0≤x.b∧x.b<i
  ag:x.r=11→0≤x.g∧x.g<4
  Gw:∀(j:Nat) (hj:j<ls.length),j<i→aW ls[j].f.f=0
  il:i<ls.length
set_option maxRecDepth 8000 in
theorem w5 (bp:Nat) (l:Int) (A:Option Addr) (cA:Nat) (ls:List LV) (i:Nat) (x:LV) (w:World) (hb:w.heap[bp]?=some (.cells (kz l A ls.length cA) 95 (0,0))) (hA:LA w A ls) (hT:EP w) (hx:Es ls i x) (hf:FA w x.f.a x.f.f) (hfl:x.f.f.length≤maxLen):
    Cn Tryz.prog 110 [.pointer (some ⟨bp,0,none⟩),.agg (LV.cells x).toArray] w (fun v _=>∃b,v=.bool b∧(b=true↔jY ls x)):=by
  have HB:∀{w':World} {j:Nat} {u:Value},Ex [] w w'→(kz l A ls.length cA)[j]?=some u→w'.cell? ⟨bp,j,none⟩=some u:=fun e h=>Ex.cell e hb h
  obtain ⟨t,ht⟩:∃t,t=bh x.f.f:=⟨_,rfl⟩
  have hto:t.ok:=by rw [ht];exact (aA.1 hx.jD).top
  have hcc:Cf (aj x.f.f) t:=by
    rw [dv hx.jD,←ht]
    exact Cf.of hto (by have:=yP hx.jD;rw [←ht] at this;exact this)
  have hxl:=hx.il
  refine Cn.of func110 rfl rfl ?_
  refine gS (gR ?_)
  refine ab.bx rfl rfl rfl rfl (fun b3=>?_)
  refine ai ?_;refine gE (gS (gR ?_));refine al JH Js 0 ?_;refine aq Jx 0 ?_
  refine gM rfl rfl rfl rfl rfl call55 (fun w _ hS=>(by exact eg x.f.a x.f.c x.f.f w (hf.ay hS.ext) hfl)) ?_
  rintro v w1 w2 Y' hS he ho
  rw [fR] at ho
  obtain ⟨qc,cc,spc,rfl,hqc,hcapc,hS'⟩:=ak hS he ho
  refine ⟨_,hS',?_⟩
  refine ai ?_;refine gE (gS (gS (gR ?_)));refine al JH Ji 1 ?_;refine aq Jj 1 ?_;refine gE (gB (gS (gR ?_)));refine aw bd ?_;refine ai ?_;refine gE ?_
  refine gC (fun hc=>?_) fun hc=>?_
  ·
   have hr:x.r=10:=by simpa using hc
   obtain ⟨ha0,hai⟩:=hx.Hv (by omega)
   obtain ⟨hb0,hbi⟩:=hx.Iz hr
   obtain ⟨ja,hja⟩:∃j:Nat,x.a=(j:Int):=⟨x.a.toNat,by omega⟩
   obtain ⟨jb,hjb⟩:∃j:Nat,x.b=(j:Int):=⟨x.b.toNat,by omega⟩
   have hjal:ja<ls.length:=by omega
   have hjbl:jb<ls.length:=by omega
   obtain ⟨hfa,hla⟩:=hA.fs ls[ja] (List.getElem_mem hjal)
   obtain ⟨hfb,hlb⟩:=hA.fs ls[jb] (List.getElem_mem hjbl)
   have hca:=hx.Gw ja hjal (by omega)
   have hcb:=hx.Gw jb hjbl (by omega)
   have hao:(bh ls[ja].f.f).ok:=(aA.1 hca).top
   have hfol:jY ls x↔bh ls[jb].f.f=aP (bh ls[ja].f.f) t:=by rw [jY,if_pos hr,m4 hjal hja,m4 hjbl hjb,←ht]
   refine gS ?_
   refine ab.dS 23 mixed ?_
   refine cV 0 (ae.mv rfl rfl rfl rfl) ?_
   refine cV 1 (ae.ep rfl rfl rfl rfl) ?_
   refine cV 2 (ae.aG rfl rfl rfl rfl Ke rfl (by exact J9) 1 rfl) ?_
   refine cV 3 (ae.ld (p:=⟨bp,1,none⟩) rfl rfl rfl rfl isAgg31 (fun w _ hS=>HB hS.ext rfl)) ?_
   refine cV 4 (ae.aG rfl rfl rfl rfl JH rfl (by exact Ji) 3 rfl) ?_
   refine cV 5 (ae.dw rfl rfl rfl rfl Jj 1 rfl rfl) ?_
   refine cV 6 (ae.ed rfl rfl rfl rfl rfl JQ J2 ⟨_,(hA).at_⟩ (ax (enc:=LV.cells) (sz:=5) (fun _=>rfl)) (by decide) (jb) ⟨hjb,hjbl⟩) ?_
   refine cV 7 (ae.fM rfl rfl rfl rfl JH rfl Js ((jb)*5+0) rfl) ?_
   refine cV 8 (ae.ld rfl rfl rfl rfl Jx (fun w _ hS=>Sl.kU (enc:=LV.cells) (sz:=5) ((hA).ay hS.ext).at_ (fun _=>rfl) hjbl rfl)) ?_
   refine cV 9 (ae.mv rfl rfl rfl rfl) ?_
   refine cV 10 (ae.ep rfl rfl rfl rfl) ?_
   refine cV 11 (ae.aG rfl rfl rfl rfl Ke rfl (by exact J9) 1 rfl) ?_
   refine cV 12 (ae.ld (p:=⟨bp,1,none⟩) rfl rfl rfl rfl isAgg31 (fun w _ hS=>HB hS.ext rfl)) ?_
   refine cV 13 (ae.aG rfl rfl rfl rfl JH rfl (by exact Ji) 2 rfl) ?_
   refine cV 14 (ae.dw rfl rfl rfl rfl Jj 1 rfl rfl) ?_
   refine cV 15 (ae.ed rfl rfl rfl rfl rfl JQ J2 ⟨_,(hA).at_⟩ (ax (enc:=LV.cells) (sz:=5) (fun _=>rfl)) (by decide) (ja) ⟨hja,hjal⟩) ?_
   refine cV 16 (ae.fM rfl rfl rfl rfl JH rfl Js ((ja)*5+0) rfl) ?_
   refine cV 17 (ae.ld rfl rfl rfl rfl Jx (fun w _ hS=>Sl.kU (enc:=LV.cells) (sz:=5) ((hA).ay hS.ext).at_ (fun _=>rfl) hjal rfl)) ?_
   refine cV 18 (ae.mv rfl rfl rfl rfl) ?_
   refine aF.call (i:=19) _ rfl rfl rfl rfl rfl rfl (fun _ _=>JL _ _) (fun w _ hS=>(by exact yX ls[ja].f.a ls[ja].f.c ls[ja].f.f (qc.map (fun b=>⟨b,0,none⟩)) cc (aj x.f.f) w (hfa.ay hS.ext) hla (aL hS 0 rfl (fun e=>(hqc e).1)) (aD hcc.eq))) ?_
   rintro v w1 w2 Y' hS he ho
   rw [show aR ⟨7,0,0,0,0,0⟩ [ls[ja].f.f,aj x.f.f]=bT (aP (bh ls[ja].f.f) t) from by have:=F9 (n:=⟨7,0,0,0,0,0⟩) hca hcc.jD (by decide) rfl rfl;rw [hcc.top] at this;exact this] at ho
   obtain ⟨q,cq,spq,rfl,hq,hcq,hS'⟩:=ak hS he ho
   refine ⟨_,hS',sM,?_⟩
   refine aF.cR (i:=20) rfl rfl rfl rfl rfl rfl (fun _ _=>call26 _ _) (fun w _ hS=>(by exact dY ls[jb].f.a ls[jb].f.c ls[jb].f.f (q.map (fun b=>⟨b,0,none⟩)) cq _ w (hfb.ay hS.ext) (aL hS 0 rfl (fun e=>(hq e).1)) hlb (aD rfl))) sL ?_
   refine cV 21 (ae.fD rfl rfl rfl rfl) ?_
   refine aF.done rfl ?_
   refine gE ?_
   refine gT func110 fun w' hS=>?_
   exact ⟨hS.ext,_,rfl,by rw [pB hcb (dC hao hto),decide_eq_true_eq,hfol]⟩
  have hr:¬x.r=10:=by simpa using hc
  refine gS (gR ?_);refine aw bd ?_;refine ai ?_;refine gE ?_
  refine gC (fun hc=>?_) fun hc=>?_
  ·
   have hr2:x.r=11:=by simpa using hc
   obtain ⟨ha0,hai⟩:=hx.Hv (by omega)
   have hag:=hx.ag hr2
   obtain ⟨ja,hja⟩:∃j:Nat,x.a=(j:Int):=⟨x.a.toNat,by omega⟩
   have hjal:ja<ls.length:=by omega
   obtain ⟨hfa,hla⟩:=hA.fs ls[ja] (List.getElem_mem hjal)
   have hca:=hx.Gw ja hjal (by omega)
   have hao:(bh ls[ja].f.f).ok:=(aA.1 hca).top
   have hfol:jY ls x↔t=ar x.g (bh ls[ja].f.f):=by rw [jY,if_neg hr,if_pos hr2,m4 hjal hja,←ht]
   refine gS ?_
   refine ab.dS 16 mixed ?_
   refine cV 0 (ae.mv rfl rfl rfl rfl) ?_
   refine cV 1 (ae.aG rfl rfl rfl rfl JH rfl (by exact Ji) 4 rfl) ?_
   refine cV 2 (ae.dw rfl rfl rfl rfl Jj 1 rfl rfl) ?_
   refine cV 3 (ae.mv rfl rfl rfl rfl) ?_
   refine cV 4 (ae.ep rfl rfl rfl rfl) ?_
   refine cV 5 (ae.aG rfl rfl rfl rfl Ke rfl (by exact J9) 1 rfl) ?_
   refine cV 6 (ae.ld (p:=⟨bp,1,none⟩) rfl rfl rfl rfl isAgg31 (fun w _ hS=>HB hS.ext rfl)) ?_
   refine cV 7 (ae.aG rfl rfl rfl rfl JH rfl (by exact Ji) 2 rfl) ?_
   refine cV 8 (ae.dw rfl rfl rfl rfl Jj 1 rfl rfl) ?_
   refine cV 9 (ae.ed rfl rfl rfl rfl rfl JQ J2 ⟨_,(hA).at_⟩ (ax (enc:=LV.cells) (sz:=5) (fun _=>rfl)) (by decide) (ja) ⟨hja,hjal⟩) ?_
   refine cV 10 (ae.fM rfl rfl rfl rfl JH rfl Js ((ja)*5+0) rfl) ?_
   refine cV 11 (ae.ld rfl rfl rfl rfl Jx (fun w _ hS=>Sl.kU (enc:=LV.cells) (sz:=5) ((hA).ay hS.ext).at_ (fun _=>rfl) hjal rfl)) ?_
   refine aF.call (i:=12) _ rfl rfl rfl rfl rfl rfl (fun _ _=>JK _ _) (fun w _ hS=>(by exact rU x.g ls[ja].f.a ls[ja].f.c ls[ja].f.f w (hfa.ay hS.ext) hla)) ?_
   rintro v w1 w2 Y' hS he ho
   rw [show aR ⟨9,x.g,0,0,0,0⟩ [ls[ja].f.f]=bT (ar x.g (bh ls[ja].f.f)) from Ga (n:=⟨9,x.g,0,0,0,0⟩) hca (show 1≤(9:Int)∧(9:Int)≤21 by decide) rfl rfl (r0 hag) rfl] at ho
   obtain ⟨q,cq,spq,rfl,hq,hcq,hS'⟩:=ak hS he ho
   refine ⟨_,hS',sM,?_⟩
   refine aF.cR (i:=13) rfl rfl rfl rfl rfl rfl (fun _ _=>call26 _ _) (fun w _ hS=>(by exact dY (qc.map (fun b=>⟨b,0,none⟩)) cc (aj x.f.f) (q.map (fun b=>⟨b,0,none⟩)) cq _ w (aL hS 1 rfl (fun e=>(hqc e).1)) (aL hS 0 rfl (fun e=>(hq e).1)) (aD hcc.eq) (aD rfl))) sL ?_
   refine cV 14 (ae.fD rfl rfl rfl rfl) ?_
   refine aF.done rfl ?_
   refine gE ?_
   refine gT func110 fun w' hS=>?_
   exact ⟨hS.ext,_,rfl,by rw [dt hcc (bt hag hao),decide_eq_true_eq,hfol]⟩
  have hr2:¬x.r=11:=by simpa using hc
  refine gS (gR ?_);refine aw bd ?_;refine ai ?_;refine gE ?_
  refine gC (fun hc=>?_) fun hc=>?_
  ·
   have hr3:x.r=12:=by simpa using hc
   obtain ⟨ha0,hai⟩:=hx.Hv (by omega)
   obtain ⟨ja,hja⟩:∃j:Nat,x.a=(j:Int):=⟨x.a.toNat,by omega⟩
   have hjal:ja<ls.length:=by omega
   obtain ⟨hfa,hla⟩:=hA.fs ls[ja] (List.getElem_mem hjal)
   have hca:=hx.Gw ja hjal (by omega)
   have hfol:jY ls x↔CK (bh ls[ja].f.f) t:=by rw [jY,if_neg hr,if_neg hr2,if_pos hr3,m4 hjal hja,←ht]
   refine gS ?_
   refine ab.dS 13 mixed ?_
   refine cV 0 (ae.mv rfl rfl rfl rfl) ?_
   refine cV 1 (ae.mv rfl rfl rfl rfl) ?_
   refine cV 2 (ae.ep rfl rfl rfl rfl) ?_
   refine cV 3 (ae.aG rfl rfl rfl rfl Ke rfl (by exact J9) 1 rfl) ?_
   refine cV 4 (ae.ld (p:=⟨bp,1,none⟩) rfl rfl rfl rfl isAgg31 (fun w _ hS=>HB hS.ext rfl)) ?_
   refine cV 5 (ae.aG rfl rfl rfl rfl JH rfl (by exact Ji) 2 rfl) ?_
   refine cV 6 (ae.dw rfl rfl rfl rfl Jj 1 rfl rfl) ?_
   refine cV 7 (ae.ed rfl rfl rfl rfl rfl JQ J2 ⟨_,(hA).at_⟩ (ax (enc:=LV.cells) (sz:=5) (fun _=>rfl)) (by decide) (ja) ⟨hja,hjal⟩) ?_
   refine cV 8 (ae.fM rfl rfl rfl rfl JH rfl Js ((ja)*5+0) rfl) ?_
   refine cV 9 (ae.ld rfl rfl rfl rfl Jx (fun w _ hS=>Sl.kU (enc:=LV.cells) (sz:=5) ((hA).ay hS.ext).at_ (fun _=>rfl) hjal rfl)) ?_
   refine aF.call (i:=10) _ rfl rfl rfl rfl rfl rfl (fun _ _=>call157 _ _) (fun w _ hS=>(by exact wY (qc.map (fun b=>⟨b,0,none⟩)) cc (aj x.f.f) t ls[ja].f.a ls[ja].f.c ls[ja].f.f w (aL hS 0 rfl (fun e=>(hqc e).1)) hcc (hfa.ay hS.ext) hca hla)) ?_
   rintro v w1 w2 Y' hS he ⟨b,rfl,hb⟩
   refine ⟨_,hS.later he,sM,?_⟩
   refine cV 11 (ae.fD rfl rfl rfl rfl) ?_
   refine aF.done rfl ?_
   refine gE ?_
   refine gT func110 fun w' hS=>?_
   exact ⟨hS.ext,_,rfl,by rw [hb,hfol]⟩
  have hr3:¬x.r=12:=by simpa using hc
  have h9:x.r≤9:=by have:=hx.Ie;omega
  have h1:=hx.r1
  have hfol:jY ls x↔oI x.r t:=by rw [jY,if_neg hr,if_neg hr2,if_neg hr3,←ht]
  refine gK (dO (gS (gR ?_)));refine al JH Ji 1 ?_;refine aq Jj 1 ?_
  refine ab.v (ae.wZ rfl rfl rfl rfl rfl underlying163 sizeOf35 x.r.toNat (by omega) (by omega)) ?_
  refine ab.v (ae.ld rfl rfl rfl rfl isAgg35 (fun w _ hS=>(by rw [Nat.zero_add,(hT.ex hS.ext).cell _ (by omega) (by omega),Int.toNat_of_nonneg (by omega)]))) ?_
  refine ah ?_
  refine ab.nr (gf:=lH x.r) (fun _ v _=>∃b,v=.bool b∧(b=true↔oI x.r t)) rfl rfl rfl rfl rfl (B4 h1 h9) (fun w _ hS=>zQ x.r (qc.map (fun b=>⟨b,0,none⟩)) cc (aj x.f.f) t w h1 h9 (aL hS 0 rfl (fun e=>(hqc e).1)) hcc) ?_
  rintro v w1 w2 Y' hS he ⟨b,rfl,hb⟩
  refine ⟨_,hS.later he,?_⟩
  refine ai ?_;refine gE ?_
  refine gT func110 fun w' hS=>?_
  exact ⟨hS.ext,_,rfl,by rw [hb,hfol]⟩
end Go.Proofs.YtnfmegcknckahaaGreatDoor
namespace Go.Proofs.YtnfmegcknckahaaGreatDoor
open Go.RowKit Go.Proofs.Wit Tryz
theorem rn {f:List NV} (h:fF f=0):aW f=0:=by
 unfold fF at h
 by_cases h1:aW f=0
 ·exact h1
 rw [if_pos h1] at h;exact h
theorem Bj {ls:List LV} {i:Nat} (hi:i<ls.length) (hbef:∀(j:Nat) (hj:j<ls.length),j<i→aW ls[j].f.f=0) (h1:fF ls[i].f.f=0) (h2:¬(ls[i].r<1∨12<ls[i].r)) (h3:iT i ls[i]=0):Es ls i ls[i]:=by
 obtain ⟨ka,kb,_,kg⟩:=qV h3
 refine ⟨rn h1,by omega,by omega,fun h=>?_,fun h=>?_,kg,hbef,hi⟩
 ·refine jN ka ?_
  unfold ej
  by_cases e:ls[i].r=10
  ·rw [if_pos e];decide
  rw [if_neg e,if_pos (by omega)];decide
 refine jN kb ?_
 rw [ej,if_pos h];decide
set_option maxRecDepth 8000 in
theorem DD (bp:Nat) (l:Int) (A:Option Addr) (cA:Nat) (ls:List LV) (i:Nat) (w:World) (hb:w.heap[bp]?=some (.cells (kz l A ls.length cA) 95 (0,0))) (hA:LA w A ls) (hT:EP w) (hl:0≤l∧l≤6) (hi:i<ls.length) (hbef:∀(j:Nat) (hj:j<ls.length),j<i→aW ls[j].f.f=0):
    Cn Tryz.prog 60 [.pointer (some ⟨bp,0,none⟩),.int .i64 i] w (fun v _=>v=.int .i64 (dI l ls i ls[i])):=by
  have HB:∀{w':World} {j:Nat} {u:Value},Ex [] w w'→(kz l A ls.length cA)[j]?=some u→w'.cell? ⟨bp,j,none⟩=some u:=fun e h=>Ex.cell e hb h
  obtain ⟨x,hx⟩:∃x,x=ls[i]:=⟨_,rfl⟩
  obtain ⟨hfa,hla⟩:=hA.fs ls[i] (List.getElem_mem hi)
  rw [←hx] at hfa hla
  refine Cn.of func60 rfl rfl ?_
  refine gS (gR ?_);refine ai ?_;refine gE (gS (gR ?_));refine ah ?_;refine ku ?_;refine al Ke J9 1 ?_
  refine ab.v (ae.ld (p:=⟨bp,1,none⟩) rfl rfl rfl rfl isAgg31 (fun w _ hS=>HB hS.ext rfl)) ?_
  refine ah ?_
  refine ab.v (ae.ed rfl rfl rfl rfl rfl JQ J2 ⟨_,(hA).at_⟩ (ax (enc:=LV.cells) (sz:=5) (fun _=>rfl)) (by decide) (i) ⟨rfl,hi⟩) ?_
  refine ab.v (ae.nV (cs:=LV.cells x) rfl rfl rfl rfl isAgg48 J2 (fun w _ hS=>by rw [hx];exact Sl.many (enc:=LV.cells) (sz:=5) (hA.ay hS.ext).at_ (fun _=>rfl) hi)) ?_
  refine ab.eO rfl rfl rfl (fun _=>zeroValue48 _) (fun b5=>?_)
  refine ab.dF rfl rfl rfl rfl J2 0 rfl rfl rfl rfl ?_
  refine gE (gS (gS (gR ?_)));refine al JH Js 0 ?_;refine aq Jx 0 ?_
  refine gP rfl rfl rfl rfl rfl call107 (fun w _ hS=>(by exact za x.f.a x.f.c x.f.f w (hfa.ay hS.ext) hla)) ?_
  refine ai ?_;refine gE (gS (gR ?_));refine ah ?_;refine aw gJ ?_;refine gE ?_
  refine gC (fun hc=>?_) fun hc=>?_
  ·
   have h1:fF x.f.f≠0:=by simpa using hc
   refine gS (gR ?_);refine ah ?_;refine ai ?_;refine gE ?_
   refine gT func60 fun w' hS=>?_
   exact ⟨hS.ext,by rw [←hx,dI,if_pos h1];rfl⟩
  have h1:fF x.f.f=0:=by simpa using hc
  refine gK (gS (gS (gR ?_)));refine al JH Ji 1 ?_;refine aq Jj 0 ?_;refine aw iX ?_;refine ah ?_
  refine eC 24 (fun hc=>?_) fun hc=>?_
  ·
   have h2:x.r<1:=by simpa using hc
   iterate 3 refine cD ?_
   refine cF ?_;refine gE (ab.bV rfl (gS (gR ?_)));refine ai ?_;refine gE ?_
   refine gT func60 fun w' hS=>?_
   exact ⟨hS.ext,by rw [←hx,dI,if_neg (by simp [h1]),if_pos (.inl h2)];rfl⟩
  have h2:¬x.r<1:=by simpa using hc
  refine al JH Ji 1 ?_;refine aq Jj 0 ?_;refine aw vf ?_;refine bB ?_;refine gE ?_
  refine gC (fun hc=>?_) fun hc=>?_
  ·
   have h3:12<x.r:=by simpa using hc
   refine gS (gR ?_);refine ai ?_;refine gE ?_
   refine gT func60 fun w' hS=>?_
   exact ⟨hS.ext,by rw [←hx,dI,if_neg (by simp [h1]),if_pos (.inr h3)];rfl⟩
  have h3:¬12<x.r:=by simpa using hc
  have h23:¬(x.r<1∨12<x.r):=by omega
  refine gK (gS (gS (gR ?_)))
  iterate 2 refine ah ?_
  refine gP rfl rfl rfl rfl rfl call108 (fun w _ hS=>(by have:=wL bp l A cA ls i w (hS.ext.gH hb) (hA.ay hS.ext) hi;rw [←hx] at this;exact this)) ?_
  refine ai ?_;refine gE (gS (gR ?_));refine ah ?_;refine aw gJ ?_;refine gE ?_
  refine gC (fun hc=>?_) fun hc=>?_
  ·
   have h4:iT i x≠0:=by simpa using hc
   refine gS (gR ?_);refine ah ?_;refine ai ?_;refine gE ?_
   refine gT func60 fun w' hS=>?_
   exact ⟨hS.ext,by rw [←hx,dI,if_neg (by simp [h1]),if_neg h23,if_pos h4];rfl⟩
  have h4:iT i x=0:=by simpa using hc
  have hok:Es ls i x:=by rw [hx] at h1 h23 h4⊢;exact Bj hi hbef h1 h23 h4
  refine gK (gS (gS ?_))
  refine ab.dS 9 mixed ?_
  refine cV 0 (ae.mv rfl rfl rfl rfl) ?_
  refine cV 1 (ae.ep rfl rfl rfl rfl) ?_
  refine cV 2 (ae.aG rfl rfl rfl rfl Ke rfl (by exact Ji) 0 rfl) ?_
  refine cV 3 (ae.ld (p:=⟨bp,0,none⟩) rfl rfl rfl rfl Jj (fun w _ hS=>HB hS.ext rfl)) ?_
  refine cV 4 (ae.aG rfl rfl rfl rfl JH rfl (by exact Ji) 1 rfl) ?_
  refine cV 5 (ae.dw rfl rfl rfl rfl Jj 0 rfl rfl) ?_
  refine aF.cR (i:=6) rfl rfl rfl rfl rfl rfl (fun _ _=>call109 _ _) (fun w _ hS=>(by exact DT l x.r w hl)) sL ?_
  refine cV 7 (ae.un rfl rfl rfl bG rfl) ?_
  refine aF.done rfl ?_
  refine gE ?_
  refine gC (fun hc=>?_) fun hc=>?_
  ·
   have h5:cn l x.r=false:=by simpa using hc
   refine gS (gR ?_);refine ai ?_;refine gE ?_
   refine gT func60 fun w' hS=>?_
   exact ⟨hS.ext,by rw [←hx,dI,if_neg (by simp [h1]),if_neg h23,if_neg (by simp [h4]),if_pos h5];rfl⟩
  have h5:cn l x.r=true:=by simpa using hc
  refine gK (gS (gS (gR ?_)));refine ah ?_
  refine ab.v (ae.iA rfl rfl rfl rfl isAgg48 0 rfl J2 rfl) ?_
  refine gM rfl rfl rfl rfl rfl call110 (fun w _ hS=>(by exact w5 bp l A cA ls i x w (hS.ext.gH hb) (hA.ay hS.ext) (hT.ex hS.ext) hok (hfa.ay hS.ext) hla)) ?_
  rintro v w1 w2 Y' hS he ⟨b,rfl,hb2⟩
  refine ⟨_,hS.later he,?_⟩
  refine eZ bG ?_;refine gE ?_
  refine gC (fun hc=>?_) fun hc=>?_
  ·
   have hbf:b=false:=by simpa using hc
   have h6:¬jY ls x:=fun h=>by rw [hb2.2 h] at hbf;cases hbf
   refine gS (gR ?_);refine ai ?_;refine gE ?_
   refine gT func60 fun w' hS=>?_
   exact ⟨hS.ext,by rw [←hx,dI,if_neg (by simp [h1]),if_neg h23,if_neg (by simp [h4]),if_neg (by simp [h5]),if_neg h6];rfl⟩
  have hbt:b=true:=by simpa using hc
  refine gK (gS (gR ?_));refine ai ?_;refine gE ?_
  refine gT func60 fun w' hS=>?_
  exact ⟨hS.ext,by rw [←hx,dI,if_neg (by simp [h1]),if_neg h23,if_neg (by simp [h4]),if_neg (by simp [h5]),if_pos (hb2.1 hbt)];rfl⟩
theorem ow {l:Int} {ls:List LV} {k:Nat} (h:da l ls k=0) (hk:k<ls.length):da l ls (k+1)=dI l ls k ls[k]:=by
 show (if da l ls k≠0 then da l ls k else match ls[k]? with|some x=>dI l ls k x|none=>0)=_
 rw [if_neg (by simp [h]),List.getElem?_eq_getElem hk]
theorem mi {l:Int} {ls:List LV} {k:Nat} (h:da l ls k≠0):∀d,da l ls (k+d)=da l ls k
 |0=>rfl
 |d+1=>by
  have ih:=mi h d
  show (if da l ls (k+d)≠0 then da l ls (k+d) else _)=_
  rw [if_pos (by rw [ih];exact h),ih]
theorem uL {l:Int} {ls:List LV} {k:Nat} {x:LV} (h:dI l ls k x=0):fF x.f.f=0:=by
 unfold dI at h
 by_cases h1:fF x.f.f=0
 ·exact h1
 rw [if_pos h1] at h;exact h
theorem pR {l:Int} {ls:List LV}:∀{k:Nat},da l ls k=0→k≤ls.length→∀(j:Nat) (hj:j<ls.length),j<k→dI l ls j ls[j]=0
 |0,_,_,j,_,h=>absurd h (Nat.not_lt_zero _)
 |k+1,h,hk,j,hj,hjk=>by
  have h0:da l ls k=0:=Classical.byContradiction (fun hne=>hne (by have:=mi hne 1;rw [h] at this;exact this.symm))
  by_cases e:j=k
  ·subst e;rw [←ow h0 hj];exact h
  exact pR h0 (by omega) j hj (by omega)
set_option maxRecDepth 8000 in
theorem pV (l:Int) (A:Option Addr) (cA:Nat) (ls:List LV) (w:World) (hA:LA w A ls) (hT:EP w):
    Cn Tryz.prog 25 [.int .i64 l,.slice A ls.length cA] w (fun v _=>v=.int .i64 (fN l ls)):=by
  refine Cn.of func25 rfl rfl ?_
  refine gS (gR ?_);refine ai ?_;refine gE (gS (gB (gS (gR ?_))));refine ah ?_
  refine gP rfl rfl rfl rfl rfl call59 (fun w _ hS=>(by exact AA l w)) ?_
  refine eZ bG ?_;refine ai ?_;refine gE ?_
  refine gC (fun hc=>?_) fun hc=>?_
  ·
   have h1:¬(0≤l∧l≤6):=by simp at hc;omega
   refine gS (gR ?_);refine ai ?_;refine gE ?_
   refine gT func25 fun w' hS=>?_
   exact ⟨hS.ext,by rw [fN,if_pos h1];rfl⟩
  have h1:0≤l∧l≤6:=by simp at hc;omega
  refine gS (gR ?_);refine ah ?_;refine dM JQ ?_;refine aw bd ?_;refine ai ?_;refine gE ?_
  refine gC (fun hc=>?_) fun hc=>?_
  ·
   have h2:ls.length=0:=by simpa using hc
   refine gS (gR ?_);refine ai ?_;refine gE ?_
   refine gT func25 fun w' hS=>?_
   exact ⟨hS.ext,by rw [fN,if_neg (by omega),if_pos h2];rfl⟩
  have h2:¬ls.length=0:=by simpa using hc
  refine gS (gR ?_);refine ah ?_;refine dM JQ ?_;refine aw vf ?_;refine ai ?_;refine gE ?_
  refine gC (fun hc=>?_) fun hc=>?_
  ·
   have h3:400<ls.length:=by simp at hc;omega
   refine gS (gR ?_);refine ai ?_;refine gE ?_
   refine gT func25 fun w' hS=>?_
   exact ⟨hS.ext,by rw [fN,if_neg (by omega),if_neg h2,if_pos h3];rfl⟩
  have h3:¬400<ls.length:=by simp at hc;omega
  have hE:fN l ls=da l ls ls.length:=by rw [fN,if_neg (by omega),if_neg h2,if_neg h3]
  refine gK (dO (gS (gR ?_)))
  iterate 2 refine ah ?_
  refine ab.v (ae.eN rfl rfl rfl rfl (bd95 (c:=[_,_]) rfl)) ?_
  refine ab.bx rfl rfl rfl rfl (fun b23=>?_)
  refine ai ?_;refine gE (gS (gS (gR ?_)));refine ah ?_;refine dM JQ ?_;refine ah ?_;refine gE (gB ?_)
  refine ab.loop (σ:=Nat) (fun k=>[(5,.pointer (some ⟨b23,0,none⟩)),(25,.int .i64 ls.length),(26,.int .i64 k)]) (fun _=>[(some b23,.cells (kz l A ls.length cA) 95 (0,0))])
    (fun k=>k≤ls.length∧da l ls k=0) (fun k=>ls.length - k) 0 ⟨Nat.zero_le _,rfl⟩ ⟨rfl,rfl,rfl,trivial⟩ (List.Sublist.refl _) (fun k hI IH=>?_)
  obtain ⟨hk,h0⟩:=hI
  refine gS (gR ?_);refine aw iX ?_;refine gE (gS ?_)
  refine gC (fun hc=>?_) fun hc=>?_
  ·
   have hlt:k<ls.length:=by simpa using hc
   have hs:=ow h0 hlt
   refine gK (gS (gB (gS (gR ?_))));refine ah ?_;refine ai ?_;refine gE (gS (gR ?_))
   iterate 2 refine ah ?_
   refine gP rfl rfl rfl rfl rfl call60 (fun w _ hS=>(by exact DD b23 l A cA ls k w (hS.get (j:=0) rfl) (hA.ay hS.ext) (hT.ex hS.ext) h1 hlt (fun j hj hjk=>rn (uL (pR h0 hk j hj hjk))))) ?_
   refine ai ?_;refine gE (gS (gR ?_));refine ah ?_;refine aw gJ ?_;refine gE ?_
   refine gC (fun hc=>?_) fun hc=>?_
   ·
    have h4:dI l ls k ls[k]≠0:=by simpa using hc
    refine gS (gR ?_);refine ah ?_;refine ai ?_;refine gE ?_
    refine gT func25 fun w' hS=>?_
    exact ⟨hS.ext,by rw [hE];have:=mi (l:=l) (ls:=ls) (k:=k+1) (by rw [hs];exact h4) (ls.length - (k+1));rw [show k+1+(ls.length - (k+1))=ls.length by omega,hs] at this;rw [this];rfl⟩
   have h4:dI l ls k ls[k]=0:=by simpa using hc
   refine gK (dO (gR ?_));refine db rfl rfl rfl rfl (cz (by omega)) ?_;refine ah ?_;refine gE ?_
   exact IH (k+1) _ _ ⟨hlt,by rw [hs];exact h4⟩ (by omega) ⟨rfl,rfl,rfl,trivial⟩ (List.Sublist.refl _)
  have hge:¬k<ls.length:=by simpa using hc
  obtain rfl:k=ls.length:=by omega
  refine ab.exit rfl (gS (gR ?_))
  refine ai ?_;refine gE ?_
  refine gT func25 fun w' hS=>?_
  exact ⟨hS.ext,by rw [hE,h0];rfl⟩
end Go.Proofs.YtnfmegcknckahaaGreatDoor
