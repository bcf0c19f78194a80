/- What calls of the program return, under the conditions that each theorem states. -/
import Derived.Test.YtnfmegcknckahaaGreatDoorXO43
import Derived.Test.YtnfmegcknckahaaGreatDoorXO42
import Derived.Test.YtnfmegcknckahaaGreatDoorXO03
import Derived.Test.YtnfmegcknckahaaGreatDoorXO04
import Derived.Test.YtnfmegcknckahaaGreatDoorXO35
namespace Go.Proofs.YtnfmegcknckahaaGreatDoor
open Go.RowKit Go.Proofs.Wit Tryz
theorem xo (A:Option Addr) (cA:Nat) (b:List NV) (k:Int) (w:World) (ha:FA w A b) (hb:aY b) (hk:0≤k∧k<b.length):Cn Tryz.prog 86 [.slice A b.length cA,.int .i64 k] w (fun v w'=>aI 66 w w' v (bT (tA b k))):=by
 obtain ⟨n,rfl⟩:∃n:Nat,k=(n:Int):=⟨k.toNat,by omega⟩
 have:=iF A cA b (n:Int) w ha (by have:=hb.len;unfold maxLen;omega)
 rw [(we hb (show n<b.length by omega)).1] at this
 exact this
set_option maxRecDepth 8000 in
theorem rz (A:Option Addr) (cA:Nat) (b:List NV) (s:ax) (w:World) (ha:FA w A b) (hb:aY b) (hs:js b s):
    Cn Tryz.prog 48 [.slice A b.length cA,U s] w (fun v w'=>fY 66 w w' v (bT (dA b s))):=by
  obtain ⟨i1,hi1,hz1,hsz1,hby1⟩:=info_parts uG
  have hp64:(dX s).length≤64:=@lH s 64
  have hil:=@iE (dX s)
  have hbl:=hb.len
  have hcj:(kG ((dX s).map (aa b))).ok:=(vO (fun u hu=>by
    obtain ⟨n,hn,rfl⟩:=List.mem_map.1 hu
    exact hb.fr (hs n (cW.1 hn)))).1
  refine Cn.of func48 rfl rfl ?_
  refine gS (gR ?_);refine ai ?_;refine gE (gS (gR ?_));refine ai ?_;refine gE (gS (gS (gR ?_)));refine ah ?_
  refine gM rfl rfl rfl rfl rfl call85 (fun w _ hS=>(by exact kR s w)) ?_
  rintro v w1 w2 Y' hS he ho
  obtain ⟨q,cap,sp,rfl,hq,ao,hS'⟩:=re hS he ho
  refine ⟨_,hS',?_⟩
  refine dY Jg ?_;refine ah ?_;refine gE (gB ?_)
  refine ab.cQ (ob FV.v 22 [] []) ?_
  refine ab.loop (σ:=Nat×Option Nat×Nat×List FV×List Value×Hl) (fun z=>[(0,.slice A b.length cA),(5,cK z.2.1 z.2.2.2.1.length z.2.2.1),(9,cK q (iL (dX s)).length cap),(10,.int .i64 (iL (dX s)).length),(11,.int .i64 z.1)])
    (fun z=>[(z.2.1,ob FV.v 22 z.2.2.2.1 z.2.2.2.2.1),(q,ob bK 3 (iL (dX s)) sp)]++z.2.2.2.2.2)
    (fun z=>z.1≤(dX s).length∧(z.2.1=none→z.2.2.2.1.length=0∧z.2.2.1=0)∧(z.2.2.2.1.map FV.v++z.2.2.2.2.1).length=z.2.2.1∧(∀g∈z.2.2.2.1,g.In 66 z.2.2.2.2.2)∧z.2.2.2.1.map FV.f=(((dX s).take z.1).map (aa b)).map bT)
    (fun z=>(dX s).length - z.1) (0,none,0,[],[],[]) ⟨Nat.zero_le _,fun _=>⟨rfl,rfl⟩,rfl,(fun _ h=>by cases h),rfl⟩ ⟨rfl,rfl,rfl,rfl,rfl,trivial⟩ (List.Sublist.refl _) (fun z hI IH=>?_)
  obtain ⟨k,q2,jO,gs,oT,H⟩:=z
  obtain ⟨hk,hq2,gN,hin,hgs⟩:=hI
  dsimp only at hk hq2 gN hin hgs IH⊢
  have hgl:gs.length=k:=by
    have h1:=congrArg List.length hgs
    simp at h1;omega
  refine gS (gR ?_);refine aw jl ?_;refine gE (gS ?_)
  refine gC (fun hc=>?_) fun hc=>?_
  ·
   have hlt:k<(dX s).length:=by rw [hil] at hc;simpa using hc
   have hlt2:k<(iL (dX s)).length:=by rw [hil];exact hlt
   obtain ⟨n,hn⟩:∃n,n=(dX s)[k]:=⟨_,rfl⟩
   have hgp:(iL (dX s)).getD k 0=(n:Int):=by rw [nS hlt,←hn]
   have hnb:n<b.length:=hs n (cW.1 (by rw [hn];exact List.getElem_mem hlt))
   obtain ⟨bq,rfl⟩:∃b,q=some b:=by
     cases q with
     |none=>have:=(hq rfl).1;omega
     |some b=>exact ⟨b,rfl⟩
   refine gK (gS (gB (gS (gR ?_))))
   refine ab.v (ae.dV rfl rfl rfl rfl rfl Jg I9 (k) ⟨rfl,hlt2⟩) ?_
   refine ab.v (ae.qY bK 0 rfl rfl rfl rfl Ja 1 rfl hlt2) ?_
   refine ai ?_;refine gE (gR ?_)
   iterate 3 refine ah ?_
   refine gM rfl rfl rfl rfl rfl call86 (fun w _ hS=>(by rw [hgp];exact xo A cA b (n:Int) w (ha.ay hS.ext) hb (by omega))) ?_
   rintro v w1 w2 Y' hS he ho
   obtain ⟨qf,capf,spf,rfl,hqf,hcapf,hS'⟩:=ak hS he ho
   refine ⟨_,hS',?_⟩
   refine ab.eh (c:=[_]) rfl rfl rfl rfl Jo Jj Jx rfl rfl (fun b19=>?_)
   refine ab.oh FV.v (news:=[⟨qf.map (fun b=>⟨b,0,none⟩),capf,bT (tA b (n:Int))⟩]) (spn:=[]) (xs:=gs) (sp:=oT) (q:=q2) rfl rfl rfl rfl rfl Jo hi1 hz1 hsz1 rfl hq2 2 rfl 0 (by cases qf<;>rfl) gN rfl (by decide) (fun _=>rfl) (by unfold maxLen;omega) (by rw [hby1];omega) (fun b' sp' cap' hlen=>?_)
   refine ai ?_;refine gE (dQ (gR ?_));refine df rfl rfl rfl rfl (cD (by omega)) ?_;refine ah ?_;refine gE ?_
   refine ab.aT (pre:=[_,_,_,_]) (pre':=[_,_,_]) H [2,3,1] (by decide) rfl ?_
   refine IH (k+1,some b',cap',gs++[_],sp',(qf,eO 66 (bT (tA b (n:Int))) spf)::H) _ _ ⟨hlt,(fun e=>by cases e),hlen,fun g hg=>?_,?_⟩ (by dsimp only;omega) ⟨rfl,rfl,rfl,rfl,rfl,trivial⟩ (List.Sublist.refl _)
   · rcases List.mem_append.1 hg with hg|hg
     · exact (hin g hg).mono (List.subset_cons_self _ _)
     · rw [List.mem_singleton.1 hg];exact ⟨qf,spf,List.mem_cons_self ..,rfl,hqf,hcapf⟩
   dsimp only;rw [List.map_append,hgs,List.take_succ_eq_append_getElem hlt,List.map_append,List.map_append,←hn];rfl
  have hge:¬k<(dX s).length:=by rw [hil] at hc;simpa using hc
  obtain rfl:k=(dX s).length:=by omega
  rw [List.take_length] at hgs
  have hall:jP (gs.map FV.f)=bT (kG ((dX s).map (aa b))):=by
    rw [hgs]
    exact rm (fun u hu=>by
      obtain ⟨n,hn,rfl⟩:=List.mem_map.1 hu
      exact hb.ok (hs n (cW.1 hn)))
  have hgl2:∀g∈gs,g.f.length≤maxLen:=fun g hg=>by
    have h1:g.f∈gs.map FV.f:=List.mem_map_of_mem hg
    rw [hgs] at h1
    obtain ⟨u,_,hu⟩:=List.mem_map.1 h1
    rw [←hu];exact gz
  have hcp2:gs.length≤jO:=by
    have:=gN
    simp at this;omega
  refine ab.exit rfl (gS (gR ?_))
  refine ah ?_
  refine gM rfl rfl rfl rfl rfl call30 (fun w _ hS=>(by exact zE (q2.map (fun b=>⟨b,0,none⟩)) jO gs w (xN hS 0 rfl (fun e=>(hq2 e).1)) (fun g hg=>((hin g hg).mono (fun _ h=>List.mem_cons_of_mem _ (List.mem_cons_of_mem _ h))).at hS) hgl2 (by unfold maxLen;omega) hcp2)) ?_
  rintro v w1 w2 Y' hS he ho
  rw [hall] at ho
  obtain ⟨qa,capa,spa,rfl,hqa,hcapa,hS'⟩:=ak hS he ho
  refine ⟨_,hS',?_⟩
  refine gM rfl rfl rfl rfl rfl Jy (fun w _ hS=>(by exact gQ ⟨qa.map (fun b=>⟨b,0,none⟩),capa,bT (kG ((dX s).map (aa b)))⟩ _ w (aL hS 0 rfl (fun e=>(hqa e).1)) rfl hcj)) ?_
  rintro v w1 w2 Y' hS he ⟨ho,hz⟩
  obtain ⟨qn,capn,spn,rfl,hqn,hcapn,hS'⟩:=ak hS he ho
  refine ⟨_,hS',?_⟩
  refine ai ?_;refine gE ?_
  refine gT func48 fun w' hS=>?_
  exact ⟨hS.ext,aI.mk hS 0 rfl rfl hqn hcapn,hz⟩
/-- the block of a step -/
abbrev Gm (p:SP) (w:World):Prop:=p.At 76 w
set_option maxRecDepth 8000 in
theorem ib (p:SP) (k:Int) (w:World) (h:Gm p w) (hb:aY p.b) (hk:0≤k∧k<p.b.length):Cn Tryz.prog 81 [.pointer (some ⟨p.bs,0,none⟩),.int .i64 k] w (fun v w'=>aI 66 w w' v (bT (tA p.b k))):=by
 have HB:∀{w':World} {j:Nat} {u:Value},Ex [] w w'→p.cs[j]?=some u→w'.cell? ⟨p.bs,j,none⟩=some u:=fun e hu=>Ex.cell e h.dg hu
 obtain ⟨bs,hbs⟩:∃bs,bs=p.bs:=⟨_,rfl⟩
 rw [←hbs] at HB⊢
 refine Cn.of func81 rfl rfl ?_
 refine gS (gR ?_);refine ai ?_;refine gE (gS (gR ?_));refine ah ?_;refine kk ?_;refine al JF Jp 1 ?_;refine al Jr Jj 2 ?_
 refine ab.v (ae.ld (p:=⟨bs,2,none⟩) rfl rfl rfl rfl Jn (fun w _ hS=>HB hS.ext rfl)) ?_
 refine ah ?_
 refine gM rfl rfl rfl rfl rfl call86 (fun w _ hS=>(by exact xo p.A p.cA p.b k w (h.fa.ay hS.ext) hb hk)) ?_
 rintro v w1 w2 Y' hS he ho
 obtain ⟨q,cap,sp,rfl,hq,ao,hS'⟩:=ak hS he ho
 refine ⟨_,hS',?_⟩
 refine ai ?_;refine gE ?_
 refine gT func81 fun w' hS=>?_
 exact ⟨hS.ext,aI.mk hS 0 rfl rfl hq ao⟩
end Go.Proofs.YtnfmegcknckahaaGreatDoor
namespace Go.Proofs.YtnfmegcknckahaaGreatDoor
open Go.RowKit Go.Proofs.Wit Tryz
set_option maxRecDepth 8000 in
theorem kp (p:SP) (k j:Nat) (w:World) (h:Gm p w) (hk:k<p.x.d.fr.length) (hj:p.x.d.fr[k]=(j:Int)) (hl:j<p.last.length):Cn Tryz.prog 82 [.pointer (some ⟨p.bs,0,none⟩),.int .i64 (k:Int)] w (fun v _=>v=.int .i64 ((p.last.getD j 0:Nat):Int)):=by
 have HB:∀{w':World} {j:Nat} {u:Value},Ex [] w w'→p.cs[j]?=some u→w'.cell? ⟨p.bs,j,none⟩=some u:=fun e hu=>Ex.cell e h.dg hu
 have hlL:p.last.length=(iL p.last).length:=iE.symm
 have hlst:jU w p.Z (iL p.last):=h.Gi
 have hxfr:=h.Er
 have hjl:j<(iL p.last).length:=by omega
 have hgj:(iL p.last)[j]=((p.last.getD j 0:Nat):Int):=by simp [iL,List.getD_eq_getElem?_getD,hl]
 obtain ⟨bs,hbs⟩:∃bs,bs=p.bs:=⟨_,rfl⟩
 rw [←hbs] at HB⊢
 refine Cn.of func82 rfl rfl ?_
 refine gS (gR ?_);refine ai ?_;refine gE (gS ?_)
 refine ab.draw 15 mixed rfl ?_
 refine mH ?_;refine xi ?_;refine mI JF JP 10 ?_
 refine aM.v (ae.ld (p:=⟨bs,10,none⟩) rfl rfl rfl rfl JU (fun w _ hS=>HB hS.ext rfl)) ?_
 refine mH ?_;refine xi ?_;refine mI JF Jm 4 ?_;refine mI Jh JP 8 ?_
 refine aM.v (ae.ld (p:=⟨bs,8,none⟩) rfl rfl rfl rfl JU (fun w _ hS=>HB hS.ext rfl)) ?_
 refine mH ?_
 refine aM.v (ae.idx rfl rfl rfl rfl rfl Jg I9 ⟨_,hxfr⟩ (by simp) (k) ⟨rfl,by simpa using hk⟩) ?_
 refine aM.v (ae.ld rfl rfl rfl rfl Ja (fun w _ hS=>(jU.ay hxfr hS.ext).at (k) hk)) ?_
 refine aM.v (ae.idx rfl rfl rfl rfl rfl Jg I9 ⟨_,hlst⟩ (by simp [iL]) j ⟨by rw [hj],by simpa using hjl⟩) ?_
 refine aM.v (ae.ld rfl rfl rfl rfl Ja (fun w _ hS=>Sl.at (enc:=bK) (jU.ay hlst hS.ext) j hjl)) ?_
 refine AF ?_
 refine aM.nil ?_
 refine gE ?_
 refine gT func82 fun w' hS=>?_
 exact ⟨hS.ext,by rw [←hgj];rfl⟩
def kT (know:Int) (t:Tr):Tr:=if 0≤know then ar know t else t
theorem Cb {know:Int} {t:Tr} (h:know<4) (ht:t.ok):(kT know t).ok:=by
 unfold kT;split
 ·exact bt ⟨by assumption,h⟩ ht
 exact ht
theorem xF {b:List NV} (hb:aY b) {k:Int} (hk:0≤k∧k<b.length):(tA b k).ok:=hb.ok (by omega)
set_option maxRecDepth 8000 in
theorem AL (p:SP) (a:Option Addr) (ca:Nat) (xs:List Int) (f:FV) (g:Tr) (know:Int) (w:World) (h:Gm p w) (hb:aY p.b) (hxs:jU w a xs) (hx:∀x∈xs,0≤x∧x<p.b.length) (hfa:FA w f.a f.f) (hf:f.f=bT g) (hg:g.ok) (hk:know<4) (hl:xs.length≤1000):
    Cn Tryz.prog 173 [.pointer (some ⟨p.bs,0,none⟩),.slice a xs.length ca,f.v,.int .i64 know] w (fun v w'=>(v=f.v∧f.f=bT (ct (xs.map (fun x=>kT know (tA p.b x))) g))∨fY 66 w w' v (bT (ct (xs.map (fun x=>kT know (tA p.b x))) g))):=by
  obtain ⟨us,hus⟩:∃us,us=xs.map (fun x=>kT know (tA p.b x)):=⟨_,rfl⟩
  have hul:us.length=xs.length:=by rw [hus,List.length_map]
  have huo:∀u∈us,u.ok:=fun u hu=>by
    rw [hus] at hu
    obtain ⟨x,hm,rfl⟩:=List.mem_map.1 hu
    exact Cb hk (xF hb (hx x hm))
  rw [←hus]
  refine Cn.of func173 rfl rfl ?_
  refine gS (gR ?_);refine ai ?_;refine gE (gS (gS (gR ?_)));refine ah ?_;refine dY Jg ?_;refine df rfl rfl rfl rfl (og (by omega)) ?_;refine ai ?_;refine gE (gB ?_)
  refine ab.cQ (eO 66 f.f []) ?_
  refine ab.loop (σ:=Nat×FV×Option Nat×List Value) (fun z=>[(0,.pointer (some ⟨p.bs,0,none⟩)),(1,.slice a xs.length ca),(2,z.2.1.v),(3,.int .i64 know),(9,.int .i64 ((xs.length:Int) - 1 - z.1))]) (fun z=>[(z.2.2.1,eO 66 z.2.1.f z.2.2.2)])
    (fun z=>z.1≤xs.length∧z.2.1.f=bT (ct (us.drop (us.length - z.1)) g)∧((z.1=0∧z.2.1=f)∨(z.2.1.a=z.2.2.1.map (fun b=>⟨b,0,none⟩)∧(z.2.2.1=none→z.2.1.f.length=0∧z.2.1.c=0)∧(z.2.1.f.flatMap NV.cells++z.2.2.2).length=z.2.1.c*6∧z.2.1.Z))) (fun z=>xs.length - z.1) (0,f,none,[]) ⟨Nat.zero_le _,by simp [ct];exact hf,.inl ⟨rfl,rfl⟩⟩ ⟨rfl,rfl,rfl,rfl,by dsimp only;rw [show (xs.length:Int) - 1 - ((0:Nat):Int)=(xs.length:Int) - 1 by omega];rfl,trivial⟩ (List.Sublist.refl _) (fun z hI IH=>?_)
  obtain ⟨j,y,q,sp⟩:=z
  obtain ⟨hj,hyf,hyc⟩:=hI
  dsimp only at hj hyf hyc IH⊢
  have hya:∀{w':World} {h':Hl} {Y':List (Nat×Obj)} (jj:Nat),St w [] w' h' Y'→h'[jj]?=some (q,eO 66 y.f sp)→FA w' y.a y.f:=fun jj hS hjj=>by
    rcases hyc with ⟨_,rfl⟩|⟨e1,e2,_⟩
    · exact hfa.ay hS.ext
    rw [e1];exact aL hS jj hjj (fun e=>(e2 e).1)
  refine gS (gS (gR ?_));refine ah ?_;refine aw oN ?_;refine gE ?_
  refine gC (fun hc=>?_) fun hc=>?_
  ·
   have hlt:j<xs.length:=by simp at hc;omega
   obtain ⟨i,hid⟩:∃i,i=xs.length - 1 - j:=⟨_,rfl⟩
   have hi:i<xs.length:=by omega
   have hiI:(xs.length:Int) - 1 - j=(i:Int):=by omega
   have hxi:=hx xs[i] (List.getElem_mem hi)
   have hti:us[i]'(by omega)=kT know (tA p.b xs[i]):=by simp [hus]
   have hch:ct (us.drop (us.length - (j+1))) g=aR (kT know (tA p.b xs[i])) (ct (us.drop (us.length - j)) g):=by
     rw [vS (by omega),←hti]
     congr 1
     simp only [hid,hul]
   have hyo:(ct (us.drop (us.length - j)) g).ok:=lu (fun u hu=>huo u (List.mem_of_mem_drop hu)) hg
   have hto:=xF hb hxi
   rw [hiI]
   refine gK (gS (gB (gS (gR ?_))))
   iterate 3 refine ah ?_
   refine ab.v (ae.idx rfl rfl rfl rfl rfl Jg I9 ⟨_,hxs⟩ (by simp) (i) ⟨rfl,by simpa using hi⟩) ?_
   refine ab.v (ae.ld rfl rfl rfl rfl Ja (fun w _ hS=>(jU.ay hxs hS.ext).at (i) hi)) ?_
   refine gM rfl rfl rfl rfl rfl call81 (fun w _ hS=>(by exact ib p xs[i] w (h.ay hS.ext) hb hxi)) ?_
   rintro v w1 w2 Y' hS he ho
   obtain ⟨q1,c1,sp1,rfl,hq1,hc1,hS'⟩:=ak hS he ho
   refine ⟨_,hS',?_⟩
   refine ai ?_;refine gE (gS (gS (gR ?_)));refine ah ?_;refine aw oN ?_;refine gE ?_
   refine gC (fun hc=>?_) fun hc=>?_
   ·
    have h0:0≤know:=by simpa using hc
    have hkT:kT know (tA p.b xs[i])=ar know (tA p.b xs[i]):=if_pos h0
    refine gR ?_
    iterate 2 refine ah ?_
    refine gM rfl rfl rfl rfl rfl JA (fun w _ hS=>(by exact dL know ⟨h0,hk⟩ ⟨q1.map (fun b=>⟨b,0,none⟩),c1,bT (tA p.b xs[i])⟩ _ w (aL hS 0 rfl (fun e=>(hq1 e).1)) rfl hto)) ?_
    rintro v w1 w2 Y' hS he ⟨ho,_⟩
    rw [←hkT] at ho
    obtain ⟨q2,c2,oT,rfl,hq2,hc2,hS'⟩:=ak hS he ho
    refine ⟨_,hS',?_⟩
    refine ai ?_;refine gE (gR ?_)
    iterate 2 refine ah ?_
    refine gM rfl rfl rfl rfl rfl JC (fun w _ hS=>(by exact fF ⟨q2.map (fun b=>⟨b,0,none⟩),c2,bT (kT know (tA p.b xs[i]))⟩ y _ _ w (aL hS 0 rfl (fun e=>(hq2 e).1)) rfl (Cb hk hto) (hya 2 hS rfl) hyf hyo)) ?_
    rintro v w1 w2 Y' hS he ⟨ho,hz⟩
    rw [←hch] at ho hz
    obtain ⟨q3,c3,sp3,rfl,hq3,hc3,hS'⟩:=ak hS he ho
    refine ⟨_,hS',?_⟩
    refine ai ?_;refine gE (dQ (gR ?_));refine ah ?_;refine df rfl rfl rfl rfl (og (by omega)) ?_;refine ai ?_;refine gE ?_
    rw [je]
    refine IH (j+1,⟨q3.map (fun b=>⟨b,0,none⟩),c3,bT (ct (us.drop (us.length - (j+1))) g)⟩,q3,sp3) _ _ ⟨hlt,rfl,.inr ⟨rfl,hq3,hc3,fun e=>?_⟩⟩ (by dsimp only;omega) ⟨rfl,rfl,rfl,rfl,by dsimp only;rw [show (xs.length:Int) - 1 - ((j+1:Nat):Int)=(i:Int) - 1 by omega];rfl,trivial⟩ (.cons_cons _ (List.nil_sublist _))
    have:=hz e
    cases q3 with
    |none=>rfl
    |some b=>cases this
   have h0:¬0≤know:=by simpa using hc
   have hkT:kT know (tA p.b xs[i])=tA p.b xs[i]:=if_neg h0
   rw [hkT] at hch
   refine gK (gR ?_)
   iterate 2 refine ah ?_
   refine gM rfl rfl rfl rfl rfl JC (fun w _ hS=>(by exact fF ⟨q1.map (fun b=>⟨b,0,none⟩),c1,bT (tA p.b xs[i])⟩ y _ _ w (aL hS 0 rfl (fun e=>(hq1 e).1)) rfl hto (hya 1 hS rfl) hyf hyo)) ?_
   rintro v w1 w2 Y' hS he ⟨ho,hz⟩
   rw [←hch] at ho hz
   obtain ⟨q3,c3,sp3,rfl,hq3,hc3,hS'⟩:=ak hS he ho
   refine ⟨_,hS',?_⟩
   refine ai ?_;refine gE (dQ (gR ?_));refine ah ?_;refine df rfl rfl rfl rfl (og (by omega)) ?_;refine ai ?_;refine gE ?_
   rw [je]
   refine IH (j+1,⟨q3.map (fun b=>⟨b,0,none⟩),c3,bT (ct (us.drop (us.length - (j+1))) g)⟩,q3,sp3) _ _ ⟨hlt,rfl,.inr ⟨rfl,hq3,hc3,fun e=>?_⟩⟩ (by dsimp only;omega) ⟨rfl,rfl,rfl,rfl,by dsimp only;rw [show (xs.length:Int) - 1 - ((j+1:Nat):Int)=(i:Int) - 1 by omega];rfl,trivial⟩ (.cons_cons _ (List.nil_sublist _))
   have:=hz e
   cases q3 with
   |none=>rfl
   |some b=>cases this
  have hge:¬j<xs.length:=by simp at hc;omega
  obtain rfl:j=xs.length:=by omega
  have hfin:ct (us.drop (us.length - xs.length)) g=ct us g:=by rw [hul,Nat.sub_self];rfl
  rw [hfin] at hyf
  refine ab.exit rfl (gS (gR ?_))
  refine ah ?_;refine ai ?_;refine gE ?_
  refine gT func173 fun w' hS=>?_
  refine ⟨hS.ext,?_⟩
  rcases hyc with ⟨_,rfl⟩|⟨e1,e2,e3,e4⟩
  · exact .inl ⟨rfl,hyf⟩
  refine .inr ?_
  rw [←hyf]
  have hv:y.v=cK q y.f.length y.c:=by unfold FV.v cK;rw [e1]
  refine ⟨?_,fun e=>?_⟩
  · show aI _ _ _ y.v _
    rw [hv];exact aI.mk hS 0 rfl rfl e2 e3
  show y.v=_
  have h1:=e4 e
  have h2:y.c=0:=(e2 (by rw [e1] at h1;cases q with
    |none=>rfl
    |some b=>cases h1)).2
  unfold FV.v;rw [h1,h2,e];rfl
end Go.Proofs.YtnfmegcknckahaaGreatDoor
namespace Go.Proofs.YtnfmegcknckahaaGreatDoor
open Go.RowKit Go.Proofs.Wit Tryz
theorem Dr {t:Tr}:kT (-1) t=t:=if_neg (by decide)
theorem Bh {ns:List Nat} {j:Nat}:(iL ns).take j=iL (ns.take j):=by simp [iL]
theorem Ft {b:List NV} {ns:List Nat}:(iL ns).map (fun x=>kT (-1) (tA b x))=ns.map (aa b):=by
 unfold iL;rw [List.map_map]
 exact List.map_congr_left (fun n _=>Dr)
theorem Fv {b:List NV} {ns:List Nat} {a:Int} (ha:0≤a):(iL ns).map (fun x=>kT a (tA b x))=(ns.map (aa b)).map (ar a):=by
 unfold iL;rw [List.map_map,List.map_map]
 exact List.map_congr_left (fun n _=>if_pos ha)
abbrev F9 (p:SP) (hR:Hl):Prop:=p.In 76 66 41 3 hR
abbrev SR (p:SP) (S:List Nat) (w:World):Prop:=p.R 76 S w
theorem gu (p:SP) (a:Option Addr) (n ca:Nat) (xs:List Int) (f:FV) (g u:Tr) (know:Int) (w:World) (hn:n=xs.length) (hu:u=ct (xs.map (fun x=>kT know (tA p.b x))) g) (h:Gm p w) (hb:aY p.b) (hxs:jU w a xs) (hx:∀x∈xs,0≤x∧x<p.b.length) (hfa:FA w f.a f.f) (hf:f.f=bT g) (hg:g.ok) (hk:know<4) (hl:xs.length≤1000):
  Cn Tryz.prog 173 [.pointer (some ⟨p.bs,0,none⟩),.slice a n ca,f.v,.int .i64 know] w (fun v w'=>(v=f.v∧f.f=bT u)∨fY 66 w w' v (bT u)):=by
 subst hn hu
 exact AL p a ca xs f g know w h hb hxs hx hfa hf hg hk hl
set_option maxRecDepth 8000 in
theorem xv (p:SP) (hR:Hl) (Γ:List FV) (σ:Sg) (a:Int) (ns:List Nat) (qL:Option Nat) (LL:List Int) (spL:List Value) (cL:Nat) (y:FV) (g:Tr) (j0:Nat) (w:World) (hin:F9 p hR) (hb:aY p.b) (hfr:0<p.x.d.fr.length) (hfr0:p.x.d.fr[0]=(j0:Int)) (hj0:j0<p.last.length)
    (ha:0≤a∧a<4) (hLm:(qL,ob bK 3 LL spL)∈hR) (hLq:qL=none→LL=[]) (hLt:LL.take ns.length=iL ns) (hcL:ns.length≤cL) (hn:∀n∈ns,n<p.b.length) (hnl:ns.length≤64) (hy:y∈Γ) (hyf:y.f=bT g) (hg:g.ok) (hyz:y.Z) (hline:σ.bad=false→p.last.getD j0 0<σ.ls.length):
    XW p.bw Γ σ 129 [.pointer (some ⟨p.bs,0,none⟩),.int .i64 a,.slice (qL.map (fun b=>⟨b,0,none⟩)) ns.length cL,y.v] w hR (lR af a (ns.map (aa p.b)) g (p.last.getD j0 0) σ):=by
  refine rq.of func129 rfl rfl (fun s hW hH=>?_)
  obtain ⟨S,hSd⟩:∃S,S=cI (cd 73 48 (xE σ.bad) p.bw s):=⟨_,rfl⟩
  have hr:SR p (cI (cd 73 48 (xE σ.bad) p.bw s)) w:=hin.r hH
  have hLs:=hH.HE hLm hLq
  have hil:(iL ns).length=ns.length:=iE
  have hsl:∀(w':World),Ex (cI (cd 73 48 (xE σ.bad) p.bw s)) w w'→jU w' (qL.map (fun b=>⟨b,0,none⟩)) (iL ns):=fun w' e=>by
    have h1:=vi (hLs.ay e) ns.length
    rw [←List.map_take,hLt] at h1
    exact h1
  have HB:∀{w':World} {j:Nat} {u:Value},Ex (cI (cd 73 48 (xE σ.bad) p.bw s)) w w'→p.cs[j]?=some u→w'.cell? ⟨p.bs,j,none⟩=some u:=fun e hu=>Ex.cell (Ex.refl _ _) (hr.ex e).dg hu
  obtain ⟨us,hus⟩:∃us,us=ns.map (aa p.b):=⟨_,rfl⟩
  have hul:us.length=ns.length:=by rw [hus,List.length_map]
  have huo:∀u∈us,u.ok:=fun u hu=>by
    rw [hus] at hu
    obtain ⟨n,hm,rfl⟩:=List.mem_map.1 hu
    exact hb.ok (hn n hm)
  have hxi:∀x∈iL ns,0≤x∧x<p.b.length:=fun x hx=>by
    obtain ⟨n,hm,rfl⟩:=List.mem_map.1 hx
    have:=hn n hm;omega
  have hco:(ct us g).ok:=lu huo hg
  have hall:(iL ns).map (fun x=>kT (-1) (tA p.b x))=us:=by rw [Ft,hus]
  have hallc:ct us g=ct ((iL ns).map (fun x=>kT (-1) (tA p.b x))) g:=by rw [hall]
  rw [←hus]
  obtain ⟨bs,hbs⟩:∃bs,bs=p.bs:=⟨_,rfl⟩
  rw [←hbs] at HB
  have hpb:(Value.pointer (some ⟨p.bs,0,none⟩))=.pointer (some ⟨bs,0,none⟩):=by rw [hbs]
  rw [hpb]
  refine gS (gR ?_);refine ai ?_;refine gE (gS (gR ?_));refine ah ?_;refine kk ?_;refine al JF sizeOf70 0 ?_
  refine ab.v (ae.ld (p:=⟨bs,0,none⟩) rfl rfl rfl rfl isAgg70 (fun w _ hS=>HB hS.ext rfl)) ?_
  refine ai ?_;refine gE (gS (gR ?_))
  iterate 4 refine ah ?_
  rw [←hil,hbs]
  refine ab.zS (pre:=[]) (u:=ct us g) hW hy hyz rfl rfl rfl rfl rfl (fun _ _=>call173 _ _) (fun w Y' hS=>gu p _ _ cL (iL ns) y g _ (-1) w rfl hallc (hr.ex hS.ext) hb (hsl w hS.ext) hxi (hW.fa (pre:=[]) hy hS) hyf hg (by decide) (by omega)) (fun x1 s1 Γ1 hm1 hg1 hf1 hz1 hW1=>?_)
  refine ah ?_
  refine gP rfl rfl rfl rfl rfl call82 (fun w _ hS=>(by exact kp p 0 j0 w (hr.ex hS.ext) hfr hfr0 hj0)) ?_
  refine ab.eh (c:=[_]) rfl rfl rfl rfl Jg I9 Jv rfl rfl (fun b25=>?_)
  refine ab.bu (pre:=[_]) (hR':=[(some b25,ob bK 3 (iL [p.last.getD j0 0]) [])]) hH hW1 (.cons_cons _ (List.nil_sublist _)) rfl rfl rfl rfl rfl (fun _ _=>JI _ _) (fun w Y' hS=>bC p.bw _ _ x1 _ (some b25) [p.last.getD j0 0] 1 [] w hm1 hf1 hco hz1 (fun e=>by cases e) (fun hb n hn=>by rw [List.mem_singleton.1 hn];exact hline hb) (by simp)) (fun s2 Γ2 hW2 hg2=>?_)
  have hy2:y∈Γ2:=hg2 (hg1 hy)
  refine ai ?_;refine gE (gS (gR ?_))
  iterate 5 refine ah ?_
  refine ab.zS (pre:=[_]) (u:=ct us g) hW2 hy2 hyz rfl rfl rfl rfl rfl (fun _ _=>call173 _ _) (fun w Y' hS=>gu p _ _ cL (iL ns) y g _ (-1) w rfl hallc (hr.ex hS.ext) hb (hsl w hS.ext) hxi (hW2.fa (pre:=[_]) hy2 hS) hyf hg (by decide) (by omega)) (fun x3 s3 Γ3 hm3 hg3 hf3 hz3 hW3=>?_)
  refine ab.iD (pre:=[_]) (u:=ar a (ct us g)) hW3 rfl rfl rfl rfl rfl (fun _ _=>JA _ _) (fun w Y' hS=>by exact dL a ha x3 _ w (hW3.fa (pre:=[_]) hm3 hS) hf3 hco) (fun x4 s4 hf4 hz4 hW4=>?_)
  iterate 2 refine ah ?_
  refine ab.v (ae.eM rfl rfl rfl rfl (bd48 (c:=[_,_,_,_,_]) rfl)) ?_
  refine ab.bu (pre:=[_]) (hR':=[]) hH hW4 (List.nil_sublist _) rfl rfl rfl rfl rfl (fun _ _=>call83 _ _) (fun w Y' hS=>by exact iZ p.bw _ _ x4 _ 11 _ 0 a w (List.mem_cons_self ..) hf4 (bt ha hco) hz4) (fun s5 Γ5 hW5 hg5=>?_)
  refine ai ?_;refine gE (gS (gS (gR ?_)));refine ah ?_;refine dY Jg ?_;refine ah ?_;refine gE (gB ?_)
  refine ab.aT (pre:=[_]) (pre':=[]) (cd 73 48 (xE _) p.bw s5) [] (by decide) rfl ?_
  refine ab.loop (σ:=Nat×Nat×Sg×Ws×List FV) (fun z=>[(0,.pointer (some ⟨p.bs,0,none⟩)),(1,.int .i64 a),(2,.slice (qL.map (fun b=>⟨b,0,none⟩)) (iL ns).length cL),(3,y.v),(9,.pointer (some ⟨p.bw,0,none⟩)),(11,.int .i64 (z.2.1:Int)),(38,.slice (qL.map (fun b=>⟨b,0,none⟩)) (iL ns).length cL),(39,.int .i64 (iL ns).length),(40,.int .i64 z.1)])
    (fun z=>cd 73 48 (xE z.2.2.1.bad) p.bw z.2.2.2.1)
    (fun z=>z.1≤ns.length∧ff 66 z.2.2.2.2 z.2.2.1 z.2.2.2.1∧Γ⊆z.2.2.2.2∧(z.2.2.1.bad=false→z.2.1<z.2.2.1.ls.length)∧se af a g (us.take z.1) (us.drop z.1) z.2.1 z.2.2.1=lR af a us g (p.last.getD j0 0) σ)
    (fun z=>ns.length - z.1) (0,_,_,s5,Γ5) ⟨Nat.zero_le _,hW5,fun _ h=>hg5 (List.mem_cons_of_mem _ (hg3 (hg2 (hg1 h)))),fun h=>(bM h).1,rfl⟩ ⟨rfl,rfl,rfl,rfl,rfl,rfl,rfl,rfl,rfl,trivial⟩ (List.Sublist.refl _) (fun z hI IH=>?_)
  obtain ⟨j,r,σj,sj,Γj⟩:=z
  obtain ⟨hj,hWj,hgj,hrj,hch⟩:=hI
  dsimp only at hj hWj hgj hrj hch IH⊢
  refine gS (gR ?_);refine aw jl ?_;refine gE (gS ?_)
  refine gC (fun hc=>?_) fun hc=>?_
  ·
   have hlt:j<ns.length:=by rw [hil] at hc;simpa using hc
   have hju:j<us.length:=by omega
   have hji:j<(iL ns).length:=by omega
   have hij:(iL ns)[j]=(ns[j]:Int):=by simp [iL]
   have hjb:ns[j]<p.b.length:=hn _ (List.getElem_mem hlt)
   have huj:us[j]=tA p.b (iL ns)[j]:=by rw [hij];simp [hus,i6]
   have hdo:(ct (us.drop (j+1)) g).ok:=lu (fun u hu=>huo u (List.mem_of_mem_drop hu)) hg
   have hko:=bt ha hdo
   have h2o:(ct ((us.take (j+1)).map (ar a)) (ar a (ct (us.drop (j+1)) g))).ok:=lu (fun u hu=>by
     obtain ⟨v,hv,rfl⟩:=List.mem_map.1 hu
     exact bt ha (huo v (List.mem_of_mem_take hv))) hko
   have huo2:us[j].ok:=huo _ (List.getElem_mem hju)
   have hyj:=hgj hy
   rw [List.drop_eq_getElem_cons hju,se] at hch
   rw [show us.take j++[us[j]]=us.take (j+1) from (List.take_succ_eq_append_getElem hju).symm] at hch
   have hd1:ct (us.drop (j+1)) g=ct (((iL ns).drop (j+1)).map (fun x=>kT (-1) (tA p.b x))) g:=by rw [List.map_drop,hall]
   have hd2:ct ((us.take (j+1)).map (ar a)) (ar a (ct (us.drop (j+1)) g))=ct (((iL ns).take (j+1)).map (fun x=>kT a (tA p.b x))) (ar a (ct (us.drop (j+1)) g)):=by simp only [List.map_take,Fv ha.1,←hus]
   have hxd:∀x∈(iL ns).drop (j+1),0≤x∧x<p.b.length:=fun x hx=>hxi x (List.mem_of_mem_drop hx)
   have hxt:∀x∈(iL ns).take (j+1),0≤x∧x<p.b.length:=fun x hx=>hxi x (List.mem_of_mem_take hx)
   have hdl:(iL ns).length - (j+1)=((iL ns).drop (j+1)).length:=by rw [List.length_drop]
   have htl:j+1=((iL ns).take (j+1)).length:=by rw [List.length_take];omega
   have hdr:∀(w':World),Ex (cI (cd 73 48 (xE σ.bad) p.bw s)) w w'→jU w' (Cq (qL.map (fun b=>⟨b,0,none⟩)) cL (j+1) 1) ((iL ns).drop (j+1)):=fun w' e=>by
     have:=(hsl w' e).drop (cap:=cL) (lo:=j+1) (by simp [iL];omega)
     rw [←List.map_drop] at this;exact this
   have htk:∀(w':World),Ex (cI (cd 73 48 (xE σ.bad) p.bw s)) w w'→jU w' (qL.map (fun b=>⟨b,0,none⟩)) ((iL ns).take (j+1)):=fun w' e=>by
     have:=vi (hsl w' e) (j+1)
     rw [←List.map_take] at this;exact this
   have hrk:(kW af a us[j] (ct (us.drop (j+1)) g) σj).2.bad=false→∀n∈[r,(kW af a us[j] (ct (us.drop (j+1)) g) σj).1],n<(kW af a us[j] (ct (us.drop (j+1)) g) σj).2.ls.length:=fun hb n hn=>by
     simp only [List.mem_cons,List.not_mem_nil,or_false] at hn
     rcases hn with rfl|rfl
     · exact Nat.lt_of_lt_of_le (hrj (tv.ok hb)) tv.pre.length_le
     exact (bM hb).1
   refine gK (gS (gB (gS (gR ?_))));refine ah ?_;refine ai ?_;refine gE (gS ?_)
   refine ab.jG 18 (([])) mixed ?_
   refine cV 0 (ae.mv rfl rfl rfl rfl) ?_
   refine cV 1 (ae.mv rfl rfl rfl rfl) ?_
   refine cV 2 (ae.mv rfl rfl rfl rfl) ?_
   refine cV 3 (ae.mv rfl rfl rfl rfl) ?_
   refine cV 4 (ae.mv rfl rfl rfl rfl) ?_
   refine cV 5 (ae.idx rfl rfl rfl rfl rfl Jg I9 ⟨_,hsl _ (Ex.refl _ _)⟩ (by simp [iL]) j ⟨rfl,by simpa using hji⟩) ?_
   refine cV 6 (ae.ld rfl rfl rfl rfl Ja (fun w _ hS=>Sl.at (enc:=bK) (hsl w hS.ext) j hji)) ?_
   refine cV 8 (ae.mv rfl rfl rfl rfl) ?_
   refine cV 9 (ae.mv rfl rfl rfl rfl) ?_
   refine cV 10 (ae.mv rfl rfl rfl rfl) ?_
   refine cV 11 (ae.bin rfl rfl rfl rfl (cD (by omega)) rfl) ?_
   refine cV 12 (ae.CP (lo:=j+1) rfl rfl rfl rfl rfl Jg I9 rfl (by omega)) ?_
   refine cV 13 (ae.mv rfl rfl rfl rfl) ?_
   refine aG.one (i:=7) rfl (dk.uw (pre:=[]) (u:=tA p.b (iL ns)[j]) hWj rfl rfl rfl rfl rfl (fun _ _=>call81 _ _) (fun w Y' hS=>ib p _ w (hr.ex hS.ext) hb (hxi _ (List.getElem_mem hji))) (fun x1 s1 hf1 hW1=>⟨List.nil_sublist _,?_⟩)) rfl
   refine aG.one (i:=14) rfl (dk.zS (pre:=[]) (u:=ct (us.drop (j+1)) g) hW1 (List.mem_cons_of_mem _ hyj) hyz rfl rfl rfl rfl rfl (fun _ _=>call173 _ _) (fun w Y' hS=>gu p _ _ _ ((iL ns).drop (j+1)) y g _ (-1) w hdl hd1 (hr.ex hS.ext) hb (hdr w hS.ext) hxd (hW1.fa (pre:=[]) (List.mem_cons_of_mem _ hyj) hS) hyf hg (by decide) (by simp;omega)) (fun x2 s2 Γ2 hm2 hg2 hf2 hz2 hW2=>⟨List.nil_sublist _,?_⟩)) rfl
   refine aG.one (i:=15) rfl (dk.bu (pre:=[]) (hR':=[]) hH hW2 (List.nil_sublist _) rfl rfl rfl rfl rfl (fun _ _=>call117 _ _) (fun w Y' hS=>xx p.bw _ _ a x1 x2 us[j] _ w ha (hg2 (List.mem_cons_self ..)) (by rw [huj];exact hf1) huo2 hm2 hf2 hdo) (fun s3 Γ3 hW3 hg3=>⟨List.nil_sublist _,?_⟩)) rfl
   have hy3:y∈Γ3:=hg3 (hg2 (List.mem_cons_of_mem _ hyj))
   refine cV 16 (ae.fh rfl rfl rfl rfl) ?_
   refine aG.done rfl ?_
   refine gE ?_
   refine ab.lF (α:={z:Ws×List FV // ff 66 z.2 (aX af (ct ((us.take (j+1)).map (ar a)) (ar a (ct (us.drop (j+1)) g))) [r,(kW af a (us[j]'hju) (ct (us.drop (j+1)) g) σj).1] (kW af a (us[j]'hju) (ct (us.drop (j+1)) g) σj).2).2 z.1∧Γ3⊆z.2}) [] (fun _=>[(0,.pointer (some ⟨p.bs,0,none⟩)),(1,.int .i64 a),(2,.slice (qL.map (fun b=>⟨b,0,none⟩)) (iL ns).length cL),(3,y.v),(9,.pointer (some ⟨p.bw,0,none⟩)),(38,.slice (qL.map (fun b=>⟨b,0,none⟩)) (iL ns).length cL),(39,.int .i64 (iL ns).length),(40,.int .i64 j),(11,.int .i64 ((aX af (ct ((us.take (j+1)).map (ar a)) (ar a (ct (us.drop (j+1)) g))) [r,(kW af a (us[j]'hju) (ct (us.drop (j+1)) g) σj).1] (kW af a (us[j]'hju) (ct (us.drop (j+1)) g) σj).2).1:Int))])
     (fun z=>cd 73 48 (xE (aX af (ct ((us.take (j+1)).map (ar a)) (ar a (ct (us.drop (j+1)) g))) [r,(kW af a (us[j]'hju) (ct (us.drop (j+1)) g) σj).1] (kW af a (us[j]'hju) (ct (us.drop (j+1)) g) σj).2).2.bad) p.bw z.1.1) (fun z=>?_) (fun K2=>?_)
   obtain ⟨⟨s8,Γ8⟩,hW8,hg8⟩:=z
   dsimp only at hW8 hg8⊢
   · -- what comes behind the region
    refine gE (dQ (gR ?_));refine df rfl rfl rfl rfl (cD (by omega)) ?_;refine ah ?_;refine gE ?_
    exact IH (j+1,_,_,s8,Γ8) _ _ ⟨hlt,hW8,fun _ h=>hg8 (hg3 (hg2 (List.mem_cons_of_mem _ (hgj h)))),fun h=>(eB h).1,hch⟩ (by dsimp only;omega) ⟨rfl,rfl,rfl,rfl,rfl,rfl,rfl,rfl,rfl,trivial⟩ (List.Sublist.refl _)
   · -- the region
    refine ab.jG 23 (([])) mixed ?_
    refine cV 0 (ae.mv rfl rfl rfl rfl) ?_
    refine cV 1 (ae.mv rfl rfl rfl rfl) ?_
    refine cV 2 (ae.mv rfl rfl rfl rfl) ?_
    refine cV 3 (ae.mv rfl rfl rfl rfl) ?_
    refine cV 4 (ae.bin rfl rfl rfl rfl (cD (by omega)) rfl) ?_
    refine cV 5 (ae.EU (hi:=j+1) rfl rfl rfl rfl rfl Jg I9 rfl (by omega)) ?_
    refine cV 6 (ae.mv rfl rfl rfl rfl) ?_
    refine cV 7 (ae.mv rfl rfl rfl rfl) ?_
    refine cV 8 (ae.mv rfl rfl rfl rfl) ?_
    refine cV 9 (ae.mv rfl rfl rfl rfl) ?_
    refine cV 10 (ae.bin rfl rfl rfl rfl (cD (by omega)) rfl) ?_
    refine cV 11 (ae.CP (lo:=j+1) rfl rfl rfl rfl rfl Jg I9 rfl (by omega)) ?_
    refine cV 12 (ae.mv rfl rfl rfl rfl) ?_
    refine cV 15 (ae.mv rfl rfl rfl rfl) ?_
    refine cV 17 (ae.mv rfl rfl rfl rfl) ?_
    refine cV 18 (ae.mv rfl rfl rfl rfl) ?_
    refine aG.two (i:=13) (j:=19) rfl (dk.zS (pre:=[]) (u:=ct (us.drop (j+1)) g) hW3 hy3 hyz rfl rfl rfl rfl rfl (fun _ _=>call173 _ _) (fun w Y' hS=>gu p _ _ _ ((iL ns).drop (j+1)) y g _ (-1) w hdl hd1 (hr.ex hS.ext) hb (hdr w hS.ext) hxd (hW3.fa (pre:=[]) hy3 hS) hyf hg (by decide) (by simp;omega)) (fun x4 s4 Γ4 hm4 hg4 hf4 hz4 hW4=>⟨(List.nil_sublist _),?_⟩)) rfl (dk.eh (c:=[_,_]) rfl rfl rfl rfl Jg I9 Jv rfl rfl (fun b78=>⟨(List.nil_sublist _),?_⟩)) rfl
    · -- operation 13 next
     refine aG.two (i:=14) (j:=19) rfl (dk.iD (pre:=[]) (u:=ar a (ct (us.drop (j+1)) g)) hW4 rfl rfl rfl rfl rfl (fun _ _=>JA _ _) (fun w Y' hS=>dL a ha x4 _ w (hW4.fa (pre:=[]) hm4 hS) hf4 hdo) (fun x5 s5 hf5 hz5 hW5=>⟨(List.nil_sublist _),?_⟩)) rfl (dk.eh (c:=[_,_]) rfl rfl rfl rfl Jg I9 Jv rfl rfl (fun b78=>⟨(List.nil_sublist _),?_⟩)) rfl
     · -- operation 14 next
      refine aG.two (i:=16) (j:=19) rfl (dk.zS (pre:=[]) (u:=ct ((us.take (j+1)).map (ar a)) (ar a (ct (us.drop (j+1)) g))) hW5 (List.mem_cons_self ..) hz5 rfl rfl rfl rfl rfl (fun _ _=>call173 _ _) (fun w Y' hS=>gu p _ _ _ ((iL ns).take (j+1)) x5 _ _ a w htl hd2 (hr.ex hS.ext) hb (htk w hS.ext) hxt (hW5.fa (pre:=[]) (List.mem_cons_self ..) hS) hf5 hko ha.2 (by simp;omega)) (fun x6 s6 Γ6 hm6 hg6 hf6 hz6 hW6=>⟨(List.nil_sublist _),?_⟩)) rfl (dk.eh (c:=[_,_]) rfl rfl rfl rfl Jg I9 Jv rfl rfl (fun b78=>⟨(List.nil_sublist _),?_⟩)) rfl
      · -- operation 16 next
       refine aG.one (i:=19) rfl (dk.eh (c:=[_,_]) rfl rfl rfl rfl Jg I9 Jv rfl rfl (fun b78=>⟨sL,?_⟩)) rfl
       refine aG.one (i:=20) rfl (dk.bu (pre:=[_]) (hR':=[(some b78,ob bK 3 (iL [r,(kW af a (us[j]'hju) (ct (us.drop (j+1)) g) σj).1]) [])]) hH hW6 (.cons_cons _ (List.nil_sublist _)) rfl rfl rfl rfl rfl (fun _ _=>JI _ _) (fun w Y' hS=>bC p.bw _ _ x6 _ (some b78) [r,(kW af a (us[j]'hju) (ct (us.drop (j+1)) g) σj).1] 2 [] w hm6 hf6 h2o hz6 (fun e=>by cases e) hrk (by simp)) (fun s7 Γ7 hW7 hg7=>⟨(List.nil_sublist _),?_⟩)) rfl
       refine cV 21 (ae.fh rfl rfl rfl rfl) ?_
       refine aG.done rfl ?_
       exact K2 ⟨(s7,Γ7),hW7,fun _ h=>hg7 (hg6 (List.mem_cons_of_mem _ (hg4 h)))⟩ _ _ sF (fun _ _ hS=>hS.dH (List.sublist_append_right [_] _))
      · -- operation 19 next
       refine aG.one (i:=16) rfl (dk.zS (pre:=[_]) (u:=ct ((us.take (j+1)).map (ar a)) (ar a (ct (us.drop (j+1)) g))) hW5 (List.mem_cons_self ..) hz5 rfl rfl rfl rfl rfl (fun _ _=>call173 _ _) (fun w Y' hS=>gu p _ _ _ ((iL ns).take (j+1)) x5 _ _ a w htl hd2 (hr.ex hS.ext) hb (htk w hS.ext) hxt (hW5.fa (pre:=[_]) (List.mem_cons_self ..) hS) hf5 hko ha.2 (by simp;omega)) (fun x6 s6 Γ6 hm6 hg6 hf6 hz6 hW6=>⟨(List.nil_sublist _),?_⟩)) rfl
       refine aG.one (i:=20) rfl (dk.bu (pre:=[_]) (hR':=[(some b78,ob bK 3 (iL [r,(kW af a (us[j]'hju) (ct (us.drop (j+1)) g) σj).1]) [])]) hH hW6 (.cons_cons _ (List.nil_sublist _)) rfl rfl rfl rfl rfl (fun _ _=>JI _ _) (fun w Y' hS=>bC p.bw _ _ x6 _ (some b78) [r,(kW af a (us[j]'hju) (ct (us.drop (j+1)) g) σj).1] 2 [] w hm6 hf6 h2o hz6 (fun e=>by cases e) hrk (by simp)) (fun s7 Γ7 hW7 hg7=>⟨(List.nil_sublist _),?_⟩)) rfl
       refine cV 21 (ae.fh rfl rfl rfl rfl) ?_
       refine aG.done rfl ?_
       exact K2 ⟨(s7,Γ7),hW7,fun _ h=>hg7 (hg6 (List.mem_cons_of_mem _ (hg4 h)))⟩ _ _ sF (fun _ _ hS=>hS.dH (List.sublist_append_right [_] _))
     · -- operation 19 next
      refine aG.one (i:=14) rfl (dk.iD (pre:=[_]) (u:=ar a (ct (us.drop (j+1)) g)) hW4 rfl rfl rfl rfl rfl (fun _ _=>JA _ _) (fun w Y' hS=>dL a ha x4 _ w (hW4.fa (pre:=[_]) hm4 hS) hf4 hdo) (fun x5 s5 hf5 hz5 hW5=>⟨(List.nil_sublist _),?_⟩)) rfl
      refine aG.one (i:=16) rfl (dk.zS (pre:=[_]) (u:=ct ((us.take (j+1)).map (ar a)) (ar a (ct (us.drop (j+1)) g))) hW5 (List.mem_cons_self ..) hz5 rfl rfl rfl rfl rfl (fun _ _=>call173 _ _) (fun w Y' hS=>gu p _ _ _ ((iL ns).take (j+1)) x5 _ _ a w htl hd2 (hr.ex hS.ext) hb (htk w hS.ext) hxt (hW5.fa (pre:=[_]) (List.mem_cons_self ..) hS) hf5 hko ha.2 (by simp;omega)) (fun x6 s6 Γ6 hm6 hg6 hf6 hz6 hW6=>⟨(List.nil_sublist _),?_⟩)) rfl
      refine aG.one (i:=20) rfl (dk.bu (pre:=[_]) (hR':=[(some b78,ob bK 3 (iL [r,(kW af a (us[j]'hju) (ct (us.drop (j+1)) g) σj).1]) [])]) hH hW6 (.cons_cons _ (List.nil_sublist _)) rfl rfl rfl rfl rfl (fun _ _=>JI _ _) (fun w Y' hS=>bC p.bw _ _ x6 _ (some b78) [r,(kW af a (us[j]'hju) (ct (us.drop (j+1)) g) σj).1] 2 [] w hm6 hf6 h2o hz6 (fun e=>by cases e) hrk (by simp)) (fun s7 Γ7 hW7 hg7=>⟨(List.nil_sublist _),?_⟩)) rfl
      refine cV 21 (ae.fh rfl rfl rfl rfl) ?_
      refine aG.done rfl ?_
      exact K2 ⟨(s7,Γ7),hW7,fun _ h=>hg7 (hg6 (List.mem_cons_of_mem _ (hg4 h)))⟩ _ _ sF (fun _ _ hS=>hS.dH (List.sublist_append_right [_] _))
    · -- operation 19 next
     refine aG.one (i:=13) rfl (dk.zS (pre:=[_]) (u:=ct (us.drop (j+1)) g) hW3 hy3 hyz rfl rfl rfl rfl rfl (fun _ _=>call173 _ _) (fun w Y' hS=>gu p _ _ _ ((iL ns).drop (j+1)) y g _ (-1) w hdl hd1 (hr.ex hS.ext) hb (hdr w hS.ext) hxd (hW3.fa (pre:=[_]) hy3 hS) hyf hg (by decide) (by simp;omega)) (fun x4 s4 Γ4 hm4 hg4 hf4 hz4 hW4=>⟨(List.nil_sublist _),?_⟩)) rfl
     refine aG.one (i:=14) rfl (dk.iD (pre:=[_]) (u:=ar a (ct (us.drop (j+1)) g)) hW4 rfl rfl rfl rfl rfl (fun _ _=>JA _ _) (fun w Y' hS=>dL a ha x4 _ w (hW4.fa (pre:=[_]) hm4 hS) hf4 hdo) (fun x5 s5 hf5 hz5 hW5=>⟨(List.nil_sublist _),?_⟩)) rfl
     refine aG.one (i:=16) rfl (dk.zS (pre:=[_]) (u:=ct ((us.take (j+1)).map (ar a)) (ar a (ct (us.drop (j+1)) g))) hW5 (List.mem_cons_self ..) hz5 rfl rfl rfl rfl rfl (fun _ _=>call173 _ _) (fun w Y' hS=>gu p _ _ _ ((iL ns).take (j+1)) x5 _ _ a w htl hd2 (hr.ex hS.ext) hb (htk w hS.ext) hxt (hW5.fa (pre:=[_]) (List.mem_cons_self ..) hS) hf5 hko ha.2 (by simp;omega)) (fun x6 s6 Γ6 hm6 hg6 hf6 hz6 hW6=>⟨(List.nil_sublist _),?_⟩)) rfl
     refine aG.one (i:=20) rfl (dk.bu (pre:=[_]) (hR':=[(some b78,ob bK 3 (iL [r,(kW af a (us[j]'hju) (ct (us.drop (j+1)) g) σj).1]) [])]) hH hW6 (.cons_cons _ (List.nil_sublist _)) rfl rfl rfl rfl rfl (fun _ _=>JI _ _) (fun w Y' hS=>bC p.bw _ _ x6 _ (some b78) [r,(kW af a (us[j]'hju) (ct (us.drop (j+1)) g) σj).1] 2 [] w hm6 hf6 h2o hz6 (fun e=>by cases e) hrk (by simp)) (fun s7 Γ7 hW7 hg7=>⟨(List.nil_sublist _),?_⟩)) rfl
     refine cV 21 (ae.fh rfl rfl rfl rfl) ?_
     refine aG.done rfl ?_
     exact K2 ⟨(s7,Γ7),hW7,fun _ h=>hg7 (hg6 (List.mem_cons_of_mem _ (hg4 h)))⟩ _ _ sF (fun _ _ hS=>hS.dH (List.sublist_append_right [_] _))
  have hge:¬j<ns.length:=by rw [hil] at hc;simpa using hc
  obtain rfl:j=ns.length:=by omega
  have hE:lR af a us g (p.last.getD j0 0) σ=(r,σj):=by rw [←hch,List.drop_of_length_le (by omega)];rfl
  refine ab.exit rfl (gS (gR ?_))
  refine ah ?_;refine ai ?_;refine gE ?_
  refine gT func129 fun w' hS=>?_
  exact dR (pre:=[]) hE rfl hWj hgj hS
end Go.Proofs.YtnfmegcknckahaaGreatDoor
namespace Go.Proofs.YtnfmegcknckahaaGreatDoor
open Go.RowKit Go.Proofs.Wit Tryz
set_option maxRecDepth 8000 in
theorem xw (p:SP) (hR:Hl) (Γ:List FV) (σ:Sg) (a:Int) (kn:Nat) (w:World) (hin:F9 p hR) (hb:aY p.b) (hkn:kn<p.b.length) (hop:(nd p.b kn).op=9∨(nd p.b kn).op=10) (ha:0≤a∧a<4):
    XW p.bw Γ σ 131 [.pointer (some ⟨p.bs,0,none⟩),.int .i64 a,.int .i64 (kn:Int)] w hR (kN af a (aa p.b kn) σ):=by
  refine rq.of func131 rfl rfl (fun s hW hH=>?_)
  have hr:SR p (cI (cd 73 48 (xE σ.bad) p.bw s)) w:=hin.r hH
  have HB:∀{w':World} {j:Nat} {u:Value},Ex (cI (cd 73 48 (xE σ.bad) p.bw s)) w w'→p.cs[j]?=some u→w'.cell? ⟨p.bs,j,none⟩=some u:=fun e hu=>Ex.cell (Ex.refl _ _) (hr.ex e).dg hu
  obtain ⟨t,ht⟩:∃t,t=aa p.b kn:=⟨_,rfl⟩
  have hcf:Cf (bT t) t:=by rw [ht];exact (we hb hkn).2
  have htA:tA p.b (kn:Int)=t:=by rw [ht];exact i6
  have hto:=hcf.ok
  obtain ⟨op,i,e,g,z,htz,hopz⟩:∃op i e g z,t=.un op i e g z∧op=(nd p.b kn).op:=by
    rcases hb.node hkn with ⟨h1,h2⟩|⟨h1,h2⟩|⟨h1,h2⟩
    · omega
    · exact ⟨_,_,_,_,_,by rw [ht,h2],rfl⟩
    omega
  have hzo:z.ok:=by rw [htz] at hto;exact hto.2.2.2.2
  rw [←ht]
  obtain ⟨bs,hbs⟩:∃bs,bs=p.bs:=⟨_,rfl⟩
  rw [←hbs] at HB
  have hpb:(Value.pointer (some ⟨p.bs,0,none⟩))=.pointer (some ⟨bs,0,none⟩):=by rw [hbs]
  rw [hpb]
  refine gS (gR ?_);refine ai ?_;refine gE (gS ?_)
  refine ab.jG 10 (([])) mixed ?_
  refine cV 0 (ae.mv rfl rfl rfl rfl) ?_
  refine cV 1 (ae.eg rfl rfl rfl rfl) ?_
  refine cV 2 (ae.aH rfl rfl rfl rfl JF rfl (by exact sizeOf70) 0 rfl) ?_
  refine cV 3 (ae.ld (p:=⟨bs,0,none⟩) rfl rfl rfl rfl isAgg70 (fun w _ hS=>HB hS.ext rfl)) ?_
  refine cV 4 (ae.mv rfl rfl rfl rfl) ?_
  refine cV 5 (ae.mv rfl rfl rfl rfl) ?_
  rw [hbs]
  refine aG.one (i:=6) rfl (dk.uw (pre:=[]) (u:=t) hW rfl rfl rfl rfl rfl (fun _ _=>call81 _ _) (fun w Y' hS=>by rw [←htA];exact ib p _ w (hr.ex hS.ext) hb (by omega)) (fun x1 s1 hf1 hW1=>⟨List.nil_sublist _,?_⟩)) rfl
  have hc1:Cf x1.f t:=by rw [hf1];exact hcf
  have hxp:=hc1.pos
  have hlt:x1.f.length - 1<x1.f.length:=by omega
  obtain ⟨hfo,hfi,_⟩:=hc1.Bo hlt
  obtain ⟨n,hn⟩:∃n,n=x1.f[x1.f.length - 1]:=⟨_,rfl⟩
  rw [←hn] at hfo
  have hno:n.op=op:=by rw [hfo,htz];rfl
  refine cV 7 (ae.fh rfl rfl rfl rfl) ?_
  refine cV 8 (ae.fh rfl rfl rfl rfl) ?_
  refine aG.done rfl ?_
  refine gE (gS (gR ?_));refine ah ?_
  refine ab.xZ (pre:=[]) (nd:=n) (c:=x1.f) hW1 rfl rfl rfl rfl rfl (fun _ _=>call73 _ _) (fun w Y' hS=>by rw [hn];exact pd x1 hlt w (hW1.fa (pre:=[]) (by simp) hS) (hf1 ▸ gz)) (fun xa xb s2 hxa hxb hW2=>?_)
  have hcA:Cf xa.f z:=by
    have:=hc1.wM hlt (by rw [htz];show 4≤op;omega)
    rw [htz] at this
    rw [hxa,hn];exact this
  refine ah ?_
  iterate 3 refine fW ?_
  refine ab.eN rfl rfl rfl (fun _=>Jq _) (fun b9=>?_)
  refine ab.dG rfl rfl rfl rfl Jd 0 rfl rfl rfl rfl ?_
  iterate 2 refine ai ?_
  refine gE (gS (gS (gR ?_)));refine al Jb I9 0 ?_;refine aq Ja 0 ?_;refine aw bh ?_;refine gE ?_
  refine gC (fun hc=>?_) fun hc=>?_
  ·
   have h9:op=9:=by rw [←hno];simpa using hc
   have hE:kN af a t σ=bQ af (aR t (ar a t)) 4 0 0 0 σ:=by rw [htz,h9];rfl
   have h3:=bt ha hto
   refine gS (gR ?_)
   iterate 4 refine ah ?_
   refine ab.iD (pre:=[_]) (u:=(ar a t)) hW2 rfl rfl rfl rfl rfl (fun _ _=>JA _ _) (fun w Y' hS=>by exact dL a ha x1 _ w (hW2.fa (pre:=[_]) (by simp [*]) hS) hf1 hto) (fun x3 s3 hf3 hz3 hW3=>?_)
   refine ab.iD (pre:=[_]) (u:=(aR t (ar a t))) hW3 rfl rfl rfl rfl rfl (fun _ _=>JC _ _) (fun w Y' hS=>by exact fF x1 x3 _ _ w (hW3.fa (pre:=[_]) (by simp [*]) hS) hf1 hto (hW3.fa (pre:=[_]) (by simp [*]) hS) hf3 h3) (fun x4 s4 hf4 hz4 hW4=>?_)
   refine ab.v (ae.eM rfl rfl rfl rfl (bd48 (c:=[_,_,_,_,_]) rfl)) ?_
   refine ab.bu (pre:=[_]) (hR':=[]) hH hW4 (List.nil_sublist _) rfl rfl rfl rfl rfl (fun _ _=>call83 _ _) (fun w Y' hS=>by exact iZ p.bw _ _ x4 _ 4 0 0 0 w (List.mem_cons_self ..) hf4 (dB hto h3) hz4) (fun s5 Γ5 hW5 hg5=>?_)
   refine ai ?_;refine gE ?_
   refine gT func131 fun w' hS=>?_
   exact dR (pre:=[_]) hE rfl hW5 (fun _ h=>hg5 (by simp [h])) hS
  have h9:¬op=9:=by rw [←hno];simpa using hc
  have h10:op=10:=by omega
  obtain ⟨nz,hnz⟩:∃nz,nz=aE (ar a (aE z)):=⟨_,rfl⟩
  have hE:kN af a t σ=aX af (aR t (ar a t)) [(dS af a z σ).1,(bQ af (aR nz (ar a nz)) 5 0 0 0 (dS af a z σ).2).1,(gH af a nz t (aX af (aR nz t) [(dS af a z σ).1] (bQ af (aR nz (ar a nz)) 5 0 0 0 (dS af a z σ).2).2).1 (aX af (aR nz t) [(dS af a z σ).1] (bQ af (aR nz (ar a nz)) 5 0 0 0 (dS af a z σ).2).2).2).1] (gH af a nz t (aX af (aR nz t) [(dS af a z σ).1] (bQ af (aR nz (ar a nz)) 5 0 0 0 (dS af a z σ).2).2).1 (aX af (aR nz t) [(dS af a z σ).1] (bQ af (aR nz (ar a nz)) 5 0 0 0 (dS af a z σ).2).2).2).2:=by rw [hnz,htz,h10];rfl
  have h3:=bA hzo
  have h4:=bt ha h3
  have h5:nz.ok:=by rw [hnz];exact bA h4
  have h7:=bt ha h5
  have h8:=dB h5 h7
  have h10':=dB h5 hto
  have h13:=bt ha hto
  have h14:=dB hto h13
  refine gK (gS (gR ?_))
  iterate 2 refine ah ?_
  refine ab.iD (pre:=[_]) (u:=(aE z)) hW2 rfl rfl rfl rfl rfl (fun _ _=>Jy _ _) (fun w Y' hS=>by exact gQ xa _ w (hW2.fa (pre:=[_]) (by simp [*]) hS) hcA.eq hzo) (fun x3 s3 hf3 hz3 hW3=>?_)
  refine ab.iD (pre:=[_]) (u:=(ar a (aE z))) hW3 rfl rfl rfl rfl rfl (fun _ _=>JA _ _) (fun w Y' hS=>by exact dL a ha x3 _ w (hW3.fa (pre:=[_]) (by simp [*]) hS) hf3 h3) (fun x4 s4 hf4 hz4 hW4=>?_)
  refine ab.iD (pre:=[_]) (u:=nz) hW4 rfl rfl rfl rfl rfl (fun _ _=>Jy _ _) (fun w Y' hS=>by rw [hnz];exact gQ x4 _ w (hW4.fa (pre:=[_]) (by simp) hS) hf4 h4) (fun x5 s5 hf5 hz5 hW5=>?_)
  refine ai ?_;refine gE (gS (gR ?_))
  iterate 3 refine ah ?_
  refine ab.bu (pre:=[_]) (hR':=[]) hH hW5 (List.nil_sublist _) rfl rfl rfl rfl rfl (fun _ _=>call76 _ _) (fun w Y' hS=>by exact oP p.bw _ _ a xa z w ha (by simp) hcA.eq hzo) (fun s6 Γ6 hW6 hg6=>?_)
  have m5:x5∈Γ6:=hg6 (by simp)
  have m1:x1∈Γ6:=hg6 (by simp)
  refine ai ?_;refine gE (gS (gR ?_))
  iterate 4 refine ah ?_
  refine ab.iD (pre:=[_]) (u:=(ar a nz)) hW6 rfl rfl rfl rfl rfl (fun _ _=>JA _ _) (fun w Y' hS=>by exact dL a ha x5 _ w (hW6.fa (pre:=[_]) (by simp [*]) hS) hf5 h5) (fun x7 s7 hf7 hz7 hW7=>?_)
  refine ab.iD (pre:=[_]) (u:=(aR nz (ar a nz))) hW7 rfl rfl rfl rfl rfl (fun _ _=>JC _ _) (fun w Y' hS=>by exact fF x5 x7 _ _ w (hW7.fa (pre:=[_]) (by simp [*]) hS) hf5 h5 (hW7.fa (pre:=[_]) (by simp [*]) hS) hf7 h7) (fun x8 s8 hf8 hz8 hW8=>?_)
  refine ab.v (ae.eM rfl rfl rfl rfl (bd48 (c:=[_,_,_,_,_]) rfl)) ?_
  refine ab.bu (pre:=[_]) (hR':=[]) hH hW8 (List.nil_sublist _) rfl rfl rfl rfl rfl (fun _ _=>call83 _ _) (fun w Y' hS=>by exact iZ p.bw _ _ x8 _ 5 0 0 0 w (List.mem_cons_self ..) hf8 h8 hz8) (fun s9 Γ9 hW9 hg9=>?_)
  have n5:x5∈Γ9:=hg9 (by simp [m5])
  have n1:x1∈Γ9:=hg9 (by simp [m1])
  refine ai ?_;refine gE (gS (gR ?_))
  iterate 3 refine ah ?_
  refine ab.iD (pre:=[_]) (u:=(aR nz t)) hW9 rfl rfl rfl rfl rfl (fun _ _=>JC _ _) (fun w Y' hS=>by exact fF x5 x1 _ _ w (hW9.fa (pre:=[_]) (by simp [*]) hS) hf5 h5 (hW9.fa (pre:=[_]) (by simp [*]) hS) hf1 hto) (fun x10 s10 hf10 hz10 hW10=>?_)
  refine ah ?_
  refine ab.eh (c:=[_]) rfl rfl rfl rfl Jg I9 Jv rfl rfl (fun b63=>?_)
  refine ab.bu (pre:=[_,_]) (hR':=[(some b63,ob bK 3 (iL [(dS af a z σ).1]) [])]) hH hW10 (.cons_cons _ (List.nil_sublist _)) rfl rfl rfl rfl rfl (fun _ _=>JI _ _) (fun w Y' hS=>bC p.bw _ _ x10 _ (some b63) [(dS af a z σ).1] 1 [] w (List.mem_cons_self ..) hf10 h10' hz10 (fun e=>by cases e) (fun hb n hn=>by rw [List.mem_singleton.1 hn];exact (kZ.le da hb).1) (by simp)) (fun s11 Γ11 hW11 hg11=>?_)
  have l5:x5∈Γ11:=hg11 (by simp [n5])
  have l1:x1∈Γ11:=hg11 (by simp [n1])
  refine ai ?_;refine gE (gS (gR ?_))
  iterate 5 refine ah ?_
  refine ab.bu (pre:=[_,_]) (hR':=[]) hH hW11 (List.nil_sublist _) rfl rfl rfl rfl rfl (fun _ _=>call75 _ _) (fun w Y' hS=>by exact rA p.bw _ _ a x5 x1 nz t _ w ha l5 hf5 h5 l1 hf1 hto) (fun s12 Γ12 hW12 hg12=>?_)
  have k1:x1∈Γ12:=hg12 l1
  refine ai ?_;refine gE (gS (gR ?_))
  iterate 4 refine ah ?_
  refine ab.iD (pre:=[_,_]) (u:=(ar a t)) hW12 rfl rfl rfl rfl rfl (fun _ _=>JA _ _) (fun w Y' hS=>by exact dL a ha x1 _ w (hW12.fa (pre:=[_,_]) (by simp [*]) hS) hf1 hto) (fun x13 s13 hf13 hz13 hW13=>?_)
  refine ab.iD (pre:=[_,_]) (u:=(aR t (ar a t))) hW13 rfl rfl rfl rfl rfl (fun _ _=>JC _ _) (fun w Y' hS=>by exact fF x1 x13 _ _ w (hW13.fa (pre:=[_,_]) (by simp [*]) hS) hf1 hto (hW13.fa (pre:=[_,_]) (by simp [*]) hS) hf13 h13) (fun x14 s14 hf14 hz14 hW14=>?_)
  iterate 3 refine ah ?_
  refine ab.eh (c:=[_,_,_]) rfl rfl rfl rfl Jg I9 Jv rfl rfl (fun b80=>?_)
  refine ab.bu (pre:=[_,_,_]) (hR':=[(some b80,ob bK 3 (iL [(dS af a z σ).1,(bQ af (aR nz (ar a nz)) 5 0 0 0 (dS af a z σ).2).1,(gH af a nz t (aX af (aR nz t) [(dS af a z σ).1] (bQ af (aR nz (ar a nz)) 5 0 0 0 (dS af a z σ).2).2).1 (aX af (aR nz t) [(dS af a z σ).1] (bQ af (aR nz (ar a nz)) 5 0 0 0 (dS af a z σ).2).2).2).1]) [])]) hH hW14 (.cons_cons _ (List.nil_sublist _)) rfl rfl rfl rfl rfl (fun _ _=>JI _ _) (fun w Y' hS=>bC p.bw _ _ x14 _ (some b80) [(dS af a z σ).1,(bQ af (aR nz (ar a nz)) 5 0 0 0 (dS af a z σ).2).1,(gH af a nz t (aX af (aR nz t) [(dS af a z σ).1] (bQ af (aR nz (ar a nz)) 5 0 0 0 (dS af a z σ).2).2).1 (aX af (aR nz t) [(dS af a z σ).1] (bQ af (aR nz (ar a nz)) 5 0 0 0 (dS af a z σ).2).2).2).1] 3 [] w (List.mem_cons_self ..) hf14 h14 hz14 (fun e=>by cases e) (fun hb n hn=>by
    simp only [List.mem_cons,List.not_mem_nil,or_false] at hn
    rcases hn with rfl|rfl|rfl
    · exact (((kZ.le da).le cX).le m7 hb).1
    · exact ((bM.le cX).le m7 hb).1
    exact (lq hb).1) (by simp)) (fun s15 Γ15 hW15 hg15=>?_)
  refine ai ?_;refine gE ?_
  refine gT func131 fun w' hS=>?_
  exact dR (pre:=[_,_,_]) hE rfl hW15 (fun _ h=>hg15 (List.mem_cons_of_mem _ (List.mem_cons_of_mem _ (hg12 (hg11 (List.mem_cons_of_mem _ (hg9 (List.mem_cons_of_mem _ (List.mem_cons_of_mem _ (hg6 (by simp [h])))))))))))  hS
end Go.Proofs.YtnfmegcknckahaaGreatDoor
namespace Go.Proofs.YtnfmegcknckahaaGreatDoor
open Go.RowKit Go.Proofs.Wit Tryz
theorem rZ {tl:List SV} {j:Nat} (hj:j<tl.length):dc (fg tl) (j:Int)=tl[j].d.set:=by rw [eJ (by rw [eL];exact hj),mj hj]
theorem Fu {ns:List Nat} (h:0<ns.length):(iL ns).getD (ns.length - 1) 0=((ns.getLastD 0:Nat):Int):=by
 have h1:ns.length - 1<ns.length:=by omega
 rw [nS h1,List.getLastD_eq_getLast?,List.getLast?_eq_getElem?,List.getElem?_eq_getElem h1];rfl
set_option maxRecDepth 8000 in
theorem xq (p:SP) (k:Nat) (hR:Hl) (Γ:List FV) (σ:Sg) (y:FV) (G:Tr) (w:World) (hin:F9 p hR) (hp:p.Ok k) (h67:p.x.d.av=6∨p.x.d.av=7) (hlast:qm p.b (fg p.tl) σ p.last k) (hy:y∈Γ) (hyf:y.f=bT G) (hG:G.ok) (hyz:y.Z):
    XW p.bw Γ σ 84 [.pointer (some ⟨p.bs,0,none⟩),y.v] w hR (Fk p G σ):=by
  obtain ⟨iI,hiI,hzI,hszI,hbyI⟩:=info_parts uH
  have hb:=hp.base
  have hbl:=hb.len
  have hag:=hp.Is h67
  have hfr:0<p.x.d.fr.length:=ij hp.lQ (by omega)
  obtain ⟨j0,hj0,hj0k⟩:∃j0:Nat,p.x.d.fr[0]=(j0:Int)∧j0<k:=by
    have:=hp.lQ.mZ (List.getElem_mem hfr)
    exact ⟨p.x.d.fr[0].toNat,by omega,by omega⟩
  have hj0l:j0<p.last.length:=by rw [hp.Fp];exact hj0k
  have hj0t:j0<p.tl.length:=Nat.lt_trans hj0k hp.Ig
  have hg0:p.x.d.fr.getD 0 0=(j0:Int):=by simp [List.getD_eq_getElem?_getD,hfr,hj0]
  have hln:p.line=p.last.getD j0 0:=by unfold SP.line;rw [hg0,Int.toNat_natCast]
  have hS0:p.S0=p.tl[j0].d.set:=by unfold SP.S0;rw [hg0];exact rZ hj0t
  have hins:js p.b p.S0:=by unfold SP.S0;rw [hg0];exact hp.ug j0 hj0t
  have hne0:dX p.S0≠[]:=by unfold SP.S0;rw [hg0];exact hp.ne j0 hj0t
  have hown:∀n∈p.own,n<p.b.length:=fun n hn=>hins n (cW.1 (p.vn hn))
  have hns:∀n∈p.ns,n<p.b.length:=fun n hn=>hown n (p.C7 hn)
  have hol:=p.AN
  have hnl:=p.Fb
  have hon6:p.x.d.av=6→∃o:Nat,p.x.d.on=(o:Int)∧o<p.b.length∧(nd p.b p.x.d.on).op=10:=fun h=>by
    rcases hp.lQ.2 with ⟨e,_⟩|⟨e,_⟩|⟨e,_⟩|⟨e,_⟩|⟨e,_⟩|⟨_,_,g,_⟩|⟨e,_⟩
    · omega
    · omega
    · omega
    · omega
    · omega
    · obtain ⟨o,q1,q2,q3,q4⟩:=g.nat hb;exact ⟨o,q1,q2,q4⟩
    omega
  have htg:p.tg<p.b.length:=by
    unfold SP.tg
    split
    · rename_i h
      obtain ⟨o,q1,q2,q4⟩:=hon6 h
      rw [q1] at q4⊢
      have:=hb.x q2 (by omega)
      omega
    rename_i h
    have:p.own=dX p.S0:=if_neg h
    rw [this]
    exact hins _ (cW.1 (kA hne0))
  have hline:σ.bad=false→p.last.getD j0 0<σ.ls.length:=fun h=>(hlast j0 hj0k h).1
  refine rq.of func84 rfl rfl (fun s hW hH=>?_)
  have hr:SR p (cI (cd 73 48 (xE σ.bad) p.bw s)) w:=hin.r hH
  have HB:∀{w':World} {j:Nat} {u:Value},Ex (cI (cd 73 48 (xE σ.bad) p.bw s)) w w'→p.cs[j]?=some u→w'.cell? ⟨p.bs,j,none⟩=some u:=fun e hu=>Ex.cell (Ex.refl _ _) (hr.ex e).dg hu
  have HR:∀{w':World},Ex (cI (cd 73 48 (xE σ.bad) p.bw s)) w w'→∀j v,([.int .i64 p.l,.slice p.A p.b.length p.cA,.slice p.B p.tl.length p.cB]:List Value)[j]?=some v→w'.cell? ((⟨p.bs,1,none⟩:Addr).add j)=some v:=fun e=>(hr.ex e).part (fun j hj=>by
    match j,hj with
    |0,_=>rfl
    |1,_=>rfl
    |2,_=>rfl)
  have HX:∀{w':World},Ex (cI (cd 73 48 (xE σ.bad) p.bw s)) w w'→∀j v,(SV.cells p.x)[j]?=some v→w'.cell? ((⟨p.bs,4,none⟩:Addr).add j)=some v:=fun e=>(hr.ex e).part (fun j hj=>by
    match j,hj with
    |0,_=>rfl
    |1,_=>rfl
    |2,_=>rfl
    |3,_=>rfl
    |4,_=>rfl)
  obtain ⟨bs,hbs⟩:∃bs,bs=p.bs:=⟨_,rfl⟩
  rw [←hbs] at HB HR HX
  have hpb:(Value.pointer (some ⟨p.bs,0,none⟩))=.pointer (some ⟨bs,0,none⟩):=by rw [hbs]
  rw [hpb]
  refine gS (gR ?_);refine ai ?_;refine gE (gS ?_)
  refine ab.jG 16 (([])) mixed ?_
  refine cV 0 (ae.mv rfl rfl rfl rfl) ?_
  refine cV 1 (ae.eg rfl rfl rfl rfl) ?_
  refine cV 2 (ae.aH rfl rfl rfl rfl JF rfl (by exact sizeOf70) 0 rfl) ?_
  refine cV 3 (ae.ld (p:=⟨bs,0,none⟩) rfl rfl rfl rfl isAgg70 (fun w _ hS=>HB hS.ext rfl)) ?_
  refine cV 4 (ae.mv rfl rfl rfl rfl) ?_
  refine cV 5 (ae.eg rfl rfl rfl rfl) ?_
  refine cV 6 (ae.aH rfl rfl rfl rfl JF rfl (by exact Jp) 1 rfl) ?_
  refine cV 7 (ae.nR (p:=⟨bs,1,none⟩) (cs:=[.int .i64 p.l,.slice p.A p.b.length p.cA,.slice p.B p.tl.length p.cB]) rfl rfl rfl rfl JR Jp (fun w _ hS=>HR hS.ext)) ?_
  refine cV 8 (ae.mv rfl rfl rfl rfl) ?_
  refine cV 9 (ae.eg rfl rfl rfl rfl) ?_
  refine cV 10 (ae.aH rfl rfl rfl rfl JF rfl (by exact Jm) 4 rfl) ?_
  refine cV 11 (ae.nR (p:=⟨bs,4,none⟩) (cs:=SV.cells p.x) rfl rfl rfl rfl JV Jm (fun w _ hS=>HX hS.ext)) ?_
  refine aG.cC (i:=12) rfl rfl rfl rfl rfl rfl (fun _ _=>call128 _ _) (fun w _ hS=>(by exact sD p.l p.A p.cA p.b p.B p.tl.length p.cB p.x w (hr.ex hS.ext).fa (fun h=>by obtain ⟨o,q1,q2,_⟩:=hon6 (h67.resolve_right h);omega))) sL ?_
  refine cV 13 (ae.fh rfl rfl rfl rfl) ?_
  refine cV 14 (ae.fh rfl rfl rfl rfl) ?_
  refine aG.done rfl ?_
  refine gE (gS ?_)
  refine ab.draw 16 mixed rfl ?_
  refine mH ?_;refine xi ?_;refine mI JF Jp 1 ?_;refine mI Jr JH 3 ?_
  refine aM.v (ae.ld (p:=⟨bs,3,none⟩) rfl rfl rfl rfl JN (fun w _ hS=>HB hS.ext rfl)) ?_
  refine mH ?_;refine xi ?_;refine mI JF Jm 4 ?_;refine mI Jh JP 8 ?_
  refine aM.v (ae.ld (p:=⟨bs,8,none⟩) rfl rfl rfl rfl JU (fun w _ hS=>HB hS.ext rfl)) ?_
  refine aM.v (ae.idx rfl rfl rfl rfl rfl Jg I9 ⟨_,hr.at_.Er⟩ (by simp) 0 ⟨rfl,by simpa using hfr⟩) ?_
  refine aM.v (ae.ld rfl rfl rfl rfl Ja (fun w _ hS=>Sl.at (enc:=bK) (hr.ex hS.ext).Er 0 hfr)) ?_
  refine aM.v (ae.ez rfl rfl rfl rfl rfl JB Jm ⟨_,(hr.HF).at_⟩ (aD (enc:=SV.cells) (sz:=5) (fun _=>rfl)) (by decide) (j0) ⟨hj0,hj0t⟩) ?_
  refine aM.v (ae.fQ rfl rfl rfl rfl Jh rfl Ju ((j0)*5+0) rfl) ?_
  refine aM.v (ae.ld rfl rfl rfl rfl Jz (fun w _ hS=>Sl.kO (enc:=SV.cells) (sz:=5) ((hr.HF).ay hS.ext).at_ (fun _=>rfl) hj0t rfl)) ?_
  refine AF ?_
  refine aM.nil ?_
  refine gE (gS (gR ?_));refine ah ?_
  refine gM rfl rfl rfl rfl rfl call85 (fun w _ hS=>(by exact kR p.tl[j0].d.set w)) ?_
  rintro v w1 w2 Y' hS he ho
  rw [←hS0] at ho
  obtain ⟨q45,c45,sp45,rfl,hq45,hc45,hS'⟩:=re hS he ho
  refine ⟨_,hS',?_⟩
  refine ai ?_;refine gE (gS (gR ?_));refine ah ?_
  iterate 2 refine ai ?_
  refine gE (gS ?_)
  refine ab.jL (α:={z:Option Nat×Nat×List Value // (z.1=none→(iL p.own).length=0∧z.2.1=0)∧((iL p.own).map bK++z.2.2).length=z.2.1}) (fun z=>[(0,.pointer (some ⟨bs,0,none⟩)),(1,y.v),(5,.pointer (some ⟨p.bw,0,none⟩)),(6,.int .i64 p.ag),(8,.slice (z.1.1.map (fun b=>⟨b,0,none⟩)) p.ns.length z.1.2.1),(9,cK z.1.1 (iL p.own).length z.1.2.1),(10,.int .i64 (p.tg:Int))]) (fun z=>[(z.1.1,ob bK 3 (iL p.own) z.1.2.2)]++cd 73 48 (xE σ.bad) p.bw s) (fun z=>?_) (fun K=>?_)
  obtain ⟨⟨qL,cL,spL⟩,hqL,hcL⟩:=z
  dsimp only at hqL hcL⊢
  have hil:(iL p.own).length=p.own.length:=iE
  have hcL2:p.own.length≤cL:=by
    have:=hcL
    simp [iL] at this;omega
  have hto:(aa p.b p.tg).ok:=hb.ok htg
  · -- what comes behind
   refine gS (gR ?_)
   iterate 2 refine ah ?_
   rw [hbs]
   refine ab.uw (pre:=[_]) (u:=aa p.b p.tg) hW rfl rfl rfl rfl rfl (fun _ _=>call81 _ _) (fun w Y' hS=>by rw [←i6];exact ib p _ w (hr.ex hS.ext) hb (by omega)) (fun x1 s1 hf1 hW1=>?_)
   refine ab.iD (pre:=[_]) (u:=aE (aa p.b p.tg)) hW1 rfl rfl rfl rfl rfl (fun _ _=>Jy _ _) (fun w Y' hS=>by exact gQ x1 _ w (hW1.fa (pre:=[_]) (by simp) hS) hf1 hto) (fun x2 s2 hf2 hz2 hW2=>?_)
   refine ai ?_;refine gE (gS (gR ?_))
   iterate 4 refine ah ?_
   refine ab.bu (pre:=[_]) (hR':=[(qL,ob bK 3 (iL p.own) spL)]++hR) hH hW2 (List.Sublist.refl _) rfl rfl rfl rfl rfl (fun _ _=>call129 _ _) (fun w Y' hS=>xv p ([(qL,ob bK 3 (iL p.own) spL)]++hR) _ σ p.ag p.ns qL (iL p.own) spL cL x2 (aE (aa p.b p.tg)) j0 w (hin.mono (List.subset_append_right _ _)) hb hfr hj0 hj0l hag (List.mem_append_left _ (List.mem_singleton.2 rfl)) (fun e=>List.eq_nil_of_length_eq_zero (hqL e).1) (by rw [Bh,p.AR]) (by omega) hns (by omega) (List.mem_cons_self ..) hf2 (bA hto) hz2 hline) (fun s3 Γ3 hW3 hg3=>?_)
   refine ab.eh (c:=[_]) rfl rfl rfl rfl Jg I9 Jv rfl rfl (fun b92=>?_)
   refine ai ?_;refine gE (gS (gS (gR ?_)));refine ah ?_;refine dY Jg ?_;refine ah ?_;refine gE (gB ?_)
   obtain ⟨C,hC⟩:∃C,C=lR af p.ag (p.ns.map (aa p.b)) (aE (aa p.b p.tg)) (p.last.getD j0 0) σ:=⟨_,rfl⟩
   rw [←hC] at hW3⊢
   have hC1:C.2.bad=false→C.1<C.2.ls.length:=by rw [hC];exact fun h=>(tM h).1
   refine ab.loop (σ:=Nat×List Nat×Nat×Nat×List Value×Sg×Ws×List FV) (fun z=>[(0,.pointer (some ⟨p.bs,0,none⟩)),(1,y.v),(5,.pointer (some ⟨p.bw,0,none⟩)),(6,.int .i64 p.ag),(10,.int .i64 (p.tg:Int)),(12,cK (some z.2.2.1) (iL z.2.1).length z.2.2.2.1),(93,cK qL (iL p.own).length cL),(94,.int .i64 (iL p.own).length),(95,.int .i64 z.1)])
     (fun z=>[(some z.2.2.1,ob bK 3 (iL z.2.1) z.2.2.2.2.1),(qL,ob bK 3 (iL p.own) spL)]++cd 73 48 (xE z.2.2.2.2.2.1.bad) p.bw z.2.2.2.2.2.2.1)
     (fun z=>z.1≤p.own.length∧z.2.1.length≤z.1+1∧((iL z.2.1).map bK++z.2.2.2.2.1).length=z.2.2.2.1∧ff 66 z.2.2.2.2.2.2.2 z.2.2.2.2.2.1 z.2.2.2.2.2.2.1∧Γ3⊆z.2.2.2.2.2.2.2∧(z.2.2.2.2.2.1.bad=false→∀n∈z.2.1,n<z.2.2.2.2.2.1.ls.length)∧
       z.2.1++(eC af p.b p.full p.ag (p.own.drop z.1) z.2.2.2.2.2.1).1=C.1::(eC af p.b p.full p.ag p.own C.2).1∧(eC af p.b p.full p.ag (p.own.drop z.1) z.2.2.2.2.2.1).2=(eC af p.b p.full p.ag p.own C.2).2)
     (fun z=>p.own.length - z.1) (0,[C.1],b92,1,[],C.2,s3,Γ3) ⟨Nat.zero_le _,Nat.le_refl _,rfl,hW3,fun _ h=>h,fun h n hn=>by rw [List.mem_singleton.1 hn];exact hC1 h,rfl,rfl⟩ ⟨rfl,rfl,rfl,rfl,rfl,rfl,rfl,rfl,rfl,trivial⟩ (List.Sublist.refl _) (fun z hI IH=>?_)
   obtain ⟨m,os,b12,c12,sp12,σk,sk,Γk⟩:=z
   obtain ⟨hm,hosl,hc12,hWk,hgk,hvk,hk1,hk2⟩:=hI
   dsimp only at hm hosl hc12 hWk hgk hvk hk1 hk2 IH⊢
   have hil12:(iL os).length=os.length:=iE
   rw [←hbs]
   refine gS (gR ?_);refine aw jl ?_;refine gE (gS ?_)
   refine gC (fun hc=>?_) fun hc=>?_
   ·
    have hlt:m<p.own.length:=by rw [hil] at hc;simpa using hc
    have hlt2:m<(iL p.own).length:=by rw [hil];exact hlt
    obtain ⟨n,hn⟩:∃n,n=p.own[m]:=⟨_,rfl⟩
    have hgp:(iL p.own).getD m 0=(n:Int):=by rw [nS hlt,←hn]
    have hnm:n∈p.own:=by rw [hn];exact List.getElem_mem hlt
    have hnb:=hown n hnm
    obtain ⟨bq,rfl⟩:∃b,qL=some b:=by
      cases qL with
      |none=>have:=(hqL rfl).1;omega
      |some b=>exact ⟨b,rfl⟩
    rw [List.drop_eq_getElem_cons hlt,←hn,eC] at hk1 hk2
    refine gK (gS (gB (gS (gR ?_))))
    refine ab.v (ae.dV rfl rfl rfl rfl rfl Jg I9 (m) ⟨rfl,hlt2⟩) ?_
    skip
    refine ab.v (ae.qY bK 0 rfl rfl rfl rfl Ja 1 rfl hlt2) ?_
    rw [hgp]
    refine ai ?_;refine gE (gS ?_)
    refine ab.jG 15 (([])) mixed ?_
    refine cV 0 (ae.mv rfl rfl rfl rfl) ?_
    refine cV 1 (ae.eg rfl rfl rfl rfl) ?_
    refine cV 2 (ae.aH rfl rfl rfl rfl JF rfl (by exact Jp) 1 rfl) ?_
    refine cV 3 (ae.aH rfl rfl rfl rfl Jr rfl (by exact Jj) 2 rfl) ?_
    refine cV 4 (ae.ld (p:=⟨bs,2,none⟩) rfl rfl rfl rfl Jn (fun w _ hS=>HB hS.ext rfl)) ?_
    refine cV 5 (ae.mv rfl rfl rfl rfl) ?_
    refine cV 6 (ae.eg rfl rfl rfl rfl) ?_
    refine cV 7 (ae.aH rfl rfl rfl rfl JF rfl (by exact Ju) 9 rfl) ?_
    refine cV 8 (ae.ld (p:=⟨bs,9,none⟩) rfl rfl rfl rfl Jz (fun w _ hS=>HB hS.ext rfl)) ?_
    refine cV 9 (ae.mv rfl rfl rfl rfl) ?_
    refine cV 10 (ae.mv rfl rfl rfl rfl) ?_
    refine cV 12 (ae.mv rfl rfl rfl rfl) ?_
    refine aG.cC (i:=11) rfl rfl rfl rfl rfl rfl (fun _ _=>call130 _ _) (fun w _ hS=>(by exact qG p.A p.cA p.b p.full p.ag n w (hr.ex hS.ext).fa hp.full)) sL ?_
    refine cV 13 (ae.bin rfl rfl rfl rfl bh rfl) ?_
    refine aG.done rfl ?_
    refine gE ?_
    refine gC (fun hc=>?_) fun hc=>?_
    ·
     have hsn:fz p.b p.full p.ag n=n:=by simp at hc;omega
     rw [if_pos hsn] at hk1 hk2
     refine gR ?_
     iterate 4 refine ah ?_
     rw [hbs]
     refine ab.bu (pre:=[_,_]) (hR':=hR) hH hWk (List.sublist_append_right _ _) rfl rfl rfl rfl rfl (fun _ _=>call131 _ _) (fun w Y' hS=>xw p hR Γk σk p.ag n w hin hb hnb (hp.Ip h67 n hnm hsn) hag) (fun s5 Γ5 hW5 hg5=>?_)
     refine ab.eh (c:=[_]) rfl rfl rfl rfl Jg I9 Jv rfl rfl (fun b118=>?_)
     refine ab.oh bK (news:=[((kN af p.ag (aa p.b n) σk).1:Int)]) (spn:=[]) (xs:=iL os) (sp:=sp12) (q:=some b12) rfl rfl rfl rfl rfl Jg hiI hzI hszI rfl (fun e=>by cases e) 1 rfl 0 rfl hc12 rfl (by decide) (fun _=>rfl) (by unfold maxLen;omega) (by rw [hbyI];omega) (fun b' sp' cap' hlen=>?_)
     refine ai ?_;refine gE (dQ (gR ?_));refine df rfl rfl rfl rfl (cD (by omega)) ?_;refine ah ?_;refine gE ?_
     refine ab.aT (pre:=[_,_,_]) (pre':=[_,_]) (cd 73 48 (xE (kN af p.ag (aa p.b n) σk).2.bad) p.bw s5) [1,2] (by decide) rfl ?_
     rw [←oX] at hlen⊢
     refine IH (m+1,os++[(kN af p.ag (aa p.b n) σk).1],b',cap',sp',_,s5,Γ5) _ _ ⟨hlt,by simp;omega,hlen,hW5,fun _ h=>hg5 (hgk h),fun h x hx=>?_,by rw [List.append_assoc];exact hk1,hk2⟩ (by dsimp only;omega) ⟨rfl,rfl,rfl,rfl,rfl,rfl,rfl,rfl,rfl,trivial⟩ (List.Sublist.refl _)
     rcases List.mem_append.1 hx with hx|hx
     · exact Nat.lt_of_lt_of_le (hvk (sf.ok h) x hx) sf.pre.length_le
     rw [List.mem_singleton.1 hx];exact (qd h).1
    have hsn:¬fz p.b p.full p.ag n=n:=by simp at hc;omega
    rw [if_neg hsn] at hk1 hk2
    refine gK (dQ (gR ?_));refine df rfl rfl rfl rfl (cD (by omega)) ?_;refine ah ?_;refine gE ?_
    rw [hbs]
    exact IH (m+1,os,b12,c12,sp12,σk,sk,Γk) _ _ ⟨hlt,by dsimp only;omega,hc12,hWk,hgk,hvk,hk1,hk2⟩ (by dsimp only;omega) ⟨rfl,rfl,rfl,rfl,rfl,rfl,rfl,rfl,rfl,trivial⟩ (List.Sublist.refl _)
   have hge:¬m<p.own.length:=by rw [hil] at hc;simpa using hc
   obtain rfl:m=p.own.length:=by omega
   rw [List.drop_length,eC] at hk1 hk2
   rw [List.append_nil] at hk1
   obtain ⟨E,hEd⟩:∃E,E=(if p.x.d.av=6 then dS af p.ag (aa p.b p.tg) σk else bQ af (aR (ar p.ag (aa p.b p.tg)) (aE (ar p.ag (aE (aa p.b p.tg))))) 6 0 0 0 σk):=⟨_,rfl⟩
   have hEle:σk.Le E.2:=by
     rw [hEd];split
     · exact jC
     exact da
   have hEh:E.2.bad=false→E.1<E.2.ls.length:=by
     rw [hEd];split
     · exact fun h=>(kZ h).1
     exact fun h=>(bM h).1
   have hRES:Fk p G σ=aX af G (os++[E.1]) E.2:=by
     rw [Fk,uy,hln]
     rw [←hC]
     rw [←hk2,hk1,hEd]
     by_cases h6:p.x.d.av=6
     · rw [if_pos h6,if_pos (decide_eq_true h6)];rfl
     rw [if_neg h6,if_neg (by simp [h6])];rfl
   refine ab.exit rfl (gS ?_)
   refine ab.jL (α:={z:(Nat×Nat×List Value)×Ws×List FV // ((iL (os++[E.1])).map bK++z.1.2.2).length=z.1.2.1∧ff 66 z.2.2 E.2 z.2.1∧Γk⊆z.2.2}) (fun z=>[(1,y.v),(5,.pointer (some ⟨p.bw,0,none⟩)),(12,cK (some z.1.1.1) (iL (os++[E.1])).length z.1.1.2.1)]) (fun z=>[(some z.1.1.1,ob bK 3 (iL (os++[E.1])) z.1.1.2.2)]++cd 73 48 (xE E.2.bad) p.bw z.1.2.1) (fun z=>?_) (fun K2=>?_)
   obtain ⟨⟨⟨b13,c13,sp13⟩,s6,Γ6⟩,hc13,hW6,hg6⟩:=z
   dsimp only at hc13 hW6 hg6⊢
   · -- what comes behind
    refine gS (gR ?_)
    iterate 3 refine ah ?_
    refine ab.bu (pre:=[_]) (hR':=[(some b13,ob bK 3 (iL (os++[E.1])) sp13)]) hH hW6 (.cons_cons _ (List.nil_sublist _)) rfl rfl rfl rfl rfl (fun _ _=>JI _ _) (fun w Y' hS=>bC p.bw _ _ y _ (some b13) (os++[E.1]) c13 sp13 w (hg6 (hgk (hg3 (by simp [hy])))) hyf hG hyz (fun e=>by cases e) (fun h n hn=>by
      rcases List.mem_append.1 hn with hn|hn
      · exact Nat.lt_of_lt_of_le (hvk (hEle.ok h) n hn) hEle.pre.length_le
      rw [List.mem_singleton.1 hn];exact hEh h) (by simp;omega)) (fun s7 Γ7 hW7 hg7=>?_)
    refine ai ?_;refine gE ?_
    refine gT func84 fun w' hS=>?_
    exact dR (pre:=[_]) hRES rfl hW7 (fun _ h=>hg7 (hg6 (hgk (hg3 (by simp [h]))))) hS
   · -- the first part
    refine gS (gR ?_);refine ah ?_;refine kk ?_;refine al JF Jm 4 ?_;refine al Jh I9 5 ?_
    refine ab.v (ae.ld (p:=⟨bs,5,none⟩) rfl rfl rfl rfl Ja (fun w _ hS=>HB hS.ext rfl)) ?_
    refine aw bh ?_;refine gE ?_
    refine gC (fun hc=>?_) fun hc=>?_
    ·
     have h6:p.x.d.av=6:=by simpa using hc
     rw [if_pos h6] at hEd
     refine gR ?_
     iterate 5 refine ah ?_
     rw [hbs]
     refine ab.uw (pre:=[_,_]) (u:=aa p.b p.tg) hWk rfl rfl rfl rfl rfl (fun _ _=>call81 _ _) (fun w Y' hS=>by rw [←i6];exact ib p _ w (hr.ex hS.ext) hb (by omega)) (fun x5 s5 hf5 hW5=>?_)
     refine ab.bu (pre:=[_,_]) (hR':=[]) hH hW5 (List.nil_sublist _) rfl rfl rfl rfl rfl (fun _ _=>call76 _ _) (fun w Y' hS=>by exact oP p.bw _ _ p.ag x5 _ w hag (List.mem_cons_self ..) hf5 hto) (fun s8 Γ8 hW8 hg8=>?_)
     rw [←hEd] at hW8⊢
     refine ab.eh (c:=[_]) rfl rfl rfl rfl Jg I9 Jv rfl rfl (fun b134=>?_)
     refine ab.oh bK (news:=[(E.1:Int)]) (spn:=[]) (xs:=iL os) (sp:=sp12) (q:=some b12) rfl rfl rfl rfl rfl Jg hiI hzI hszI rfl (fun e=>by cases e) 1 rfl 0 rfl hc12 rfl (by decide) (fun _=>rfl) (by unfold maxLen;omega) (by rw [hbyI];omega) (fun b' sp' cap' hlen=>?_)
     rw [←oX] at hlen⊢
     refine ai ?_;refine gE ?_
     exact K2 ⟨((b',cap',sp'),s8,Γ8),hlen,hW8,fun _ h=>hg8 (List.mem_cons_of_mem _ h)⟩ _ _ sF (fun _ _ hS=>hS.aT (pre:=[_,_,_]) (pre':=[_]) [1] (by decide) rfl)
    have h6:¬p.x.d.av=6:=by simpa using hc
    rw [if_neg h6] at hEd
    have h1o:=bt hag hto
    have h2o:=bA hto
    have h3o:=bt hag h2o
    have h4o:=bA h3o
    refine gS (gR ?_)
    iterate 2 refine ah ?_
    rw [hbs]
    refine ab.uw (pre:=[_,_]) (u:=aa p.b p.tg) hWk rfl rfl rfl rfl rfl (fun _ _=>call81 _ _) (fun w Y' hS=>by rw [←i6];exact ib p _ w (hr.ex hS.ext) hb (by omega)) (fun x5 s5 hf5 hW5=>?_)
    refine ai ?_;refine gE (gR ?_)
    iterate 4 refine ah ?_
    refine ab.iD (pre:=[_,_]) (u:=ar p.ag (aa p.b p.tg)) hW5 rfl rfl rfl rfl rfl (fun _ _=>JA _ _) (fun w Y' hS=>by exact dL p.ag hag x5 _ w (hW5.fa (pre:=[_,_]) (by simp) hS) hf5 hto) (fun x6 s6 hf6 hz6 hW6=>?_)
    iterate 2 refine ah ?_
    refine ab.iD (pre:=[_,_]) (u:=aE (aa p.b p.tg)) hW6 rfl rfl rfl rfl rfl (fun _ _=>Jy _ _) (fun w Y' hS=>by exact gQ x5 _ w (hW6.fa (pre:=[_,_]) (by simp) hS) hf5 hto) (fun x7 s7 hf7 hz7 hW7=>?_)
    refine ab.iD (pre:=[_,_]) (u:=ar p.ag (aE (aa p.b p.tg))) hW7 rfl rfl rfl rfl rfl (fun _ _=>JA _ _) (fun w Y' hS=>by exact dL p.ag hag x7 _ w (hW7.fa (pre:=[_,_]) (by simp) hS) hf7 h2o) (fun x8 s8 hf8 hz8 hW8=>?_)
    refine ab.iD (pre:=[_,_]) (u:=aE (ar p.ag (aE (aa p.b p.tg)))) hW8 rfl rfl rfl rfl rfl (fun _ _=>Jy _ _) (fun w Y' hS=>by exact gQ x8 _ w (hW8.fa (pre:=[_,_]) (by simp) hS) hf8 h3o) (fun x9 s9 hf9 hz9 hW9=>?_)
    refine ab.iD (pre:=[_,_]) (u:=aR (ar p.ag (aa p.b p.tg)) (aE (ar p.ag (aE (aa p.b p.tg))))) hW9 rfl rfl rfl rfl rfl (fun _ _=>JC _ _) (fun w Y' hS=>by exact fF x6 x9 _ _ w (hW9.fa (pre:=[_,_]) (by simp) hS) hf6 h1o (hW9.fa (pre:=[_,_]) (by simp) hS) hf9 h4o) (fun x10 s10 hf10 hz10 hW10=>?_)
    refine ab.v (ae.eM rfl rfl rfl rfl (bd48 (c:=[_,_,_,_,_]) rfl)) ?_
    refine ab.bu (pre:=[_,_]) (hR':=[]) hH hW10 (List.nil_sublist _) rfl rfl rfl rfl rfl (fun _ _=>call83 _ _) (fun w Y' hS=>by exact iZ p.bw _ _ x10 _ 6 0 0 0 w (List.mem_cons_self ..) hf10 (dB h1o h4o) hz10) (fun s11 Γ11 hW11 hg11=>?_)
    rw [←hEd] at hW11⊢
    refine ab.eh (c:=[_]) rfl rfl rfl rfl Jg I9 Jv rfl rfl (fun b152=>?_)
    refine ab.oh bK (news:=[(E.1:Int)]) (spn:=[]) (xs:=iL os) (sp:=sp12) (q:=some b12) rfl rfl rfl rfl rfl Jg hiI hzI hszI rfl (fun e=>by cases e) 1 rfl 0 rfl hc12 rfl (by decide) (fun _=>rfl) (by unfold maxLen;omega) (by rw [hbyI];omega) (fun b' sp' cap' hlen=>?_)
    rw [←oX] at hlen⊢
    refine ai ?_;refine gE ?_
    exact K2 ⟨((b',cap',sp'),s11,Γ11),hlen,hW11,fun _ h=>hg11 (by simp [h])⟩ _ _ sF (fun _ _ hS=>hS.aT (pre:=[_,_,_]) (pre':=[_]) [1] (by decide) rfl)
  · -- the first part
   refine gS (gR ?_);refine ah ?_;refine kk ?_;refine al JF Jm 4 ?_;refine al Jh I9 5 ?_
   refine ab.v (ae.ld (p:=⟨bs,5,none⟩) rfl rfl rfl rfl Ja (fun w _ hS=>HB hS.ext rfl)) ?_
   refine aw bh ?_;refine gE ?_
   refine gC (fun hc=>?_) fun hc=>?_
   ·
    have h6:p.x.d.av=6:=by simpa using hc
    obtain ⟨o,ho1,ho2,ho3⟩:=hon6 h6
    have hnd6:nd p.b p.x.d.on=p.b[o]:=by rw [ho1,dI ho2]
    have hx6:=hb.x ho2 (by rw [←ho1];omega)
    rw [dI ho2] at hx6
    have hown6:p.own=dX (p.S0 &&& ~~~ bW p.b[o].x):=by unfold SP.own;rw [if_pos h6,hnd6]
    have hns6:p.ns=p.own:=if_pos h6
    have htg6:(p.tg:Int)=p.b[o].x:=by unfold SP.tg;rw [if_pos h6,hnd6];omega
    refine gS ?_
    refine ab.draw 14 mixed rfl ?_
    refine mH ?_;refine xi ?_;refine mI JF Jp 1 ?_;refine mI Jr Jj 2 ?_
    refine aM.v (ae.ld (p:=⟨bs,2,none⟩) rfl rfl rfl rfl Jn (fun w _ hS=>HB hS.ext rfl)) ?_
    refine mH ?_;refine xi ?_;refine mI JF Jm 4 ?_;refine mI Jh I9 6 ?_
    refine aM.v (ae.ld (p:=⟨bs,6,none⟩) rfl rfl rfl rfl Ja (fun w _ hS=>HB hS.ext rfl)) ?_
    refine aM.v (ae.ez rfl rfl rfl rfl rfl Ji Jd ⟨_,(hr.Ez).at_⟩ (aD (enc:=NV.cells) (sz:=6) (fun _=>rfl)) (by decide) (o) ⟨ho1,ho2⟩) ?_
    refine aM.v (ae.fQ rfl rfl rfl rfl Jb rfl I9 ((o)*6+4) rfl) ?_
    refine aM.v (ae.ld rfl rfl rfl rfl Ja (fun w _ hS=>Sl.kO (enc:=NV.cells) (sz:=6) ((hr.Ez).ay hS.ext).at_ (fun _=>rfl) ho2 rfl)) ?_
    refine AF ?_
    refine aM.nil ?_
    refine gE (gS (gR ?_))
    iterate 2 refine ah ?_
    refine gP rfl rfl rfl rfl rfl call111 (fun w _ hS=>(by exact gU p.b[o].x w hx6.1)) ?_
    refine aw ik ?_
    refine gM rfl rfl rfl rfl rfl call85 (fun w _ hS=>(by exact kR (p.tl[j0].d.set &&& ~~~ bW p.b[o].x) w)) ?_
    rintro v w1 w2 Y' hS he ho
    rw [←hS0,←hown6] at ho
    obtain ⟨q70,c70,sp70,rfl,hq70,hc70,hS'⟩:=re hS he ho
    refine ⟨_,hS',?_⟩
    refine ai ?_;refine gE (gR ?_);refine ah ?_;refine ai ?_;refine gE ?_
    exact K ⟨(q70,c70,sp70),hq70,hc70⟩ _ _ (by rw [htg6,hns6,←iE (o:=p.own)];repeat (first|exact bB.nil|refine bB.cons rfl ?_)) (fun _ _ hS=>hS.aT (pre:=[_,_]) (pre':=[_]) [0] (by decide) rfl)
   have h6:¬p.x.d.av=6:=by simpa using hc
   have hown7:p.own=dX p.S0:=by unfold SP.own;rw [if_neg h6]
   have hns7:p.ns.length=p.own.length - 1:=by unfold SP.ns;rw [if_neg h6,List.length_dropLast]
   have hop:0<p.own.length:=by rw [hown7];exact List.length_pos_iff.2 hne0
   rw [←hown7] at hq45 hc45⊢
   have hil:(iL p.own).length=p.own.length:=iE
   have hlt1:p.own.length - 1<(iL p.own).length:=by omega
   have htg7:(iL p.own).getD (p.own.length - 1) 0=(p.tg:Int):=by rw [Fu hop];unfold SP.tg;rw [if_neg h6]
   obtain ⟨bq,rfl⟩:∃b,q45=some b:=by
     cases q45 with
     |none=>have:=(hq45 rfl).1;omega
     |some b=>exact ⟨b,rfl⟩
   have hc46:p.own.length≤c45:=by
     have:=hc45
     simp [iL] at this;omega
   refine gS (gR ?_)
   iterate 2 refine ah ?_
   refine dY Jg ?_
   refine df rfl rfl rfl rfl (iH (c:=((p.own.length - 1:Nat):Int)) (by rw [hil];omega) (by omega)) ?_
   refine ab.v (ae.dV rfl rfl rfl rfl rfl Jg I9 ((p.own.length - 1)) ⟨rfl,hlt1⟩) ?_
   skip
   refine ab.v (ae.qY bK 0 rfl rfl rfl rfl Ja 0 rfl hlt1) ?_
   rw [htg7]
   refine ai ?_;refine gE (gR ?_)
   iterate 2 refine ah ?_
   refine dY Jg ?_
   refine df rfl rfl rfl rfl (iH (c:=((p.own.length - 1:Nat):Int)) (by rw [hil];omega) (by omega)) ?_
   refine ab.v (ae.EU (hi:=p.own.length - 1) rfl rfl rfl rfl rfl Jg I9 rfl (by omega)) ?_
   refine ai ?_;refine gE ?_
   exact K ⟨(some bq,c45,sp45),hq45,hc45⟩ _ _ (by rw [hns7];repeat (first|exact bB.nil|refine bB.cons rfl ?_)) (fun _ _ hS=>hS)
end Go.Proofs.YtnfmegcknckahaaGreatDoor
namespace Go.Proofs.YtnfmegcknckahaaGreatDoor
open Go.RowKit Go.Proofs.Wit Tryz
theorem yz {p:SP} {σ:Sg} (h:p.x.d.av=6∨p.x.d.av=7):bH af p.b (fg p.tl) p.full p.x.d p.last σ=Fk p (dA p.b p.x.d.set) σ:=by
 unfold bH Fk SP.ag SP.ns SP.tg SP.own SP.line SP.S0
 rcases h with h|h<;>simp [h]
set_option maxRecDepth 8000 in
theorem z6 (p:SP) (k:Nat) (hR:Hl) (Γ:List FV) (σ:Sg) (w:World) (hin:F9 p hR) (hp:p.Ok k) (hlast:qm p.b (fg p.tl) σ p.last k):
    XW p.bw Γ σ 46 [.pointer (some ⟨p.bs,0,none⟩)] w hR (bH af p.b (fg p.tl) p.full p.x.d p.last σ):=by
  have hb:=hp.base
  have hins:=hp.lQ.1
  have hGo:(dA p.b p.x.d.set).ok:=(oW hb hins).1
  have hfrj:∀(m:Nat) (hm:m<p.x.d.fr.length),∃j:Nat,p.x.d.fr[m]=(j:Int)∧j<p.last.length∧p.x.d.fr.getD m 0=(j:Int)∧(σ.bad=false→p.last.getD j 0<σ.ls.length):=fun m hm=>by
    have:=hp.lQ.mZ (List.getElem_mem hm)
    refine ⟨p.x.d.fr[m].toNat,by omega,by rw [hp.Fp];omega,by simp [List.getD_eq_getElem?_getD,hm];omega,fun h=>(hlast _ (by omega) h).1⟩
  have hon:p.x.d.av≠6→p.x.d.av≠7→p.x.d.av≠2→p.x.d.av≠3→∃o:Nat,p.x.d.on=(o:Int)∧o<p.b.length∧(p.x.d.av=5→(nd p.b p.x.d.on).op=9):=fun n6 n7 n2 n3=>by
    rcases hp.lQ.2 with ⟨e,_,h|h⟩|⟨e,_⟩|⟨e,_⟩|⟨e,h,_⟩|⟨e,_,_,h,_⟩|⟨e,_⟩|⟨e,_⟩
    · obtain ⟨o,q1,q2,_⟩:=h.1.nat hb;exact ⟨o,q1,q2,fun h=>by omega⟩
    · obtain ⟨o,q1,_⟩:=fP.1 h.1;have:=h.2.1;exact ⟨o,q1,by omega,fun h=>by omega⟩
    · exact absurd e n2
    · exact absurd e n3
    · exact ⟨p.x.d.on.toNat,by omega,by omega,fun h=>by omega⟩
    · obtain ⟨o,q1,q2,_,q4⟩:=h.nat hb;exact ⟨o,q1,q2,fun _=>q4⟩
    · exact absurd e n6
    exact absurd e n7
  refine rq.of func46 rfl rfl (fun s hW hH=>?_)
  have hr:SR p (cI (cd 73 48 (xE σ.bad) p.bw s)) w:=hin.r hH
  have HB:∀{w':World} {j:Nat} {u:Value},Ex (cI (cd 73 48 (xE σ.bad) p.bw s)) w w'→p.cs[j]?=some u→w'.cell? ⟨p.bs,j,none⟩=some u:=fun e hu=>Ex.cell (Ex.refl _ _) (hr.ex e).dg hu
  obtain ⟨bs,hbs⟩:∃bs,bs=p.bs:=⟨_,rfl⟩
  rw [←hbs] at HB
  have hpb:(Value.pointer (some ⟨p.bs,0,none⟩))=.pointer (some ⟨bs,0,none⟩):=by rw [hbs]
  rw [hpb]
  refine gS (gR ?_);refine ai ?_;refine gE (gS ?_)
  refine ab.jG 18 (([])) mixed ?_
  refine cV 0 (ae.mv rfl rfl rfl rfl) ?_
  refine cV 1 (ae.eg rfl rfl rfl rfl) ?_
  refine cV 2 (ae.aH rfl rfl rfl rfl JF rfl (by exact sizeOf70) 0 rfl) ?_
  refine cV 3 (ae.ld (p:=⟨bs,0,none⟩) rfl rfl rfl rfl isAgg70 (fun w _ hS=>HB hS.ext rfl)) ?_
  refine cV 4 (ae.mv rfl rfl rfl rfl) ?_
  refine cV 5 (ae.eg rfl rfl rfl rfl) ?_
  refine cV 6 (ae.aH rfl rfl rfl rfl JF rfl (by exact Jp) 1 rfl) ?_
  refine cV 7 (ae.aH rfl rfl rfl rfl Jr rfl (by exact Jj) 2 rfl) ?_
  refine cV 8 (ae.ld (p:=⟨bs,2,none⟩) rfl rfl rfl rfl Jn (fun w _ hS=>HB hS.ext rfl)) ?_
  refine cV 9 (ae.mv rfl rfl rfl rfl) ?_
  refine cV 10 (ae.eg rfl rfl rfl rfl) ?_
  refine cV 11 (ae.aH rfl rfl rfl rfl JF rfl (by exact Jm) 4 rfl) ?_
  refine cV 12 (ae.aH rfl rfl rfl rfl Jh rfl (by exact Ju) 4 rfl) ?_
  refine cV 13 (ae.ld (p:=⟨bs,4,none⟩) rfl rfl rfl rfl Jz (fun w _ hS=>HB hS.ext rfl)) ?_
  refine aG.one (i:=14) rfl (dk.iD (pre:=[]) (u:=dA p.b p.x.d.set) hW rfl rfl rfl rfl rfl (fun _ _=>call48 _ _) (fun w Y' hS=>rz p.A p.cA p.b p.x.d.set w (hr.ex hS.ext).fa hb hins) (fun y s1 hyf hyz hW1=>⟨List.nil_sublist _,?_⟩)) rfl
  refine cV 15 (ae.fh rfl rfl rfl rfl) ?_
  refine cV 16 (ae.fh rfl rfl rfl rfl) ?_
  refine aG.done rfl ?_
  refine gE (gS (gS (gR ?_)));refine ah ?_;refine kk ?_;refine al JF Jm 4 ?_;refine al Jh I9 5 ?_
  refine ab.v (ae.ld (p:=⟨bs,5,none⟩) rfl rfl rfl rfl Ja (fun w _ hS=>HB hS.ext rfl)) ?_
  refine gE (gB (gS (gR ?_)));refine aw bh ?_;refine ai ?_;refine gE ?_
  refine gC (fun hc=>?_) fun hc=>?_
  ·
   have r1:p.x.d.av=1:=by simpa using hc
   obtain ⟨o,ho,hol,_⟩:=hon (by omega) (by omega) (by omega) (by omega)
   have hnd:nd p.b p.x.d.on=p.b[o]:=by rw [ho,dI hol]
   have htA:tA p.b p.x.d.on=aa p.b o:=by rw [ho,i6]
   have hcO:=(we hb hol).2
   refine gS (gS ?_)
   refine ab.draw 14 mixed rfl ?_
   refine mH ?_;refine xi ?_;refine mI JF Jp 1 ?_;refine mI Jr Jj 2 ?_
   refine aM.v (ae.ld (p:=⟨bs,2,none⟩) rfl rfl rfl rfl Jn (fun w _ hS=>HB hS.ext rfl)) ?_
   refine mH ?_;refine xi ?_;refine mI JF Jm 4 ?_;refine mI Jh I9 6 ?_
   refine aM.v (ae.ld (p:=⟨bs,6,none⟩) rfl rfl rfl rfl Ja (fun w _ hS=>HB hS.ext rfl)) ?_
   refine aM.v (ae.ez rfl rfl rfl rfl rfl Ji Jd ⟨_,(hr.Ez).at_⟩ (aD (enc:=NV.cells) (sz:=6) (fun _=>rfl)) (by decide) (o) ⟨ho,hol⟩) ?_
   refine aM.v (ae.fQ rfl rfl rfl rfl Jb rfl I9 ((o)*6+0) rfl) ?_
   refine aM.v (ae.ld rfl rfl rfl rfl Ja (fun w _ hS=>Sl.kO (enc:=NV.cells) (sz:=6) ((hr.Ez).ay hS.ext).at_ (fun _=>rfl) hol rfl)) ?_
   refine CT bh ?_
   refine aM.nil ?_
   refine gE ?_
   refine gC (fun hc=>?_) fun hc=>?_
   ·
    have h2:p.b[o].op=2:=by simpa using hc
    have hE:bH af p.b (fg p.tl) p.full p.x.d p.last σ=aX af (dA p.b p.x.d.set) [] σ:=by unfold bH;simp only [if_pos r1,hnd,if_pos h2]
    refine gS (gR ?_)
    iterate 2 refine ah ?_
    refine ab.bu (pre:=[]) (hR':=[]) hH hW1 (List.nil_sublist _) rfl rfl rfl rfl rfl (fun _ _=>JI _ _) (fun w Y' hS=>by exact lZ p.bw _ _ y _ w (List.mem_cons_self ..) hyf hGo hyz) (fun s2 Γ2 hW2 hg2=>?_)
    refine ai ?_;refine gE ?_
    refine gT func46 fun w' hS=>?_
    exact dR (pre:=[]) hE rfl hW2 (fun _ h=>hg2 (List.mem_cons_of_mem _ h)) hS
   have h2:¬p.b[o].op=2:=by simpa using hc
   have hE:bH af p.b (fg p.tl) p.full p.x.d p.last σ=aX af (dA p.b p.x.d.set) [(aF af false (aa p.b o) σ).1] (aF af false (aa p.b o) σ).2:=by unfold bH;simp only [if_pos r1,hnd,if_neg h2,htA]
   refine gK (gS (gR ?_))
   iterate 5 refine ah ?_
   refine kk ?_;refine al JF Jm 4 ?_;refine al Jh I9 6 ?_
   refine ab.v (ae.ld (p:=⟨bs,6,none⟩) rfl rfl rfl rfl Ja (fun w _ hS=>HB hS.ext rfl)) ?_
   rw [hbs]
   refine ab.uw (pre:=[]) (u:=aa p.b o) hW1 rfl rfl rfl rfl rfl (fun _ _=>call81 _ _) (fun w Y' hS=>by rw [←htA];exact ib p _ w (hr.ex hS.ext) hb (by omega)) (fun x2 s2 hf2 hW2=>?_)
   refine ab.bu (pre:=[]) (hR':=[]) hH hW2 (List.nil_sublist _) rfl rfl rfl rfl rfl (fun _ _=>call43 _ _) (fun w Y' hS=>by exact xu p.bw (SizeOf.sizeOf (aa p.b o)+1) _ (Nat.lt_succ_self _) (hb.nf o hol) _ σ x2 w (List.mem_cons_self ..) (by rw [hf2];exact hcO)) (fun s3 Γ3 hW3 hg3=>?_)
   refine ab.eh (c:=[_]) rfl rfl rfl rfl Jg I9 Jv rfl rfl (fun b57=>?_)
   refine ab.bu (pre:=[_]) (hR':=[(some b57,ob bK 3 (iL [(aF af false (aa p.b o) σ).1]) [])]) hH hW3 (.cons_cons _ (List.nil_sublist _)) rfl rfl rfl rfl rfl (fun _ _=>JI _ _) (fun w Y' hS=>bC p.bw _ _ y _ (some b57) [(aF af false (aa p.b o) σ).1] 1 [] w (hg3 (by simp)) hyf hGo hyz (fun e=>by cases e) (fun h n hn=>by rw [List.mem_singleton.1 hn];exact (dU h).1) (by simp)) (fun s4 Γ4 hW4 hg4=>?_)
   refine ai ?_;refine gE ?_
   refine gT func46 fun w' hS=>?_
   exact dR (pre:=[_]) hE rfl hW4 (fun _ h=>hg4 (hg3 (by simp [h]))) hS
  have r1:¬p.x.d.av=1:=by simpa using hc
  refine gS (gR ?_);refine aw bh ?_;refine ai ?_;refine gE ?_
  refine gC (fun hc=>?_) fun hc=>?_
  ·
   have r2:p.x.d.av=2:=by simpa using hc
   obtain ⟨j,j1,j2,j3,j4⟩:=hfrj 0 (ij hp.lQ r1)
   have hE:bH af p.b (fg p.tl) p.full p.x.d p.last σ=aX af (dA p.b p.x.d.set) [p.last.getD j 0] σ:=by unfold bH;simp only [if_neg r1,if_pos r2,j3,Int.toNat_natCast]
   refine gS (gR ?_)
   iterate 3 refine ah ?_
   refine gP rfl rfl rfl rfl rfl call82 (fun w _ hS=>(by rw [hbs];exact kp p 0 j w (hr.ex hS.ext) (ij hp.lQ r1) j1 j2)) ?_
   refine ab.eh (c:=[_]) rfl rfl rfl rfl Jg I9 Jv rfl rfl (fun b65=>?_)
   refine ab.bu (pre:=[_]) (hR':=[(some b65,ob bK 3 (iL [p.last.getD j 0]) [])]) hH hW1 (.cons_cons _ (List.nil_sublist _)) rfl rfl rfl rfl rfl (fun _ _=>JI _ _) (fun w Y' hS=>bC p.bw _ _ y _ (some b65) [p.last.getD j 0] 1 [] w (List.mem_cons_self ..) hyf hGo hyz (fun e=>by cases e) (fun h n hn=>by rw [List.mem_singleton.1 hn];exact j4 h) (by simp)) (fun s4 Γ4 hW4 hg4=>?_)
   refine ai ?_;refine gE ?_
   refine gT func46 fun w' hS=>?_
   exact dR (pre:=[_]) hE rfl hW4 (fun _ h=>hg4 (by simp [h])) hS
  have r2:¬p.x.d.av=2:=by simpa using hc
  refine gS (gR ?_);refine aw bh ?_;refine ai ?_;refine gE ?_
  refine gC (fun hc=>?_) fun hc=>?_
  ·
   have r3:p.x.d.av=3:=by simpa using hc
   obtain ⟨j,j1,j2,j3,j4⟩:=hfrj 0 (ij hp.lQ r1)
   obtain ⟨i,i1,i2,i3,i4⟩:=hfrj 1 (m8 hp.lQ (.inl r3))
   have hE:bH af p.b (fg p.tl) p.full p.x.d p.last σ=aX af (dA p.b p.x.d.set) [p.last.getD j 0,p.last.getD i 0] σ:=by unfold bH;simp only [if_neg r1,if_neg r2,if_pos r3,j3,i3,Int.toNat_natCast]
   refine gS (gR ?_)
   iterate 3 refine ah ?_
   refine gP rfl rfl rfl rfl rfl call82 (fun w _ hS=>(by rw [hbs];exact kp p 0 j w (hr.ex hS.ext) (ij hp.lQ r1) j1 j2)) ?_
   refine ah ?_
   refine gP rfl rfl rfl rfl rfl call82 (fun w _ hS=>(by rw [hbs];exact kp p 1 i w (hr.ex hS.ext) (m8 hp.lQ (.inl r3)) i1 i2)) ?_
   refine ab.eh (c:=[_,_]) rfl rfl rfl rfl Jg I9 Jv rfl rfl (fun b75=>?_)
   refine ab.bu (pre:=[_]) (hR':=[(some b75,ob bK 3 (iL [p.last.getD j 0,p.last.getD i 0]) [])]) hH hW1 (.cons_cons _ (List.nil_sublist _)) rfl rfl rfl rfl rfl (fun _ _=>JI _ _) (fun w Y' hS=>bC p.bw _ _ y _ (some b75) [p.last.getD j 0,p.last.getD i 0] 2 [] w (List.mem_cons_self ..) hyf hGo hyz (fun e=>by cases e) (fun h n hn=>by
     simp only [List.mem_cons,List.not_mem_nil,or_false] at hn
     rcases hn with rfl|rfl
     · exact j4 h
     exact i4 h) (by simp)) (fun s4 Γ4 hW4 hg4=>?_)
   refine ai ?_;refine gE ?_
   refine gT func46 fun w' hS=>?_
   exact dR (pre:=[_]) hE rfl hW4 (fun _ h=>hg4 (by simp [h])) hS
  have r3:¬p.x.d.av=3:=by simpa using hc
  refine gS (gR ?_);refine aw bh ?_;refine ai ?_;refine gE ?_
  refine gC (fun hc=>?_) fun hc=>?_
  ·
   have r4:p.x.d.av=4:=by simpa using hc
   obtain ⟨j,j1,j2,j3,j4⟩:=hfrj 0 (ij hp.lQ r1)
   obtain ⟨i,i1,i2,i3,i4⟩:=hfrj 1 (m8 hp.lQ (.inr r4))
   obtain ⟨o,ho,hol,_⟩:=hon (by omega) (by omega) r2 r3
   have htA:tA p.b p.x.d.on=aa p.b o:=by rw [ho,i6]
   have hcO:=(we hb hol).2
   obtain ⟨Q,hQ⟩:∃Q,Q=aF af true (aa p.b o) σ:=⟨_,rfl⟩
   have hQle:σ.Le Q.2:=by rw [hQ];exact ig
   have hE:bH af p.b (fg p.tl) p.full p.x.d p.last σ=aX af (dA p.b p.x.d.set) [Q.1,p.last.getD j 0,p.last.getD i 0] Q.2:=by unfold bH;simp only [if_neg r1,if_neg r2,if_neg r3,if_pos r4,j3,i3,Int.toNat_natCast,htA,hQ]
   refine gS (gR ?_)
   iterate 5 refine ah ?_
   refine kk ?_;refine al JF Jm 4 ?_;refine al Jh I9 6 ?_
   refine ab.v (ae.ld (p:=⟨bs,6,none⟩) rfl rfl rfl rfl Ja (fun w _ hS=>HB hS.ext rfl)) ?_
   rw [hbs]
   refine ab.uw (pre:=[]) (u:=aa p.b o) hW1 rfl rfl rfl rfl rfl (fun _ _=>call81 _ _) (fun w Y' hS=>by rw [←htA];exact ib p _ w (hr.ex hS.ext) hb (by omega)) (fun x2 s2 hf2 hW2=>?_)
   refine ab.bu (pre:=[]) (hR':=[]) hH hW2 (List.nil_sublist _) rfl rfl rfl rfl rfl (fun _ _=>call45 _ _) (fun w Y' hS=>by exact xt p.bw (SizeOf.sizeOf (aa p.b o)+1) _ (Nat.lt_succ_self _) (hb.nf o hol) _ σ x2 w (List.mem_cons_self ..) (by rw [hf2];exact hcO)) (fun s3 Γ3 hW3 hg3=>?_)
   rw [←hQ] at hW3⊢
   refine ah ?_
   refine gP rfl rfl rfl rfl rfl call82 (fun w _ hS=>(by exact kp p 0 j w (hr.ex hS.ext) (ij hp.lQ r1) j1 j2)) ?_
   refine ah ?_
   refine gP rfl rfl rfl rfl rfl call82 (fun w _ hS=>(by exact kp p 1 i w (hr.ex hS.ext) (m8 hp.lQ (.inr r4)) i1 i2)) ?_
   refine ab.eh (c:=[_,_,_]) rfl rfl rfl rfl Jg I9 Jv rfl rfl (fun b94=>?_)
   refine ab.bu (pre:=[_]) (hR':=[(some b94,ob bK 3 (iL [Q.1,p.last.getD j 0,p.last.getD i 0]) [])]) hH hW3 (.cons_cons _ (List.nil_sublist _)) rfl rfl rfl rfl rfl (fun _ _=>JI _ _) (fun w Y' hS=>bC p.bw _ _ y _ (some b94) [Q.1,p.last.getD j 0,p.last.getD i 0] 3 [] w (hg3 (by simp)) hyf hGo hyz (fun e=>by cases e) (fun h n hn=>by
     simp only [List.mem_cons,List.not_mem_nil,or_false] at hn
     rcases hn with rfl|rfl|rfl
     · rw [hQ] at h⊢;exact (dU h).1
     · exact Nat.lt_of_lt_of_le (j4 (hQle.ok h)) hQle.pre.length_le
     exact Nat.lt_of_lt_of_le (i4 (hQle.ok h)) hQle.pre.length_le) (by simp)) (fun s4 Γ4 hW4 hg4=>?_)
   refine ai ?_;refine gE ?_
   refine gT func46 fun w' hS=>?_
   exact dR (pre:=[_]) hE rfl hW4 (fun _ h=>hg4 (hg3 (by simp [h]))) hS
  have r4:¬p.x.d.av=4:=by simpa using hc
  refine gS (gR ?_);refine aw bh ?_;refine ai ?_;refine gE ?_
  refine gC (fun hc=>?_) fun hc=>?_
  ·
   have r5:p.x.d.av=5:=by simpa using hc
   obtain ⟨j,j1,j2,j3,j4⟩:=hfrj 0 (ij hp.lQ r1)
   obtain ⟨o,ho,hol,ho9⟩:=hon (by omega) (by omega) r2 r3
   have ho9:=ho9 r5
   have hnd:nd p.b p.x.d.on=p.b[o]:=by rw [ho,dI hol]
   have htA:tA p.b p.x.d.on=aa p.b o:=by rw [ho,i6]
   have hx5:=hb.x hol (by rw [←ho];omega)
   rw [dI hol] at hx5
   have hx5':0≤p.b[o].x∧p.b[o].x<p.b.length:=by omega
   have hoo:=hb.ok hol
   have hxo:=xF hb hx5'
   obtain ⟨Q,hQ⟩:∃Q,Q=bQ af (aR (aa p.b o) (tA p.b p.b[o].x)) 3 0 0 0 σ:=⟨_,rfl⟩
   have hQle:σ.Le Q.2:=by rw [hQ];exact da
   have hE:bH af p.b (fg p.tl) p.full p.x.d p.last σ=aX af (dA p.b p.x.d.set) [Q.1,p.last.getD j 0] Q.2:=by unfold bH;simp only [if_neg r1,if_neg r2,if_neg r3,if_neg r4,if_pos r5,j3,Int.toNat_natCast,htA,hnd,hQ]
   refine gS (gR ?_)
   iterate 2 refine ah ?_
   refine kk ?_;refine al JF Jm 4 ?_;refine al Jh I9 6 ?_
   refine ab.v (ae.ld (p:=⟨bs,6,none⟩) rfl rfl rfl rfl Ja (fun w _ hS=>HB hS.ext rfl)) ?_
   rw [hbs]
   refine ab.uw (pre:=[]) (u:=aa p.b o) hW1 rfl rfl rfl rfl rfl (fun _ _=>call81 _ _) (fun w Y' hS=>by rw [←htA];exact ib p _ w (hr.ex hS.ext) hb (by omega)) (fun x2 s2 hf2 hW2=>?_)
   skip
   refine ai ?_
   rw [←hbs]
   refine gE (gS ?_)
   refine ab.jG 22 (([])) mixed ?_
   refine cV 0 (ae.mv rfl rfl rfl rfl) ?_
   refine cV 1 (ae.mv rfl rfl rfl rfl) ?_
   refine cV 2 (ae.mv rfl rfl rfl rfl) ?_
   refine cV 3 (ae.mv rfl rfl rfl rfl) ?_
   refine cV 4 (ae.eg rfl rfl rfl rfl) ?_
   refine cV 5 (ae.aH rfl rfl rfl rfl JF rfl (by exact Jp) 1 rfl) ?_
   refine cV 6 (ae.aH rfl rfl rfl rfl Jr rfl (by exact Jj) 2 rfl) ?_
   refine cV 7 (ae.ld (p:=⟨bs,2,none⟩) rfl rfl rfl rfl Jn (fun w _ hS=>HB hS.ext rfl)) ?_
   refine cV 8 (ae.mv rfl rfl rfl rfl) ?_
   refine cV 9 (ae.eg rfl rfl rfl rfl) ?_
   refine cV 10 (ae.aH rfl rfl rfl rfl JF rfl (by exact Jm) 4 rfl) ?_
   refine cV 11 (ae.aH rfl rfl rfl rfl Jh rfl (by exact I9) 6 rfl) ?_
   refine cV 12 (ae.ld (p:=⟨bs,6,none⟩) rfl rfl rfl rfl Ja (fun w _ hS=>HB hS.ext rfl)) ?_
   refine cV 13 (ae.ez rfl rfl rfl rfl rfl Ji Jd ⟨_,(hr.Ez).at_⟩ (aD (enc:=NV.cells) (sz:=6) (fun _=>rfl)) (by decide) (o) ⟨ho,hol⟩) ?_
   refine cV 14 (ae.fQ rfl rfl rfl rfl Jb rfl I9 ((o)*6+4) rfl) ?_
   refine cV 15 (ae.ld rfl rfl rfl rfl Ja (fun w _ hS=>Sl.kO (enc:=NV.cells) (sz:=6) ((hr.Ez).ay hS.ext).at_ (fun _=>rfl) hol rfl)) ?_
   rw [hbs]
   refine aG.one (i:=16) rfl (dk.uw (pre:=[]) (u:=tA p.b p.b[o].x) hW2 rfl rfl rfl rfl rfl (fun _ _=>call81 _ _) (fun w Y' hS=>ib p _ w (hr.ex hS.ext) hb hx5') (fun x3 s3 hf3 hW3=>⟨List.nil_sublist _,?_⟩)) rfl
   refine aG.one (i:=17) rfl (dk.iD (pre:=[]) (u:=aR (aa p.b o) (tA p.b p.b[o].x)) hW3 rfl rfl rfl rfl rfl (fun _ _=>JC _ _) (fun w Y' hS=>fF x2 x3 _ _ w (hW3.fa (pre:=[]) (by simp) hS) hf2 hoo (hW3.fa (pre:=[]) (by simp) hS) hf3 hxo) (fun x4 s4 hf4 hz4 hW4=>⟨List.nil_sublist _,?_⟩)) rfl
   refine cV 18 (ae.eM rfl rfl rfl rfl (bd48 (c:=[_,_,_,_,_]) rfl)) ?_
   refine aG.one (i:=19) rfl (dk.bu (pre:=[]) (hR':=[]) hH hW4 (List.nil_sublist _) rfl rfl rfl rfl rfl (fun _ _=>call83 _ _) (fun w Y' hS=>iZ p.bw _ _ x4 _ 3 0 0 0 w (List.mem_cons_self ..) hf4 (dB hoo hxo) hz4) (fun s5 Γ5 hW5 hg5=>⟨List.nil_sublist _,?_⟩)) rfl
   rw [←hQ] at hW5⊢
   refine cV 20 (ae.fh rfl rfl rfl rfl) ?_
   refine aG.done rfl ?_
   refine gE (gS (gR ?_))
   iterate 4 refine ah ?_
   refine gP rfl rfl rfl rfl rfl call82 (fun w _ hS=>(by exact kp p 0 j w (hr.ex hS.ext) (ij hp.lQ r1) j1 j2)) ?_
   refine ab.eh (c:=[_,_]) rfl rfl rfl rfl Jg I9 Jv rfl rfl (fun b130=>?_)
   refine ab.bu (pre:=[_]) (hR':=[(some b130,ob bK 3 (iL [Q.1,p.last.getD j 0]) [])]) hH hW5 (.cons_cons _ (List.nil_sublist _)) rfl rfl rfl rfl rfl (fun _ _=>JI _ _) (fun w Y' hS=>bC p.bw _ _ y _ (some b130) [Q.1,p.last.getD j 0] 2 [] w (hg5 (by simp)) hyf hGo hyz (fun e=>by cases e) (fun h n hn=>by
     simp only [List.mem_cons,List.not_mem_nil,or_false] at hn
     rcases hn with rfl|rfl
     · rw [hQ] at h⊢;exact (bM h).1
     exact Nat.lt_of_lt_of_le (j4 (hQle.ok h)) hQle.pre.length_le) (by simp)) (fun s6 Γ6 hW6 hg6=>?_)
   refine ai ?_;refine gE ?_
   refine gT func46 fun w' hS=>?_
   exact dR (pre:=[_]) hE rfl hW6 (fun _ h=>hg6 (hg5 (by simp [h]))) hS
  have r5:¬p.x.d.av=5:=by simpa using hc
  have h67:p.x.d.av=6∨p.x.d.av=7:=by
    rcases hp.lQ.2 with ⟨e,_⟩|⟨e,_⟩|⟨e,_⟩|⟨e,_⟩|⟨e,_⟩|⟨e,_⟩|⟨e,_⟩<;>omega
  refine gK (dQ (gS (gR ?_)))
  iterate 2 refine ah ?_
  rw [hbs]
  refine ab.bu (pre:=[]) (hR':=hR) hH hW1 (List.Sublist.refl _) rfl rfl rfl rfl rfl (fun _ _=>call84 _ _) (fun w Y' hS=>by exact xq p k hR _ σ y _ w hin hp h67 hlast (List.mem_cons_self ..) hyf hGo hyz) (fun s2 Γ2 hW2 hg2=>?_)
  refine ai ?_;refine gE ?_
  refine gT func46 fun w' hS=>?_
  exact dR (pre:=[]) (yz h67) rfl hW2 (fun _ h=>hg2 (List.mem_cons_of_mem _ h)) hS
end Go.Proofs.YtnfmegcknckahaaGreatDoor
