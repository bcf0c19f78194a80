/- What calls of the program return, under the conditions that each theorem states. -/
import Derived.Test.YtnfmegcknckahaaGreatDoorXA43
import Derived.Test.YtnfmegcknckahaaGreatDoorXA42
import Derived.Test.YtnfmegcknckahaaGreatDoorXA03
import Derived.Test.YtnfmegcknckahaaGreatDoorXA04
import Derived.Test.YtnfmegcknckahaaGreatDoorXA35
namespace Go.Proofs.YtnfmegcknckahaaGreatDoor
open Go.RowKit Go.Proofs.Wit Tryz
set_option maxRecDepth 8000 in
theorem wi (a:Option Addr) (ca:Nat) (f:List NV) (w:World) (ha:FA w a f) (hf:aW f=0):Cn Tryz.prog 72 [.slice a f.length ca] w (fun v _=>v=.bool (decide (∀n∈f,eG f n))):=by
  have hok:=aA.1 hf
  have hfl:=hok.len
  have hOn:=hok.nodes
  refine Cn.of func72 rfl rfl ?_
  refine gS (gR ?_);refine ai ?_;refine gE (gS (gS (gR ?_)));refine ah ?_;refine dM Jr ?_;refine ah ?_;refine gE (gB ?_)
  refine ab.loop (σ:=Nat) (fun k=>[(0,.slice a f.length ca),(5,.slice a f.length ca),(6,.int .i64 f.length),(7,.int .i64 k)]) (fun _=>[]) (fun k=>k≤f.length∧∀(j:Nat) (hj:j<f.length),j<k→eG f f[j]) (fun k=>f.length - k) 0 ⟨Nat.zero_le _,fun j hj h=>absurd h (Nat.not_lt_zero _)⟩ ⟨rfl,rfl,rfl,rfl,trivial⟩ (List.Sublist.refl _) (fun k hI IH=>?_)
  obtain ⟨hk,hall⟩:=hI
  refine gS (gR ?_);refine aw iX ?_;refine gE (gS ?_)
  refine gC (fun hc=>?_) fun hc=>?_
  ·
   have hlt:k<f.length:=by simpa using hc
   obtain ⟨n,hn⟩:∃n,n=f[k]:=⟨_,rfl⟩
   have hbad:¬eG f n→decide (∀n∈f,eG f n)=false:=fun h=>decide_eq_false (fun e=>h (by rw [hn];exact e _ (List.getElem_mem hlt)))
   have hgood:eG f n→k+1≤f.length∧∀(j:Nat) (hj:j<f.length),j<k+1→eG f f[j]:=fun h=>⟨hlt,fun j hj hjk=>by
     by_cases e:j=k
     · subst e;rw [←hn];exact h
     exact hall j hj (by omega)⟩
   refine gK (gS (gB (gS (gR ?_))))
   refine ab.v (ae.ed rfl rfl rfl rfl rfl Jr Jm ⟨_,(ha).at_⟩ (ax (enc:=NV.cells) (sz:=6) (fun _=>rfl)) (by decide) (k) ⟨rfl,hlt⟩) ?_
   refine ab.v (ae.nV (cs:=NV.cells f[k]) rfl rfl rfl rfl JD Jm (fun w _ hS=>Sl.many (enc:=NV.cells) (sz:=6) (ha.ay hS.ext).at_ (fun _=>rfl) hlt)) ?_
   rw [←hn]
   refine ab.eO rfl rfl rfl (fun _=>JA _) (fun b4=>?_)
   refine ab.dF rfl rfl rfl rfl Jm 0 rfl rfl rfl rfl ?_
   refine gE (gS (gR ?_));refine al Jk Ji 0 ?_;refine aq Jj 0 ?_;refine gE (gB (gS ?_))
   refine ab.jS (α:=Unit) (fun _=>[(0,.slice a f.length ca),(5,.slice a f.length ca),(6,.int .i64 f.length),(7,.int .i64 k),(4,.pointer (some ⟨b4,0,none⟩)),(12,.int .i64 n.op),(13,.bool (decide (n.op=1∨n.op=2∨n.op=3∨n.op=5∨n.op=6∨n.op=9∨n.op=10)))]) (fun _=>[(some b4,.cells (NV.cells n).toArray 66 (0,0))]) (fun _=>?_) (fun K=>?_)
   · -- what comes behind
    refine gC (fun hc=>?_) fun hc=>?_
    ·
     have h1:n.op=1∨n.op=2∨n.op=3∨n.op=5∨n.op=6∨n.op=9∨n.op=10:=by simpa using hc
     refine gK (dO (dO (gR ?_)));refine db rfl rfl rfl rfl (cz (by omega)) ?_;refine ah ?_;refine gE ?_
     exact IH (k+1) _ _ (hgood (.inl h1)) (by omega) ⟨rfl,rfl,rfl,rfl,trivial⟩ (List.nil_sublist _)
    have h1:¬(n.op=1∨n.op=2∨n.op=3∨n.op=5∨n.op=6∨n.op=9∨n.op=10):=by simpa using hc
    refine gS (gR ?_);refine aw bd ?_;refine ai ?_;refine gE ?_
    refine gC (fun hc=>?_) fun hc=>?_
    ·
     have h4:n.op=4:=by simpa using hc
     have hok2:=hOn k hlt
     rw [←hn] at hok2
     have hx:=hok2.x (by rw [h4];rfl)
     obtain ⟨kx,hkx⟩:∃kx:Nat,n.x=(kx:Int):=⟨n.x.toNat,by omega⟩
     have hxl:kx<f.length:=by omega
     have hnx:nd f n.x=f[kx]:=by rw [hkx,dH hxl]
     refine gS (gR ?_);refine ah ?_;refine al Jk Ji 4 ?_;refine aq Jj 0 ?_
     refine ab.v (ae.ed rfl rfl rfl rfl rfl Jr Jm ⟨_,(ha).at_⟩ (ax (enc:=NV.cells) (sz:=6) (fun _=>rfl)) (by decide) (kx) ⟨hkx,hxl⟩) ?_
     refine ab.v (ae.fM rfl rfl rfl rfl Jk rfl Ji ((kx)*6+0) rfl) ?_
     refine ab.v (ae.ld rfl rfl rfl rfl Jj (fun w _ hS=>Sl.kU (enc:=NV.cells) (sz:=6) ((ha).ay hS.ext).at_ (fun _=>rfl) hxl rfl)) ?_
     refine aw gJ ?_;refine gE ?_
     refine gC (fun hc=>?_) fun hc=>?_
     ·
      have h3:¬f[kx].op=3:=by simpa using hc
      refine gS (gR ?_);refine ai ?_;refine gE ?_
      refine gT func72 fun w' hS=>?_
      exact ⟨hS.ext,by rw [hbad (fun h=>h3 (hnx ▸ (h.elim (fun g=>absurd g h1) (fun g=>g.2))))];rfl⟩
     have h3:f[kx].op=3:=by simpa using hc
     refine gK (dO (dO (gR ?_)));refine db rfl rfl rfl rfl (cz (by omega)) ?_;refine ah ?_;refine gE ?_
     exact IH (k+1) _ _ (hgood (.inr ⟨h4,by rw [hnx];exact h3⟩)) (by omega) ⟨rfl,rfl,rfl,rfl,trivial⟩ (List.nil_sublist _)
    have h4:¬n.op=4:=by simpa using hc
    refine gS (gR ?_);refine ai ?_;refine gE ?_
    refine gT func72 fun w' hS=>?_
    exact ⟨hS.ext,by rw [hbad (fun h=>h.elim (fun g=>absurd g h1) (fun g=>absurd g.1 h4))];rfl⟩
   · -- the first part
    refine gS (gR ?_);refine aw bd ?_;refine ai ?_;refine gE ?_
    refine gC (fun hc=>?_) fun hc=>?_
    ·
     have e:n.op=1:=by simpa using hc
     have hd:decide (n.op=1∨n.op=2∨n.op=3∨n.op=5∨n.op=6∨n.op=9∨n.op=10)=true:=decide_eq_true (by omega)
     refine gK ?_
     exact K () _ _ (by rw [hd];repeat (first|exact bC.nil|refine bC.cons (by first|rfl|exact congrArg (fun b=>some (Value.bool b)) (by simpa using hc)) ?_)) (fun _ _ hS=>hS)
    have e1:¬n.op=1:=by simpa using hc
    refine gS (gR ?_);refine aw bd ?_;refine ai ?_;refine gE ?_
    refine gC (fun hc=>?_) fun hc=>?_
    ·
     have e:n.op=2:=by simpa using hc
     have hd:decide (n.op=1∨n.op=2∨n.op=3∨n.op=5∨n.op=6∨n.op=9∨n.op=10)=true:=decide_eq_true (by omega)
     refine gK ?_
     exact K () _ _ (by rw [hd];repeat (first|exact bC.nil|refine bC.cons (by first|rfl|exact congrArg (fun b=>some (Value.bool b)) (by simpa using hc)) ?_)) (fun _ _ hS=>hS)
    have e2:¬n.op=2:=by simpa using hc
    refine gS (gR ?_);refine aw bd ?_;refine ai ?_;refine gE ?_
    refine gC (fun hc=>?_) fun hc=>?_
    ·
     have e:n.op=3:=by simpa using hc
     have hd:decide (n.op=1∨n.op=2∨n.op=3∨n.op=5∨n.op=6∨n.op=9∨n.op=10)=true:=decide_eq_true (by omega)
     refine gK ?_
     exact K () _ _ (by rw [hd];repeat (first|exact bC.nil|refine bC.cons (by first|rfl|exact congrArg (fun b=>some (Value.bool b)) (by simpa using hc)) ?_)) (fun _ _ hS=>hS)
    have e3:¬n.op=3:=by simpa using hc
    refine gS (gR ?_);refine aw bd ?_;refine ai ?_;refine gE ?_
    refine gC (fun hc=>?_) fun hc=>?_
    ·
     have e:n.op=5:=by simpa using hc
     have hd:decide (n.op=1∨n.op=2∨n.op=3∨n.op=5∨n.op=6∨n.op=9∨n.op=10)=true:=decide_eq_true (by omega)
     refine gK ?_
     exact K () _ _ (by rw [hd];repeat (first|exact bC.nil|refine bC.cons (by first|rfl|exact congrArg (fun b=>some (Value.bool b)) (by simpa using hc)) ?_)) (fun _ _ hS=>hS)
    have e5:¬n.op=5:=by simpa using hc
    refine gS (gR ?_);refine aw bd ?_;refine ai ?_;refine gE ?_
    refine gC (fun hc=>?_) fun hc=>?_
    ·
     have e:n.op=6:=by simpa using hc
     have hd:decide (n.op=1∨n.op=2∨n.op=3∨n.op=5∨n.op=6∨n.op=9∨n.op=10)=true:=decide_eq_true (by omega)
     refine gK ?_
     exact K () _ _ (by rw [hd];repeat (first|exact bC.nil|refine bC.cons (by first|rfl|exact congrArg (fun b=>some (Value.bool b)) (by simpa using hc)) ?_)) (fun _ _ hS=>hS)
    have e6:¬n.op=6:=by simpa using hc
    refine gS (gR ?_);refine aw bd ?_;refine ai ?_;refine gE ?_
    refine gC (fun hc=>?_) fun hc=>?_
    ·
     have e:n.op=9:=by simpa using hc
     have hd:decide (n.op=1∨n.op=2∨n.op=3∨n.op=5∨n.op=6∨n.op=9∨n.op=10)=true:=decide_eq_true (by omega)
     refine gK ?_
     exact K () _ _ (by rw [hd];repeat (first|exact bC.nil|refine bC.cons (by first|rfl|exact congrArg (fun b=>some (Value.bool b)) (by simpa using hc)) ?_)) (fun _ _ hS=>hS)
    have e9:¬n.op=9:=by simpa using hc
    have hd:decide (n.op=1∨n.op=2∨n.op=3∨n.op=5∨n.op=6∨n.op=9∨n.op=10)=decide (n.op=10):=decide_eq_decide.2 ⟨fun h=>by omega,fun h=>by omega⟩
    refine gR ?_;refine aw bd ?_;refine ai ?_;refine gE ?_
    exact K () _ _ (by rw [hd];repeat (first|exact bC.nil|refine bC.cons rfl ?_)) (fun _ _ hS=>hS)
  have hge:¬k<f.length:=by simpa using hc
  refine ab.exit rfl (gS (gR ?_))
  refine ai ?_;refine gE ?_
  refine gT func72 fun w' hS=>?_
  exact ⟨hS.ext,by rw [decide_eq_true (fun n hn=>by obtain ⟨j,hj,rfl⟩:=List.mem_iff_getElem.1 hn;exact hall j hj (by omega))];rfl⟩
theorem zB {f c:List NV} (h:aW f=0) (hc:c=aj f):Cf c (bh f):=by
 have hC:iF c:=by rw [hc];exact iF.aj h
 have:=Cf.of (aA.1 h).top (by rw [←dv h,←hc];exact hC.len)
 rwa [←dv h,←hc] at this
set_option maxRecDepth 8000 in
theorem sJ (gf:FuncId) (ei:Bool) (hcf:∀args w,(callFunc gf args).run Tryz.prog w=.ok (.enter gf args) w) (hg:∀(bw:Nat) (t:Tr),ot t→∀(Γ:List FV) (σ:Sg) (x:FV) (w:World),x∈Γ→Cf x.f t→XW bw Γ σ gf [.pointer (some ⟨bw,0,none⟩),x.v] w [] (aI af ei t σ)) (x:FV) (w:World) (ha:FA w x.a x.f) (hl:x.f.length≤maxLen):
    Cn Tryz.prog 42 [x.v,.func (.func gf) #[] #[]] w (fun v w'=>∃sv ls,v=.tuple #[sv,.int .i64 (ri ei x.f)]∧hJ 66 48 w w' sv ls∧(ri ei x.f=0→ls.map LV.d=DC ei x.f)∧(ri ei x.f≠0→ls=[])):=by
  refine Cn.of func42 rfl rfl ?_
  refine gS (gR ?_)
  iterate 2 refine ai ?_
  refine gE (gS (gS (gR ?_)));refine ah ?_
  refine gP rfl rfl rfl rfl rfl call54 (fun w _ hS=>(by exact fV x.a x.c x.f w (ha.ay hS.ext) hl)) ?_
  refine ai ?_;refine gE (gS (gR ?_));refine ah ?_;refine aw gJ ?_;refine gE ?_
  refine gC (fun hc=>?_) fun hc=>?_
  ·
   have h1:aW x.f≠0:=by simpa using hc
   have hE:ri ei x.f=aW x.f:=if_pos h1
   refine gS (gR ?_);refine ah ?_
   iterate 2 refine ai ?_
   refine gE ?_
   refine gT func42 fun w' hS=>?_
   exact ⟨hS.ext,_,[],by rw [hE];rfl,hJ.nil,fun h=>absurd (hE ▸ h) h1,fun _=>rfl⟩
  have h1:aW x.f=0:=by simpa using hc
  obtain ⟨c,hcE⟩:∃c,c=aj x.f:=⟨_,rfl⟩
  have hC:iF c:=by rw [hcE];exact iF.aj h1
  have hcc:Cf c (bh x.f):=zB h1 hcE
  refine gK (gS (gR ?_));refine ah ?_
  refine gM rfl rfl rfl rfl rfl call55 (fun w _ hS=>(by exact eg x.a x.c x.f w (ha.ay hS.ext) hl)) ?_
  rintro v w1 w2 Y' hS he ho
  rw [fR,←hcE] at ho
  obtain ⟨qc,capc,spc,rfl,hqc,hcapc,hS'⟩:=ak hS he ho
  refine ⟨_,hS',?_⟩
  refine ai ?_;refine gE (gS (gS (gR ?_)));refine ah ?_
  refine gP rfl rfl rfl rfl rfl call72 (fun w _ hS=>(by exact wi (qc.map (fun b=>⟨b,0,none⟩)) capc c w (aL hS 0 rfl (fun e=>(hqc e).1)) hC.jD)) ?_
  refine eZ bG ?_;refine gE ?_
  refine gC (fun hc=>?_) fun hc=>?_
  ·
   have h2:¬∀n∈c,eG c n:=by simpa using hc
   have hE:ri ei x.f=10:=by rw [ri,if_neg (by simp [h1]),←hcE,if_pos h2]
   refine gS (gR ?_)
   iterate 2 refine ai ?_
   refine gE ?_
   refine gT func42 fun w' hS=>?_
   exact ⟨hS.ext,_,[],by rw [hE];rfl,hJ.nil,fun h=>absurd (hE ▸ h) (by decide),fun _=>rfl⟩
  have h2:∀n∈c,eG c n:=by simpa using hc
  have hnf:ot (bh x.f):=by
    have:=(qy.mk hC.jD h2).top
    rwa [hcc.top] at this
  have hE:ri ei x.f=if (aI af ei (bh x.f) ⟨[],false⟩).2.bad=true then 8 else 0:=by rw [ri,if_neg (by simp [h1]),←hcE,if_neg (fun h=>h h2)]
  obtain ⟨y,hy⟩:∃y:FV,y=⟨qc.map (fun b=>⟨b,0,none⟩),capc,c⟩:=⟨_,rfl⟩
  have hyv:cQ qc c.length capc=y.v:=by rw [hy];cases qc<;>rfl
  have hW0:fw 66 [y] ⟨[],false⟩ ⟨none,0,[],[],[(qc,eW 66 c spc)]⟩:=by
    refine ⟨fun _=>⟨rfl,rfl⟩,rfl,rfl,Nat.zero_le _,fun z hz=>?_,?_,?_⟩
    · rw [List.mem_singleton.1 hz,hy];exact ⟨⟨qc,spc,List.mem_cons_self ..,rfl,fun e=>(hqc e).1⟩,hcc.eq ▸ gm⟩
    all_goals (intro _ h;cases h)
  rw [hyv]
  refine gK (gS (gR ?_))
  refine ab.v (ae.eN rfl rfl rfl rfl (bd73 (c:=[_,_]) rfl)) ?_
  refine ab.bx rfl rfl rfl rfl (fun b19=>?_)
  refine ai ?_;refine gE (gS (gR ?_))
  iterate 3 refine ah ?_
  refine ab.cJ (xv 48 [] []) ?_
  refine ab.pick (pre:=[_,_,_]) (pre':=cm 73 48 (xE false) b19 ⟨none,0,[],[],[(qc,eW 66 c spc)]⟩) [1,0,2] (by decide) rfl ?_
  refine ab.qt (ef:=xE) (pre:=[]) (hR':=[]) hW0 (List.nil_sublist _) rfl rfl rfl rfl rfl hcf (fun w Y' hS=>hg b19 _ hnf _ _ y w (List.mem_singleton.2 rfl) (by rw [hy];exact hcc)) (fun s1 Γ1 hW1 hg1=>?_)
  refine gE (gS (gS (gR ?_)));refine ah ?_;refine ku ?_;refine al J0 Ji 1 ?_;refine aq Jj 0 ?_;refine aw gJ ?_;refine gE ?_
  refine gC (fun hc=>?_) fun hc=>?_
  ·
   have hb:(aI af ei (bh x.f) ⟨[],false⟩).2.bad=true:=by
     cases hb:(aI af ei (bh x.f) ⟨[],false⟩).2.bad with
     |true=>rfl
     |false=>rw [hb] at hc;simp at hc
   rw [if_pos hb] at hE
   have hE8:(if (aI af ei (bh x.f) ⟨[],false⟩).2.bad=true then (8:Int) else 0)=8:=if_pos hb
   refine gS ?_
   refine ab.draw 6 mixed rfl ?_
   refine mO ?_;refine xq ?_;refine mP J0 Ji 1 ?_;refine xt Jj 0 ?_
   iterate 2 refine AT ?_
   refine aM.nil ?_
   refine gE ?_
   refine gT func42 fun w' hS=>?_
   exact ⟨hS.ext,_,[],by rw [hE,←hE8];rfl,hJ.nil,fun h=>absurd (hE ▸ h) (by decide),fun _=>rfl⟩
  have hb:(aI af ei (bh x.f) ⟨[],false⟩).2.bad=false:=by
    cases hb:(aI af ei (bh x.f) ⟨[],false⟩).2.bad with
    |false=>rfl
    |true=>rw [hb] at hc;simp at hc
  rw [if_neg (by rw [hb];simp)] at hE
  refine gK (gS (gR ?_));refine ah ?_;refine ku ?_;refine al J0 J9 0 ?_;refine aq isAgg31 0 ?_
  iterate 2 refine ai ?_
  refine gE ?_
  refine gT func42 fun w' hS=>?_
  exact ⟨hS.ext,_,s1.ls,by rw [hE];rfl,hW1.own (pre:=[]) hS,fun _=>hW1.BJ,fun h=>absurd hE h⟩
theorem kZ (x:FV) (w:World) (ha:FA w x.a x.f) (hl:x.f.length≤maxLen):
  Cn Tryz.prog 15 [x.v] w (fun v w'=>∃sv ls,v=.tuple #[sv,.int .i64 (ri false x.f)]∧hJ 66 48 w w' sv ls∧(ri false x.f=0→ls.map LV.d=DC false x.f)∧(ri false x.f≠0→ls=[])):=by
 refine Cn.of func15 rfl rfl ?_
 refine gS (gR ?_)
 iterate 2 refine ai ?_
 refine gE (gS (gR ?_));refine ah ?_
 refine gM rfl rfl rfl rfl rfl call42 (fun w _ hS=>(by exact sJ 43 false (fun _ _=>call43 _ _) (fun bw t hn Γ σ x w hx hc=>xD bw (SizeOf.sizeOf t+1) t (Nat.lt_succ_self _) hn Γ σ x w hx hc) x w (ha.ay hS.ext) hl)) ?_
 rintro v w1 w2 Y' hS he ⟨sv,ls,rfl,⟨q,cap,sp,H,rfl,hq,ao,hnew,hin⟩,h1,h2⟩
 refine ⟨_,hS.eU he hnew,?_⟩
 iterate 2 refine fZ ?_
 iterate 2 refine ai ?_
 refine gE ?_
 refine gT func15 fun w' hS=>?_
 exact ⟨hS.ext,_,ls,rfl,⟨q,cap,sp,H,rfl,hq,ao,(gh.of hS).sub (List.sublist_append_left _ _),hin⟩,h1,h2⟩
theorem wk (x:FV) (w:World) (ha:FA w x.a x.f) (hl:x.f.length≤maxLen):
  Cn Tryz.prog 17 [x.v] w (fun v w'=>∃sv ls,v=.tuple #[sv,.int .i64 (ri true x.f)]∧hJ 66 48 w w' sv ls∧(ri true x.f=0→ls.map LV.d=DC true x.f)∧(ri true x.f≠0→ls=[])):=by
 refine Cn.of func17 rfl rfl ?_
 refine gS (gR ?_)
 iterate 2 refine ai ?_
 refine gE (gS (gR ?_));refine ah ?_
 refine gM rfl rfl rfl rfl rfl call42 (fun w _ hS=>(by exact sJ 45 true (fun _ _=>call45 _ _) (fun bw t hn Γ σ x w hx hc=>xC bw (SizeOf.sizeOf t+1) t (Nat.lt_succ_self _) hn Γ σ x w hx hc) x w (ha.ay hS.ext) hl)) ?_
 rintro v w1 w2 Y' hS he ⟨sv,ls,rfl,⟨q,cap,sp,H,rfl,hq,ao,hnew,hin⟩,h1,h2⟩
 refine ⟨_,hS.eU he hnew,?_⟩
 iterate 2 refine fZ ?_
 iterate 2 refine ai ?_
 refine gE ?_
 refine gT func17 fun w' hS=>?_
 exact ⟨hS.ext,_,ls,rfl,⟨q,cap,sp,H,rfl,hq,ao,(gh.of hS).sub (List.sublist_append_left _ _),hin⟩,h1,h2⟩
end Go.Proofs.YtnfmegcknckahaaGreatDoor
namespace Go.Proofs.YtnfmegcknckahaaGreatDoor
open Go.RowKit Go.Proofs.Wit Tryz
theorem xA (A:Option Addr) (cA:Nat) (b:List NV) (k:Int) (w:World) (ha:FA w A b) (hb:aX b) (hk:0≤k∧k<b.length):Cn Tryz.prog 86 [.slice A b.length cA,.int .i64 k] w (fun v w'=>aH 66 w w' v (bT (tA b k))):=by
 obtain ⟨n,rfl⟩:∃n:Nat,k=(n:Int):=⟨k.toNat,by omega⟩
 have:=iK A cA b (n:Int) w ha (by have:=hb.len;unfold maxLen;omega)
 rw [(wv hb (show n<b.length by omega)).1] at this
 exact this
set_option maxRecDepth 8000 in
theorem rE (A:Option Addr) (cA:Nat) (b:List NV) (s:aB) (w:World) (ha:FA w A b) (hb:aX b) (hs:iM b s):
    Cn Tryz.prog 48 [.slice A b.length cA,U s] w (fun v w'=>ga 66 w w' v (bT (dh b s))):=by
  obtain ⟨i1,hi1,hz1,hsz1,hby1⟩:=info_parts uO
  have hp64:(dG s).length≤64:=@jd s 64
  have hil:=@iJ (dG s)
  have hbl:=hb.len
  have hcj:(jM ((dG s).map (aa b))).ok:=(sh (fun u hu=>by
    obtain ⟨n,hn,rfl⟩:=List.mem_map.1 hu
    exact hb.fr (hs n (cH.1 hn)))).1
  refine Cn.of func48 rfl rfl ?_
  refine gS (gR ?_);refine ai ?_;refine gE (gS (gR ?_));refine ai ?_;refine gE (gS (gS (gR ?_)));refine ah ?_
  refine gM rfl rfl rfl rfl rfl call85 (fun w _ hS=>(by exact kY s w)) ?_
  rintro v w1 w2 Y' hS he ho
  obtain ⟨q,cap,sp,rfl,hq,ao,hS'⟩:=rk hS he ho
  refine ⟨_,hS',?_⟩
  refine dM Jp ?_;refine ah ?_;refine gE (gB ?_)
  refine ab.cJ (ob FV.v 22 [] []) ?_
  refine ab.loop (σ:=Nat×Option Nat×Nat×List FV×List Value×Hl) (fun z=>[(0,.slice A b.length cA),(5,cQ z.2.1 z.2.2.2.1.length z.2.2.1),(9,cQ q (iL (dG s)).length cap),(10,.int .i64 (iL (dG s)).length),(11,.int .i64 z.1)])
    (fun z=>[(z.2.1,ob FV.v 22 z.2.2.2.1 z.2.2.2.2.1),(q,ob bK 3 (iL (dG s)) sp)]++z.2.2.2.2.2)
    (fun z=>z.1≤(dG s).length∧(z.2.1=none→z.2.2.2.1.length=0∧z.2.2.1=0)∧(z.2.2.2.1.map FV.v++z.2.2.2.2.1).length=z.2.2.1∧(∀g∈z.2.2.2.1,g.In 66 z.2.2.2.2.2)∧z.2.2.2.1.map FV.f=(((dG s).take z.1).map (aa b)).map bT)
    (fun z=>(dG s).length - z.1) (0,none,0,[],[],[]) ⟨Nat.zero_le _,fun _=>⟨rfl,rfl⟩,rfl,(fun _ h=>by cases h),rfl⟩ ⟨rfl,rfl,rfl,rfl,rfl,trivial⟩ (List.Sublist.refl _) (fun z hI IH=>?_)
  obtain ⟨k,q2,jV,gs,oY,H⟩:=z
  obtain ⟨hk,hq2,gO,hin,hgs⟩:=hI
  dsimp only at hk hq2 gO hin hgs IH⊢
  have hgl:gs.length=k:=by
    have h1:=congrArg List.length hgs
    simp at h1;omega
  refine gS (gR ?_);refine aw iX ?_;refine gE (gS ?_)
  refine gC (fun hc=>?_) fun hc=>?_
  ·
   have hlt:k<(dG s).length:=by rw [hil] at hc;simpa using hc
   have hlt2:k<(iL (dG s)).length:=by rw [hil];exact hlt
   obtain ⟨n,hn⟩:∃n,n=(dG s)[k]:=⟨_,rfl⟩
   have hgp:(iL (dG s)).getD k 0=(n:Int):=by rw [nW hlt,←hn]
   have hnb:n<b.length:=hs n (cH.1 (by rw [hn];exact List.getElem_mem hlt))
   obtain ⟨bq,rfl⟩:∃b,q=some b:=by
     cases q with
     |none=>have:=(hq rfl).1;omega
     |some b=>exact ⟨b,rfl⟩
   refine gK (gS (gB (gS (gR ?_))))
   refine ab.v (ae.dX rfl rfl rfl rfl rfl Jp Ji (k) ⟨rfl,hlt2⟩) ?_
   refine ab.v (ae.qH bK 0 rfl rfl rfl rfl Jj 1 rfl hlt2) ?_
   refine ai ?_;refine gE (gR ?_)
   iterate 3 refine ah ?_
   refine gM rfl rfl rfl rfl rfl call86 (fun w _ hS=>(by rw [hgp];exact xA A cA b (n:Int) w (ha.ay hS.ext) hb (by omega))) ?_
   rintro v w1 w2 Y' hS he ho
   obtain ⟨qf,capf,spf,rfl,hqf,hcapf,hS'⟩:=ak hS he ho
   refine ⟨_,hS',?_⟩
   refine ab.ew (c:=[_]) rfl rfl rfl rfl Jy Js JF rfl rfl (fun b19=>?_)
   refine ab.nC FV.v (news:=[⟨qf.map (fun b=>⟨b,0,none⟩),capf,bT (tA b (n:Int))⟩]) (spn:=[]) (xs:=gs) (sp:=oY) (q:=q2) rfl rfl rfl rfl rfl Jy hi1 hz1 hsz1 rfl hq2 2 rfl 0 (by cases qf<;>rfl) gO rfl (by decide) (fun _=>rfl) (by unfold maxLen;omega) (by rw [hby1];omega) (fun b' sp' cap' hlen=>?_)
   refine ai ?_;refine gE (dO (gR ?_));refine db rfl rfl rfl rfl (cz (by omega)) ?_;refine ah ?_;refine gE ?_
   refine ab.aS (pre:=[_,_,_,_]) (pre':=[_,_,_]) H [2,3,1] (by decide) rfl ?_
   refine IH (k+1,some b',cap',gs++[_],sp',(qf,eW 66 (bT (tA b (n:Int))) spf)::H) _ _ ⟨hlt,(fun e=>by cases e),hlen,fun g hg=>?_,?_⟩ (by dsimp only;omega) ⟨rfl,rfl,rfl,rfl,rfl,trivial⟩ (List.Sublist.refl _)
   · rcases List.mem_append.1 hg with hg|hg
     · exact (hin g hg).mono (List.subset_cons_self _ _)
     · rw [List.mem_singleton.1 hg];exact ⟨qf,spf,List.mem_cons_self ..,rfl,hqf,hcapf⟩
   dsimp only;rw [List.map_append,hgs,List.take_succ_eq_append_getElem hlt,List.map_append,List.map_append,←hn];rfl
  have hge:¬k<(dG s).length:=by rw [hil] at hc;simpa using hc
  obtain rfl:k=(dG s).length:=by omega
  rw [List.take_length] at hgs
  have hall:ju (gs.map FV.f)=bT (jM ((dG s).map (aa b))):=by
    rw [hgs]
    exact oh (fun u hu=>by
      obtain ⟨n,hn,rfl⟩:=List.mem_map.1 hu
      exact hb.ok (hs n (cH.1 hn)))
  have hgl2:∀g∈gs,g.f.length≤maxLen:=fun g hg=>by
    have h1:g.f∈gs.map FV.f:=List.mem_map_of_mem hg
    rw [hgs] at h1
    obtain ⟨u,_,hu⟩:=List.mem_map.1 h1
    rw [←hu];exact gm
  have hcp2:gs.length≤jV:=by
    have:=gO
    simp at this;omega
  refine ab.exit rfl (gS (gR ?_))
  refine ah ?_
  refine gM rfl rfl rfl rfl rfl call30 (fun w _ hS=>(by exact vh (q2.map (fun b=>⟨b,0,none⟩)) jV gs w (vu hS 0 rfl (fun e=>(hq2 e).1)) (fun g hg=>((hin g hg).mono (fun _ h=>List.mem_cons_of_mem _ (List.mem_cons_of_mem _ h))).at hS) hgl2 (by unfold maxLen;omega) hcp2)) ?_
  rintro v w1 w2 Y' hS he ho
  rw [hall] at ho
  obtain ⟨qa,capa,spa,rfl,hqa,hcapa,hS'⟩:=ak hS he ho
  refine ⟨_,hS',?_⟩
  refine gM rfl rfl rfl rfl rfl JJ (fun w _ hS=>(by exact gQ ⟨qa.map (fun b=>⟨b,0,none⟩),capa,bT (jM ((dG s).map (aa b)))⟩ _ w (aL hS 0 rfl (fun e=>(hqa e).1)) rfl hcj)) ?_
  rintro v w1 w2 Y' hS he ⟨ho,hz⟩
  obtain ⟨qn,capn,spn,rfl,hqn,hcapn,hS'⟩:=ak hS he ho
  refine ⟨_,hS',?_⟩
  refine ai ?_;refine gE ?_
  refine gT func48 fun w' hS=>?_
  exact ⟨hS.ext,aH.mk hS 0 rfl rfl hqn hcapn,hz⟩
/-- the block of a step -/
abbrev Gy (p:SP) (w:World):Prop:=p.At 76 w
set_option maxRecDepth 8000 in
theorem ic (p:SP) (k:Int) (w:World) (h:Gy p w) (hb:aX p.b) (hk:0≤k∧k<p.b.length):Cn Tryz.prog 81 [.pointer (some ⟨p.bs,0,none⟩),.int .i64 k] w (fun v w'=>aH 66 w w' v (bT (tA p.b k))):=by
 have HB:∀{w':World} {j:Nat} {u:Value},Ex [] w w'→p.cs[j]?=some u→w'.cell? ⟨p.bs,j,none⟩=some u:=fun e hu=>Ex.cell e h.di hu
 obtain ⟨bs,hbs⟩:∃bs,bs=p.bs:=⟨_,rfl⟩
 rw [←hbs] at HB⊢
 refine Cn.of func81 rfl rfl ?_
 refine gS (gR ?_);refine ai ?_;refine gE (gS (gR ?_));refine ah ?_;refine ku ?_;refine al JP Jz 1 ?_;refine al Jv Js 2 ?_
 refine ab.v (ae.ld (p:=⟨bs,2,none⟩) rfl rfl rfl rfl Jx (fun w _ hS=>HB hS.ext rfl)) ?_
 refine ah ?_
 refine gM rfl rfl rfl rfl rfl call86 (fun w _ hS=>(by exact xA p.A p.cA p.b k w (h.fa.ay hS.ext) hb hk)) ?_
 rintro v w1 w2 Y' hS he ho
 obtain ⟨q,cap,sp,rfl,hq,ao,hS'⟩:=ak hS he ho
 refine ⟨_,hS',?_⟩
 refine ai ?_;refine gE ?_
 refine gT func81 fun w' hS=>?_
 exact ⟨hS.ext,aH.mk hS 0 rfl rfl hq ao⟩
end Go.Proofs.YtnfmegcknckahaaGreatDoor
namespace Go.Proofs.YtnfmegcknckahaaGreatDoor
open Go.RowKit Go.Proofs.Wit Tryz
set_option maxRecDepth 8000 in
theorem kB (p:SP) (k j:Nat) (w:World) (h:Gy p w) (hk:k<p.x.d.fr.length) (hj:p.x.d.fr[k]=(j:Int)) (hl:j<p.last.length):Cn Tryz.prog 82 [.pointer (some ⟨p.bs,0,none⟩),.int .i64 (k:Int)] w (fun v _=>v=.int .i64 ((p.last.getD j 0:Nat):Int)):=by
 have HB:∀{w':World} {j:Nat} {u:Value},Ex [] w w'→p.cs[j]?=some u→w'.cell? ⟨p.bs,j,none⟩=some u:=fun e hu=>Ex.cell e h.di hu
 have hlL:p.last.length=(iL p.last).length:=iJ.symm
 have hlst:jP w p.Z (iL p.last):=h.Gu
 have hxfr:=h.ED
 have hjl:j<(iL p.last).length:=by omega
 have hgj:(iL p.last)[j]=((p.last.getD j 0:Nat):Int):=by simp [iL,List.getD_eq_getElem?_getD,hl]
 obtain ⟨bs,hbs⟩:∃bs,bs=p.bs:=⟨_,rfl⟩
 rw [←hbs] at HB⊢
 refine Cn.of func82 rfl rfl ?_
 refine gS (gR ?_);refine ai ?_;refine gE (gS ?_)
 refine ab.draw 15 mixed rfl ?_
 refine mO ?_;refine xq ?_;refine mP JP JY 10 ?_
 refine aM.v (ae.ld (p:=⟨bs,10,none⟩) rfl rfl rfl rfl J1 (fun w _ hS=>HB hS.ext rfl)) ?_
 refine mO ?_;refine xq ?_;refine mP JP Jw 4 ?_;refine mP Jq JY 8 ?_
 refine aM.v (ae.ld (p:=⟨bs,8,none⟩) rfl rfl rfl rfl J1 (fun w _ hS=>HB hS.ext rfl)) ?_
 refine mO ?_
 refine aM.v (ae.idx rfl rfl rfl rfl rfl Jp Ji ⟨_,hxfr⟩ (by simp) (k) ⟨rfl,by simpa using hk⟩) ?_
 refine aM.v (ae.ld rfl rfl rfl rfl Jj (fun w _ hS=>(jP.ay hxfr hS.ext).at (k) hk)) ?_
 refine aM.v (ae.idx rfl rfl rfl rfl rfl Jp Ji ⟨_,hlst⟩ (by simp [iL]) j ⟨by rw [hj],by simpa using hjl⟩) ?_
 refine aM.v (ae.ld rfl rfl rfl rfl Jj (fun w _ hS=>Sl.at (enc:=bK) (jP.ay hlst hS.ext) j hjl)) ?_
 refine AT ?_
 refine aM.nil ?_
 refine gE ?_
 refine gT func82 fun w' hS=>?_
 exact ⟨hS.ext,by rw [←hgj];rfl⟩
def kT (know:Int) (t:Tr):Tr:=if 0≤know then ar know t else t
theorem Cq {know:Int} {t:Tr} (h:know<4) (ht:t.ok):(kT know t).ok:=by
 unfold kT;split
 ·exact bt ⟨by assumption,h⟩ ht
 exact ht
theorem xO {b:List NV} (hb:aX b) {k:Int} (hk:0≤k∧k<b.length):(tA b k).ok:=hb.ok (by omega)
set_option maxRecDepth 8000 in
theorem AZ (p:SP) (a:Option Addr) (ca:Nat) (xs:List Int) (f:FV) (g:Tr) (know:Int) (w:World) (h:Gy p w) (hb:aX p.b) (hxs:jP w a xs) (hx:∀x∈xs,0≤x∧x<p.b.length) (hfa:FA w f.a f.f) (hf:f.f=bT g) (hg:g.ok) (hk:know<4) (hl:xs.length≤1000):
    Cn Tryz.prog 173 [.pointer (some ⟨p.bs,0,none⟩),.slice a xs.length ca,f.v,.int .i64 know] w (fun v w'=>(v=f.v∧f.f=bT (cy (xs.map (fun x=>kT know (tA p.b x))) g))∨ga 66 w w' v (bT (cy (xs.map (fun x=>kT know (tA p.b x))) g))):=by
  obtain ⟨us,hus⟩:∃us,us=xs.map (fun x=>kT know (tA p.b x)):=⟨_,rfl⟩
  have hul:us.length=xs.length:=by rw [hus,List.length_map]
  have huo:∀u∈us,u.ok:=fun u hu=>by
    rw [hus] at hu
    obtain ⟨x,hm,rfl⟩:=List.mem_map.1 hu
    exact Cq hk (xO hb (hx x hm))
  rw [←hus]
  refine Cn.of func173 rfl rfl ?_
  refine gS (gR ?_);refine ai ?_;refine gE (gS (gS (gR ?_)));refine ah ?_;refine dM Jp ?_;refine db rfl rfl rfl rfl (oo (by omega)) ?_;refine ai ?_;refine gE (gB ?_)
  refine ab.cJ (eW 66 f.f []) ?_
  refine ab.loop (σ:=Nat×FV×Option Nat×List Value) (fun z=>[(0,.pointer (some ⟨p.bs,0,none⟩)),(1,.slice a xs.length ca),(2,z.2.1.v),(3,.int .i64 know),(9,.int .i64 ((xs.length:Int) - 1 - z.1))]) (fun z=>[(z.2.2.1,eW 66 z.2.1.f z.2.2.2)])
    (fun z=>z.1≤xs.length∧z.2.1.f=bT (cy (us.drop (us.length - z.1)) g)∧((z.1=0∧z.2.1=f)∨(z.2.1.a=z.2.2.1.map (fun b=>⟨b,0,none⟩)∧(z.2.2.1=none→z.2.1.f.length=0∧z.2.1.c=0)∧(z.2.1.f.flatMap NV.cells++z.2.2.2).length=z.2.1.c*6∧z.2.1.Z))) (fun z=>xs.length - z.1) (0,f,none,[]) ⟨Nat.zero_le _,by simp [cy];exact hf,.inl ⟨rfl,rfl⟩⟩ ⟨rfl,rfl,rfl,rfl,by dsimp only;rw [show (xs.length:Int) - 1 - ((0:Nat):Int)=(xs.length:Int) - 1 by omega];rfl,trivial⟩ (List.Sublist.refl _) (fun z hI IH=>?_)
  obtain ⟨j,y,q,sp⟩:=z
  obtain ⟨hj,hyf,hyc⟩:=hI
  dsimp only at hj hyf hyc IH⊢
  have hya:∀{w':World} {h':Hl} {Y':List (Nat×Obj)} (jj:Nat),St w [] w' h' Y'→h'[jj]?=some (q,eW 66 y.f sp)→FA w' y.a y.f:=fun jj hS hjj=>by
    rcases hyc with ⟨_,rfl⟩|⟨e1,e2,_⟩
    · exact hfa.ay hS.ext
    rw [e1];exact aL hS jj hjj (fun e=>(e2 e).1)
  refine gS (gS (gR ?_));refine ah ?_;refine aw oT ?_;refine gE ?_
  refine gC (fun hc=>?_) fun hc=>?_
  ·
   have hlt:j<xs.length:=by simp at hc;omega
   obtain ⟨i,hid⟩:∃i,i=xs.length - 1 - j:=⟨_,rfl⟩
   have hi:i<xs.length:=by omega
   have hiI:(xs.length:Int) - 1 - j=(i:Int):=by omega
   have hxi:=hx xs[i] (List.getElem_mem hi)
   have hti:us[i]'(by omega)=kT know (tA p.b xs[i]):=by simp [hus]
   have hch:cy (us.drop (us.length - (j+1))) g=aP (kT know (tA p.b xs[i])) (cy (us.drop (us.length - j)) g):=by
     rw [v7 (by omega),←hti]
     congr 1
     simp only [hid,hul]
   have hyo:(cy (us.drop (us.length - j)) g).ok:=lE (fun u hu=>huo u (List.mem_of_mem_drop hu)) hg
   have hto:=xO hb hxi
   rw [hiI]
   refine gK (gS (gB (gS (gR ?_))))
   iterate 3 refine ah ?_
   refine ab.v (ae.idx rfl rfl rfl rfl rfl Jp Ji ⟨_,hxs⟩ (by simp) (i) ⟨rfl,by simpa using hi⟩) ?_
   refine ab.v (ae.ld rfl rfl rfl rfl Jj (fun w _ hS=>(jP.ay hxs hS.ext).at (i) hi)) ?_
   refine gM rfl rfl rfl rfl rfl call81 (fun w _ hS=>(by exact ic p xs[i] w (h.ay hS.ext) hb hxi)) ?_
   rintro v w1 w2 Y' hS he ho
   obtain ⟨q1,c1,sp1,rfl,hq1,hc1,hS'⟩:=ak hS he ho
   refine ⟨_,hS',?_⟩
   refine ai ?_;refine gE (gS (gS (gR ?_)));refine ah ?_;refine aw oT ?_;refine gE ?_
   refine gC (fun hc=>?_) fun hc=>?_
   ·
    have h0:0≤know:=by simpa using hc
    have hkT:kT know (tA p.b xs[i])=ar know (tA p.b xs[i]):=if_pos h0
    refine gR ?_
    iterate 2 refine ah ?_
    refine gM rfl rfl rfl rfl rfl JK (fun w _ hS=>(by exact dK know ⟨h0,hk⟩ ⟨q1.map (fun b=>⟨b,0,none⟩),c1,bT (tA p.b xs[i])⟩ _ w (aL hS 0 rfl (fun e=>(hq1 e).1)) rfl hto)) ?_
    rintro v w1 w2 Y' hS he ⟨ho,_⟩
    rw [←hkT] at ho
    obtain ⟨q2,c2,oY,rfl,hq2,hc2,hS'⟩:=ak hS he ho
    refine ⟨_,hS',?_⟩
    refine ai ?_;refine gE (gR ?_)
    iterate 2 refine ah ?_
    refine gM rfl rfl rfl rfl rfl JL (fun w _ hS=>(by exact fH ⟨q2.map (fun b=>⟨b,0,none⟩),c2,bT (kT know (tA p.b xs[i]))⟩ y _ _ w (aL hS 0 rfl (fun e=>(hq2 e).1)) rfl (Cq hk hto) (hya 2 hS rfl) hyf hyo)) ?_
    rintro v w1 w2 Y' hS he ⟨ho,hz⟩
    rw [←hch] at ho hz
    obtain ⟨q3,c3,sp3,rfl,hq3,hc3,hS'⟩:=ak hS he ho
    refine ⟨_,hS',?_⟩
    refine ai ?_;refine gE (dO (gR ?_));refine ah ?_;refine db rfl rfl rfl rfl (oo (by omega)) ?_;refine ai ?_;refine gE ?_
    rw [jq]
    refine IH (j+1,⟨q3.map (fun b=>⟨b,0,none⟩),c3,bT (cy (us.drop (us.length - (j+1))) g)⟩,q3,sp3) _ _ ⟨hlt,rfl,.inr ⟨rfl,hq3,hc3,fun e=>?_⟩⟩ (by dsimp only;omega) ⟨rfl,rfl,rfl,rfl,by dsimp only;rw [show (xs.length:Int) - 1 - ((j+1:Nat):Int)=(i:Int) - 1 by omega];rfl,trivial⟩ (.cons_cons _ (List.nil_sublist _))
    have:=hz e
    cases q3 with
    |none=>rfl
    |some b=>cases this
   have h0:¬0≤know:=by simpa using hc
   have hkT:kT know (tA p.b xs[i])=tA p.b xs[i]:=if_neg h0
   rw [hkT] at hch
   refine gK (gR ?_)
   iterate 2 refine ah ?_
   refine gM rfl rfl rfl rfl rfl JL (fun w _ hS=>(by exact fH ⟨q1.map (fun b=>⟨b,0,none⟩),c1,bT (tA p.b xs[i])⟩ y _ _ w (aL hS 0 rfl (fun e=>(hq1 e).1)) rfl hto (hya 1 hS rfl) hyf hyo)) ?_
   rintro v w1 w2 Y' hS he ⟨ho,hz⟩
   rw [←hch] at ho hz
   obtain ⟨q3,c3,sp3,rfl,hq3,hc3,hS'⟩:=ak hS he ho
   refine ⟨_,hS',?_⟩
   refine ai ?_;refine gE (dO (gR ?_));refine ah ?_;refine db rfl rfl rfl rfl (oo (by omega)) ?_;refine ai ?_;refine gE ?_
   rw [jq]
   refine IH (j+1,⟨q3.map (fun b=>⟨b,0,none⟩),c3,bT (cy (us.drop (us.length - (j+1))) g)⟩,q3,sp3) _ _ ⟨hlt,rfl,.inr ⟨rfl,hq3,hc3,fun e=>?_⟩⟩ (by dsimp only;omega) ⟨rfl,rfl,rfl,rfl,by dsimp only;rw [show (xs.length:Int) - 1 - ((j+1:Nat):Int)=(i:Int) - 1 by omega];rfl,trivial⟩ (.cons_cons _ (List.nil_sublist _))
   have:=hz e
   cases q3 with
   |none=>rfl
   |some b=>cases this
  have hge:¬j<xs.length:=by simp at hc;omega
  obtain rfl:j=xs.length:=by omega
  have hfin:cy (us.drop (us.length - xs.length)) g=cy us g:=by rw [hul,Nat.sub_self];rfl
  rw [hfin] at hyf
  refine ab.exit rfl (gS (gR ?_))
  refine ah ?_;refine ai ?_;refine gE ?_
  refine gT func173 fun w' hS=>?_
  refine ⟨hS.ext,?_⟩
  rcases hyc with ⟨_,rfl⟩|⟨e1,e2,e3,e4⟩
  · exact .inl ⟨rfl,hyf⟩
  refine .inr ?_
  rw [←hyf]
  have hv:y.v=cQ q y.f.length y.c:=by unfold FV.v cQ;rw [e1]
  refine ⟨?_,fun e=>?_⟩
  · show aH _ _ _ y.v _
    rw [hv];exact aH.mk hS 0 rfl rfl e2 e3
  show y.v=_
  have h1:=e4 e
  have h2:y.c=0:=(e2 (by rw [e1] at h1;cases q with
    |none=>rfl
    |some b=>cases h1)).2
  unfold FV.v;rw [h1,h2,e];rfl
end Go.Proofs.YtnfmegcknckahaaGreatDoor
namespace Go.Proofs.YtnfmegcknckahaaGreatDoor
open Go.RowKit Go.Proofs.Wit Tryz
theorem DH {t:Tr}:kT (-1) t=t:=if_neg (by decide)
theorem Bt {ns:List Nat} {j:Nat}:(iL ns).take j=iL (ns.take j):=by simp [iL]
theorem FE {b:List NV} {ns:List Nat}:(iL ns).map (fun x=>kT (-1) (tA b x))=ns.map (aa b):=by
 unfold iL;rw [List.map_map]
 exact List.map_congr_left (fun n _=>DH)
theorem FG {b:List NV} {ns:List Nat} {a:Int} (ha:0≤a):(iL ns).map (fun x=>kT a (tA b x))=(ns.map (aa b)).map (ar a):=by
 unfold iL;rw [List.map_map,List.map_map]
 exact List.map_congr_left (fun n _=>if_pos ha)
abbrev Gk (p:SP) (hR:Hl):Prop:=p.In 76 66 41 3 hR
abbrev SR (p:SP) (S:List Nat) (w:World):Prop:=p.R 76 S w
theorem gw (p:SP) (a:Option Addr) (n ca:Nat) (xs:List Int) (f:FV) (g u:Tr) (know:Int) (w:World) (hn:n=xs.length) (hu:u=cy (xs.map (fun x=>kT know (tA p.b x))) g) (h:Gy p w) (hb:aX p.b) (hxs:jP w a xs) (hx:∀x∈xs,0≤x∧x<p.b.length) (hfa:FA w f.a f.f) (hf:f.f=bT g) (hg:g.ok) (hk:know<4) (hl:xs.length≤1000):
  Cn Tryz.prog 173 [.pointer (some ⟨p.bs,0,none⟩),.slice a n ca,f.v,.int .i64 know] w (fun v w'=>(v=f.v∧f.f=bT u)∨ga 66 w w' v (bT u)):=by
 subst hn hu
 exact AZ p a ca xs f g know w h hb hxs hx hfa hf hg hk hl
set_option maxRecDepth 8000 in
theorem xF (p:SP) (hR:Hl) (Γ:List FV) (σ:Sg) (a:Int) (ns:List Nat) (qL:Option Nat) (LL:List Int) (spL:List Value) (cL:Nat) (y:FV) (g:Tr) (j0:Nat) (w:World) (hin:Gk p hR) (hb:aX p.b) (hfr:0<p.x.d.fr.length) (hfr0:p.x.d.fr[0]=(j0:Int)) (hj0:j0<p.last.length)
    (ha:0≤a∧a<4) (hLm:(qL,ob bK 3 LL spL)∈hR) (hLq:qL=none→LL=[]) (hLt:LL.take ns.length=iL ns) (hcL:ns.length≤cL) (hn:∀n∈ns,n<p.b.length) (hnl:ns.length≤64) (hy:y∈Γ) (hyf:y.f=bT g) (hg:g.ok) (hyz:y.Z) (hline:σ.bad=false→p.last.getD j0 0<σ.ls.length):
    XW p.bw Γ σ 129 [.pointer (some ⟨p.bs,0,none⟩),.int .i64 a,.slice (qL.map (fun b=>⟨b,0,none⟩)) ns.length cL,y.v] w hR (lX af a (ns.map (aa p.b)) g (p.last.getD j0 0) σ):=by
  refine rz.of func129 rfl rfl (fun s hW hH=>?_)
  obtain ⟨S,hSd⟩:∃S,S=cM (cm 73 48 (xE σ.bad) p.bw s):=⟨_,rfl⟩
  have hr:SR p (cM (cm 73 48 (xE σ.bad) p.bw s)) w:=hin.r hH
  have hLs:=hH.HO hLm hLq
  have hil:(iL ns).length=ns.length:=iJ
  have hsl:∀(w':World),Ex (cM (cm 73 48 (xE σ.bad) p.bw s)) w w'→jP w' (qL.map (fun b=>⟨b,0,none⟩)) (iL ns):=fun w' e=>by
    have h1:=vv (hLs.ay e) ns.length
    rw [←List.map_take,hLt] at h1
    exact h1
  have HB:∀{w':World} {j:Nat} {u:Value},Ex (cM (cm 73 48 (xE σ.bad) p.bw s)) w w'→p.cs[j]?=some u→w'.cell? ⟨p.bs,j,none⟩=some u:=fun e hu=>Ex.cell (Ex.refl _ _) (hr.ex e).di hu
  obtain ⟨us,hus⟩:∃us,us=ns.map (aa p.b):=⟨_,rfl⟩
  have hul:us.length=ns.length:=by rw [hus,List.length_map]
  have huo:∀u∈us,u.ok:=fun u hu=>by
    rw [hus] at hu
    obtain ⟨n,hm,rfl⟩:=List.mem_map.1 hu
    exact hb.ok (hn n hm)
  have hxi:∀x∈iL ns,0≤x∧x<p.b.length:=fun x hx=>by
    obtain ⟨n,hm,rfl⟩:=List.mem_map.1 hx
    have:=hn n hm;omega
  have hco:(cy us g).ok:=lE huo hg
  have hall:(iL ns).map (fun x=>kT (-1) (tA p.b x))=us:=by rw [FE,hus]
  have hallc:cy us g=cy ((iL ns).map (fun x=>kT (-1) (tA p.b x))) g:=by rw [hall]
  rw [←hus]
  obtain ⟨bs,hbs⟩:∃bs,bs=p.bs:=⟨_,rfl⟩
  rw [←hbs] at HB
  have hpb:(Value.pointer (some ⟨p.bs,0,none⟩))=.pointer (some ⟨bs,0,none⟩):=by rw [hbs]
  rw [hpb]
  refine gS (gR ?_);refine ai ?_;refine gE (gS (gR ?_));refine ah ?_;refine ku ?_;refine al JP sizeOf70 0 ?_
  refine ab.v (ae.ld (p:=⟨bs,0,none⟩) rfl rfl rfl rfl isAgg70 (fun w _ hS=>HB hS.ext rfl)) ?_
  refine ai ?_;refine gE (gS (gR ?_))
  iterate 4 refine ah ?_
  rw [←hil,hbs]
  refine ab.Ac (pre:=[]) (u:=cy us g) hW hy hyz rfl rfl rfl rfl rfl (fun _ _=>call173 _ _) (fun w Y' hS=>gw p _ _ cL (iL ns) y g _ (-1) w rfl hallc (hr.ex hS.ext) hb (hsl w hS.ext) hxi (hW.fa (pre:=[]) hy hS) hyf hg (by decide) (by omega)) (fun x1 s1 Γ1 hm1 hg1 hf1 hz1 hW1=>?_)
  refine ah ?_
  refine gP rfl rfl rfl rfl rfl call82 (fun w _ hS=>(by exact kB p 0 j0 w (hr.ex hS.ext) hfr hfr0 hj0)) ?_
  refine ab.ew (c:=[_]) rfl rfl rfl rfl Jp Ji JE rfl rfl (fun b25=>?_)
  refine ab.bu (pre:=[_]) (hR':=[(some b25,ob bK 3 (iL [p.last.getD j0 0]) [])]) hH hW1 (.cons_cons _ (List.nil_sublist _)) rfl rfl rfl rfl rfl (fun _ _=>JT _ _) (fun w Y' hS=>bE p.bw _ _ x1 _ (some b25) [p.last.getD j0 0] 1 [] w hm1 hf1 hco hz1 (fun e=>by cases e) (fun hb n hn=>by rw [List.mem_singleton.1 hn];exact hline hb) (by simp)) (fun s2 Γ2 hW2 hg2=>?_)
  have hy2:y∈Γ2:=hg2 (hg1 hy)
  refine ai ?_;refine gE (gS (gR ?_))
  iterate 5 refine ah ?_
  refine ab.Ac (pre:=[_]) (u:=cy us g) hW2 hy2 hyz rfl rfl rfl rfl rfl (fun _ _=>call173 _ _) (fun w Y' hS=>gw p _ _ cL (iL ns) y g _ (-1) w rfl hallc (hr.ex hS.ext) hb (hsl w hS.ext) hxi (hW2.fa (pre:=[_]) hy2 hS) hyf hg (by decide) (by omega)) (fun x3 s3 Γ3 hm3 hg3 hf3 hz3 hW3=>?_)
  refine ab.iH (pre:=[_]) (u:=ar a (cy us g)) hW3 rfl rfl rfl rfl rfl (fun _ _=>JK _ _) (fun w Y' hS=>by exact dK a ha x3 _ w (hW3.fa (pre:=[_]) hm3 hS) hf3 hco) (fun x4 s4 hf4 hz4 hW4=>?_)
  iterate 2 refine ah ?_
  refine ab.v (ae.eN rfl rfl rfl rfl (bd48 (c:=[_,_,_,_,_]) rfl)) ?_
  refine ab.bu (pre:=[_]) (hR':=[]) hH hW4 (List.nil_sublist _) rfl rfl rfl rfl rfl (fun _ _=>call83 _ _) (fun w Y' hS=>by exact jf p.bw _ _ x4 _ 11 _ 0 a w (List.mem_cons_self ..) hf4 (bt ha hco) hz4) (fun s5 Γ5 hW5 hg5=>?_)
  refine ai ?_;refine gE (gS (gS (gR ?_)));refine ah ?_;refine dM Jp ?_;refine ah ?_;refine gE (gB ?_)
  refine ab.aS (pre:=[_]) (pre':=[]) (cm 73 48 (xE _) p.bw s5) [] (by decide) rfl ?_
  refine ab.loop (σ:=Nat×Nat×Sg×Ws×List FV) (fun z=>[(0,.pointer (some ⟨p.bs,0,none⟩)),(1,.int .i64 a),(2,.slice (qL.map (fun b=>⟨b,0,none⟩)) (iL ns).length cL),(3,y.v),(9,.pointer (some ⟨p.bw,0,none⟩)),(11,.int .i64 (z.2.1:Int)),(38,.slice (qL.map (fun b=>⟨b,0,none⟩)) (iL ns).length cL),(39,.int .i64 (iL ns).length),(40,.int .i64 z.1)])
    (fun z=>cm 73 48 (xE z.2.2.1.bad) p.bw z.2.2.2.1)
    (fun z=>z.1≤ns.length∧fw 66 z.2.2.2.2 z.2.2.1 z.2.2.2.1∧Γ⊆z.2.2.2.2∧(z.2.2.1.bad=false→z.2.1<z.2.2.1.ls.length)∧sr af a g (us.take z.1) (us.drop z.1) z.2.1 z.2.2.1=lX af a us g (p.last.getD j0 0) σ)
    (fun z=>ns.length - z.1) (0,_,_,s5,Γ5) ⟨Nat.zero_le _,hW5,fun _ h=>hg5 (List.mem_cons_of_mem _ (hg3 (hg2 (hg1 h)))),fun h=>(bP h).1,rfl⟩ ⟨rfl,rfl,rfl,rfl,rfl,rfl,rfl,rfl,rfl,trivial⟩ (List.Sublist.refl _) (fun z hI IH=>?_)
  obtain ⟨j,r,σj,sj,Γj⟩:=z
  obtain ⟨hj,hWj,hgj,hrj,hch⟩:=hI
  dsimp only at hj hWj hgj hrj hch IH⊢
  refine gS (gR ?_);refine aw iX ?_;refine gE (gS ?_)
  refine gC (fun hc=>?_) fun hc=>?_
  ·
   have hlt:j<ns.length:=by rw [hil] at hc;simpa using hc
   have hju:j<us.length:=by omega
   have hji:j<(iL ns).length:=by omega
   have hij:(iL ns)[j]=(ns[j]:Int):=by simp [iL]
   have hjb:ns[j]<p.b.length:=hn _ (List.getElem_mem hlt)
   have huj:us[j]=tA p.b (iL ns)[j]:=by rw [hij];simp [hus,jg]
   have hdo:(cy (us.drop (j+1)) g).ok:=lE (fun u hu=>huo u (List.mem_of_mem_drop hu)) hg
   have hko:=bt ha hdo
   have h2o:(cy ((us.take (j+1)).map (ar a)) (ar a (cy (us.drop (j+1)) g))).ok:=lE (fun u hu=>by
     obtain ⟨v,hv,rfl⟩:=List.mem_map.1 hu
     exact bt ha (huo v (List.mem_of_mem_take hv))) hko
   have huo2:us[j].ok:=huo _ (List.getElem_mem hju)
   have hyj:=hgj hy
   rw [List.drop_eq_getElem_cons hju,sr] at hch
   rw [show us.take j++[us[j]]=us.take (j+1) from (List.take_succ_eq_append_getElem hju).symm] at hch
   have hd1:cy (us.drop (j+1)) g=cy (((iL ns).drop (j+1)).map (fun x=>kT (-1) (tA p.b x))) g:=by rw [List.map_drop,hall]
   have hd2:cy ((us.take (j+1)).map (ar a)) (ar a (cy (us.drop (j+1)) g))=cy (((iL ns).take (j+1)).map (fun x=>kT a (tA p.b x))) (ar a (cy (us.drop (j+1)) g)):=by simp only [List.map_take,FG ha.1,←hus]
   have hxd:∀x∈(iL ns).drop (j+1),0≤x∧x<p.b.length:=fun x hx=>hxi x (List.mem_of_mem_drop hx)
   have hxt:∀x∈(iL ns).take (j+1),0≤x∧x<p.b.length:=fun x hx=>hxi x (List.mem_of_mem_take hx)
   have hdl:(iL ns).length - (j+1)=((iL ns).drop (j+1)).length:=by rw [List.length_drop]
   have htl:j+1=((iL ns).take (j+1)).length:=by rw [List.length_take];omega
   have hdr:∀(w':World),Ex (cM (cm 73 48 (xE σ.bad) p.bw s)) w w'→jP w' (CD (qL.map (fun b=>⟨b,0,none⟩)) cL (j+1) 1) ((iL ns).drop (j+1)):=fun w' e=>by
     have:=(hsl w' e).drop (cap:=cL) (lo:=j+1) (by simp [iL];omega)
     rw [←List.map_drop] at this;exact this
   have htk:∀(w':World),Ex (cM (cm 73 48 (xE σ.bad) p.bw s)) w w'→jP w' (qL.map (fun b=>⟨b,0,none⟩)) ((iL ns).take (j+1)):=fun w' e=>by
     have:=vv (hsl w' e) (j+1)
     rw [←List.map_take] at this;exact this
   have hrk:(kW af a us[j] (cy (us.drop (j+1)) g) σj).2.bad=false→∀n∈[r,(kW af a us[j] (cy (us.drop (j+1)) g) σj).1],n<(kW af a us[j] (cy (us.drop (j+1)) g) σj).2.ls.length:=fun hb n hn=>by
     simp only [List.mem_cons,List.not_mem_nil,or_false] at hn
     rcases hn with rfl|rfl
     · exact Nat.lt_of_lt_of_le (hrj (tG.ok hb)) tG.pre.length_le
     exact (bP hb).1
   refine gK (gS (gB (gS (gR ?_))));refine ah ?_;refine ai ?_;refine gE (gS ?_)
   refine ab.jL 18 (([])) mixed ?_
   refine cV 0 (ae.mv rfl rfl rfl rfl) ?_
   refine cV 1 (ae.mv rfl rfl rfl rfl) ?_
   refine cV 2 (ae.mv rfl rfl rfl rfl) ?_
   refine cV 3 (ae.mv rfl rfl rfl rfl) ?_
   refine cV 4 (ae.mv rfl rfl rfl rfl) ?_
   refine cV 5 (ae.idx rfl rfl rfl rfl rfl Jp Ji ⟨_,hsl _ (Ex.refl _ _)⟩ (by simp [iL]) j ⟨rfl,by simpa using hji⟩) ?_
   refine cV 6 (ae.ld rfl rfl rfl rfl Jj (fun w _ hS=>Sl.at (enc:=bK) (hsl w hS.ext) j hji)) ?_
   refine cV 8 (ae.mv rfl rfl rfl rfl) ?_
   refine cV 9 (ae.mv rfl rfl rfl rfl) ?_
   refine cV 10 (ae.mv rfl rfl rfl rfl) ?_
   refine cV 11 (ae.bin rfl rfl rfl rfl (cz (by omega)) rfl) ?_
   refine cV 12 (ae.C3 (lo:=j+1) rfl rfl rfl rfl rfl Jp Ji rfl (by omega)) ?_
   refine cV 13 (ae.mv rfl rfl rfl rfl) ?_
   refine aF.one (i:=7) rfl (dq.uE (pre:=[]) (u:=tA p.b (iL ns)[j]) hWj rfl rfl rfl rfl rfl (fun _ _=>call81 _ _) (fun w Y' hS=>ic p _ w (hr.ex hS.ext) hb (hxi _ (List.getElem_mem hji))) (fun x1 s1 hf1 hW1=>⟨List.nil_sublist _,?_⟩)) rfl
   refine aF.one (i:=14) rfl (dq.Ac (pre:=[]) (u:=cy (us.drop (j+1)) g) hW1 (List.mem_cons_of_mem _ hyj) hyz rfl rfl rfl rfl rfl (fun _ _=>call173 _ _) (fun w Y' hS=>gw p _ _ _ ((iL ns).drop (j+1)) y g _ (-1) w hdl hd1 (hr.ex hS.ext) hb (hdr w hS.ext) hxd (hW1.fa (pre:=[]) (List.mem_cons_of_mem _ hyj) hS) hyf hg (by decide) (by simp;omega)) (fun x2 s2 Γ2 hm2 hg2 hf2 hz2 hW2=>⟨List.nil_sublist _,?_⟩)) rfl
   refine aF.one (i:=15) rfl (dq.bu (pre:=[]) (hR':=[]) hH hW2 (List.nil_sublist _) rfl rfl rfl rfl rfl (fun _ _=>call117 _ _) (fun w Y' hS=>xH p.bw _ _ a x1 x2 us[j] _ w ha (hg2 (List.mem_cons_self ..)) (by rw [huj];exact hf1) huo2 hm2 hf2 hdo) (fun s3 Γ3 hW3 hg3=>⟨List.nil_sublist _,?_⟩)) rfl
   have hy3:y∈Γ3:=hg3 (hg2 (List.mem_cons_of_mem _ hyj))
   refine cV 16 (ae.fD rfl rfl rfl rfl) ?_
   refine aF.done rfl ?_
   refine gE ?_
   refine ab.mK (α:={z:Ws×List FV // fw 66 z.2 (aV af (cy ((us.take (j+1)).map (ar a)) (ar a (cy (us.drop (j+1)) g))) [r,(kW af a (us[j]'hju) (cy (us.drop (j+1)) g) σj).1] (kW af a (us[j]'hju) (cy (us.drop (j+1)) g) σj).2).2 z.1∧Γ3⊆z.2}) [] (fun _=>[(0,.pointer (some ⟨p.bs,0,none⟩)),(1,.int .i64 a),(2,.slice (qL.map (fun b=>⟨b,0,none⟩)) (iL ns).length cL),(3,y.v),(9,.pointer (some ⟨p.bw,0,none⟩)),(38,.slice (qL.map (fun b=>⟨b,0,none⟩)) (iL ns).length cL),(39,.int .i64 (iL ns).length),(40,.int .i64 j),(11,.int .i64 ((aV af (cy ((us.take (j+1)).map (ar a)) (ar a (cy (us.drop (j+1)) g))) [r,(kW af a (us[j]'hju) (cy (us.drop (j+1)) g) σj).1] (kW af a (us[j]'hju) (cy (us.drop (j+1)) g) σj).2).1:Int))])
     (fun z=>cm 73 48 (xE (aV af (cy ((us.take (j+1)).map (ar a)) (ar a (cy (us.drop (j+1)) g))) [r,(kW af a (us[j]'hju) (cy (us.drop (j+1)) g) σj).1] (kW af a (us[j]'hju) (cy (us.drop (j+1)) g) σj).2).2.bad) p.bw z.1.1) (fun z=>?_) (fun K2=>?_)
   obtain ⟨⟨s8,Γ8⟩,hW8,hg8⟩:=z
   dsimp only at hW8 hg8⊢
   · -- what comes behind the region
    refine gE (dO (gR ?_));refine db rfl rfl rfl rfl (cz (by omega)) ?_;refine ah ?_;refine gE ?_
    exact IH (j+1,_,_,s8,Γ8) _ _ ⟨hlt,hW8,fun _ h=>hg8 (hg3 (hg2 (List.mem_cons_of_mem _ (hgj h)))),fun h=>(eE h).1,hch⟩ (by dsimp only;omega) ⟨rfl,rfl,rfl,rfl,rfl,rfl,rfl,rfl,rfl,trivial⟩ (List.Sublist.refl _)
   · -- the region
    refine ab.jL 23 (([])) mixed ?_
    refine cV 0 (ae.mv rfl rfl rfl rfl) ?_
    refine cV 1 (ae.mv rfl rfl rfl rfl) ?_
    refine cV 2 (ae.mv rfl rfl rfl rfl) ?_
    refine cV 3 (ae.mv rfl rfl rfl rfl) ?_
    refine cV 4 (ae.bin rfl rfl rfl rfl (cz (by omega)) rfl) ?_
    refine cV 5 (ae.E4 (hi:=j+1) rfl rfl rfl rfl rfl Jp Ji rfl (by omega)) ?_
    refine cV 6 (ae.mv rfl rfl rfl rfl) ?_
    refine cV 7 (ae.mv rfl rfl rfl rfl) ?_
    refine cV 8 (ae.mv rfl rfl rfl rfl) ?_
    refine cV 9 (ae.mv rfl rfl rfl rfl) ?_
    refine cV 10 (ae.bin rfl rfl rfl rfl (cz (by omega)) rfl) ?_
    refine cV 11 (ae.C3 (lo:=j+1) rfl rfl rfl rfl rfl Jp Ji rfl (by omega)) ?_
    refine cV 12 (ae.mv rfl rfl rfl rfl) ?_
    refine cV 15 (ae.mv rfl rfl rfl rfl) ?_
    refine cV 17 (ae.mv rfl rfl rfl rfl) ?_
    refine cV 18 (ae.mv rfl rfl rfl rfl) ?_
    refine aF.two (i:=13) (j:=19) rfl (dq.Ac (pre:=[]) (u:=cy (us.drop (j+1)) g) hW3 hy3 hyz rfl rfl rfl rfl rfl (fun _ _=>call173 _ _) (fun w Y' hS=>gw p _ _ _ ((iL ns).drop (j+1)) y g _ (-1) w hdl hd1 (hr.ex hS.ext) hb (hdr w hS.ext) hxd (hW3.fa (pre:=[]) hy3 hS) hyf hg (by decide) (by simp;omega)) (fun x4 s4 Γ4 hm4 hg4 hf4 hz4 hW4=>⟨(List.nil_sublist _),?_⟩)) rfl (dq.ew (c:=[_,_]) rfl rfl rfl rfl Jp Ji JE rfl rfl (fun b78=>⟨(List.nil_sublist _),?_⟩)) rfl
    · -- operation 13 next
     refine aF.two (i:=14) (j:=19) rfl (dq.iH (pre:=[]) (u:=ar a (cy (us.drop (j+1)) g)) hW4 rfl rfl rfl rfl rfl (fun _ _=>JK _ _) (fun w Y' hS=>dK a ha x4 _ w (hW4.fa (pre:=[]) hm4 hS) hf4 hdo) (fun x5 s5 hf5 hz5 hW5=>⟨(List.nil_sublist _),?_⟩)) rfl (dq.ew (c:=[_,_]) rfl rfl rfl rfl Jp Ji JE rfl rfl (fun b78=>⟨(List.nil_sublist _),?_⟩)) rfl
     · -- operation 14 next
      refine aF.two (i:=16) (j:=19) rfl (dq.Ac (pre:=[]) (u:=cy ((us.take (j+1)).map (ar a)) (ar a (cy (us.drop (j+1)) g))) hW5 (List.mem_cons_self ..) hz5 rfl rfl rfl rfl rfl (fun _ _=>call173 _ _) (fun w Y' hS=>gw p _ _ _ ((iL ns).take (j+1)) x5 _ _ a w htl hd2 (hr.ex hS.ext) hb (htk w hS.ext) hxt (hW5.fa (pre:=[]) (List.mem_cons_self ..) hS) hf5 hko ha.2 (by simp;omega)) (fun x6 s6 Γ6 hm6 hg6 hf6 hz6 hW6=>⟨(List.nil_sublist _),?_⟩)) rfl (dq.ew (c:=[_,_]) rfl rfl rfl rfl Jp Ji JE rfl rfl (fun b78=>⟨(List.nil_sublist _),?_⟩)) rfl
      · -- operation 16 next
       refine aF.one (i:=19) rfl (dq.ew (c:=[_,_]) rfl rfl rfl rfl Jp Ji JE rfl rfl (fun b78=>⟨sL,?_⟩)) rfl
       refine aF.one (i:=20) rfl (dq.bu (pre:=[_]) (hR':=[(some b78,ob bK 3 (iL [r,(kW af a (us[j]'hju) (cy (us.drop (j+1)) g) σj).1]) [])]) hH hW6 (.cons_cons _ (List.nil_sublist _)) rfl rfl rfl rfl rfl (fun _ _=>JT _ _) (fun w Y' hS=>bE p.bw _ _ x6 _ (some b78) [r,(kW af a (us[j]'hju) (cy (us.drop (j+1)) g) σj).1] 2 [] w hm6 hf6 h2o hz6 (fun e=>by cases e) hrk (by simp)) (fun s7 Γ7 hW7 hg7=>⟨(List.nil_sublist _),?_⟩)) rfl
       refine cV 21 (ae.fD rfl rfl rfl rfl) ?_
       refine aF.done rfl ?_
       exact K2 ⟨(s7,Γ7),hW7,fun _ h=>hg7 (hg6 (List.mem_cons_of_mem _ (hg4 h)))⟩ _ _ sF (fun _ _ hS=>hS.dN (List.sublist_append_right [_] _))
      · -- operation 19 next
       refine aF.one (i:=16) rfl (dq.Ac (pre:=[_]) (u:=cy ((us.take (j+1)).map (ar a)) (ar a (cy (us.drop (j+1)) g))) hW5 (List.mem_cons_self ..) hz5 rfl rfl rfl rfl rfl (fun _ _=>call173 _ _) (fun w Y' hS=>gw p _ _ _ ((iL ns).take (j+1)) x5 _ _ a w htl hd2 (hr.ex hS.ext) hb (htk w hS.ext) hxt (hW5.fa (pre:=[_]) (List.mem_cons_self ..) hS) hf5 hko ha.2 (by simp;omega)) (fun x6 s6 Γ6 hm6 hg6 hf6 hz6 hW6=>⟨(List.nil_sublist _),?_⟩)) rfl
       refine aF.one (i:=20) rfl (dq.bu (pre:=[_]) (hR':=[(some b78,ob bK 3 (iL [r,(kW af a (us[j]'hju) (cy (us.drop (j+1)) g) σj).1]) [])]) hH hW6 (.cons_cons _ (List.nil_sublist _)) rfl rfl rfl rfl rfl (fun _ _=>JT _ _) (fun w Y' hS=>bE p.bw _ _ x6 _ (some b78) [r,(kW af a (us[j]'hju) (cy (us.drop (j+1)) g) σj).1] 2 [] w hm6 hf6 h2o hz6 (fun e=>by cases e) hrk (by simp)) (fun s7 Γ7 hW7 hg7=>⟨(List.nil_sublist _),?_⟩)) rfl
       refine cV 21 (ae.fD rfl rfl rfl rfl) ?_
       refine aF.done rfl ?_
       exact K2 ⟨(s7,Γ7),hW7,fun _ h=>hg7 (hg6 (List.mem_cons_of_mem _ (hg4 h)))⟩ _ _ sF (fun _ _ hS=>hS.dN (List.sublist_append_right [_] _))
     · -- operation 19 next
      refine aF.one (i:=14) rfl (dq.iH (pre:=[_]) (u:=ar a (cy (us.drop (j+1)) g)) hW4 rfl rfl rfl rfl rfl (fun _ _=>JK _ _) (fun w Y' hS=>dK a ha x4 _ w (hW4.fa (pre:=[_]) hm4 hS) hf4 hdo) (fun x5 s5 hf5 hz5 hW5=>⟨(List.nil_sublist _),?_⟩)) rfl
      refine aF.one (i:=16) rfl (dq.Ac (pre:=[_]) (u:=cy ((us.take (j+1)).map (ar a)) (ar a (cy (us.drop (j+1)) g))) hW5 (List.mem_cons_self ..) hz5 rfl rfl rfl rfl rfl (fun _ _=>call173 _ _) (fun w Y' hS=>gw p _ _ _ ((iL ns).take (j+1)) x5 _ _ a w htl hd2 (hr.ex hS.ext) hb (htk w hS.ext) hxt (hW5.fa (pre:=[_]) (List.mem_cons_self ..) hS) hf5 hko ha.2 (by simp;omega)) (fun x6 s6 Γ6 hm6 hg6 hf6 hz6 hW6=>⟨(List.nil_sublist _),?_⟩)) rfl
      refine aF.one (i:=20) rfl (dq.bu (pre:=[_]) (hR':=[(some b78,ob bK 3 (iL [r,(kW af a (us[j]'hju) (cy (us.drop (j+1)) g) σj).1]) [])]) hH hW6 (.cons_cons _ (List.nil_sublist _)) rfl rfl rfl rfl rfl (fun _ _=>JT _ _) (fun w Y' hS=>bE p.bw _ _ x6 _ (some b78) [r,(kW af a (us[j]'hju) (cy (us.drop (j+1)) g) σj).1] 2 [] w hm6 hf6 h2o hz6 (fun e=>by cases e) hrk (by simp)) (fun s7 Γ7 hW7 hg7=>⟨(List.nil_sublist _),?_⟩)) rfl
      refine cV 21 (ae.fD rfl rfl rfl rfl) ?_
      refine aF.done rfl ?_
      exact K2 ⟨(s7,Γ7),hW7,fun _ h=>hg7 (hg6 (List.mem_cons_of_mem _ (hg4 h)))⟩ _ _ sF (fun _ _ hS=>hS.dN (List.sublist_append_right [_] _))
    · -- operation 19 next
     refine aF.one (i:=13) rfl (dq.Ac (pre:=[_]) (u:=cy (us.drop (j+1)) g) hW3 hy3 hyz rfl rfl rfl rfl rfl (fun _ _=>call173 _ _) (fun w Y' hS=>gw p _ _ _ ((iL ns).drop (j+1)) y g _ (-1) w hdl hd1 (hr.ex hS.ext) hb (hdr w hS.ext) hxd (hW3.fa (pre:=[_]) hy3 hS) hyf hg (by decide) (by simp;omega)) (fun x4 s4 Γ4 hm4 hg4 hf4 hz4 hW4=>⟨(List.nil_sublist _),?_⟩)) rfl
     refine aF.one (i:=14) rfl (dq.iH (pre:=[_]) (u:=ar a (cy (us.drop (j+1)) g)) hW4 rfl rfl rfl rfl rfl (fun _ _=>JK _ _) (fun w Y' hS=>dK a ha x4 _ w (hW4.fa (pre:=[_]) hm4 hS) hf4 hdo) (fun x5 s5 hf5 hz5 hW5=>⟨(List.nil_sublist _),?_⟩)) rfl
     refine aF.one (i:=16) rfl (dq.Ac (pre:=[_]) (u:=cy ((us.take (j+1)).map (ar a)) (ar a (cy (us.drop (j+1)) g))) hW5 (List.mem_cons_self ..) hz5 rfl rfl rfl rfl rfl (fun _ _=>call173 _ _) (fun w Y' hS=>gw p _ _ _ ((iL ns).take (j+1)) x5 _ _ a w htl hd2 (hr.ex hS.ext) hb (htk w hS.ext) hxt (hW5.fa (pre:=[_]) (List.mem_cons_self ..) hS) hf5 hko ha.2 (by simp;omega)) (fun x6 s6 Γ6 hm6 hg6 hf6 hz6 hW6=>⟨(List.nil_sublist _),?_⟩)) rfl
     refine aF.one (i:=20) rfl (dq.bu (pre:=[_]) (hR':=[(some b78,ob bK 3 (iL [r,(kW af a (us[j]'hju) (cy (us.drop (j+1)) g) σj).1]) [])]) hH hW6 (.cons_cons _ (List.nil_sublist _)) rfl rfl rfl rfl rfl (fun _ _=>JT _ _) (fun w Y' hS=>bE p.bw _ _ x6 _ (some b78) [r,(kW af a (us[j]'hju) (cy (us.drop (j+1)) g) σj).1] 2 [] w hm6 hf6 h2o hz6 (fun e=>by cases e) hrk (by simp)) (fun s7 Γ7 hW7 hg7=>⟨(List.nil_sublist _),?_⟩)) rfl
     refine cV 21 (ae.fD rfl rfl rfl rfl) ?_
     refine aF.done rfl ?_
     exact K2 ⟨(s7,Γ7),hW7,fun _ h=>hg7 (hg6 (List.mem_cons_of_mem _ (hg4 h)))⟩ _ _ sF (fun _ _ hS=>hS.dN (List.sublist_append_right [_] _))
  have hge:¬j<ns.length:=by rw [hil] at hc;simpa using hc
  obtain rfl:j=ns.length:=by omega
  have hE:lX af a us g (p.last.getD j0 0) σ=(r,σj):=by rw [←hch,List.drop_of_length_le (by omega)];rfl
  refine ab.exit rfl (gS (gR ?_))
  refine ah ?_;refine ai ?_;refine gE ?_
  refine gT func129 fun w' hS=>?_
  exact dU (pre:=[]) hE rfl hWj hgj hS
end Go.Proofs.YtnfmegcknckahaaGreatDoor
namespace Go.Proofs.YtnfmegcknckahaaGreatDoor
open Go.RowKit Go.Proofs.Wit Tryz
set_option maxRecDepth 8000 in
theorem xG (p:SP) (hR:Hl) (Γ:List FV) (σ:Sg) (a:Int) (kn:Nat) (w:World) (hin:Gk p hR) (hb:aX p.b) (hkn:kn<p.b.length) (hop:(nd p.b kn).op=9∨(nd p.b kn).op=10) (ha:0≤a∧a<4):
    XW p.bw Γ σ 131 [.pointer (some ⟨p.bs,0,none⟩),.int .i64 a,.int .i64 (kn:Int)] w hR (kV af a (aa p.b kn) σ):=by
  refine rz.of func131 rfl rfl (fun s hW hH=>?_)
  have hr:SR p (cM (cm 73 48 (xE σ.bad) p.bw s)) w:=hin.r hH
  have HB:∀{w':World} {j:Nat} {u:Value},Ex (cM (cm 73 48 (xE σ.bad) p.bw s)) w w'→p.cs[j]?=some u→w'.cell? ⟨p.bs,j,none⟩=some u:=fun e hu=>Ex.cell (Ex.refl _ _) (hr.ex e).di hu
  obtain ⟨t,ht⟩:∃t,t=aa p.b kn:=⟨_,rfl⟩
  have hcf:Cf (bT t) t:=by rw [ht];exact (wv hb hkn).2
  have htA:tA p.b (kn:Int)=t:=by rw [ht];exact jg
  have hto:=hcf.ok
  obtain ⟨op,i,e,g,z,htz,hopz⟩:∃op i e g z,t=.un op i e g z∧op=(nd p.b kn).op:=by
    rcases hb.node hkn with ⟨h1,h2⟩|⟨h1,h2⟩|⟨h1,h2⟩
    · omega
    · exact ⟨_,_,_,_,_,by rw [ht,h2],rfl⟩
    omega
  have hzo:z.ok:=by rw [htz] at hto;exact hto.2.2.2.2
  rw [←ht]
  obtain ⟨bs,hbs⟩:∃bs,bs=p.bs:=⟨_,rfl⟩
  rw [←hbs] at HB
  have hpb:(Value.pointer (some ⟨p.bs,0,none⟩))=.pointer (some ⟨bs,0,none⟩):=by rw [hbs]
  rw [hpb]
  refine gS (gR ?_);refine ai ?_;refine gE (gS ?_)
  refine ab.jL 10 (([])) mixed ?_
  refine cV 0 (ae.mv rfl rfl rfl rfl) ?_
  refine cV 1 (ae.ep rfl rfl rfl rfl) ?_
  refine cV 2 (ae.aG rfl rfl rfl rfl JP rfl (by exact sizeOf70) 0 rfl) ?_
  refine cV 3 (ae.ld (p:=⟨bs,0,none⟩) rfl rfl rfl rfl isAgg70 (fun w _ hS=>HB hS.ext rfl)) ?_
  refine cV 4 (ae.mv rfl rfl rfl rfl) ?_
  refine cV 5 (ae.mv rfl rfl rfl rfl) ?_
  rw [hbs]
  refine aF.one (i:=6) rfl (dq.uE (pre:=[]) (u:=t) hW rfl rfl rfl rfl rfl (fun _ _=>call81 _ _) (fun w Y' hS=>by rw [←htA];exact ic p _ w (hr.ex hS.ext) hb (by omega)) (fun x1 s1 hf1 hW1=>⟨List.nil_sublist _,?_⟩)) rfl
  have hc1:Cf x1.f t:=by rw [hf1];exact hcf
  have hxp:=hc1.pos
  have hlt:x1.f.length - 1<x1.f.length:=by omega
  obtain ⟨hfo,hfi,_⟩:=hc1.BA hlt
  obtain ⟨n,hn⟩:∃n,n=x1.f[x1.f.length - 1]:=⟨_,rfl⟩
  rw [←hn] at hfo
  have hno:n.op=op:=by rw [hfo,htz];rfl
  refine cV 7 (ae.fD rfl rfl rfl rfl) ?_
  refine cV 8 (ae.fD rfl rfl rfl rfl) ?_
  refine aF.done rfl ?_
  refine gE (gS (gR ?_));refine ah ?_
  refine ab.yl (pre:=[]) (nd:=n) (c:=x1.f) hW1 rfl rfl rfl rfl rfl (fun _ _=>call73 _ _) (fun w Y' hS=>by rw [hn];exact pj x1 hlt w (hW1.fa (pre:=[]) (by simp) hS) (hf1 ▸ gm)) (fun xa xb s2 hxa hxb hW2=>?_)
  have hcA:Cf xa.f z:=by
    have:=hc1.wW hlt (by rw [htz];show 4≤op;omega)
    rw [htz] at this
    rw [hxa,hn];exact this
  refine ah ?_
  iterate 3 refine fZ ?_
  refine ab.eO rfl rfl rfl (fun _=>JA _) (fun b9=>?_)
  refine ab.dF rfl rfl rfl rfl Jm 0 rfl rfl rfl rfl ?_
  iterate 2 refine ai ?_
  refine gE (gS (gS (gR ?_)));refine al Jk Ji 0 ?_;refine aq Jj 0 ?_;refine aw bd ?_;refine gE ?_
  refine gC (fun hc=>?_) fun hc=>?_
  ·
   have h9:op=9:=by rw [←hno];simpa using hc
   have hE:kV af a t σ=bR af (aP t (ar a t)) 4 0 0 0 σ:=by rw [htz,h9];rfl
   have h3:=bt ha hto
   refine gS (gR ?_)
   iterate 4 refine ah ?_
   refine ab.iH (pre:=[_]) (u:=(ar a t)) hW2 rfl rfl rfl rfl rfl (fun _ _=>JK _ _) (fun w Y' hS=>by exact dK a ha x1 _ w (hW2.fa (pre:=[_]) (by simp [*]) hS) hf1 hto) (fun x3 s3 hf3 hz3 hW3=>?_)
   refine ab.iH (pre:=[_]) (u:=(aP t (ar a t))) hW3 rfl rfl rfl rfl rfl (fun _ _=>JL _ _) (fun w Y' hS=>by exact fH x1 x3 _ _ w (hW3.fa (pre:=[_]) (by simp [*]) hS) hf1 hto (hW3.fa (pre:=[_]) (by simp [*]) hS) hf3 h3) (fun x4 s4 hf4 hz4 hW4=>?_)
   refine ab.v (ae.eN rfl rfl rfl rfl (bd48 (c:=[_,_,_,_,_]) rfl)) ?_
   refine ab.bu (pre:=[_]) (hR':=[]) hH hW4 (List.nil_sublist _) rfl rfl rfl rfl rfl (fun _ _=>call83 _ _) (fun w Y' hS=>by exact jf p.bw _ _ x4 _ 4 0 0 0 w (List.mem_cons_self ..) hf4 (dC hto h3) hz4) (fun s5 Γ5 hW5 hg5=>?_)
   refine ai ?_;refine gE ?_
   refine gT func131 fun w' hS=>?_
   exact dU (pre:=[_]) hE rfl hW5 (fun _ h=>hg5 (by simp [h])) hS
  have h9:¬op=9:=by rw [←hno];simpa using hc
  have h10:op=10:=by omega
  obtain ⟨nz,hnz⟩:∃nz,nz=aE (ar a (aE z)):=⟨_,rfl⟩
  have hE:kV af a t σ=aV af (aP t (ar a t)) [(dV af a z σ).1,(bR af (aP nz (ar a nz)) 5 0 0 0 (dV af a z σ).2).1,(gI af a nz t (aV af (aP nz t) [(dV af a z σ).1] (bR af (aP nz (ar a nz)) 5 0 0 0 (dV af a z σ).2).2).1 (aV af (aP nz t) [(dV af a z σ).1] (bR af (aP nz (ar a nz)) 5 0 0 0 (dV af a z σ).2).2).2).1] (gI af a nz t (aV af (aP nz t) [(dV af a z σ).1] (bR af (aP nz (ar a nz)) 5 0 0 0 (dV af a z σ).2).2).1 (aV af (aP nz t) [(dV af a z σ).1] (bR af (aP nz (ar a nz)) 5 0 0 0 (dV af a z σ).2).2).2).2:=by rw [hnz,htz,h10];rfl
  have h3:=bA hzo
  have h4:=bt ha h3
  have h5:nz.ok:=by rw [hnz];exact bA h4
  have h7:=bt ha h5
  have h8:=dC h5 h7
  have h10':=dC h5 hto
  have h13:=bt ha hto
  have h14:=dC hto h13
  refine gK (gS (gR ?_))
  iterate 2 refine ah ?_
  refine ab.iH (pre:=[_]) (u:=(aE z)) hW2 rfl rfl rfl rfl rfl (fun _ _=>JJ _ _) (fun w Y' hS=>by exact gQ xa _ w (hW2.fa (pre:=[_]) (by simp [*]) hS) hcA.eq hzo) (fun x3 s3 hf3 hz3 hW3=>?_)
  refine ab.iH (pre:=[_]) (u:=(ar a (aE z))) hW3 rfl rfl rfl rfl rfl (fun _ _=>JK _ _) (fun w Y' hS=>by exact dK a ha x3 _ w (hW3.fa (pre:=[_]) (by simp [*]) hS) hf3 h3) (fun x4 s4 hf4 hz4 hW4=>?_)
  refine ab.iH (pre:=[_]) (u:=nz) hW4 rfl rfl rfl rfl rfl (fun _ _=>JJ _ _) (fun w Y' hS=>by rw [hnz];exact gQ x4 _ w (hW4.fa (pre:=[_]) (by simp) hS) hf4 h4) (fun x5 s5 hf5 hz5 hW5=>?_)
  refine ai ?_;refine gE (gS (gR ?_))
  iterate 3 refine ah ?_
  refine ab.bu (pre:=[_]) (hR':=[]) hH hW5 (List.nil_sublist _) rfl rfl rfl rfl rfl (fun _ _=>call76 _ _) (fun w Y' hS=>by exact oU p.bw _ _ a xa z w ha (by simp) hcA.eq hzo) (fun s6 Γ6 hW6 hg6=>?_)
  have m5:x5∈Γ6:=hg6 (by simp)
  have m1:x1∈Γ6:=hg6 (by simp)
  refine ai ?_;refine gE (gS (gR ?_))
  iterate 4 refine ah ?_
  refine ab.iH (pre:=[_]) (u:=(ar a nz)) hW6 rfl rfl rfl rfl rfl (fun _ _=>JK _ _) (fun w Y' hS=>by exact dK a ha x5 _ w (hW6.fa (pre:=[_]) (by simp [*]) hS) hf5 h5) (fun x7 s7 hf7 hz7 hW7=>?_)
  refine ab.iH (pre:=[_]) (u:=(aP nz (ar a nz))) hW7 rfl rfl rfl rfl rfl (fun _ _=>JL _ _) (fun w Y' hS=>by exact fH x5 x7 _ _ w (hW7.fa (pre:=[_]) (by simp [*]) hS) hf5 h5 (hW7.fa (pre:=[_]) (by simp [*]) hS) hf7 h7) (fun x8 s8 hf8 hz8 hW8=>?_)
  refine ab.v (ae.eN rfl rfl rfl rfl (bd48 (c:=[_,_,_,_,_]) rfl)) ?_
  refine ab.bu (pre:=[_]) (hR':=[]) hH hW8 (List.nil_sublist _) rfl rfl rfl rfl rfl (fun _ _=>call83 _ _) (fun w Y' hS=>by exact jf p.bw _ _ x8 _ 5 0 0 0 w (List.mem_cons_self ..) hf8 h8 hz8) (fun s9 Γ9 hW9 hg9=>?_)
  have n5:x5∈Γ9:=hg9 (by simp [m5])
  have n1:x1∈Γ9:=hg9 (by simp [m1])
  refine ai ?_;refine gE (gS (gR ?_))
  iterate 3 refine ah ?_
  refine ab.iH (pre:=[_]) (u:=(aP nz t)) hW9 rfl rfl rfl rfl rfl (fun _ _=>JL _ _) (fun w Y' hS=>by exact fH x5 x1 _ _ w (hW9.fa (pre:=[_]) (by simp [*]) hS) hf5 h5 (hW9.fa (pre:=[_]) (by simp [*]) hS) hf1 hto) (fun x10 s10 hf10 hz10 hW10=>?_)
  refine ah ?_
  refine ab.ew (c:=[_]) rfl rfl rfl rfl Jp Ji JE rfl rfl (fun b63=>?_)
  refine ab.bu (pre:=[_,_]) (hR':=[(some b63,ob bK 3 (iL [(dV af a z σ).1]) [])]) hH hW10 (.cons_cons _ (List.nil_sublist _)) rfl rfl rfl rfl rfl (fun _ _=>JT _ _) (fun w Y' hS=>bE p.bw _ _ x10 _ (some b63) [(dV af a z σ).1] 1 [] w (List.mem_cons_self ..) hf10 h10' hz10 (fun e=>by cases e) (fun hb n hn=>by rw [List.mem_singleton.1 hn];exact (lp.le df hb).1) (by simp)) (fun s11 Γ11 hW11 hg11=>?_)
  have l5:x5∈Γ11:=hg11 (by simp [n5])
  have l1:x1∈Γ11:=hg11 (by simp [n1])
  refine ai ?_;refine gE (gS (gR ?_))
  iterate 5 refine ah ?_
  refine ab.bu (pre:=[_,_]) (hR':=[]) hH hW11 (List.nil_sublist _) rfl rfl rfl rfl rfl (fun _ _=>call75 _ _) (fun w Y' hS=>by exact rF p.bw _ _ a x5 x1 nz t _ w ha l5 hf5 h5 l1 hf1 hto) (fun s12 Γ12 hW12 hg12=>?_)
  have k1:x1∈Γ12:=hg12 l1
  refine ai ?_;refine gE (gS (gR ?_))
  iterate 4 refine ah ?_
  refine ab.iH (pre:=[_,_]) (u:=(ar a t)) hW12 rfl rfl rfl rfl rfl (fun _ _=>JK _ _) (fun w Y' hS=>by exact dK a ha x1 _ w (hW12.fa (pre:=[_,_]) (by simp [*]) hS) hf1 hto) (fun x13 s13 hf13 hz13 hW13=>?_)
  refine ab.iH (pre:=[_,_]) (u:=(aP t (ar a t))) hW13 rfl rfl rfl rfl rfl (fun _ _=>JL _ _) (fun w Y' hS=>by exact fH x1 x13 _ _ w (hW13.fa (pre:=[_,_]) (by simp [*]) hS) hf1 hto (hW13.fa (pre:=[_,_]) (by simp [*]) hS) hf13 h13) (fun x14 s14 hf14 hz14 hW14=>?_)
  iterate 3 refine ah ?_
  refine ab.ew (c:=[_,_,_]) rfl rfl rfl rfl Jp Ji JE rfl rfl (fun b80=>?_)
  refine ab.bu (pre:=[_,_,_]) (hR':=[(some b80,ob bK 3 (iL [(dV af a z σ).1,(bR af (aP nz (ar a nz)) 5 0 0 0 (dV af a z σ).2).1,(gI af a nz t (aV af (aP nz t) [(dV af a z σ).1] (bR af (aP nz (ar a nz)) 5 0 0 0 (dV af a z σ).2).2).1 (aV af (aP nz t) [(dV af a z σ).1] (bR af (aP nz (ar a nz)) 5 0 0 0 (dV af a z σ).2).2).2).1]) [])]) hH hW14 (.cons_cons _ (List.nil_sublist _)) rfl rfl rfl rfl rfl (fun _ _=>JT _ _) (fun w Y' hS=>bE p.bw _ _ x14 _ (some b80) [(dV af a z σ).1,(bR af (aP nz (ar a nz)) 5 0 0 0 (dV af a z σ).2).1,(gI af a nz t (aV af (aP nz t) [(dV af a z σ).1] (bR af (aP nz (ar a nz)) 5 0 0 0 (dV af a z σ).2).2).1 (aV af (aP nz t) [(dV af a z σ).1] (bR af (aP nz (ar a nz)) 5 0 0 0 (dV af a z σ).2).2).2).1] 3 [] w (List.mem_cons_self ..) hf14 h14 hz14 (fun e=>by cases e) (fun hb n hn=>by
    simp only [List.mem_cons,List.not_mem_nil,or_false] at hn
    rcases hn with rfl|rfl|rfl
    · exact (((lp.le df).le dc).le nj hb).1
    · exact ((bP.le dc).le nj hb).1
    exact (lD hb).1) (by simp)) (fun s15 Γ15 hW15 hg15=>?_)
  refine ai ?_;refine gE ?_
  refine gT func131 fun w' hS=>?_
  exact dU (pre:=[_,_,_]) hE rfl hW15 (fun _ h=>hg15 (List.mem_cons_of_mem _ (List.mem_cons_of_mem _ (hg12 (hg11 (List.mem_cons_of_mem _ (hg9 (List.mem_cons_of_mem _ (List.mem_cons_of_mem _ (hg6 (by simp [h])))))))))))  hS
end Go.Proofs.YtnfmegcknckahaaGreatDoor
namespace Go.Proofs.YtnfmegcknckahaaGreatDoor
open Go.RowKit Go.Proofs.Wit Tryz
theorem sd {tl:List SV} {j:Nat} (hj:j<tl.length):cu (ec tl) (j:Int)=tl[j].d.set:=by rw [dL (by rw [cW];exact hj),kI hj]
theorem FF {ns:List Nat} (h:0<ns.length):(iL ns).getD (ns.length - 1) 0=((ns.getLastD 0:Nat):Int):=by
 have h1:ns.length - 1<ns.length:=by omega
 rw [nW h1,List.getLastD_eq_getLast?,List.getLast?_eq_getElem?,List.getElem?_eq_getElem h1];rfl
set_option maxRecDepth 8000 in
theorem xB (p:SP) (k:Nat) (hR:Hl) (Γ:List FV) (σ:Sg) (y:FV) (G:Tr) (w:World) (hin:Gk p hR) (hp:p.Ok k) (h67:p.x.d.av=6∨p.x.d.av=7) (hlast:qz p.b (ec p.tl) σ p.last k) (hy:y∈Γ) (hyf:y.f=bT G) (hG:G.ok) (hyz:y.Z):
    XW p.bw Γ σ 84 [.pointer (some ⟨p.bs,0,none⟩),y.v] w hR (Fy p G σ):=by
  obtain ⟨iI,hiI,hzI,hszI,hbyI⟩:=info_parts uP
  have hb:=hp.base
  have hbl:=hb.len
  have hag:=hp.IB h67
  have hfr:0<p.x.d.fr.length:=ir hp.kX (by omega)
  obtain ⟨j0,hj0,hj0k⟩:∃j0:Nat,p.x.d.fr[0]=(j0:Int)∧j0<k:=by
    have:=hp.kX.m8 (List.getElem_mem hfr)
    exact ⟨p.x.d.fr[0].toNat,by omega,by omega⟩
  have hj0l:j0<p.last.length:=by rw [hp.FB];exact hj0k
  have hj0t:j0<p.tl.length:=Nat.lt_trans hj0k hp.Iq
  have hg0:p.x.d.fr.getD 0 0=(j0:Int):=by simp [List.getD_eq_getElem?_getD,hfr,hj0]
  have hln:p.line=p.last.getD j0 0:=by unfold SP.line;rw [hg0,Int.toNat_natCast]
  have hS0:p.S0=p.tl[j0].d.set:=by unfold SP.S0;rw [hg0];exact sd hj0t
  have hins:iM p.b p.S0:=by unfold SP.S0;rw [hg0];exact hp.uq j0 hj0t
  have hne0:dG p.S0≠[]:=by unfold SP.S0;rw [hg0];exact hp.ne j0 hj0t
  have hown:∀n∈p.own,n<p.b.length:=fun n hn=>hins n (cH.1 (p.vz hn))
  have hns:∀n∈p.ns,n<p.b.length:=fun n hn=>hown n (p.Dk hn)
  have hol:=p.A2
  have hnl:=p.Fp
  have hon6:p.x.d.av=6→∃o:Nat,p.x.d.on=(o:Int)∧o<p.b.length∧(nd p.b p.x.d.on).op=10:=fun h=>by
    rcases hp.kX.2 with ⟨e,_⟩|⟨e,_⟩|⟨e,_⟩|⟨e,_⟩|⟨e,_⟩|⟨_,_,g,_⟩|⟨e,_⟩
    · omega
    · omega
    · omega
    · omega
    · omega
    · obtain ⟨o,q1,q2,q3,q4⟩:=g.nat hb;exact ⟨o,q1,q2,q4⟩
    omega
  have htg:p.tg<p.b.length:=by
    unfold SP.tg
    split
    · rename_i h
      obtain ⟨o,q1,q2,q4⟩:=hon6 h
      rw [q1] at q4⊢
      have:=hb.x q2 (by omega)
      omega
    rename_i h
    have:p.own=dG p.S0:=if_neg h
    rw [this]
    exact hins _ (cH.1 (kF hne0))
  have hline:σ.bad=false→p.last.getD j0 0<σ.ls.length:=fun h=>(hlast j0 hj0k h).1
  refine rz.of func84 rfl rfl (fun s hW hH=>?_)
  have hr:SR p (cM (cm 73 48 (xE σ.bad) p.bw s)) w:=hin.r hH
  have HB:∀{w':World} {j:Nat} {u:Value},Ex (cM (cm 73 48 (xE σ.bad) p.bw s)) w w'→p.cs[j]?=some u→w'.cell? ⟨p.bs,j,none⟩=some u:=fun e hu=>Ex.cell (Ex.refl _ _) (hr.ex e).di hu
  have HR:∀{w':World},Ex (cM (cm 73 48 (xE σ.bad) p.bw s)) w w'→∀j v,([.int .i64 p.l,.slice p.A p.b.length p.cA,.slice p.B p.tl.length p.cB]:List Value)[j]?=some v→w'.cell? ((⟨p.bs,1,none⟩:Addr).add j)=some v:=fun e=>(hr.ex e).part (fun j hj=>by
    match j,hj with
    |0,_=>rfl
    |1,_=>rfl
    |2,_=>rfl)
  have HX:∀{w':World},Ex (cM (cm 73 48 (xE σ.bad) p.bw s)) w w'→∀j v,(SV.cells p.x)[j]?=some v→w'.cell? ((⟨p.bs,4,none⟩:Addr).add j)=some v:=fun e=>(hr.ex e).part (fun j hj=>by
    match j,hj with
    |0,_=>rfl
    |1,_=>rfl
    |2,_=>rfl
    |3,_=>rfl
    |4,_=>rfl)
  obtain ⟨bs,hbs⟩:∃bs,bs=p.bs:=⟨_,rfl⟩
  rw [←hbs] at HB HR HX
  have hpb:(Value.pointer (some ⟨p.bs,0,none⟩))=.pointer (some ⟨bs,0,none⟩):=by rw [hbs]
  rw [hpb]
  refine gS (gR ?_);refine ai ?_;refine gE (gS ?_)
  refine ab.jL 16 (([])) mixed ?_
  refine cV 0 (ae.mv rfl rfl rfl rfl) ?_
  refine cV 1 (ae.ep rfl rfl rfl rfl) ?_
  refine cV 2 (ae.aG rfl rfl rfl rfl JP rfl (by exact sizeOf70) 0 rfl) ?_
  refine cV 3 (ae.ld (p:=⟨bs,0,none⟩) rfl rfl rfl rfl isAgg70 (fun w _ hS=>HB hS.ext rfl)) ?_
  refine cV 4 (ae.mv rfl rfl rfl rfl) ?_
  refine cV 5 (ae.ep rfl rfl rfl rfl) ?_
  refine cV 6 (ae.aG rfl rfl rfl rfl JP rfl (by exact Jz) 1 rfl) ?_
  refine cV 7 (ae.nV (p:=⟨bs,1,none⟩) (cs:=[.int .i64 p.l,.slice p.A p.b.length p.cA,.slice p.B p.tl.length p.cB]) rfl rfl rfl rfl JS Jz (fun w _ hS=>HR hS.ext)) ?_
  refine cV 8 (ae.mv rfl rfl rfl rfl) ?_
  refine cV 9 (ae.ep rfl rfl rfl rfl) ?_
  refine cV 10 (ae.aG rfl rfl rfl rfl JP rfl (by exact Jw) 4 rfl) ?_
  refine cV 11 (ae.nV (p:=⟨bs,4,none⟩) (cs:=SV.cells p.x) rfl rfl rfl rfl J4 Jw (fun w _ hS=>HX hS.ext)) ?_
  refine aF.cR (i:=12) rfl rfl rfl rfl rfl rfl (fun _ _=>call128 _ _) (fun w _ hS=>(by exact sK p.l p.A p.cA p.b p.B p.tl.length p.cB p.x w (hr.ex hS.ext).fa (fun h=>by obtain ⟨o,q1,q2,_⟩:=hon6 (h67.resolve_right h);omega))) sL ?_
  refine cV 13 (ae.fD rfl rfl rfl rfl) ?_
  refine cV 14 (ae.fD rfl rfl rfl rfl) ?_
  refine aF.done rfl ?_
  refine gE (gS ?_)
  refine ab.draw 16 mixed rfl ?_
  refine mO ?_;refine xq ?_;refine mP JP Jz 1 ?_;refine mP Jv JM 3 ?_
  refine aM.v (ae.ld (p:=⟨bs,3,none⟩) rfl rfl rfl rfl JO (fun w _ hS=>HB hS.ext rfl)) ?_
  refine mO ?_;refine xq ?_;refine mP JP Jw 4 ?_;refine mP Jq JY 8 ?_
  refine aM.v (ae.ld (p:=⟨bs,8,none⟩) rfl rfl rfl rfl J1 (fun w _ hS=>HB hS.ext rfl)) ?_
  refine aM.v (ae.idx rfl rfl rfl rfl rfl Jp Ji ⟨_,hr.at_.ED⟩ (by simp) 0 ⟨rfl,by simpa using hfr⟩) ?_
  refine aM.v (ae.ld rfl rfl rfl rfl Jj (fun w _ hS=>Sl.at (enc:=bK) (hr.ex hS.ext).ED 0 hfr)) ?_
  refine aM.v (ae.ed rfl rfl rfl rfl rfl JG Jw ⟨_,(hr.HP).at_⟩ (ax (enc:=SV.cells) (sz:=5) (fun _=>rfl)) (by decide) (j0) ⟨hj0,hj0t⟩) ?_
  refine aM.v (ae.fM rfl rfl rfl rfl Jq rfl JC ((j0)*5+0) rfl) ?_
  refine aM.v (ae.ld rfl rfl rfl rfl JI (fun w _ hS=>Sl.kU (enc:=SV.cells) (sz:=5) ((hr.HP).ay hS.ext).at_ (fun _=>rfl) hj0t rfl)) ?_
  refine AT ?_
  refine aM.nil ?_
  refine gE (gS (gR ?_));refine ah ?_
  refine gM rfl rfl rfl rfl rfl call85 (fun w _ hS=>(by exact kY p.tl[j0].d.set w)) ?_
  rintro v w1 w2 Y' hS he ho
  rw [←hS0] at ho
  obtain ⟨q45,c45,sp45,rfl,hq45,hc45,hS'⟩:=rk hS he ho
  refine ⟨_,hS',?_⟩
  refine ai ?_;refine gE (gS (gR ?_));refine ah ?_
  iterate 2 refine ai ?_
  refine gE (gS ?_)
  refine ab.jS (α:={z:Option Nat×Nat×List Value // (z.1=none→(iL p.own).length=0∧z.2.1=0)∧((iL p.own).map bK++z.2.2).length=z.2.1}) (fun z=>[(0,.pointer (some ⟨bs,0,none⟩)),(1,y.v),(5,.pointer (some ⟨p.bw,0,none⟩)),(6,.int .i64 p.ag),(8,.slice (z.1.1.map (fun b=>⟨b,0,none⟩)) p.ns.length z.1.2.1),(9,cQ z.1.1 (iL p.own).length z.1.2.1),(10,.int .i64 (p.tg:Int))]) (fun z=>[(z.1.1,ob bK 3 (iL p.own) z.1.2.2)]++cm 73 48 (xE σ.bad) p.bw s) (fun z=>?_) (fun K=>?_)
  obtain ⟨⟨qL,cL,spL⟩,hqL,hcL⟩:=z
  dsimp only at hqL hcL⊢
  have hil:(iL p.own).length=p.own.length:=iJ
  have hcL2:p.own.length≤cL:=by
    have:=hcL
    simp [iL] at this;omega
  have hto:(aa p.b p.tg).ok:=hb.ok htg
  · -- what comes behind
   refine gS (gR ?_)
   iterate 2 refine ah ?_
   rw [hbs]
   refine ab.uE (pre:=[_]) (u:=aa p.b p.tg) hW rfl rfl rfl rfl rfl (fun _ _=>call81 _ _) (fun w Y' hS=>by rw [←jg];exact ic p _ w (hr.ex hS.ext) hb (by omega)) (fun x1 s1 hf1 hW1=>?_)
   refine ab.iH (pre:=[_]) (u:=aE (aa p.b p.tg)) hW1 rfl rfl rfl rfl rfl (fun _ _=>JJ _ _) (fun w Y' hS=>by exact gQ x1 _ w (hW1.fa (pre:=[_]) (by simp) hS) hf1 hto) (fun x2 s2 hf2 hz2 hW2=>?_)
   refine ai ?_;refine gE (gS (gR ?_))
   iterate 4 refine ah ?_
   refine ab.bu (pre:=[_]) (hR':=[(qL,ob bK 3 (iL p.own) spL)]++hR) hH hW2 (List.Sublist.refl _) rfl rfl rfl rfl rfl (fun _ _=>call129 _ _) (fun w Y' hS=>xF p ([(qL,ob bK 3 (iL p.own) spL)]++hR) _ σ p.ag p.ns qL (iL p.own) spL cL x2 (aE (aa p.b p.tg)) j0 w (hin.mono (List.subset_append_right _ _)) hb hfr hj0 hj0l hag (List.mem_append_left _ (List.mem_singleton.2 rfl)) (fun e=>List.eq_nil_of_length_eq_zero (hqL e).1) (by rw [Bt,p.A6]) (by omega) hns (by omega) (List.mem_cons_self ..) hf2 (bA hto) hz2 hline) (fun s3 Γ3 hW3 hg3=>?_)
   refine ab.ew (c:=[_]) rfl rfl rfl rfl Jp Ji JE rfl rfl (fun b92=>?_)
   refine ai ?_;refine gE (gS (gS (gR ?_)));refine ah ?_;refine dM Jp ?_;refine ah ?_;refine gE (gB ?_)
   obtain ⟨C,hC⟩:∃C,C=lX af p.ag (p.ns.map (aa p.b)) (aE (aa p.b p.tg)) (p.last.getD j0 0) σ:=⟨_,rfl⟩
   rw [←hC] at hW3⊢
   have hC1:C.2.bad=false→C.1<C.2.ls.length:=by rw [hC];exact fun h=>(tT h).1
   refine ab.loop (σ:=Nat×List Nat×Nat×Nat×List Value×Sg×Ws×List FV) (fun z=>[(0,.pointer (some ⟨p.bs,0,none⟩)),(1,y.v),(5,.pointer (some ⟨p.bw,0,none⟩)),(6,.int .i64 p.ag),(10,.int .i64 (p.tg:Int)),(12,cQ (some z.2.2.1) (iL z.2.1).length z.2.2.2.1),(93,cQ qL (iL p.own).length cL),(94,.int .i64 (iL p.own).length),(95,.int .i64 z.1)])
     (fun z=>[(some z.2.2.1,ob bK 3 (iL z.2.1) z.2.2.2.2.1),(qL,ob bK 3 (iL p.own) spL)]++cm 73 48 (xE z.2.2.2.2.2.1.bad) p.bw z.2.2.2.2.2.2.1)
     (fun z=>z.1≤p.own.length∧z.2.1.length≤z.1+1∧((iL z.2.1).map bK++z.2.2.2.2.1).length=z.2.2.2.1∧fw 66 z.2.2.2.2.2.2.2 z.2.2.2.2.2.1 z.2.2.2.2.2.2.1∧Γ3⊆z.2.2.2.2.2.2.2∧(z.2.2.2.2.2.1.bad=false→∀n∈z.2.1,n<z.2.2.2.2.2.1.ls.length)∧
       z.2.1++(eF af p.b p.full p.ag (p.own.drop z.1) z.2.2.2.2.2.1).1=C.1::(eF af p.b p.full p.ag p.own C.2).1∧(eF af p.b p.full p.ag (p.own.drop z.1) z.2.2.2.2.2.1).2=(eF af p.b p.full p.ag p.own C.2).2)
     (fun z=>p.own.length - z.1) (0,[C.1],b92,1,[],C.2,s3,Γ3) ⟨Nat.zero_le _,Nat.le_refl _,rfl,hW3,fun _ h=>h,fun h n hn=>by rw [List.mem_singleton.1 hn];exact hC1 h,rfl,rfl⟩ ⟨rfl,rfl,rfl,rfl,rfl,rfl,rfl,rfl,rfl,trivial⟩ (List.Sublist.refl _) (fun z hI IH=>?_)
   obtain ⟨m,os,b12,c12,sp12,σk,sk,Γk⟩:=z
   obtain ⟨hm,hosl,hc12,hWk,hgk,hvk,hk1,hk2⟩:=hI
   dsimp only at hm hosl hc12 hWk hgk hvk hk1 hk2 IH⊢
   have hil12:(iL os).length=os.length:=iJ
   rw [←hbs]
   refine gS (gR ?_);refine aw iX ?_;refine gE (gS ?_)
   refine gC (fun hc=>?_) fun hc=>?_
   ·
    have hlt:m<p.own.length:=by rw [hil] at hc;simpa using hc
    have hlt2:m<(iL p.own).length:=by rw [hil];exact hlt
    obtain ⟨n,hn⟩:∃n,n=p.own[m]:=⟨_,rfl⟩
    have hgp:(iL p.own).getD m 0=(n:Int):=by rw [nW hlt,←hn]
    have hnm:n∈p.own:=by rw [hn];exact List.getElem_mem hlt
    have hnb:=hown n hnm
    obtain ⟨bq,rfl⟩:∃b,qL=some b:=by
      cases qL with
      |none=>have:=(hqL rfl).1;omega
      |some b=>exact ⟨b,rfl⟩
    rw [List.drop_eq_getElem_cons hlt,←hn,eF] at hk1 hk2
    refine gK (gS (gB (gS (gR ?_))))
    refine ab.v (ae.dX rfl rfl rfl rfl rfl Jp Ji (m) ⟨rfl,hlt2⟩) ?_
    skip
    refine ab.v (ae.qH bK 0 rfl rfl rfl rfl Jj 1 rfl hlt2) ?_
    rw [hgp]
    refine ai ?_;refine gE (gS ?_)
    refine ab.jL 15 (([])) mixed ?_
    refine cV 0 (ae.mv rfl rfl rfl rfl) ?_
    refine cV 1 (ae.ep rfl rfl rfl rfl) ?_
    refine cV 2 (ae.aG rfl rfl rfl rfl JP rfl (by exact Jz) 1 rfl) ?_
    refine cV 3 (ae.aG rfl rfl rfl rfl Jv rfl (by exact Js) 2 rfl) ?_
    refine cV 4 (ae.ld (p:=⟨bs,2,none⟩) rfl rfl rfl rfl Jx (fun w _ hS=>HB hS.ext rfl)) ?_
    refine cV 5 (ae.mv rfl rfl rfl rfl) ?_
    refine cV 6 (ae.ep rfl rfl rfl rfl) ?_
    refine cV 7 (ae.aG rfl rfl rfl rfl JP rfl (by exact JC) 9 rfl) ?_
    refine cV 8 (ae.ld (p:=⟨bs,9,none⟩) rfl rfl rfl rfl JI (fun w _ hS=>HB hS.ext rfl)) ?_
    refine cV 9 (ae.mv rfl rfl rfl rfl) ?_
    refine cV 10 (ae.mv rfl rfl rfl rfl) ?_
    refine cV 12 (ae.mv rfl rfl rfl rfl) ?_
    refine aF.cR (i:=11) rfl rfl rfl rfl rfl rfl (fun _ _=>call130 _ _) (fun w _ hS=>(by exact qO p.A p.cA p.b p.full p.ag n w (hr.ex hS.ext).fa hp.full)) sL ?_
    refine cV 13 (ae.bin rfl rfl rfl rfl bd rfl) ?_
    refine aF.done rfl ?_
    refine gE ?_
    refine gC (fun hc=>?_) fun hc=>?_
    ·
     have hsn:fB p.b p.full p.ag n=n:=by simp at hc;omega
     rw [if_pos hsn] at hk1 hk2
     refine gR ?_
     iterate 4 refine ah ?_
     rw [hbs]
     refine ab.bu (pre:=[_,_]) (hR':=hR) hH hWk (List.sublist_append_right _ _) rfl rfl rfl rfl rfl (fun _ _=>call131 _ _) (fun w Y' hS=>xG p hR Γk σk p.ag n w hin hb hnb (hp.Iy h67 n hnm hsn) hag) (fun s5 Γ5 hW5 hg5=>?_)
     refine ab.ew (c:=[_]) rfl rfl rfl rfl Jp Ji JE rfl rfl (fun b118=>?_)
     refine ab.nC bK (news:=[((kV af p.ag (aa p.b n) σk).1:Int)]) (spn:=[]) (xs:=iL os) (sp:=sp12) (q:=some b12) rfl rfl rfl rfl rfl Jp hiI hzI hszI rfl (fun e=>by cases e) 1 rfl 0 rfl hc12 rfl (by decide) (fun _=>rfl) (by unfold maxLen;omega) (by rw [hbyI];omega) (fun b' sp' cap' hlen=>?_)
     refine ai ?_;refine gE (dO (gR ?_));refine db rfl rfl rfl rfl (cz (by omega)) ?_;refine ah ?_;refine gE ?_
     refine ab.aS (pre:=[_,_,_]) (pre':=[_,_]) (cm 73 48 (xE (kV af p.ag (aa p.b n) σk).2.bad) p.bw s5) [1,2] (by decide) rfl ?_
     rw [←o9] at hlen⊢
     refine IH (m+1,os++[(kV af p.ag (aa p.b n) σk).1],b',cap',sp',_,s5,Γ5) _ _ ⟨hlt,by simp;omega,hlen,hW5,fun _ h=>hg5 (hgk h),fun h x hx=>?_,by rw [List.append_assoc];exact hk1,hk2⟩ (by dsimp only;omega) ⟨rfl,rfl,rfl,rfl,rfl,rfl,rfl,rfl,rfl,trivial⟩ (List.Sublist.refl _)
     rcases List.mem_append.1 hx with hx|hx
     · exact Nat.lt_of_lt_of_le (hvk (su.ok h) x hx) su.pre.length_le
     rw [List.mem_singleton.1 hx];exact (qm h).1
    have hsn:¬fB p.b p.full p.ag n=n:=by simp at hc;omega
    rw [if_neg hsn] at hk1 hk2
    refine gK (dO (gR ?_));refine db rfl rfl rfl rfl (cz (by omega)) ?_;refine ah ?_;refine gE ?_
    rw [hbs]
    exact IH (m+1,os,b12,c12,sp12,σk,sk,Γk) _ _ ⟨hlt,by dsimp only;omega,hc12,hWk,hgk,hvk,hk1,hk2⟩ (by dsimp only;omega) ⟨rfl,rfl,rfl,rfl,rfl,rfl,rfl,rfl,rfl,trivial⟩ (List.Sublist.refl _)
   have hge:¬m<p.own.length:=by rw [hil] at hc;simpa using hc
   obtain rfl:m=p.own.length:=by omega
   rw [List.drop_length,eF] at hk1 hk2
   rw [List.append_nil] at hk1
   obtain ⟨E,hEd⟩:∃E,E=(if p.x.d.av=6 then dV af p.ag (aa p.b p.tg) σk else bR af (aP (ar p.ag (aa p.b p.tg)) (aE (ar p.ag (aE (aa p.b p.tg))))) 6 0 0 0 σk):=⟨_,rfl⟩
   have hEle:σk.Le E.2:=by
     rw [hEd];split
     · exact jH
     exact df
   have hEh:E.2.bad=false→E.1<E.2.ls.length:=by
     rw [hEd];split
     · exact fun h=>(lp h).1
     exact fun h=>(bP h).1
   have hRES:Fy p G σ=aV af G (os++[E.1]) E.2:=by
     rw [Fy,uG,hln]
     rw [←hC]
     rw [←hk2,hk1,hEd]
     by_cases h6:p.x.d.av=6
     · rw [if_pos h6,if_pos (decide_eq_true h6)];rfl
     rw [if_neg h6,if_neg (by simp [h6])];rfl
   refine ab.exit rfl (gS ?_)
   refine ab.jS (α:={z:(Nat×Nat×List Value)×Ws×List FV // ((iL (os++[E.1])).map bK++z.1.2.2).length=z.1.2.1∧fw 66 z.2.2 E.2 z.2.1∧Γk⊆z.2.2}) (fun z=>[(1,y.v),(5,.pointer (some ⟨p.bw,0,none⟩)),(12,cQ (some z.1.1.1) (iL (os++[E.1])).length z.1.1.2.1)]) (fun z=>[(some z.1.1.1,ob bK 3 (iL (os++[E.1])) z.1.1.2.2)]++cm 73 48 (xE E.2.bad) p.bw z.1.2.1) (fun z=>?_) (fun K2=>?_)
   obtain ⟨⟨⟨b13,c13,sp13⟩,s6,Γ6⟩,hc13,hW6,hg6⟩:=z
   dsimp only at hc13 hW6 hg6⊢
   · -- what comes behind
    refine gS (gR ?_)
    iterate 3 refine ah ?_
    refine ab.bu (pre:=[_]) (hR':=[(some b13,ob bK 3 (iL (os++[E.1])) sp13)]) hH hW6 (.cons_cons _ (List.nil_sublist _)) rfl rfl rfl rfl rfl (fun _ _=>JT _ _) (fun w Y' hS=>bE p.bw _ _ y _ (some b13) (os++[E.1]) c13 sp13 w (hg6 (hgk (hg3 (by simp [hy])))) hyf hG hyz (fun e=>by cases e) (fun h n hn=>by
      rcases List.mem_append.1 hn with hn|hn
      · exact Nat.lt_of_lt_of_le (hvk (hEle.ok h) n hn) hEle.pre.length_le
      rw [List.mem_singleton.1 hn];exact hEh h) (by simp;omega)) (fun s7 Γ7 hW7 hg7=>?_)
    refine ai ?_;refine gE ?_
    refine gT func84 fun w' hS=>?_
    exact dU (pre:=[_]) hRES rfl hW7 (fun _ h=>hg7 (hg6 (hgk (hg3 (by simp [h]))))) hS
   · -- the first part
    refine gS (gR ?_);refine ah ?_;refine ku ?_;refine al JP Jw 4 ?_;refine al Jq Ji 5 ?_
    refine ab.v (ae.ld (p:=⟨bs,5,none⟩) rfl rfl rfl rfl Jj (fun w _ hS=>HB hS.ext rfl)) ?_
    refine aw bd ?_;refine gE ?_
    refine gC (fun hc=>?_) fun hc=>?_
    ·
     have h6:p.x.d.av=6:=by simpa using hc
     rw [if_pos h6] at hEd
     refine gR ?_
     iterate 5 refine ah ?_
     rw [hbs]
     refine ab.uE (pre:=[_,_]) (u:=aa p.b p.tg) hWk rfl rfl rfl rfl rfl (fun _ _=>call81 _ _) (fun w Y' hS=>by rw [←jg];exact ic p _ w (hr.ex hS.ext) hb (by omega)) (fun x5 s5 hf5 hW5=>?_)
     refine ab.bu (pre:=[_,_]) (hR':=[]) hH hW5 (List.nil_sublist _) rfl rfl rfl rfl rfl (fun _ _=>call76 _ _) (fun w Y' hS=>by exact oU p.bw _ _ p.ag x5 _ w hag (List.mem_cons_self ..) hf5 hto) (fun s8 Γ8 hW8 hg8=>?_)
     rw [←hEd] at hW8⊢
     refine ab.ew (c:=[_]) rfl rfl rfl rfl Jp Ji JE rfl rfl (fun b134=>?_)
     refine ab.nC bK (news:=[(E.1:Int)]) (spn:=[]) (xs:=iL os) (sp:=sp12) (q:=some b12) rfl rfl rfl rfl rfl Jp hiI hzI hszI rfl (fun e=>by cases e) 1 rfl 0 rfl hc12 rfl (by decide) (fun _=>rfl) (by unfold maxLen;omega) (by rw [hbyI];omega) (fun b' sp' cap' hlen=>?_)
     rw [←o9] at hlen⊢
     refine ai ?_;refine gE ?_
     exact K2 ⟨((b',cap',sp'),s8,Γ8),hlen,hW8,fun _ h=>hg8 (List.mem_cons_of_mem _ h)⟩ _ _ sF (fun _ _ hS=>hS.aS (pre:=[_,_,_]) (pre':=[_]) [1] (by decide) rfl)
    have h6:¬p.x.d.av=6:=by simpa using hc
    rw [if_neg h6] at hEd
    have h1o:=bt hag hto
    have h2o:=bA hto
    have h3o:=bt hag h2o
    have h4o:=bA h3o
    refine gS (gR ?_)
    iterate 2 refine ah ?_
    rw [hbs]
    refine ab.uE (pre:=[_,_]) (u:=aa p.b p.tg) hWk rfl rfl rfl rfl rfl (fun _ _=>call81 _ _) (fun w Y' hS=>by rw [←jg];exact ic p _ w (hr.ex hS.ext) hb (by omega)) (fun x5 s5 hf5 hW5=>?_)
    refine ai ?_;refine gE (gR ?_)
    iterate 4 refine ah ?_
    refine ab.iH (pre:=[_,_]) (u:=ar p.ag (aa p.b p.tg)) hW5 rfl rfl rfl rfl rfl (fun _ _=>JK _ _) (fun w Y' hS=>by exact dK p.ag hag x5 _ w (hW5.fa (pre:=[_,_]) (by simp) hS) hf5 hto) (fun x6 s6 hf6 hz6 hW6=>?_)
    iterate 2 refine ah ?_
    refine ab.iH (pre:=[_,_]) (u:=aE (aa p.b p.tg)) hW6 rfl rfl rfl rfl rfl (fun _ _=>JJ _ _) (fun w Y' hS=>by exact gQ x5 _ w (hW6.fa (pre:=[_,_]) (by simp) hS) hf5 hto) (fun x7 s7 hf7 hz7 hW7=>?_)
    refine ab.iH (pre:=[_,_]) (u:=ar p.ag (aE (aa p.b p.tg))) hW7 rfl rfl rfl rfl rfl (fun _ _=>JK _ _) (fun w Y' hS=>by exact dK p.ag hag x7 _ w (hW7.fa (pre:=[_,_]) (by simp) hS) hf7 h2o) (fun x8 s8 hf8 hz8 hW8=>?_)
    refine ab.iH (pre:=[_,_]) (u:=aE (ar p.ag (aE (aa p.b p.tg)))) hW8 rfl rfl rfl rfl rfl (fun _ _=>JJ _ _) (fun w Y' hS=>by exact gQ x8 _ w (hW8.fa (pre:=[_,_]) (by simp) hS) hf8 h3o) (fun x9 s9 hf9 hz9 hW9=>?_)
    refine ab.iH (pre:=[_,_]) (u:=aP (ar p.ag (aa p.b p.tg)) (aE (ar p.ag (aE (aa p.b p.tg))))) hW9 rfl rfl rfl rfl rfl (fun _ _=>JL _ _) (fun w Y' hS=>by exact fH x6 x9 _ _ w (hW9.fa (pre:=[_,_]) (by simp) hS) hf6 h1o (hW9.fa (pre:=[_,_]) (by simp) hS) hf9 h4o) (fun x10 s10 hf10 hz10 hW10=>?_)
    refine ab.v (ae.eN rfl rfl rfl rfl (bd48 (c:=[_,_,_,_,_]) rfl)) ?_
    refine ab.bu (pre:=[_,_]) (hR':=[]) hH hW10 (List.nil_sublist _) rfl rfl rfl rfl rfl (fun _ _=>call83 _ _) (fun w Y' hS=>by exact jf p.bw _ _ x10 _ 6 0 0 0 w (List.mem_cons_self ..) hf10 (dC h1o h4o) hz10) (fun s11 Γ11 hW11 hg11=>?_)
    rw [←hEd] at hW11⊢
    refine ab.ew (c:=[_]) rfl rfl rfl rfl Jp Ji JE rfl rfl (fun b152=>?_)
    refine ab.nC bK (news:=[(E.1:Int)]) (spn:=[]) (xs:=iL os) (sp:=sp12) (q:=some b12) rfl rfl rfl rfl rfl Jp hiI hzI hszI rfl (fun e=>by cases e) 1 rfl 0 rfl hc12 rfl (by decide) (fun _=>rfl) (by unfold maxLen;omega) (by rw [hbyI];omega) (fun b' sp' cap' hlen=>?_)
    rw [←o9] at hlen⊢
    refine ai ?_;refine gE ?_
    exact K2 ⟨((b',cap',sp'),s11,Γ11),hlen,hW11,fun _ h=>hg11 (by simp [h])⟩ _ _ sF (fun _ _ hS=>hS.aS (pre:=[_,_,_]) (pre':=[_]) [1] (by decide) rfl)
  · -- the first part
   refine gS (gR ?_);refine ah ?_;refine ku ?_;refine al JP Jw 4 ?_;refine al Jq Ji 5 ?_
   refine ab.v (ae.ld (p:=⟨bs,5,none⟩) rfl rfl rfl rfl Jj (fun w _ hS=>HB hS.ext rfl)) ?_
   refine aw bd ?_;refine gE ?_
   refine gC (fun hc=>?_) fun hc=>?_
   ·
    have h6:p.x.d.av=6:=by simpa using hc
    obtain ⟨o,ho1,ho2,ho3⟩:=hon6 h6
    have hnd6:nd p.b p.x.d.on=p.b[o]:=by rw [ho1,dH ho2]
    have hx6:=hb.x ho2 (by rw [←ho1];omega)
    rw [dH ho2] at hx6
    have hown6:p.own=dG (p.S0 &&& ~~~ bW p.b[o].x):=by unfold SP.own;rw [if_pos h6,hnd6]
    have hns6:p.ns=p.own:=if_pos h6
    have htg6:(p.tg:Int)=p.b[o].x:=by unfold SP.tg;rw [if_pos h6,hnd6];omega
    refine gS ?_
    refine ab.draw 14 mixed rfl ?_
    refine mO ?_;refine xq ?_;refine mP JP Jz 1 ?_;refine mP Jv Js 2 ?_
    refine aM.v (ae.ld (p:=⟨bs,2,none⟩) rfl rfl rfl rfl Jx (fun w _ hS=>HB hS.ext rfl)) ?_
    refine mO ?_;refine xq ?_;refine mP JP Jw 4 ?_;refine mP Jq Ji 6 ?_
    refine aM.v (ae.ld (p:=⟨bs,6,none⟩) rfl rfl rfl rfl Jj (fun w _ hS=>HB hS.ext rfl)) ?_
    refine aM.v (ae.ed rfl rfl rfl rfl rfl Jr Jm ⟨_,(hr.EK).at_⟩ (ax (enc:=NV.cells) (sz:=6) (fun _=>rfl)) (by decide) (o) ⟨ho1,ho2⟩) ?_
    refine aM.v (ae.fM rfl rfl rfl rfl Jk rfl Ji ((o)*6+4) rfl) ?_
    refine aM.v (ae.ld rfl rfl rfl rfl Jj (fun w _ hS=>Sl.kU (enc:=NV.cells) (sz:=6) ((hr.EK).ay hS.ext).at_ (fun _=>rfl) ho2 rfl)) ?_
    refine AT ?_
    refine aM.nil ?_
    refine gE (gS (gR ?_))
    iterate 2 refine ah ?_
    refine gP rfl rfl rfl rfl rfl call111 (fun w _ hS=>(by exact gU p.b[o].x w hx6.1)) ?_
    refine aw iu ?_
    refine gM rfl rfl rfl rfl rfl call85 (fun w _ hS=>(by exact kY (p.tl[j0].d.set &&& ~~~ bW p.b[o].x) w)) ?_
    rintro v w1 w2 Y' hS he ho
    rw [←hS0,←hown6] at ho
    obtain ⟨q70,c70,sp70,rfl,hq70,hc70,hS'⟩:=rk hS he ho
    refine ⟨_,hS',?_⟩
    refine ai ?_;refine gE (gR ?_);refine ah ?_;refine ai ?_;refine gE ?_
    exact K ⟨(q70,c70,sp70),hq70,hc70⟩ _ _ (by rw [htg6,hns6,←iJ (o:=p.own)];repeat (first|exact bC.nil|refine bC.cons rfl ?_)) (fun _ _ hS=>hS.aS (pre:=[_,_]) (pre':=[_]) [0] (by decide) rfl)
   have h6:¬p.x.d.av=6:=by simpa using hc
   have hown7:p.own=dG p.S0:=by unfold SP.own;rw [if_neg h6]
   have hns7:p.ns.length=p.own.length - 1:=by unfold SP.ns;rw [if_neg h6,List.length_dropLast]
   have hop:0<p.own.length:=by rw [hown7];exact List.length_pos_iff.2 hne0
   rw [←hown7] at hq45 hc45⊢
   have hil:(iL p.own).length=p.own.length:=iJ
   have hlt1:p.own.length - 1<(iL p.own).length:=by omega
   have htg7:(iL p.own).getD (p.own.length - 1) 0=(p.tg:Int):=by rw [FF hop];unfold SP.tg;rw [if_neg h6]
   obtain ⟨bq,rfl⟩:∃b,q45=some b:=by
     cases q45 with
     |none=>have:=(hq45 rfl).1;omega
     |some b=>exact ⟨b,rfl⟩
   have hc46:p.own.length≤c45:=by
     have:=hc45
     simp [iL] at this;omega
   refine gS (gR ?_)
   iterate 2 refine ah ?_
   refine dM Jp ?_
   refine db rfl rfl rfl rfl (iQ (c:=((p.own.length - 1:Nat):Int)) (by rw [hil];omega) (by omega)) ?_
   refine ab.v (ae.dX rfl rfl rfl rfl rfl Jp Ji ((p.own.length - 1)) ⟨rfl,hlt1⟩) ?_
   skip
   refine ab.v (ae.qH bK 0 rfl rfl rfl rfl Jj 0 rfl hlt1) ?_
   rw [htg7]
   refine ai ?_;refine gE (gR ?_)
   iterate 2 refine ah ?_
   refine dM Jp ?_
   refine db rfl rfl rfl rfl (iQ (c:=((p.own.length - 1:Nat):Int)) (by rw [hil];omega) (by omega)) ?_
   refine ab.v (ae.E4 (hi:=p.own.length - 1) rfl rfl rfl rfl rfl Jp Ji rfl (by omega)) ?_
   refine ai ?_;refine gE ?_
   exact K ⟨(some bq,c45,sp45),hq45,hc45⟩ _ _ (by rw [hns7];repeat (first|exact bC.nil|refine bC.cons rfl ?_)) (fun _ _ hS=>hS)
end Go.Proofs.YtnfmegcknckahaaGreatDoor
