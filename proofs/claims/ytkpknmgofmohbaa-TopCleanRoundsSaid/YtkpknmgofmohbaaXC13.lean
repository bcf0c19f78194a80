/- What calls of the program return, under the conditions that each theorem states. -/
import Derived.Test.YtkpknmgofmohbaaXC11
import Derived.Test.YtkpknmgofmohbaaXC12
import Derived.Test.YtkpknmgofmohbaaXC03
import Derived.Test.YtkpknmgofmohbaaXC05
namespace Go.Proofs.Ytkpknmgofmohbaa
open Go.RowKit Go.Proofs.Wit Try
theorem nS:(Try.prog.info? 4).map (fun i=>(i.zero,i.size,i.bytes))=some (some (.bool false),1,1):=by kernel_rfl
set_option maxRecDepth 8000 in
set_option maxHeartbeats 2000000 in
theorem pQ (haw:∀w,Cn Try.prog 4 [] w (fun v _=>v=.bool true)) (a b c:Nat) (ha:a<256) (hb:b<256) (hc8:c<256) (A:Option Addr) (cA:Nat) (bits:List Nat) (w:World) (hA:Sl w A (bits.map V8)) (hbi:∀x∈bits,x<256) (hl:bits.length≤maxLen):
    Cn Try.prog 3 [.int .u8 a,.agg #[.int .u8 b,.int .u8 c],.slice A bits.length cA] w (fun v _=>v=.bool true):=by
  obtain ⟨i0,hi0,hz0,hsz0,hby0⟩:=info_parts jd
  obtain ⟨i1,hi1,hz1,hsz1,hby1⟩:=info_parts nS
  obtain ⟨n,hnn⟩:∃n,n=2+a%2:=⟨_,rfl⟩
  obtain ⟨F,hFF⟩:∃F,F=b%2:=⟨_,rfl⟩
  obtain ⟨R,hRR⟩:∃R,R=c%3:=⟨_,rfl⟩
  have hn:2≤n∧n≤3:=by omega
  have hF1:F≤1:=by omega
  have hR2:R≤2:=by omega
  refine Cn.of func3 rfl rfl ?_
  refine gS (gR ?_)
  refine aa.bx rfl rfl rfl rfl (fun b4=>?_)
  refine ai ?_;refine gE (gS (gS (gR ?_)))
  refine gP rfl rfl rfl rfl rfl call4 (fun w _ hS=>(by exact haw w)) ?_
  refine bP aH ?_;refine gE (aa.aP rfl (gK (gS (gR ?_))));refine ad ?_
  refine aa.v (ah.sW rfl rfl rfl rfl rfl underlying22 sizeOf5 0 rfl (by decide)) ?_
  refine aj isAgg5 0 ?_
  refine aa.v (ah.sW rfl rfl rfl rfl rfl underlying22 sizeOf5 1 rfl (by decide)) ?_
  refine aj isAgg5 0 ?_;refine ad ?_
  refine gM rfl rfl rfl rfl rfl call5 (fun w _ hS=>(by have:=ov a b c ha hb hc8 A cA bits w (Sl.ex hA hS.ext (by simp)) hbi hl;rw [←hnn,←hFF,←hRR] at this;exact this)) ?_
  rintro v w1 w2 Y' hS he ⟨nn,ff,ll,B,rs,cr,H,ok,rfl,hnew,hsy,hcase⟩
  have hS2:=hS.cY (pre:=[]) he hnew
  have hsA:gw w2 B rs:=(hsy.mono (fun z hz=>by simp [hz])).at hS2
  refine ⟨_,hS2,?_⟩
  have hll:0≤ll∧ll≤3:=by
    rcases hcase with h|h
    · omega
    omega
  obtain ⟨kk,hkk⟩:∃kk,kk=ll - 1:=⟨_,rfl⟩
  refine ad ?_
  iterate 4 refine gZ ?_
  refine aa.dc rfl rfl rfl (fun _=>zeroValue27 _) (fun b7=>?_)
  refine aa.bV rfl rfl rfl rfl xz 0 rfl rfl rfl rfl ?_
  iterate 3 refine ai ?_
  refine gE (gS (gR ?_));refine ak xw xk 2 ?_;refine aj xl 0 ?_
  refine aC rfl rfl rfl rfl (lW (c:=kk) (by omega) (by omega)) ?_
  refine ai ?_;refine gE (gS (gS (gR ?_)));refine ad ?_;refine bP aH ?_;refine ad ?_
  refine cM 43 (fun hc=>?_) fun hc=>?_
  ·
   iterate 3 refine ba ?_
   refine aV ?_;refine gE (aa.aS rfl (gS (gR ?_)));refine ai ?_;refine gE ?_
   refine gT func3 fun w' hS=>?_
   exact ⟨hS.ext,rfl⟩
  have hok:ok=true:=by simpa using hc
  obtain ⟨e1,hds⟩:ll=(R:Int)+1∧rs.map RV.d=eD n F R (eI n bits):=by
    rcases hcase with h|h
    · rw [h.1] at hok;cases hok
    exact h.2
  subst e1
  obtain rfl:kk=(R:Int):=by omega
  iterate 2 refine ad ?_
  refine aL tR ?_;refine aN ?_;refine gE ?_
  refine gC (fun hc=>?_) fun hc=>?_
  ·
   refine gS (gR ?_);refine ai ?_;refine gE ?_
   refine gT func3 fun w' hS=>?_
   exact ⟨hS.ext,rfl⟩
  have hFR:F<R:=by have h:=of_decide_eq_false hc;omega
  have hsok:iS n R (rs.map RV.d):=by rw [hds];exact oY hn hFR hR2 lJ
  have hmem:∀{r:Nat},r<rs.length→dz rs r∈rs.map RV.d:=fun hr=>by rw [dA hr];exact List.mem_map_of_mem (List.getElem_mem hr)
  have hrl:rs.length≤50:=by
    have h:=congrArg List.length hds
    have h1:=(jF (n:=n) (F:=F) (R:=R) hn hF1 hR2).1
    have h2:(eI n bits).length≤2:=jc
    have h3:(eI n bits).length*(aW n R n [] F).length≤2*25:=Nat.mul_le_mul h2 h1
    rw [List.length_map,eD,eZ] at h;omega
  have hlsl:∀{r:Nat} (hr:r<rs.length),R<rs[r].ls.length:=fun {r} hr=>by
    have:=(hsok.loc _ (hmem hr)).1
    rw [dA hr] at this
    simp [RV.d] at this;omega
  have hxsl:∀{r:Nat} (hr:r<rs.length) {p:Nat},p<n→p<(rs[r].ls[R]'(hlsl hr)).xs.length:=fun {r} hr {p} hp=>by
    have:=(hsok.loc _ (hmem hr)).2.2
    rw [dA hr] at this
    have:=this _ (List.mem_map_of_mem (List.getElem_mem (hlsl hr)))
    omega
  have hfsl:∀{r:Nat} (hr:r<rs.length),R<rs[r].fs.length:=fun {r} hr=>by
    have:=(hsok.loc _ (hmem hr)).2.1
    rw [dA hr] at this
    simp [RV.d] at this;omega
  have hposA:∀{r p:Nat},r<rs.length→p<n→0≤eX (dz rs r) R p∧eX (dz rs r) R p<1000:=fun hr hp=>hsok.pos _ (hmem hr) _ hp
  refine gK (gS (gS (gR ?_)));refine ak xw xD 3 ?_;refine aj xF 0 ?_;refine cq xB ?_;refine ad ?_;refine gE (gB ?_)
  refine aa.loop (σ:=Nat) (fun k=>[(7,ptr b7),(8,.int .i64 n),(11,.int .i64 R),(50,.int .i64 rs.length),(51,.int .i64 k)]) (fun _=>[(some b7,.cells (bt nn ff ((R:Int)+1) B rs.length cr) 27 (0,0))]++H) (fun k=>k≤rs.length) (fun k=>rs.length - k) 0 (Nat.zero_le _) ⟨rfl,rfl,rfl,rfl,rfl,trivial⟩ (.cons_cons _ (.cons _ (List.Sublist.refl _))) (fun k hk IH=>?_)
  refine gS (gR ?_);refine aL db ?_;refine gE (gS ?_)
  refine gC (fun hc=>?_) fun hc=>?_
  ·
   have hkL:k<rs.length:=by have h:=of_decide_eq_true hc;omega
   obtain ⟨bB,rfl⟩:∃b,B=some ⟨b,0,none⟩:=by
     rcases hsy.c5 with h|⟨b,sp,h,_⟩
     · rw [h.2] at hkL;exact absurd hkL (by simp)
     exact ⟨b,h⟩
   obtain ⟨key,hkey⟩:∃key,key=dK (dz rs k) R n:=⟨_,rfl⟩
   refine gK (gS (gB (gS (gR ?_))));refine ad ?_;refine ai ?_;refine gE (gS (gR ?_));refine ak xw xD 3 ?_;refine aj xF 0 ?_;refine cq xB ?_
   refine aa.tM Value.bool false rfl rfl rfl rfl rfl xM hi1 hz1 rfl hsz1 (by rw [hby1];omega) (by unfold maxLen;omega) (fun b57=>?_)
   refine ai ?_;refine gE (gS (gR ?_));refine ad ?_
   refine aa.fR (c:=[_]) rfl rfl rfl rfl xy xk zeroValue3 rfl rfl (fun b59=>?_)
   refine ai ?_;refine gE (gS (gR ?_))
   iterate 2 refine ad ?_
   refine aa.v (ah.cD rfl rfl rfl rfl rfl xM xm (k) ⟨rfl,hkL⟩) ?_
   refine aa.r0 Value.bool true rfl rfl rfl rfl xm rfl 1 rfl (by rw [List.length_replicate];exact hkL) ?_
   refine gE (gS (gS (gR ?_)));refine ai ?_;refine gE (gB ?_)
   refine aa.c7 (pre:=[_,_,_]) (pre':=[(some b57,ob Value.bool 4 ((List.replicate rs.length false).set k true) []),(some b59,ob NI 3 [k] []),(some b7,.cells (bt nn ff ((R:Int)+1) (some ⟨bB,0,none⟩) rs.length cr) 27 (0,0))]) H [1,0,2] (by decide) rfl ?_
   have hg0:gi rs R n key ((List.replicate rs.length false).set k true) [k]:=by
     have h0:gi rs R n key (List.replicate rs.length false) []:=⟨List.length_replicate ..,fun r h=>by
       rw [List.getD_eq_getElem?_getD] at h
       by_cases hr:r<rs.length
       · simp [hr] at h
       simp [hr] at h,fun _ h=>by cases h⟩
     exact h0.add hkL hkey.symm
   refine aa.loop (σ:=Nat×Nat×Nat×List Nat×List Value×List Bool) (fun z=>[(7,ptr b7),(8,.int .i64 n),(11,.int .i64 R),(50,.int .i64 rs.length),(51,.int .i64 k),(12,.int .i64 k),(13,.slice (some ⟨b57,0,none⟩) rs.length rs.length),(14,aU (some z.2.1) z.2.2.2.1.length z.2.2.1),(15,.int .i64 z.1)]) (fun z=>[(some b57,ob Value.bool 4 z.2.2.2.2.2 []),(some z.2.1,ob NI 3 z.2.2.2.1 z.2.2.2.2.1),(some b7,.cells (bt nn ff ((R:Int)+1) (some ⟨bB,0,none⟩) rs.length cr) 27 (0,0))]++H)
     (fun z=>z.1≤rs.length∧gi rs R n key z.2.2.2.2.2 z.2.2.2.1∧z.2.2.2.1.length≤1+150*z.1∧(z.2.2.2.1.map NI++z.2.2.2.2.1).length=z.2.2.1) (fun z=>rs.length - z.1) (0,b59,1,[k],[],(List.replicate rs.length false).set k true) ⟨Nat.zero_le _,hg0,by simp,rfl⟩ ⟨rfl,rfl,rfl,rfl,rfl,rfl,rfl,rfl,rfl,trivial⟩ (List.Sublist.refl _) (fun z hI IH2=>?_)
   obtain ⟨i,bq,cap,qs,sp,fA⟩:=z
   obtain ⟨hi,hg,hql,hcap⟩:=hI
   dsimp only at hi hg hql hcap IH2⊢
   refine gS (gS ?_)
   refine aa.fg (α:=Unit) [] (fun _=>[(7,ptr b7),(8,.int .i64 n),(11,.int .i64 R),(50,.int .i64 rs.length),(51,.int .i64 k),(12,.int .i64 k),(13,.slice (some ⟨b57,0,none⟩) rs.length rs.length),(14,aU (some bq) qs.length cap),(15,.int .i64 i),(72,.bool (decide (i<qs.length) && decide (i<rs.length)))]) (fun _=>[(some b57,ob Value.bool 4 fA []),(some bq,ob NI 3 qs sp),(some b7,.cells (bt nn ff ((R:Int)+1) (some ⟨bB,0,none⟩) rs.length cr) 27 (0,0))]++H) (fun _=>?_) (fun K=>?_)
   · -- what comes behind the region
    refine gE ?_
    refine gC (fun hc=>?_) fun hc=>?_
    ·
     have hiq:i<qs.length∧i<rs.length:=by simpa using hc
     have hxi:=hg.q _ (List.getElem_mem hiq.1)
     have hgi:qs.getD i 0=qs[i]:=by simp [List.getD_eq_getElem?_getD,hiq.1]
     rw [←hgi] at hxi
     refine gK (gS (gB (gS (gR ?_))));refine ak xw xD 3 ?_;refine aj xF 2 ?_;refine cq xB ?_;refine ad ?_;refine gE (gB ?_)
     refine aa.loop (σ:=Nat×Nat×Nat×List Nat×List Value×List Bool) (fun z=>[(7,ptr b7),(8,.int .i64 n),(11,.int .i64 R),(50,.int .i64 rs.length),(51,.int .i64 k),(12,.int .i64 k),(13,.slice (some ⟨b57,0,none⟩) rs.length rs.length),(14,aU (some z.2.1) z.2.2.2.1.length z.2.2.1),(15,.int .i64 i),(77,.int .i64 rs.length),(78,.int .i64 z.1)]) (fun z=>[(some b57,ob Value.bool 4 z.2.2.2.2.2 []),(some z.2.1,ob NI 3 z.2.2.2.1 z.2.2.2.2.1),(some b7,.cells (bt nn ff ((R:Int)+1) (some ⟨bB,0,none⟩) rs.length cr) 27 (0,0))]++H)
       (fun z=>z.1≤rs.length∧gi rs R n key z.2.2.2.2.2 z.2.2.2.1∧z.2.2.2.1.length≤1+150*i+3*z.1∧(z.2.2.2.1.map NI++z.2.2.2.2.1).length=z.2.2.1∧i<z.2.2.2.1.length) (fun z=>rs.length - z.1) (0,bq,cap,qs,sp,fA) ⟨Nat.zero_le _,hg,hql,hcap,hiq.1⟩ ⟨rfl,rfl,rfl,rfl,rfl,rfl,rfl,rfl,rfl,rfl,rfl,trivial⟩ (List.Sublist.refl _) (fun z hI IH3=>?_)
     obtain ⟨r,bq,cap,qs,sp,fA⟩:=z
     obtain ⟨hr,hg,hql,hcap,hiq2⟩:=hI
     dsimp only at hr hg hql hcap hiq2 IH3⊢
     refine gS (gR ?_);refine aL db ?_;refine gE (gS ?_)
     refine gC (fun hc=>?_) fun hc=>?_
     ·
      have hrL:r<rs.length:=by have h:=of_decide_eq_true hc;omega
      refine gK (gS (gB (gS (gR ?_))));refine ad ?_;refine ai ?_;refine gE (gS (gR ?_))
      iterate 2 refine ad ?_
      refine gE (gB ?_)
      refine aa.loop (σ:=Nat×Nat×Nat×List Nat×List Value×List Bool) (fun z=>[(7,ptr b7),(8,.int .i64 n),(11,.int .i64 R),(50,.int .i64 rs.length),(51,.int .i64 k),(12,.int .i64 k),(13,.slice (some ⟨b57,0,none⟩) rs.length rs.length),(14,aU (some z.2.1) z.2.2.2.1.length z.2.2.1),(15,.int .i64 i),(77,.int .i64 rs.length),(78,.int .i64 r),(16,.int .i64 r),(81,.int .i64 n),(82,.int .i64 z.1)]) (fun z=>[(some b57,ob Value.bool 4 z.2.2.2.2.2 []),(some z.2.1,ob NI 3 z.2.2.2.1 z.2.2.2.2.1),(some b7,.cells (bt nn ff ((R:Int)+1) (some ⟨bB,0,none⟩) rs.length cr) 27 (0,0))]++H)
        (fun z=>z.1≤n∧gi rs R n key z.2.2.2.2.2 z.2.2.2.1∧z.2.2.2.1.length≤1+150*i+3*r+z.1∧(z.2.2.2.1.map NI++z.2.2.2.2.1).length=z.2.2.1∧i<z.2.2.2.1.length) (fun z=>n - z.1) (0,bq,cap,qs,sp,fA) ⟨Nat.zero_le _,hg,hql,hcap,hiq2⟩ ⟨rfl,rfl,rfl,rfl,rfl,rfl,rfl,rfl,rfl,rfl,rfl,rfl,rfl,rfl,trivial⟩ (List.Sublist.refl _) (fun z hI IH4=>?_)
      obtain ⟨p,bq,cap,qs,sp,fA⟩:=z
      obtain ⟨hp,hg,hql,hcap,hiq3⟩:=hI
      dsimp only at hp hg hql hcap hiq3 IH4⊢
      have hxi:=hg.q _ (List.getElem_mem hiq3)
      have hgi:qs.getD i 0=qs[i]:=by simp [List.getD_eq_getElem?_getD,hiq3]
      rw [←hgi] at hxi
      have hinl:=hg.len
      refine gS (gR ?_);refine aL db ?_;refine gE (gS ?_)
      refine gC (fun hc=>?_) fun hc=>?_
      ·
       have hpn:p<n:=by have h:=of_decide_eq_true hc;omega
       have hone1:=hsok.one _ (hmem hxi.1) p hpn
       have hone2:=hsok.one _ (hmem hrL) p hpn
       rw [dA hxi.1] at hone1
       rw [dA hrL] at hone2
       have hkx:=hxi.2
       rw [dA hxi.1] at hkx
       refine gK (gS (gB (gS (gR ?_))));refine ad ?_;refine ai ?_;refine gE (gS ?_)
       refine aa.draw 9 mixed rfl ?_
       refine ao.v (ah.eR rfl rfl rfl rfl xK 2 rfl xz rfl) ?_
       iterate 2 refine ik ?_
       refine ao.v (ah.cD rfl rfl rfl rfl rfl xy xk (i) ⟨rfl,hiq3⟩) ?_
       refine ao.v (ah.nL NI 0 rfl rfl rfl rfl xl 1 rfl hiq3) ?_
       iterate 2 refine ik ?_
       refine ao.ot rfl rfl rfl rfl rfl (fun _ _=>call6 _ _) (fun w _ hS=>(by exact jq nn ff ((R:Int)+1) (some ⟨bB,0,none⟩) cr rs (qs.getD i 0) R p w ((hsy.mono (fun z hz=>by simp [hz])).at hS) hxi.1 (hlsl hxi.1) (hxsl hxi.1 hpn))) ?_
       refine r2 ?_
       refine ao.nil ?_
       refine gE (gS (gR ?_));refine ad ?_;refine aL eV ?_;refine ad ?_
       refine cM 95 (fun hc=>?_) fun hc=>?_
       ·
        have ha0:eX rs[qs.getD i 0].d R p≠0:=by simpa using hc
        refine ad ?_
        refine aa.v (ah.eR rfl rfl rfl rfl xK 2 rfl xz rfl) ?_
        iterate 3 refine ad ?_
        refine gP rfl rfl rfl rfl rfl call6 (fun w _ hS=>(by exact jq nn ff ((R:Int)+1) (some ⟨bB,0,none⟩) cr rs r R p w ((hsy.mono (fun z hz=>by simp [hz])).at hS) hrL (hlsl hrL) (hxsl hrL hpn))) ?_
        refine aL dU ?_;refine aV ?_;refine ad ?_
        refine cM 104 (fun hc=>?_) fun hc=>?_
        ·
         have hae:eX rs[qs.getD i 0].d R p=eX rs[r].d R p:=by simpa using hc
         have hkr:dK (dz rs r) R n=key:=by rw [dA hrL,←hone2 (by rw [←hae];exact ha0),←hae,hone1 ha0,hkx]
         iterate 2 refine ad ?_
         refine aa.v (ah.cD rfl rfl rfl rfl rfl xM xm (r) ⟨rfl,hrL⟩) ?_
         refine aa.v (ah.nL Value.bool false rfl rfl rfl rfl xo 0 rfl (by rw [hinl];exact hrL)) ?_
         refine bP aH ?_;refine aV ?_;refine gE ?_
         refine gC (fun hc=>?_) fun hc=>?_
         ·
          refine gS (gR ?_)
          iterate 2 refine ad ?_
          refine aa.v (ah.cD rfl rfl rfl rfl rfl xM xm (r) ⟨rfl,hrL⟩) ?_
          refine aa.r0 Value.bool true rfl rfl rfl rfl xm rfl 0 rfl (by rw [hinl];exact hrL) ?_
          refine gE (gR ?_)
          iterate 2 refine ad ?_
          refine aa.fR (c:=[_]) rfl rfl rfl rfl xy xk zeroValue3 rfl rfl (fun b116=>?_)
          refine aa.iv NI (news:=[r]) (spn:=[]) (xs:=qs) (sp:=sp) (q:=some bq) rfl rfl rfl rfl rfl xy hi0 hz0 hsz0 rfl (fun e=>by cases e) 2 rfl 0 rfl hcap rfl (by decide) (fun _=>rfl) (by unfold maxLen;omega) (by rw [hby0];omega) (fun b' sp' cap' hlen=>?_)
          refine ai ?_;refine gE (cu (gR ?_));refine aC rfl rfl rfl rfl (aK (by omega)) ?_;refine ad ?_;refine gE ?_
          exact IH4 (p+1,b',cap',qs++[r],sp',fA.set r true) _ _ ⟨hpn,hg.add hrL hkr,by simp;omega,hlen,by simp;omega⟩ (by dsimp only;omega) ⟨rfl,rfl,rfl,rfl,rfl,rfl,rfl,rfl,rfl,rfl,rfl,rfl,rfl,rfl,trivial⟩ (.cons _ (List.Sublist.refl _))
         refine gK (cu (gR ?_));refine aC rfl rfl rfl rfl (aK (by omega)) ?_;refine ad ?_;refine gE ?_
         exact IH4 (p+1,bq,cap,qs,sp,fA) _ _ ⟨hpn,hg,by dsimp only;omega,hcap,hiq3⟩ (by dsimp only;omega) ⟨rfl,rfl,rfl,rfl,rfl,rfl,rfl,rfl,rfl,rfl,rfl,rfl,rfl,rfl,trivial⟩ (List.Sublist.refl _)
        iterate 5 refine ba ?_
        refine aN ?_;refine gE (aa.aP rfl (gK (cu (gR ?_))));refine aC rfl rfl rfl rfl (aK (by omega)) ?_;refine ad ?_;refine gE ?_
        exact IH4 (p+1,bq,cap,qs,sp,fA) _ _ ⟨hpn,hg,by dsimp only;omega,hcap,hiq3⟩ (by dsimp only;omega) ⟨rfl,rfl,rfl,rfl,rfl,rfl,rfl,rfl,rfl,rfl,rfl,rfl,rfl,rfl,trivial⟩ (List.Sublist.refl _)
       iterate 7 refine ba ?_
       refine aN ?_;refine ad ?_
       iterate 5 refine ba ?_
       refine aN ?_;refine gE (aa.aP rfl (gK (cu (gR ?_))));refine aC rfl rfl rfl rfl (aK (by omega)) ?_;refine ad ?_;refine gE ?_
       exact IH4 (p+1,bq,cap,qs,sp,fA) _ _ ⟨hpn,hg,by dsimp only;omega,hcap,hiq3⟩ (by dsimp only;omega) ⟨rfl,rfl,rfl,rfl,rfl,rfl,rfl,rfl,rfl,rfl,rfl,rfl,rfl,rfl,trivial⟩ (List.Sublist.refl _)
      have hpn:¬p<n:=by have h:=of_decide_eq_false hc;omega
      obtain rfl:n=p:=by omega
      refine aa.exit rfl (cu (gR ?_))
      refine aC rfl rfl rfl rfl (aK (by omega)) ?_;refine ad ?_;refine gE ?_
      exact IH3 (r+1,bq,cap,qs,sp,fA) _ _ ⟨hrL,hg,by dsimp only;omega,hcap,hiq3⟩ (by dsimp only;omega) ⟨rfl,rfl,rfl,rfl,rfl,rfl,rfl,rfl,rfl,rfl,rfl,trivial⟩ (List.Sublist.refl _)
     have hrL:¬r<rs.length:=by have h:=of_decide_eq_false hc;omega
     refine aa.exit rfl (cu (gR ?_))
     refine ad ?_;refine aC rfl rfl rfl rfl (aK (by omega)) ?_;refine ai ?_;refine gE ?_
     exact IH2 (i+1,bq,cap,qs,sp,fA) _ _ ⟨hiq.2,hg,by dsimp only;omega,hcap⟩ (by dsimp only;omega) ⟨rfl,rfl,rfl,rfl,rfl,rfl,rfl,rfl,rfl,trivial⟩ (List.Sublist.refl _)
    refine aa.exit rfl (gS (gR ?_))
    refine ai ?_;refine gE (gS (gS (gR ?_)))
    iterate 2 refine ad ?_
    refine gE (gB ?_)
    refine aa.loop (σ:=Nat) (fun p=>[(7,ptr b7),(8,.int .i64 n),(11,.int .i64 R),(50,.int .i64 rs.length),(51,.int .i64 k),(12,.int .i64 k),(13,.slice (some ⟨b57,0,none⟩) rs.length rs.length),(19,.int .i64 (kA (dz rs k) R p)),(120,.int .i64 n),(121,.int .i64 p)]) (fun _=>[(some b57,ob Value.bool 4 fA []),(some b7,.cells (bt nn ff ((R:Int)+1) (some ⟨bB,0,none⟩) rs.length cr) 27 (0,0))]++H) (fun p=>p≤n) (fun p=>n - p) 0 (Nat.zero_le _) ⟨rfl,rfl,rfl,rfl,rfl,rfl,rfl,rfl,rfl,rfl,trivial⟩ (.cons_cons _ (.cons _ (List.Sublist.refl _))) (fun p hp IH2=>?_)
    have hst:=hsok.key (hmem hkL) (m:=p) hp
    refine gS (gR ?_);refine aL db ?_;refine gE (gS ?_)
    refine gC (fun hc=>?_) fun hc=>?_
    ·
     have hpn:p<n:=by have h:=of_decide_eq_true hc;omega
     have hone:=hsok.one _ (hmem hkL) p hpn
     have hpos:=hposA hkL hpn
     refine gK (gS (gB (gS (gR ?_))));refine ad ?_;refine ai ?_;refine gE (gS (gR ?_))
     refine aa.v (ah.eR rfl rfl rfl rfl xK 1 rfl xz rfl) ?_
     iterate 3 refine ad ?_
     refine gP rfl rfl rfl rfl rfl call6 (fun w _ hS=>(by have:=jq nn ff ((R:Int)+1) (some ⟨bB,0,none⟩) cr rs k R p w ((hsy.mono (fun z hz=>by simp [hz])).at hS) hkL (hlsl hkL) (hxsl hkL hpn);rw [←dA hkL] at this;exact this)) ?_
     refine ai ?_;refine gE (gS (gS (gR ?_)));refine ad ?_;refine aL eV ?_;refine ad ?_
     refine cM 131 (fun hc=>?_) fun hc=>?_
     ·
      have ha0:eX (dz rs k) R p≠0:=by simpa using hc
      refine ad ?_;refine aL eV ?_;refine aV ?_;refine ad ?_
      refine cM 135 (fun hc=>?_) fun hc=>?_
      ·
       have hs0:kA (dz rs k) R p≠0:=by simpa using hc
       have hse:eX (dz rs k) R p=kA (dz rs k) R p:=by
         rw [hone ha0]
         rcases hst.2 with h|h
         · exact absurd h hs0
         exact h.symm
       iterate 2 refine ad ?_
       refine aC rfl rfl rfl rfl (jl (v:=false) (by rw [hse];simp)) ?_
       refine aV ?_;refine gE (aa.aP rfl (gK (gR ?_)))
       iterate 2 refine ad ?_
       refine aa.v (ah.blt rfl rfl rfl (gD (c:=kA (dz rs k) R (p+1)) e7) rfl) ?_
       refine ai ?_;refine gE (cu (gR ?_));refine aC rfl rfl rfl rfl (aK (by omega)) ?_;refine ad ?_;refine gE ?_
       exact IH2 (p+1) _ _ hpn (by omega) ⟨rfl,rfl,rfl,rfl,rfl,rfl,rfl,rfl,rfl,rfl,trivial⟩ (List.Sublist.refl _)
      iterate 3 refine ba ?_
      refine aN ?_;refine gE (aa.aP rfl (gK (gR ?_)))
      iterate 2 refine ad ?_
      refine aa.v (ah.blt rfl rfl rfl (gD (c:=kA (dz rs k) R (p+1)) e7) rfl) ?_
      refine ai ?_;refine gE (cu (gR ?_));refine aC rfl rfl rfl rfl (aK (by omega)) ?_;refine ad ?_;refine gE ?_
      exact IH2 (p+1) _ _ hpn (by omega) ⟨rfl,rfl,rfl,rfl,rfl,rfl,rfl,rfl,rfl,rfl,trivial⟩ (List.Sublist.refl _)
     iterate 2 refine ba ?_
     refine aN ?_;refine ad ?_
     iterate 3 refine ba ?_
     refine aN ?_;refine gE (aa.aP rfl (gK (gR ?_)))
     iterate 2 refine ad ?_
     refine aa.v (ah.blt rfl rfl rfl (gD (c:=kA (dz rs k) R (p+1)) e7) rfl) ?_
     refine ai ?_;refine gE (cu (gR ?_));refine aC rfl rfl rfl rfl (aK (by omega)) ?_;refine ad ?_;refine gE ?_
     exact IH2 (p+1) _ _ hpn (by omega) ⟨rfl,rfl,rfl,rfl,rfl,rfl,rfl,rfl,rfl,rfl,trivial⟩ (List.Sublist.refl _)
    have hpn:¬p<n:=by have h:=of_decide_eq_false hc;omega
    obtain rfl:n=p:=by omega
    have hsk:kA (dz rs k) R n=key:=hkey.symm
    rw [hsk] at hst
    refine aa.exit rfl (gS (gR ?_))
    iterate 2 refine ad ?_
    refine gE (gB ?_)
    rw [hsk]
    refine aa.loop (σ:=Nat) (fun p=>[(7,ptr b7),(8,.int .i64 n),(11,.int .i64 R),(50,.int .i64 rs.length),(51,.int .i64 k),(12,.int .i64 k),(13,.slice (some ⟨b57,0,none⟩) rs.length rs.length),(19,.int .i64 key),(144,.int .i64 n),(145,.int .i64 p)]) (fun _=>[(some b57,ob Value.bool 4 fA []),(some b7,.cells (bt nn ff ((R:Int)+1) (some ⟨bB,0,none⟩) rs.length cr) 27 (0,0))]++H) (fun p=>p≤n) (fun p=>n - p) 0 (Nat.zero_le _) ⟨rfl,rfl,rfl,rfl,rfl,rfl,rfl,rfl,rfl,rfl,trivial⟩ (List.Sublist.refl _) (fun p hp IH2=>?_)
    refine gS (gR ?_);refine aL db ?_;refine gE (gS ?_)
    refine gC (fun hc=>?_) fun hc=>?_
    ·
     have hpn:p<n:=by have h:=of_decide_eq_true hc;omega
     refine gK (gS (gB (gS (gR ?_))));refine ad ?_;refine ai ?_;refine gE (gS (gS (gR ?_)));refine ad ?_;refine aL dU ?_;refine ad ?_
     refine cM 150 (fun hc=>?_) fun hc=>?_
     ·
      iterate 5 refine ba ?_
      refine aV ?_;refine gE (aa.aS rfl (aa.exit rfl (gR ?_)));refine aC rfl rfl rfl rfl (aK (by omega)) ?_;refine ad ?_;refine gE ?_
      exact IH2 (p+1) _ _ hpn (by omega) ⟨rfl,rfl,rfl,rfl,rfl,rfl,rfl,rfl,rfl,rfl,trivial⟩ (List.Sublist.refl _)
     have hk0:key≠0:=by simpa using hc
     obtain ⟨sk,rfl⟩:∃sk:Nat,key=(sk:Int):=⟨key.toNat,by omega⟩
     iterate 3 refine ad ?_
     refine gP rfl rfl rfl rfl rfl call7 (fun w _ hS=>(by exact nM sk n p (by omega) (by omega) (by omega) w)) ?_
     refine bP aH ?_;refine aN ?_;refine gE ?_
     refine gC (fun hc=>?_) fun hc=>?_
     ·
      refine aa.exit rfl (gR ?_)
      refine aC rfl rfl rfl rfl (aK (by omega)) ?_;refine ad ?_;refine gE ?_
      exact IH2 (p+1) _ _ hpn (by omega) ⟨rfl,rfl,rfl,rfl,rfl,rfl,rfl,rfl,rfl,rfl,trivial⟩ (List.Sublist.refl _)
     have hkb:rm sk p=true:=by simpa using hc
     have hbit:∀{r:Nat} (hr:r<rs.length),dK (dz rs r) R n=(sk:Int)→(rs[r].fs.getD R 0#64).getLsbD p=((sk - 1) / 3^p%3==2):=fun {r} hr hkr=>by
       have:=hsok.bit _ (hmem hr) p hpn (by rw [hkr];exact hk0) (by rw [hkr];exact hkb)
       rw [hkr,Int.toNat_natCast,dA hr] at this
       exact this
     refine gK (gS (gR ?_));refine ak xw xD 3 ?_;refine aj xF 1 ?_;refine cq xB ?_;refine ad ?_;refine gE (gB ?_)
     refine aa.loop (σ:=Nat) (fun r=>[(7,ptr b7),(8,.int .i64 n),(11,.int .i64 R),(50,.int .i64 rs.length),(51,.int .i64 k),(12,.int .i64 k),(13,.slice (some ⟨b57,0,none⟩) rs.length rs.length),(19,.int .i64 (sk:Int)),(144,.int .i64 n),(145,.int .i64 p),(22,.int .i64 p),(159,.int .i64 rs.length),(160,.int .i64 r)]) (fun _=>[(some b57,ob Value.bool 4 fA []),(some b7,.cells (bt nn ff ((R:Int)+1) (some ⟨bB,0,none⟩) rs.length cr) 27 (0,0))]++H) (fun r=>r≤rs.length) (fun r=>rs.length - r) 0 (Nat.zero_le _) ⟨rfl,rfl,rfl,rfl,rfl,rfl,rfl,rfl,rfl,rfl,rfl,rfl,rfl,trivial⟩ (List.Sublist.refl _) (fun r hr IH3=>?_)
     refine gS (gR ?_);refine aL db ?_;refine gE (gS ?_)
     refine gC (fun hc=>?_) fun hc=>?_
     ·
      have hrL:r<rs.length:=by have h:=of_decide_eq_true hc;omega
      have hinl:=hg.len
      obtain ⟨bF,spF,hbF,_⟩:=(hsy.runs _ (List.getElem_mem hrL)).fs
      obtain ⟨bG,spG,hbG,_⟩:=(hsy.runs _ (List.getElem_mem hkL)).fs
      refine gK (gS (gB (gS (gR ?_))));refine ad ?_;refine ai ?_;refine gE (gS ?_)
      refine aa.draw 33 mixed rfl ?_
      iterate 2 refine ik ?_
      refine ao.v (ah.cD rfl rfl rfl rfl rfl xM xm (r) ⟨rfl,hrL⟩) ?_
      refine ao.v (ah.nL Value.bool false rfl rfl rfl rfl xo 0 rfl (by rw [hinl];exact hrL)) ?_
      refine ik ?_
      refine ao.cases (d:=167) rfl (fun hc=>?_) (fun hc=>?_)
      ·
       have hin:fA.getD r false=true:=hc
       have hbe:=(hbit hrL (hg.sV r hin)).trans (hbit hkL hkey.symm).symm
       refine iw xw xD 3 ?_;refine kD xF 1 ?_;refine ik ?_
       refine ao.v (ah.cD rfl rfl rfl rfl rfl xB xH (r) ⟨rfl,hrL⟩) ?_
       refine ao.v (ah.jg (a:=some ⟨bB,0,none⟩) (o:=(r)*2) rfl rfl rfl rfl xI rfl sizeOf36 ((r)*2+1) rfl) ?_
       refine ao.v (ah.ld rfl rfl rfl rfl isAgg36 (fun w _ hS=>Sl.jX (enc:=RV.cells) (sz:=2) ((hsy.mono (fun z hz=>by simp [hz])).at hS).at_ (fun _=>rfl) hrL rfl)) ?_
       refine ik ?_
       refine ao.v (ah.idx rfl rfl rfl rfl rfl xT sizeOf34 ⟨_,(hsA.runs _ (List.getElem_mem hrL)).fs⟩ (by simp) R ⟨rfl,by simpa using hfsl hrL⟩) ?_
       refine ao.v (ah.ld rfl rfl rfl rfl isAgg34 (fun w _ hS=>(((((hsy.mono (fun z hz=>by simp [hz])).at hS).runs _ (List.getElem_mem hrL)).fs).at R (hfsl hrL)))) ?_
       refine ik ?_
       refine ao.v (ah.conv rfl rfl rfl (j8 (k:=.u64) xL underlying39 (gx (by omega))) rfl) ?_
       refine ao.v (ah.bin rfl rfl rfl rfl (p8 p rfl) rfl) ?_
       refine ao.v (ah.bin (b:=U 1#64) rfl rfl rfl rfl rS rfl) ?_
       refine iw xw xD 3 ?_;refine kD xF 1 ?_;refine ik ?_
       refine ao.v (ah.cD rfl rfl rfl rfl rfl xB xH (k) ⟨rfl,hkL⟩) ?_
       refine ao.v (ah.jg (a:=some ⟨bB,0,none⟩) (o:=(k)*2) rfl rfl rfl rfl xI rfl sizeOf36 ((k)*2+1) rfl) ?_
       refine ao.v (ah.ld rfl rfl rfl rfl isAgg36 (fun w _ hS=>Sl.jX (enc:=RV.cells) (sz:=2) ((hsy.mono (fun z hz=>by simp [hz])).at hS).at_ (fun _=>rfl) hkL rfl)) ?_
       refine ik ?_
       refine ao.v (ah.idx rfl rfl rfl rfl rfl xT sizeOf34 ⟨_,(hsA.runs _ (List.getElem_mem hkL)).fs⟩ (by simp) R ⟨rfl,by simpa using hfsl hkL⟩) ?_
       refine ao.v (ah.ld rfl rfl rfl rfl isAgg34 (fun w _ hS=>(((((hsy.mono (fun z hz=>by simp [hz])).at hS).runs _ (List.getElem_mem hkL)).fs).at R (hfsl hkL)))) ?_
       refine ik ?_
       refine ao.v (ah.conv rfl rfl rfl (j8 (k:=.u64) xL underlying39 (gx (by omega))) rfl) ?_
       refine ao.v (ah.bin rfl rfl rfl rfl (p8 p rfl) rfl) ?_
       refine ao.v (ah.bin (b:=U 1#64) rfl rfl rfl rfl rS rfl) ?_
       refine ao.v (ah.bin rfl rfl rfl rfl (qy (v:=false) (by rw [pZ hbe];simp)) rfl) ?_
       refine u2 ?_
       refine ao.nil ?_
       refine gE (aa.aP rfl (gK (cu (gR ?_))));refine aC rfl rfl rfl rfl (aK (by omega)) ?_;refine ad ?_;refine gE ?_
       exact IH3 (r+1) _ _ hrL (by omega) ⟨rfl,rfl,rfl,rfl,rfl,rfl,rfl,rfl,rfl,rfl,rfl,rfl,rfl,trivial⟩ (List.Sublist.refl _)
      iterate 27 refine u4 ?_
      refine u3 ?_
      refine ao.nil ?_
      refine gE (aa.aP rfl (gK (cu (gR ?_))));refine aC rfl rfl rfl rfl (aK (by omega)) ?_;refine ad ?_;refine gE ?_
      exact IH3 (r+1) _ _ hrL (by omega) ⟨rfl,rfl,rfl,rfl,rfl,rfl,rfl,rfl,rfl,rfl,rfl,rfl,rfl,trivial⟩ (List.Sublist.refl _)
     have hrL:¬r<rs.length:=by have h:=of_decide_eq_false hc;omega
     refine aa.exit rfl (cu (gR ?_))
     refine aC rfl rfl rfl rfl (aK (by omega)) ?_;refine ad ?_;refine gE ?_
     exact IH2 (p+1) _ _ hpn (by omega) ⟨rfl,rfl,rfl,rfl,rfl,rfl,rfl,rfl,rfl,rfl,trivial⟩ (List.Sublist.refl _)
    refine aa.exit rfl (cu (gR ?_))
    refine aC rfl rfl rfl rfl (aK (by omega)) ?_;refine ad ?_;refine gE ?_
    exact IH (k+1) _ _ hkL (by omega) ⟨rfl,rfl,rfl,rfl,rfl,trivial⟩ (.cons _ (List.Sublist.refl _))
   · -- the region
    refine gR ?_
    iterate 2 refine ad ?_
    refine cq xy ?_;refine aL db ?_;refine ad ?_
    refine cM 67 (fun hc=>?_) fun hc=>?_
    ·
     have h1:i<qs.length:=by have h:=of_decide_eq_true hc;omega
     iterate 2 refine ad ?_
     refine cq xM ?_;refine aL db ?_;refine aV ?_
     exact K () _ _ (by repeat (first|exact bC.nil|refine bC.cons (by first|rfl|exact congrArg (fun b=>some (Value.bool b)) (show decide ((i:Int)<(rs.length:Int))=(decide (i<qs.length) && decide (i<rs.length)) by rw [decide_eq_true h1,Bool.true_and];exact decide_eq_decide.2 (by omega))) ?_)) (fun _ _ hS=>hS)
    have h1:¬i<qs.length:=by have h:=of_decide_eq_false hc;omega
    iterate 4 refine ba ?_
    refine aN ?_
    exact K () _ _ (by repeat (first|exact bC.nil|refine bC.cons (by first|rfl|exact congrArg (fun b=>some (Value.bool b)) (show false=(decide (i<qs.length) && decide (i<rs.length)) by rw [decide_eq_false h1,Bool.false_and])) ?_)) (fun _ _ hS=>hS)
  refine aa.exit rfl (gS (gR ?_))
  refine ai ?_;refine gE ?_
  refine gT func3 fun w' hS=>?_
  exact ⟨hS.ext,rfl⟩
end Go.Proofs.Ytkpknmgofmohbaa
