/- What calls of the program return, under the conditions that each theorem states. -/
import Derived.Test.YtkpknmgofmohbaaXC15
import Derived.Test.YtkpknmgofmohbaaXC16
import Derived.Test.YtkpknmgofmohbaaXC03
import Derived.Test.YtkpknmgofmohbaaXC05
namespace Go.Proofs.Ytkpknmgofmohbaa
open Go.RowKit Go.Proofs.Wit Try
theorem rB:(Try.prog.info? 95).map (fun i=>(i.zero,i.size,i.bytes))=some (some (.map none),1,8):=by kernel_rfl
set_option maxRecDepth 8000 in
set_option maxHeartbeats 1000000 in
theorem kJ (n f l:Nat) (A:Option Addr) (c:Nat) (rs:List RV) (w:World) (hA:gw w A rs) (hok:dt n f l rs):
    Cn Try.prog 21 [mX n f l A rs c] w (fun v w'=>∃bc H,v=ptr bc∧c3 w w' H∧lp 94 97 95 H bc n f l A c rs):=by
  obtain ⟨i0,hi0,hz0,hsz0,hby0⟩:=info_parts nQ
  obtain ⟨i1,hi1,hz1,hsz1,hby1⟩:=info_parts rB
  have h1:=hok.n4
  have h3:=hok.sT
  have h4:=hok.r7
  have hpl:(eG rs.length l).length=rs.length*l+0:=gy
  have hpm:rs.length*l≤20*16:=Nat.mul_le_mul h4.2 h3.2
  have hpp:0<rs.length*l:=Nat.mul_pos h4.1 (by omega)
  refine Cn.of func21 rfl rfl ?_
  refine gS (gR ?_)
  refine aa.bx rfl rfl rfl rfl (fun b1=>?_)
  refine ai ?_;refine gE (gS ?_)
  refine aa.oh 7 mixed ?_
  refine cV 0 (ah.eR rfl rfl rfl rfl xK 0 rfl xz rfl) ?_
  refine cV 1 (ah.eR rfl rfl rfl rfl xK 0 rfl xz rfl) ?_
  refine cE.call (i:=2) _ rfl rfl rfl rfl rfl rfl (fun _ _=>call42 _ _) (fun w _ hS=>(by exact ma n f l A c rs w (hA.a8 hS.ext) hok)) ?_
  rintro v w1 w2 Y' hS he ho
  obtain ⟨qp,cp,spp,rfl,hqp,hcp,hS'⟩:=jV hS he ho
  obtain ⟨bp,rfl⟩:∃b,qp=some b:=by
    cases qp with
    |none=>have:=(hqp rfl).1;omega
    |some b=>exact ⟨b,rfl⟩
  refine ⟨_,hS',sL,?_⟩
  refine cV 3 (ah.eM rfl rfl rfl rfl (bd94 (c:=[_,_,_,_,_,_]) rfl)) ?_
  refine cE.one (i:=4) rfl (dX.bx rfl rfl rfl rfl (fun b13=>⟨sL,?_⟩)) rfl
  refine cV 5 (ah.mR rfl rfl rfl rfl) ?_
  refine cE.done rfl ?_
  refine gE (gS (gS (gR ?_)));refine ak xw xk 0 ?_;refine aj xl 2 ?_;refine ad ?_;refine gE (gB ?_)
  refine aa.cw (ob mO 95 [] []) ?_
  refine aa.pick (pre:=[_,_,_,_]) (pre':=[(some b13,.cells (mH n f l A rs.length c (some ⟨bp,0,none⟩) (eG rs.length l).length cp none 0 0) 94 (0,0)),(some bp,eP 97 (eG rs.length l) spp),(some b1,.cells (bt n f l A rs.length c) 27 (0,0)),(none,ob mO 95 [] [])]) [1,2,3,0] (by decide) rfl ?_
  refine aa.loop (σ:=Nat×Option Nat×Nat×List Nat×List Value×Hl) (fun z=>[(1,ptr b1),(3,ptr b13),(15,.int .i64 n),(16,.int .i64 z.1)]) (fun z=>[(some b13,.cells (mH n f l A rs.length c (some ⟨bp,0,none⟩) (eG rs.length l).length cp (z.2.1.map (fun b=>⟨b,0,none⟩)) z.2.2.2.1.length z.2.2.1) 94 (0,0)),(some bp,eP 97 (eG rs.length l) spp),(some b1,.cells (bt n f l A rs.length c) 27 (0,0)),(z.2.1,ob mO 95 z.2.2.2.1 z.2.2.2.2.1)]++z.2.2.2.2.2)
    (fun z=>z.1≤n∧z.2.2.2.1.length=z.1∧(z.2.1=none→z.2.2.2.1.length=0∧z.2.2.1=0)∧(z.2.2.2.1.map mO++z.2.2.2.2.1).length=z.2.2.1∧∀i (hi:i<z.2.2.2.1.length),ia 97 z.2.2.2.2.2 z.2.2.2.1[i] (fy rs i) (eG rs.length l)) (fun z=>n - z.1) (0,none,0,[],[],[]) ⟨Nat.zero_le _,rfl,fun _=>⟨rfl,rfl⟩,rfl,fun i hi=>absurd hi (Nat.not_lt_zero _)⟩ ⟨rfl,rfl,rfl,rfl,trivial⟩ (List.Sublist.refl _) (fun z hI IH=>?_)
  obtain ⟨a,q,cg,ms,sps,Hm⟩:=z
  obtain ⟨ha,hml,hq,hcg,hin⟩:=hI
  dsimp only at ha hml hq hcg hin IH⊢
  refine gS (gR ?_);refine aL db ?_;refine gE (gS ?_)
  refine gC (fun hc=>?_) fun hc=>?_
  ·
   have han:a<n:=by have h:=of_decide_eq_true hc;omega
   refine gK (gS (gB (gS (gR ?_))));refine ad ?_;refine ai ?_;refine gE (gS (gR ?_))
   refine aa.mkMap (Value.int .i64) CV.v rfl rfl rfl (fun b19=>?_)
   refine ai ?_;refine gE (gS (gS (gR ?_)));refine ad ?_;refine r6 ?_;refine ak xS sizeOf90 4 ?_;refine aj isAgg90 1 ?_;refine cq xQ ?_;refine ad ?_;refine gE (gB ?_)
   refine aa.loop (σ:=Nat×List ME) (fun z=>[(1,ptr b1),(3,ptr b13),(15,.int .i64 n),(16,.int .i64 a),(4,.int .i64 a),(5,.map (some b19)),(23,.slice (some ⟨bp,0,none⟩) (eG rs.length l).length cp),(24,.int .i64 (eG rs.length l).length),(25,.int .i64 z.1)]) (fun z=>[(some b19,a9 (Value.int .i64) CV.v (z.2.map ME.kv)),(some b13,.cells (mH n f l A rs.length c (some ⟨bp,0,none⟩) (eG rs.length l).length cp (q.map (fun b=>⟨b,0,none⟩)) ms.length cg) 94 (0,0)),(some bp,eP 97 (eG rs.length l) spp),(some b1,.cells (bt n f l A rs.length c) 27 (0,0)),(q,ob mO 95 ms sps)]++(z.2.map (ME.c5 97)++Hm))
     (fun z=>z.1≤(eG rs.length l).length∧mS (fy rs a) z.2 ((eG rs.length l).take z.1)) (fun z=>(eG rs.length l).length - z.1) (0,[]) ⟨Nat.zero_le _,mS.nil⟩ ⟨rfl,rfl,rfl,rfl,rfl,rfl,rfl,rfl,rfl,trivial⟩ (List.Sublist.refl _) (fun z hI IH2=>?_)
   obtain ⟨k,E⟩:=z
   obtain ⟨hk,hG⟩:=hI
   dsimp only at hk hG IH2⊢
   refine gS (gR ?_);refine aL db ?_;refine gE (gS ?_)
   refine gC (fun hc=>?_) fun hc=>?_
   ·
    have hkl:k<(eG rs.length l).length:=by have h:=of_decide_eq_true hc;omega
    obtain ⟨p,hp⟩:∃p,p=(eG rs.length l)[k]:=⟨_,rfl⟩
    have hpM:p.1<rs.length∧p.2<l:=gz.1 (by rw [hp];exact List.getElem_mem hkl)
    have hxm:rs[p.1]'hpM.1∈rs:=List.getElem_mem hpM.1
    have hxa:=hA.runs _ hxm
    obtain ⟨k1,k2,k3,k4⟩:=hok.ok _ hxm
    have ht2:p.2<(rs[p.1]'hpM.1).ls.length:=by omega
    obtain ⟨y,hy⟩:∃y,y=(rs[p.1]'hpM.1).ls[p.2]:=⟨_,rfl⟩
    have hym:y∈(rs[p.1]'hpM.1).ls:=by rw [hy];exact List.getElem_mem ht2
    have hya:=hxa.ls y hym
    have hay:a<y.xs.length:=by have:=k3 y hym;omega
    have hv:fy rs a p=y.xs[a]:=by
      rw [fy,dA hpM.1,k9 ht2 (by rw [←hy];exact hay)]
      simp [hy]
    have htk:(eG rs.length l).take (k+1)=(eG rs.length l).take k++[p]:=by rw [List.take_succ_eq_append_getElem hkl,hp]
    refine gK (gS (gB (gS (gR ?_))))
    refine aa.v (ah.cD rfl rfl rfl rfl rfl xQ xN (k) ⟨rfl,hkl⟩) ?_
    refine aa.v (ah.ko (cs:=cG p) rfl rfl rfl rfl isAgg97 xN (fun w _ hS=>by rw [hp];exact Sl.many (enc:=cG) (sz:=2) (Sl.c5 (hS.get (j:=2) rfl)) (fun _=>rfl) hkl)) ?_
    refine aa.dc rfl rfl rfl (fun _=>zeroValue97 _) (fun b7=>?_)
    refine aa.bV rfl rfl rfl rfl xN 0 rfl rfl rfl rfl ?_
    refine gE (gS ?_)
    refine aa.draw 15 mixed rfl ?_
    refine iw xw xD 3 ?_;refine kD xF 4 ?_;refine iw xR xk 0 ?_;refine kD xl 0 ?_
    refine ao.v (ah.fo rfl rfl rfl rfl rfl xB xH ⟨_,(hA).at_⟩ (aO (enc:=RV.cells) (sz:=2) (fun _=>rfl)) (by decide) (p.1) ⟨rfl,hpM.1⟩) ?_
    refine ao.v (ah.jg rfl rfl rfl rfl xI rfl sizeOf35 ((p.1)*2+0) rfl) ?_
    refine ao.v (ah.ld rfl rfl rfl rfl isAgg35 (fun w _ hS=>Sl.jX (enc:=RV.cells) (sz:=2) ((hA).a8 hS.ext).at_ (fun _=>rfl) hpM.1 rfl)) ?_
    refine iw xR xk 1 ?_;refine kD xl 0 ?_
    refine ao.v (ah.idx rfl rfl rfl rfl rfl xP sizeOf31 ⟨_,hxa.la⟩ (by simp) p.2 ⟨rfl,by simpa using ht2⟩) ?_
    refine ao.v (ah.ld rfl rfl rfl rfl isAgg31 (fun w _ hS=>(show w.cell? (dk (rs[p.1]'hpM.1).la p.2)=some (AV.v y) by rw [(hxa.a8 hS.ext).la.cell p.2 (by simpa using ht2)];simp [List.getD_eq_getElem?_getD,ht2,hy]))) ?_
    refine ik ?_
    refine ao.v (ah.idx rfl rfl rfl rfl rfl xy xk ⟨_,hya⟩ (by simp) (a) ⟨rfl,by simpa using hay⟩) ?_
    refine ao.v (ah.ld rfl rfl rfl rfl xl (fun w _ hS=>(ki.a8 hya hS.ext).at (a) hay)) ?_
    refine r2 ?_
    refine ao.nil ?_
    refine gE (gR ?_)
    iterate 4 refine ad ?_
    rw [←hv]
    obtain ⟨qe,ce,fe,spe,E1,E2,hT⟩:=qd (fy rs a p) E
    obtain ⟨hqe,hce,hfl⟩:=hT.cap_ hG
    have htl:((eG rs.length l).take k).length≤320:=by rw [List.length_take];omega
    refine aa.rf (h':=(qe,eP 97 fe spe)::([(some b7,.cells (cG p).toArray 97 (0,0)),(some b19,a9 (Value.int .i64) CV.v (E.map ME.kv)),(some b13,.cells (mH n f l A rs.length c (some ⟨bp,0,none⟩) (eG rs.length l).length cp (q.map (fun b=>⟨b,0,none⟩)) ms.length cg) 94 (0,0)),(some bp,eP 97 (eG rs.length l) spp),(some b1,.cells (bt n f l A rs.length c) 27 (0,0)),(q,ob mO 95 ms sps)]++((E1++E2).map (ME.c5 97)++Hm))) (fun _ _ hS=>hT.st hS) ?_
    refine aa.v (ah.qm (z:=.slice none 0 0) (a:=fy rs a p) xL rfl rfl rfl rfl rfl underlying95 (fun _=>zeroValue90 _) (fun _ _ hS=>hS.get (j:=2) rfl) hT.get) ?_
    refine aa.v (ah.eR rfl rfl rfl rfl isAgg97 1 rfl xN rfl) ?_
    refine aa.fR (c:=[_,_]) rfl rfl rfl rfl xQ xN zeroValue97 rfl rfl (fun b49=>?_)
    refine aa.app 2 (xs:=fe.flatMap cG) (sp:=spe) (nx:=fe.length) (q:=qe) (news:=cG p) (spn:=[]) rfl rfl rfl rfl rfl xQ hi0 hz0 hsz0 rfl hqe 1 rfl 0 rfl iK hce rfl (by decide) eU (by unfold maxLen;omega) (by rw [hby0];omega) (fun b' sp' cap' hlen=>?_)
    rw [fQ] at hlen⊢
    rw [show fe.length+1=(fe++[p]).length by simp]
    refine aa.nH (a:=fy rs a p) (v:=(⟨some ⟨b',0,none⟩,cap',fe++[p]⟩:CV)) xL rfl rfl rfl rfl rfl rfl rfl underlying95 3 rfl ?_
    have hput:dn qI (E.map ME.kv) (fy rs a p) (⟨some ⟨b',0,none⟩,cap',fe++[p]⟩:CV)=(E1++(ME.mk (fy rs a p) b' cap' (fe++[p]) sp')::E2).map ME.kv:=hT.put (ME.mk (fy rs a p) b' cap' (fe++[p]) sp') rfl
    rw [hput]
    refine gE (cu (gR ?_));refine aC rfl rfl rfl rfl (aK (by omega)) ?_;refine ad ?_;refine gE ?_
    refine aa.rf (h':=[(some b19,a9 (Value.int .i64) CV.v ((E1++(ME.mk (fy rs a p) b' cap' (fe++[p]) sp')::E2).map ME.kv)),(some b13,.cells (mH n f l A rs.length c (some ⟨bp,0,none⟩) (eG rs.length l).length cp (q.map (fun b=>⟨b,0,none⟩)) ms.length cg) 94 (0,0)),(some bp,eP 97 (eG rs.length l) spp),(some b1,.cells (bt n f l A rs.length c) 27 (0,0)),(q,ob mO 95 ms sps)]++((E1++(ME.mk (fy rs a p) b' cap' (fe++[p]) sp')::E2).map (ME.c5 97)++Hm)) (fun _ _ hS=>p6 (by exact hS.bR (.cons _ (.cons_cons _ (.cons _ (List.Sublist.refl _)))))) ?_
    exact IH2 (k+1,E1++(ME.mk (fy rs a p) b' cap' (fe++[p]) sp')::E2) _ _ ⟨hkl,by dsimp only;rw [htk];exact hG.add hT hlen⟩ (by dsimp only;omega) ⟨rfl,rfl,rfl,rfl,rfl,rfl,rfl,rfl,rfl,trivial⟩ (List.Sublist.refl _)
   have hkl:¬k<(eG rs.length l).length:=by have h:=of_decide_eq_false hc;omega
   rw [List.take_of_length_le (by omega)] at hG
   refine aa.exit rfl (gR ?_)
   iterate 2 refine ad ?_
   refine r6 ?_;refine ak xS sizeOf92 5 ?_;refine aj isAgg92 1 ?_;refine ad ?_
   refine aa.fR (c:=[_]) rfl rfl rfl rfl underlying92 sizeOf95 zeroValue95 rfl rfl (fun b58=>?_)
   refine aa.iv mO (news:=[b19]) (spn:=[]) (xs:=ms) (sp:=sps) (q:=q) rfl rfl rfl rfl rfl underlying92 hi1 hz1 hsz1 rfl hq 5 rfl 0 rfl hcg rfl (by decide) (fun _=>rfl) (by unfold maxLen;omega) (by rw [hby1];omega) (fun b' sp' cap' hlen=>?_)
   refine r6 ?_;refine ak xS sizeOf92 5 ?_
   refine aa.st rfl rfl rfl rfl sizeOf92 rfl 2 rfl rfl ?_
   refine gE (cu (gR ?_));refine aC rfl rfl rfl rfl (aK (by omega)) ?_;refine ad ?_;refine gE ?_
   refine aa.c7 (pre:=[_,_,_,_,_,_]) (pre':=[(some b13,.cells (mH n f l A rs.length c (some ⟨bp,0,none⟩) (eG rs.length l).length cp ((some b').map (fun b=>⟨b,0,none⟩)) (ms++[b19]).length cap') 94 (0,0)),(some bp,eP 97 (eG rs.length l) spp),(some b1,.cells (bt n f l A rs.length c) 27 (0,0)),((some b'),ob mO 95 (ms++[b19]) sp'),(some b19,a9 (Value.int .i64) CV.v (E.map ME.kv))]) (E.map (ME.c5 97)++Hm) [2,3,4,5,1] (by decide) rfl ?_
   refine IH (a+1,some b',cap',ms++[b19],sp',(some b19,a9 (Value.int .i64) CV.v (E.map ME.kv))::(E.map (ME.c5 97)++Hm)) _ _ ⟨han,by simp;exact hml,(fun e=>by cases e),hlen,fun i hi=>?_⟩ (by dsimp only;omega) ⟨rfl,rfl,rfl,rfl,trivial⟩ (List.Sublist.refl _)
   dsimp only at hi⊢
   rw [List.length_append,List.length_singleton] at hi
   by_cases e:i<ms.length
   · rw [List.getElem_append_left e]
     exact (hin i e).mono (fun z hz=>List.mem_cons_of_mem _ (List.mem_append_right _ hz))
   obtain rfl:i=ms.length:=by omega
   rw [List.getElem_append_right (Nat.le_refl _)]
   simp only [Nat.sub_self,List.getElem_cons_zero]
   rw [hml]
   exact ⟨E,List.mem_cons_self ..,fun e he=>List.mem_cons_of_mem _ (List.mem_append_left _ (List.mem_map_of_mem he)),hG⟩
  have han:¬a<n:=by have h:=of_decide_eq_false hc;omega
  obtain rfl:n=a:=by omega
  refine aa.exit rfl (gS (gR ?_))
  refine ad ?_;refine ai ?_;refine gE ?_
  refine gT func21 fun w' hS=>?_
  have hS2:=hS.bR (h':=[(some b13,.cells (mH n f l A rs.length c (some ⟨bp,0,none⟩) (eG rs.length l).length cp (q.map (fun b=>⟨b,0,none⟩)) n cg) 94 (0,0)),(some bp,eP 97 (eG rs.length l) spp),(q,ob mO 95 ms sps)]++Hm) (by rw [hml];exact .cons_cons _ (.cons_cons _ (.cons _ (List.Sublist.refl _))))
  exact ⟨hS.ext,b13,_,rfl,c3.of hS2,bp,cp,q,cg,ms,(eG rs.length l),spp,sps,List.mem_cons_self ..,List.mem_cons_of_mem _ (List.mem_cons_self ..),fun p=>gz,by omega,hml,fun e=>List.eq_nil_of_length_eq_zero (hq e).1,List.mem_cons_of_mem _ (List.mem_cons_of_mem _ (List.mem_cons_self ..)),fun i hi=>(hin i hi).mono (fun z hz=>by simp [hz])⟩
end Go.Proofs.Ytkpknmgofmohbaa
