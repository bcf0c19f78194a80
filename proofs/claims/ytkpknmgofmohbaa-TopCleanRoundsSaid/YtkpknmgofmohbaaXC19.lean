/- What calls of the program return, under the conditions that each theorem states. -/
import Derived.Test.YtkpknmgofmohbaaXC17
import Derived.Test.YtkpknmgofmohbaaXC18
import Derived.Test.YtkpknmgofmohbaaXC03
import Derived.Test.YtkpknmgofmohbaaXC05
namespace Go.Proofs.Ytkpknmgofmohbaa
open Go.RowKit Go.Proofs.Wit Try
theorem rD:(Try.prog.info? 30).map (fun i=>(i.zero,i.size,i.bytes))=some (some (dN 0 none),1,24):=by kernel_rfl
set_option maxRecDepth 8000 in
set_option maxHeartbeats 1000000 in
theorem nZ (bc n f l:Nat) (A:Option Addr) (c:Nat) (rs:List RV) (w:World) (hC:oT w 94 bc n f l A c rs) (hm:rs.length≤20) (hl:l≤16) (gf:FuncId) (cs:List Value) (val:CD→Bool) (hcf:∀args w,(callFunc gf args).run Try.prog w=.ok (.enter gf args) w)
    (hat:∀w',Ex [] w w'→∀p:CD,p.1<rs.length→p.2<l→Cn Try.prog gf ([.agg (cG p).toArray]++cs) w' (fun u _=>u=.bool (val p))):
    Cn Try.prog 47 [ptr bc,.func (.func gf) ([]:List Value).toArray cs.toArray] w (fun v w'=>jv 30 4 w w' v rs.length l val):=by
  obtain ⟨i0,hi0,hz0,hsz0,hby0⟩:=info_parts rD
  obtain ⟨i1,hi1,hz1,hsz1,hby1⟩:=info_parts nS
  obtain ⟨Q,cp,G,cg,ms,bK,hb,hA,hP,hmem,hpl,_⟩:=hC.all
  have HB:∀{w':World} {j:Nat} {u:Value},Ex [] w w'→(mH n f l A rs.length c Q bK.length cp G n cg)[j]?=some u→w'.cell? ⟨bc,j,none⟩=some u:=fun e h=>Ex.cell e hb h
  refine Cn.of func47 rfl rfl ?_
  refine gS (gR ?_);refine ai ?_;refine gE (gS (gR ?_));refine ad ?_;refine r6 ?_;refine ak xS xz 0 ?_;refine ak xw xD 3 ?_
  refine aa.v (ah.ld (p:=⟨bc,3,none⟩) rfl rfl rfl rfl xF (fun w _ hS=>HB hS.ext rfl)) ?_
  refine cq xB ?_
  refine aa.tM (dN l) none rfl rfl rfl rfl rfl xW hi0 hz0 rfl hsz0 (by rw [hby0];omega) (by unfold maxLen;omega) (fun bo=>?_)
  refine ai ?_;refine gE (gS (gS (gR ?_)));refine ad ?_;refine cq xW ?_;refine ad ?_;refine gE (gB ?_)
  refine aa.loop (σ:=List RB) (fun B=>[(0,ptr bc),(1,.func (.func gf) ([]:List Value).toArray cs.toArray),(5,.slice (some ⟨bo,0,none⟩) rs.length rs.length),(17,.int .i64 rs.length),(18,.int .i64 B.length)]) (fun B=>[(some bo,ob (dN l) 30 (cK B (rs.length - B.length)) [])]++(B.map (dB 4)++[]))
    (fun B=>B.length≤rs.length∧B.map (fun e=>e.2)=List.replicate B.length (List.replicate l false)) (fun B=>rs.length - B.length) [] ⟨Nat.zero_le _,rfl⟩ ⟨rfl,rfl,rfl,rfl,rfl,trivial⟩ (List.Sublist.refl _) (fun B hI IH=>?_)
  obtain ⟨hBl,hB⟩:=hI
  refine gS (gR ?_);refine aL db ?_;refine gE (gS ?_)
  refine gC (fun hc=>?_) fun hc=>?_
  ·
   have hlt:B.length<rs.length:=by have h:=of_decide_eq_true hc;omega
   obtain ⟨m,hmm⟩:∃m,rs.length - B.length=m+1:=⟨rs.length - B.length - 1,by omega⟩
   rw [hmm]
   refine gK (gS (gB (gS (gR ?_))));refine ad ?_;refine ai ?_;refine gE (gR ?_)
   iterate 3 refine ad ?_
   refine r6 ?_;refine ak xS xz 0 ?_;refine ak xw xk 2 ?_
   refine aa.v (ah.ld (p:=⟨bc,2,none⟩) rfl rfl rfl rfl xl (fun w _ hS=>HB hS.ext rfl)) ?_
   refine aa.tM Value.bool false rfl rfl rfl rfl rfl xM hi1 hz1 rfl hsz1 (by rw [hby1];omega) (by unfold maxLen;omega) (fun b28=>?_)
   refine aa.v (ah.cD rfl rfl rfl rfl rfl xW sizeOf30 (B.length) ⟨rfl,hlt⟩) ?_
   refine aa.r0 (dN l) (some b28) rfl rfl rfl rfl sizeOf30 rfl 1 rfl (by rw [jG];omega) ?_
   rw [nv (xs:=List.replicate l false)]
   refine gE (cu (gR ?_));refine aC rfl rfl rfl rfl (aK (by omega)) ?_;refine ad ?_;refine gE ?_
   have e1:rs.length - (B++[(b28,List.replicate l false)]).length=m:=by rw [List.length_append];simp;omega
   refine aa.sC (h':=[(some bo,ob (dN l) 30 (cK (B++[(b28,List.replicate l false)]) m) [])]++((B++[(b28,List.replicate l false)]).map (dB 4)++[])) ?_ ?_
   · show ((some b28,ob Value.bool 4 (List.replicate l false) [])::(some bo,ob (dN l) 30 (cK (B++[(b28,List.replicate l false)]) m) [])::(B.map (dB 4)++[])).Perm _
     rw [List.append_nil,List.append_nil,List.map_append]
     exact (List.Perm.swap _ _ _).trans (List.Perm.cons _ (List.perm_append_singleton _ _).symm)
   refine IH (B++[(b28,List.replicate l false)]) _ _ ⟨by rw [List.length_append];exact hlt,by rw [List.map_append,hB,List.length_append];exact (List.replicate_succ' ..).symm⟩ (by rw [List.length_append];simp;omega) ⟨rfl,rfl,rfl,rfl,by rw [List.length_append];rfl,trivial⟩ (by rw [e1];exact List.Sublist.refl _)
  have hBL:B.length=rs.length:=by have h:=of_decide_eq_false hc;omega
  have hRL:jt l B:=fun e he=>by
    have h1:e.2∈B.map (fun e=>e.2):=List.mem_map_of_mem he
    rw [hB] at h1
    rw [List.eq_of_mem_replicate h1];simp
  rw [show rs.length - B.length=0 by omega]
  refine aa.exit rfl (gS (gS (gR ?_)))
  refine ad ?_;refine r6 ?_;refine ak xS sizeOf90 4 ?_
  refine aa.v (ah.ld (p:=⟨bc,4,none⟩) rfl rfl rfl rfl isAgg90 (fun w _ hS=>HB hS.ext rfl)) ?_
  refine cq xQ ?_;refine ad ?_;refine gE (gB ?_)
  refine aa.loop (σ:=Nat×List RB) (fun z=>[(1,.func (.func gf) ([]:List Value).toArray cs.toArray),(5,.slice (some ⟨bo,0,none⟩) rs.length rs.length),(34,.slice Q bK.length cp),(35,.int .i64 bK.length),(36,.int .i64 z.1)]) (fun z=>[(some bo,ob (dN l) 30 (cK z.2 0) [])]++(z.2.map (dB 4)++[]))
    (fun z=>z.1≤bK.length∧z.2.length=rs.length∧jt l z.2∧∀j (hj:j<bK.length),j<z.1→jf z.2 bK[j]=val bK[j]) (fun z=>bK.length - z.1) (0,B) ⟨Nat.zero_le _,hBL,hRL,fun j _ h=>absurd h (Nat.not_lt_zero _)⟩ ⟨rfl,rfl,rfl,rfl,rfl,trivial⟩ (List.Sublist.refl _) (fun z hI IH2=>?_)
  obtain ⟨k,B⟩:=z
  obtain ⟨hk,hBL,hRL,hpre⟩:=hI
  dsimp only at hk hBL hRL hpre IH2⊢
  refine gS (gR ?_);refine aL db ?_;refine gE (gS ?_)
  refine gC (fun hc=>?_) fun hc=>?_
  ·
   have hkl:k<bK.length:=by have h:=of_decide_eq_true hc;omega
   obtain ⟨p,hp⟩:∃p,p=bK[k]:=⟨_,rfl⟩
   have hpM:p.1<rs.length∧p.2<l:=(hmem p).1 (by rw [hp];exact List.getElem_mem hkl)
   have hpB:p.1<B.length:=by omega
   have hrow:(B[p.1]'hpB).2.length=l:=hRL _ (List.getElem_mem hpB)
   refine gK (gS (gB (gS (gR ?_))))
   refine aa.v (ah.fo rfl rfl rfl rfl rfl xQ xN ⟨_,(hP).at_⟩ (aO (enc:=cG) (sz:=2) (fun _=>rfl)) (by decide) (k) ⟨rfl,hkl⟩) ?_
   refine aa.v (ah.ko (cs:=cG p) rfl rfl rfl rfl isAgg97 xN (fun w _ hS=>by rw [hp];exact Sl.many (enc:=cG) (sz:=2) (hP.a8 hS.ext).at_ (fun _=>rfl) hkl)) ?_
   refine aa.dc rfl rfl rfl (fun _=>zeroValue97 _) (fun b8=>?_)
   refine aa.bV rfl rfl rfl rfl xN 0 rfl rfl rfl rfl ?_
   refine gE ?_
   refine aa.draw 11 mixed rfl ?_
   refine ik ?_;refine iw xR xk 0 ?_;refine kD xl 0 ?_
   refine ao.v (ah.cD rfl rfl rfl rfl rfl xW sizeOf30 (p.1) ⟨rfl,hpM.1⟩) ?_
   skip
   refine ao.v (ah.nL (dN l) none rfl rfl rfl rfl isAgg30 1 rfl (by rw [jG];omega)) ?_
   rw [ny hpB]
   refine iw xR xk 1 ?_;refine kD xl 0 ?_;refine ik ?_
   refine ao.v (ah.eR rfl rfl rfl rfl isAgg97 0 rfl xN rfl) ?_
   refine ao.dO (fs:=[]) rfl rfl rfl rfl rfl hcf (fun w1 _ hS=>by exact hat w1 hS.ext p hpM.1 hpM.2) ?_
   refine ao.v (ah.cD rfl rfl rfl rfl rfl xM xm p.2 ⟨rfl,hpM.2⟩) ?_
   refine ao.nil ?_
   refine aa.r0 Value.bool (val p) rfl rfl rfl rfl xm rfl (2+p.1) (pY (pre:=[_,_]) hpB rfl) (by rw [hrow];exact hpM.2) ?_
   refine gE (cu (gR ?_));refine aC rfl rfl rfl rfl (aK (by omega)) ?_;refine ad ?_;refine gE ?_
   have hset:([(some b8,Obj.cells (cG p).toArray 97 (0,0)),(some bo,ob (dN l) 30 (cK B 0) [])]++(B.map (dB 4)++[])).set (2+p.1) (dB 4 ((B[p.1]'hpB).1,(B[p.1]'hpB).2.set p.2 (val p)))=[(some b8,Obj.cells (cG p).toArray 97 (0,0)),(some bo,ob (dN l) 30 (cK B 0) [])]++((B.set p.1 ((B[p.1]'hpB).1,(B[p.1]'hpB).2.set p.2 (val p))).map (dB 4)++[]):=pX hpB rfl
   refine aa.rf (h':=[(some bo,ob (dN l) 30 (cK (B.set p.1 ((B[p.1]'hpB).1,(B[p.1]'hpB).2.set p.2 (val p))) 0) [])]++((B.set p.1 ((B[p.1]'hpB).1,(B[p.1]'hpB).2.set p.2 (val p))).map (dB 4)++[])) (fun w1 Y' hS=>by
     have h1:St w [] w1 ([(some b8,Obj.cells (cG p).toArray 97 (0,0)),(some bo,ob (dN l) 30 (cK B 0) [])]++((B.set p.1 ((B[p.1]'hpB).1,(B[p.1]'hpB).2.set p.2 (val p))).map (dB 4)++[])) Y':=by rw [←hset];exact hS
     rw [m8 hpB]
     exact h1.bR (.cons _ (List.Sublist.refl _))) ?_
   refine IH2 (k+1,B.set p.1 ((B[p.1]'hpB).1,(B[p.1]'hpB).2.set p.2 (val p))) _ _ ⟨hkl,by rw [List.length_set];exact hBL,hRL.set (by rw [List.length_set];exact hrow),fun j hj hjk=>?_⟩ (by dsimp only;omega) ⟨rfl,rfl,rfl,rfl,rfl,trivial⟩ (List.Sublist.refl _)
   dsimp only at hjk⊢
   rw [nU hpB (by rw [hrow];exact hpM.2)]
   by_cases e:bK[j]=(p.1,p.2)
   · rw [if_pos e,e]
   rw [if_neg e]
   refine hpre j hj ?_
   by_cases e2:j=k
   · subst e2;exact absurd hp.symm e
   omega
  have hkl:k=bK.length:=by have h:=of_decide_eq_false hc;omega
  refine aa.exit rfl (gS (gR ?_))
  refine ad ?_;refine ai ?_;refine gE ?_
  refine gT func47 fun w' hS=>?_
  exact ⟨hS.ext,bo,B,rfl,by rw [List.append_nil] at hS;exact c3.of hS,hBL,hRL,fun p h1 h2=>by
  obtain ⟨j,hj,e⟩:=List.mem_iff_getElem.1 ((hmem p).2 ⟨h1,h2⟩)
  rw [←e];exact hpre j hj (by omega)⟩
end Go.Proofs.Ytkpknmgofmohbaa
namespace Go.Proofs.Ytkpknmgofmohbaa
open Go.RowKit Go.Proofs.Wit Try
def im (rs:List RV) (l a:Nat) (xv:CD→Bool) (key:Int):Bool:=(eG rs.length l).all (fun q=>!(fy rs a q==key)||xv q)
theorem pA {rs:List RV} {l a:Nat} {xv:CD→Bool} {E:List ME} {bK:List CD} (hG:mS (fy rs a) E bK) (hm:∀p,p∈bK↔p.1<rs.length∧p.2<l) {e:ME} (he:e∈E):e.f.all xv=im rs l a xv e.key:=by
 rw [Bool.eq_iff_iff,List.all_eq_true,im,List.all_eq_true]
 constructor
 ·intro h q hq
  by_cases e2:fy rs a q=e.key
  ·rw [h q ((hG.mem e he q).2 ⟨(hm q).2 (gz.1 hq),e2⟩),Bool.or_true]
  rw [beq_eq_false_iff_ne.2 e2];rfl
 intro h q hq
 obtain ⟨h1,h2⟩:=(hG.mem e he q).1 hq
 have:=h q (gz.2 ((hm q).1 h1))
 rw [h2] at this
 simpa using this
set_option maxRecDepth 8000 in
theorem pC (kb cb ab mk bc a n f l:Nat) (A:Option Addr) (c:Nat) (rs:List RV) (L2:List (Int×Bool)) (p:CD) (w:World) (hC:oT w 94 bc n f l A c rs) (hok:dt n f l rs) (han:a<n) (hp1:p.1<rs.length) (hp2:p.2<l)
  (h1:w.heap[kb]?=some (.cells #[.map (some mk)] 112 (0,0))) (h2:w.heap[mk]?=some (a9 (Value.int .i64) Value.bool L2)) (h3:w.heap[cb]?=some (.cells #[ptr bc] 60 (0,0))) (h4:w.heap[ab]?=some (.cells #[.int .i64 a] 3 (0,0))):
  Cn Try.prog 71 [.agg (cG p).toArray,ptr kb,ptr cb,ptr ab] w (fun v _=>v=.bool ((aG qI L2 (fy rs a p)).getD false)):=by
 obtain ⟨Q,cp,G,cg,ms,bK,hb,hA,_⟩:=hC.all
 have HB:∀{w':World} {j:Nat} {u:Value},Ex [] w w'→(mH n f l A rs.length c Q bK.length cp G n cg)[j]?=some u→w'.cell? ⟨bc,j,none⟩=some u:=fun e h=>Ex.cell e hb h
 have HB1:∀{w':World} {j:Nat} {u:Value},Ex [] w w'→(#[.map (some mk)]:Array Value)[j]?=some u→w'.cell? ⟨kb,j,none⟩=some u:=fun e h=>Ex.cell e h1 h
 have HB2:∀{w':World} {j:Nat} {u:Value},Ex [] w w'→(#[ptr bc]:Array Value)[j]?=some u→w'.cell? ⟨cb,j,none⟩=some u:=fun e h=>Ex.cell e h3 h
 have HB3:∀{w':World} {j:Nat} {u:Value},Ex [] w w'→(#[.int .i64 (a:Int)]:Array Value)[j]?=some u→w'.cell? ⟨ab,j,none⟩=some u:=fun e h=>Ex.cell e h4 h
 have hxm:rs[p.1]∈rs:=List.getElem_mem hp1
 have hxa:=hA.runs _ hxm
 obtain ⟨k1,k2,k3,k4⟩:=hok.ok _ hxm
 have ht2:p.2<rs[p.1].ls.length:=by omega
 obtain ⟨y,hy⟩:∃y,y=rs[p.1].ls[p.2]:=⟨_,rfl⟩
 have hym:y∈rs[p.1].ls:=by rw [hy];exact List.getElem_mem ht2
 have hya:=hxa.ls y hym
 have hay:a<y.xs.length:=by have:=k3 y hym;omega
 have hv:fy rs a p=y.xs[a]:=by
  rw [fy,dA hp1,k9 ht2 (by rw [←hy];exact hay)]
  simp [hy]
 refine Cn.of func71 rfl rfl ?_
 refine gS (gR ?_)
 refine aa.bx rfl rfl rfl rfl (fun b4=>?_)
 refine ai ?_;refine gE (gS ?_)
 refine aa.draw 20 mixed rfl ?_
 refine ao.v (ah.ld (p:=⟨kb,0,none⟩) rfl rfl rfl rfl isAgg112 (fun w _ hS=>HB1 hS.ext rfl)) ?_
 refine ao.v (ah.ld (p:=⟨cb,0,none⟩) rfl rfl rfl rfl isAgg60 (fun w _ hS=>HB2 hS.ext rfl)) ?_
 refine u5 ?_;refine iw xS xz 0 ?_;refine iw xw xD 3 ?_
 refine ao.v (ah.ld rfl rfl rfl rfl xF (fun w _ hS=>(HB hS.ext rfl))) ?_
 refine iw xR xk 0 ?_;refine kD xl 0 ?_
 refine ao.v (ah.fo rfl rfl rfl rfl rfl xB xH ⟨_,(hA).at_⟩ (aO (enc:=RV.cells) (sz:=2) (fun _=>rfl)) (by decide) (p.1) ⟨rfl,hp1⟩) ?_
 refine ao.v (ah.jg rfl rfl rfl rfl xI rfl sizeOf35 ((p.1)*2+0) rfl) ?_
 refine ao.v (ah.ld rfl rfl rfl rfl isAgg35 (fun w _ hS=>Sl.jX (enc:=RV.cells) (sz:=2) ((hA).a8 hS.ext).at_ (fun _=>rfl) hp1 rfl)) ?_
 refine iw xR xk 1 ?_;refine kD xl 0 ?_
 refine ao.v (ah.idx rfl rfl rfl rfl rfl xP sizeOf31 ⟨_,hxa.la⟩ (by simp) p.2 ⟨rfl,by simpa using ht2⟩) ?_
 refine ao.v (ah.ld rfl rfl rfl rfl isAgg31 (fun w _ hS=>(show w.cell? (dk rs[p.1].la p.2)=some (AV.v y) by rw [(hxa.a8 hS.ext).la.cell p.2 (by simpa using ht2)];simp [List.getD_eq_getElem?_getD,ht2,hy]))) ?_
 refine ao.v (ah.ld (p:=⟨ab,0,none⟩) rfl rfl rfl rfl xl (fun w _ hS=>HB3 hS.ext rfl)) ?_
 refine ao.v (ah.idx rfl rfl rfl rfl rfl xy xk ⟨_,hya⟩ (by simp) (a) ⟨rfl,by simpa using hay⟩) ?_
 refine ao.v (ah.ld rfl rfl rfl rfl xl (fun w _ hS=>(ki.a8 hya hS.ext).at (a) hay)) ?_
 refine ao.v (ah.qm (z:=.bool false) (a:=y.xs[a]) xL rfl rfl rfl rfl rfl underlying112 (fun _=>zeroValue4 _) (fun _ _ hS=>hS.ext.dR h2) (v:=.bool ((aG qI L2 (fy rs a p)).getD false)) (by rw [hv];cases aG qI L2 y.xs[a]<;>rfl)) ?_
 refine r2 ?_
 refine ao.nil ?_
 refine gE ?_
 refine gT func71 fun w' hS=>?_
 exact ⟨hS.ext,rfl⟩
set_option maxRecDepth 8000 in
set_option maxHeartbeats 1000000 in
theorem ri (bc a n f l:Nat) (A:Option Addr) (c:Nat) (rs:List RV) (X:Option Addr) (cX:Nat) (rows:List BV) (xv:CD→Bool) (w:World) (hC:oT w 94 bc n f l A c rs) (hok:dt n f l rs) (han:a<n) (hX:qC w X rs.length l rows xv):
    Cn Try.prog 45 [ptr bc,.int .i64 a,.slice X rs.length cX] w (fun v w'=>jv 30 4 w w' v rs.length l (fun p=>im rs l a xv (fy rs a p))):=by
  obtain ⟨Q,cp,G,cg,ms,bK,hb,hA,hP,hmem,hpl,hml,hGs,hmaps⟩:=hC.all
  have ham:a<ms.length:=by omega
  obtain ⟨E,hmap,hG,hE⟩:=hmaps a ham
  have HB:∀{w':World} {j:Nat} {u:Value},Ex [] w w'→(mH n f l A rs.length c Q bK.length cp G n cg)[j]?=some u→w'.cell? ⟨bc,j,none⟩=some u:=fun e h=>Ex.cell e hb h
  have hrl:=hX.len
  refine Cn.of func45 rfl rfl ?_
  refine gS (gR ?_)
  refine aa.bx rfl rfl rfl rfl (fun b3=>?_)
  refine aa.bx rfl rfl rfl rfl (fun b4=>?_)
  refine ai ?_;refine gE (gS (gR ?_))
  refine aa.mkMap (Value.int .i64) Value.bool rfl rfl rfl (fun mk=>?_)
  refine aa.dc rfl rfl rfl (fun _=>zeroValue112 _) (fun b7=>?_)
  refine aa.st rfl rfl rfl rfl sizeOf112 rfl 0 rfl rfl ?_
  refine gE (gS (gS ?_))
  refine aa.oh 9 mixed ?_
  refine cV 0 (ah.nK rfl rfl rfl rfl isAgg60 3 rfl rfl) ?_
  refine cV 1 (ah.nF rfl rfl rfl rfl) ?_
  refine cV 2 (ah.mr rfl rfl rfl rfl xS rfl (by exact sizeOf92) 5 rfl) ?_
  refine cV 3 (ah.ld rfl rfl rfl rfl isAgg92 (fun w _ hS=>(HB hS.ext rfl))) ?_
  refine cV 4 (ah.nK rfl rfl rfl rfl xl 2 rfl rfl) ?_
  refine cV 5 (ah.idx rfl rfl rfl rfl rfl underlying92 sizeOf95 ⟨_,hGs⟩ (by rw [List.length_map,hml]) a ⟨rfl,by rw [List.length_map];exact ham⟩) ?_
  refine cV 6 (ah.ld rfl rfl rfl rfl isAgg95 (fun w _ hS=>(show w.cell? (dk G a)=some (mO ms[a]) by rw [(Sl.ex hGs hS.ext (by simp)).cell a (by rw [List.length_map];exact ham)];simp [List.getD_eq_getElem?_getD,ham]))) ?_
  refine cE.one (i:=7) rfl (dX.qU (ek:=Value.int .i64) (ev:=CV.v) (L:=E.map ME.kv) rfl rfl rfl rfl underlying95 (fun _ _ hS=>hS.ext.dR hmap) (fun bi=>⟨sL,?_⟩)) rfl
  refine cE.done rfl ?_
  refine gE (gB ?_)
  refine aa.loop (σ:=Array Nat×List (Int×Bool)) (fun z=>[(2,.slice X rs.length cX),(3,ptr b3),(4,ptr b4),(7,ptr b7),(21,ptr bi)]) (fun z=>[(some bi,.mapIter (some (ms[a]'ham)) (E.map ME.kv).length z.1 (E.map ME.kv).length),(some b7,.cells #[.map (some mk)] 112 (0,0)),(some mk,a9 (Value.int .i64) Value.bool z.2),(some b4,.cells #[.int .i64 a] 3 (0,0)),(some b3,.cells #[ptr bc] 60 (0,0))])
    (fun z=>∀i (hi:i<E.length),i∈z.1→aG qI z.2 E[i].key=some (im rs l a xv E[i].key)) (fun z=>qJ E.length z.1) (#[],[]) (fun i hi h=>by simp at h) ⟨rfl,rfl,rfl,rfl,rfl,trivial⟩ (List.Sublist.refl _) (fun z hI IH=>?_)
  obtain ⟨seen,L2⟩:=z
  dsimp only at hI IH⊢
  refine gS (gR ?_)
  refine aa.q0 (ek:=Value.int .i64) (ev:=CV.v) (L:=E.map ME.kv) rfl rfl rfl rfl 0 rfl (fun _ _ hS=>hS.ext.dR hmap) (fun b us seen' hcase=>?_)
  refine gZ ?_;refine gE (gS ?_)
  refine gC (fun hc=>?_) fun hc=>?_
  ·
   obtain ⟨i,hi0,hns,rfl,rfl⟩:∃i,∃hi:i<(E.map ME.kv).length,i∉seen∧us=[.int .i64 (E.map ME.kv)[i].1,CV.v (E.map ME.kv)[i].2]∧seen'=seen.push i:=by
     rcases hcase with h|h
     · exact absurd (h.1.symm.trans hc) (by decide)
     exact h.2
   have hi:i<E.length:=by simpa using hi0
   obtain ⟨e,he⟩:∃e,e=E[i]:=⟨_,rfl⟩
   have hem:e∈E:=by rw [he];exact List.getElem_mem hi
   have hfl:=hG.len e hem
   have hEf:=hE e hem
   have hkv:(E.map ME.kv)[i]=e.kv:=by rw [he];exact List.getElem_map ..
   refine gK (gB (gS (gR ?_)))
   refine aa.v (ah.rJ (ek:=Value.int .i64) (ev:=CV.v) (L:=E.map ME.kv) hi0 rfl rfl rfl rfl 0 rfl (fun _ _ hS=>hS.ext.dR hmap)) ?_
   rw [hkv]
   iterate 2 refine gZ ?_
   iterate 2 refine ai ?_
   refine gE (gS (gR ?_));refine ai ?_;refine gE (gS (gS (gR ?_)));refine ad ?_;refine cq xQ ?_;refine ad ?_;refine gE (gB ?_)
   refine aa.loop (σ:=Nat) (fun j=>[(2,.slice X rs.length cX),(3,ptr b3),(4,ptr b4),(7,ptr b7),(21,ptr bi),(8,.int .i64 e.key),(10,.bool ((e.f.take j).all xv)),(27,.slice (some ⟨e.b,0,none⟩) e.f.length e.cap),(28,.int .i64 e.f.length),(29,.int .i64 j)]) (fun _=>[(some bi,.mapIter (some (ms[a]'ham)) (E.map ME.kv).length (seen.push i) (E.map ME.kv).length),(some b7,.cells #[.map (some mk)] 112 (0,0)),(some mk,a9 (Value.int .i64) Value.bool L2),(some b4,.cells #[.int .i64 a] 3 (0,0)),(some b3,.cells #[ptr bc] 60 (0,0))]) (fun j=>j≤e.f.length) (fun j=>e.f.length - j) 0 (Nat.zero_le _) ⟨rfl,rfl,rfl,rfl,rfl,rfl,rfl,rfl,rfl,rfl,trivial⟩ (List.Sublist.refl _) (fun j hj IH2=>?_)
   refine gS (gR ?_);refine aL db ?_;refine gE (gS ?_)
   refine gC (fun hc=>?_) fun hc=>?_
   ·
    have hjl:j<e.f.length:=by have h:=of_decide_eq_true hc;omega
    obtain ⟨p,hp⟩:∃p,p=e.f[j]:=⟨_,rfl⟩
    have hpM:=(hmem p).1 ((hG.mem e hem p).1 (by rw [hp];exact List.getElem_mem hjl)).1
    have hpr:p.1<rows.length:=by omega
    have htk:(e.f.take (j+1)).all xv=((e.f.take j).all xv && xv p):=by rw [List.take_succ_eq_append_getElem hjl,List.all_append,hp];simp
    obtain ⟨hr1,hr2,hr3⟩:=hX.row p.1 hpr
    have hpt:p.2<rows[p.1].xs.length:=by omega
    have hxp:rows[p.1].xs[p.2]=xv p:=by
      have:=hr3 p.2 hpM.2
      rw [List.getD_eq_getElem?_getD,List.getElem?_eq_getElem hpt] at this
      exact this
    refine gK (gS (gB (gS (gR ?_))))
    refine aa.v (ah.fo rfl rfl rfl rfl rfl xQ xN ⟨_,(hEf).at_⟩ (aO (enc:=cG) (sz:=2) (fun _=>rfl)) (by decide) (j) ⟨rfl,hjl⟩) ?_
    refine aa.v (ah.ko (cs:=cG p) rfl rfl rfl rfl isAgg97 xN (fun w _ hS=>by rw [hp];exact Sl.many (enc:=cG) (sz:=2) (hEf.a8 hS.ext).at_ (fun _=>rfl) hjl)) ?_
    refine aa.dc rfl rfl rfl (fun _=>zeroValue97 _) (fun b12=>?_)
    refine aa.bV rfl rfl rfl rfl xN 0 rfl rfl rfl rfl ?_
    refine gE ?_
    refine aa.draw 12 mixed rfl ?_
    iterate 2 refine ik ?_
    refine ao.cases (d:=34) rfl (fun hc=>?_) (fun hc=>?_)
    ·
     refine ik ?_;refine iw xR xk 0 ?_;refine kD xl 0 ?_
     refine ao.v (ah.idx rfl rfl rfl rfl rfl xW sizeOf30 ⟨_,hX.at_⟩ (by rw [List.length_map,hrl]) p.1 ⟨rfl,by rw [List.length_map];exact hpr⟩) ?_
     refine ao.v (ah.ld rfl rfl rfl rfl isAgg30 (fun w _ hS=>(show w.cell? (dk X p.1)=some (BV.v rows[p.1]) by rw [(hX.a8 hS.ext).at_.cell p.1 (by rw [List.length_map];exact hpr)];simp [List.getD_eq_getElem?_getD,hpr]))) ?_
     refine iw xR xk 1 ?_;refine kD xl 0 ?_
     refine ao.v (ah.idx rfl rfl rfl rfl rfl xM xm ⟨_,hr1⟩ (by simp) p.2 ⟨rfl,by simpa using hpt⟩) ?_
     refine ao.v (ah.ld rfl rfl rfl rfl xo (fun w _ hS=>(show w.cell? (dk rows[p.1].a p.2)=some (.bool (xv p)) by rw [(Sl.ex hr1 hS.ext (by simp)).cell p.2 (by simpa using hpt)];simp [List.getD_eq_getElem?_getD,hpt,hxp]))) ?_
     refine u2 ?_
     refine ao.nil ?_
     refine ai ?_;refine gE (cu (gR ?_));refine aC rfl rfl rfl rfl (aK (by omega)) ?_;refine ad ?_;refine gE ?_
     exact IH2 (j+1) _ _ hjl (by omega) ⟨rfl,rfl,rfl,rfl,rfl,rfl,by rw [htk,show (e.f.take j).all xv=true from hc];rfl,rfl,rfl,rfl,trivial⟩ (.cons _ (List.Sublist.refl _))
    iterate 9 refine u4 ?_
    refine u3 ?_
    refine ao.nil ?_
    refine ai ?_;refine gE (cu (gR ?_));refine aC rfl rfl rfl rfl (aK (by omega)) ?_;refine ad ?_;refine gE ?_
    exact IH2 (j+1) _ _ hjl (by omega) ⟨rfl,rfl,rfl,rfl,rfl,rfl,by rw [htk,show (e.f.take j).all xv=false from hc];rfl,rfl,rfl,rfl,trivial⟩ (.cons _ (List.Sublist.refl _))
   have hjl:¬j<e.f.length:=by have h:=of_decide_eq_false hc;omega
   obtain rfl:e.f.length=j:=by omega
   rw [List.take_length,pA hG hmem hem]
   refine aa.exit rfl (gR ?_)
   refine aj isAgg112 1 ?_
   iterate 2 refine ad ?_
   refine aa.nH (a:=e.key) (v:=im rs l a xv e.key) xL rfl rfl rfl rfl rfl rfl rfl underlying112 2 rfl ?_
   refine gE (cu ?_)
   refine IH (seen.push i,dn qI L2 e.key (im rs l a xv e.key)) _ _ (fun m hm hms=>?_) (oW hi hns) ⟨rfl,rfl,rfl,rfl,rfl,trivial⟩ (List.Sublist.refl _)
   dsimp only at hms⊢
   rw [iB]
   by_cases e2:E[m].key=e.key
   · rw [if_pos e2,e2]
   rw [if_neg e2]
   refine hI m hm ?_
   rcases Array.mem_push.1 hms with h|h
   · exact h
   subst h;exact absurd (by rw [he]) e2
  have hall:∀i,i<E.length→i∈seen:=by
    rcases hcase with h|h
    · intro i hi;exact h.2.2.2 i (by simpa using hi)
    exact absurd (h.1.symm.trans hc) (by decide)
  have hval:∀p:CD,p.1<rs.length→p.2<l→(aG qI L2 (fy rs a p)).getD false=im rs l a xv (fy rs a p):=fun p h1 h2=>by
    obtain ⟨e,he,e2⟩:=hG.has p ((hmem p).2 ⟨h1,h2⟩)
    obtain ⟨i,hi,rfl⟩:=List.mem_iff_getElem.1 he
    rw [←e2,hI i hi (hall i hi)];rfl
  refine aa.exit rfl (gS (gR ?_))
  refine aj isAgg60 4 ?_
  refine aa.v (ah.eg rfl rfl rfl rfl rfl) ?_
  refine gM rfl rfl rfl rfl rfl call47 (fun w _ hS=>(by exact nZ bc n f l A c rs w (hC.a8 hS.ext) hok.r7.2 hok.sT.2 71 [ptr b7,ptr b3,ptr b4] (fun p=>im rs l a xv (fy rs a p)) (fun _ _=>call71 _ _) (fun w' he p h1 h2=>by rw [←hval p h1 h2];exact pC b7 b3 b4 mk bc a n f l A c rs L2 p w' ((hC.a8 hS.ext).a8 he) hok han h1 h2 (he.dR (hS.get (j:=1) rfl)) (he.dR (hS.get (j:=2) rfl)) (he.dR (hS.get (j:=4) rfl)) (he.dR (hS.get (j:=3) rfl))))) ?_
  rintro v w1 w2 Y' hS he ⟨bo,B,rfl,hnew,hBl,hRL,hvv⟩
  refine ⟨_,hS.lK he hnew,?_⟩
  refine ai ?_;refine gE ?_
  refine gT func45 fun w' hS=>?_
  exact ⟨hS.ext,bo,B,rfl,c3.of (hS.bR (List.sublist_append_left _ _)),hBl,hRL,hvv⟩
end Go.Proofs.Ytkpknmgofmohbaa
namespace Go.Proofs.Ytkpknmgofmohbaa
open Go.RowKit Go.Proofs.Wit Try
set_option maxRecDepth 4000 in
theorem bS (op:Int) (w:World):Cn Try.prog 63 [.int .i64 op] w (fun v _=>v=.tuple #[ib op,.bool (okO op)]):=by
  refine Cn.of xC rfl rfl ?_
  refine gS (gR ?_)
  refine aa.dc rfl rfl rfl (fun _=>xJ _) (fun b2=>?_)
  refine ai ?_;refine gE (gS (gS (gR ?_)));refine ad ?_;refine gE (gB (gS (gS (gR ?_))));refine aL dU ?_;refine ai ?_;refine gE ?_
  refine gC (fun hc=>?_) fun hc=>?_
  ·
   have h:op=1:=by simpa using hc
   refine gK ?_
   refine aa.cond rfl (fun _=>?_) (fun hc=>by exfalso;simp [h] at hc)
   refine gS (gR ?_)
   refine aa.v (ah.eM rfl rfl rfl rfl (bd88 (c:=[_,_,_,_,_,_,_]) rfl)) ?_
   refine aa.bV rfl rfl rfl rfl xr 0 rfl rfl rfl rfl ?_
   refine ai ?_;refine gE ?_
   refine aa.cC Try.f63 xC _ (ax.cell rfl xA xr (j:=0) rfl rfl (ax.tmp rfl ax.nil)) (fun w' hS=>?_)
   exact ⟨hS.ext,by subst h;rfl⟩
  have h1:op≠1:=by simpa using hc
  refine gR ?_;refine aL dU ?_;refine ai ?_;refine gE ?_
  refine gC (fun hc=>?_) fun hc=>?_
  ·
   have h:op=2:=by simpa using hc
   refine gS (gR ?_)
   refine aa.v (ah.eM rfl rfl rfl rfl (bd88 (c:=[_,_,_,_,_,_,_]) rfl)) ?_
   refine aa.bV rfl rfl rfl rfl xr 0 rfl rfl rfl rfl ?_
   refine ai ?_;refine gE ?_
   refine aa.cC Try.f63 xC _ (ax.cell rfl xA xr (j:=0) rfl rfl (ax.tmp rfl ax.nil)) (fun w' hS=>?_)
   exact ⟨hS.ext,by subst h;rfl⟩
  have h2:op≠2:=by simpa using hc
  refine gS (gR ?_);refine aL dU ?_;refine ai ?_;refine gE ?_
  refine gC (fun hc=>?_) fun hc=>?_
  ·
   have h:op=3:=by simpa using hc
   refine gS (gR ?_)
   refine aa.v (ah.eM rfl rfl rfl rfl (bd88 (c:=[_,_,_,_,_,_,_]) rfl)) ?_
   refine aa.bV rfl rfl rfl rfl xr 0 rfl rfl rfl rfl ?_
   refine ai ?_;refine gE ?_
   refine aa.cC Try.f63 xC _ (ax.cell rfl xA xr (j:=0) rfl rfl (ax.tmp rfl ax.nil)) (fun w' hS=>?_)
   exact ⟨hS.ext,by subst h;rfl⟩
  have h3:op≠3:=by simpa using hc
  refine gS (gR ?_);refine aL dU ?_;refine ai ?_;refine gE ?_
  refine gC (fun hc=>?_) fun hc=>?_
  ·
   have h:op=4:=by simpa using hc
   refine gS (gR ?_)
   refine aa.v (ah.eM rfl rfl rfl rfl (bd88 (c:=[_,_,_,_,_,_,_]) rfl)) ?_
   refine aa.bV rfl rfl rfl rfl xr 0 rfl rfl rfl rfl ?_
   refine ai ?_;refine gE ?_
   refine aa.cC Try.f63 xC _ (ax.cell rfl xA xr (j:=0) rfl rfl (ax.tmp rfl ax.nil)) (fun w' hS=>?_)
   exact ⟨hS.ext,by subst h;rfl⟩
  have h4:op≠4:=by simpa using hc
  refine gS (gS (gR ?_));refine aL dU ?_;refine ai ?_;refine gE ?_
  refine gC (fun hc=>?_) fun hc=>?_
  ·
   have h:op=5:=by simpa using hc
   refine gK ?_
   refine aa.cond rfl (fun _=>?_) (fun hc=>by exfalso;simp [h] at hc)
   refine gS (gR ?_)
   refine aa.v (ah.eM rfl rfl rfl rfl (bd88 (c:=[_,_,_,_,_,_,_]) rfl)) ?_
   refine aa.bV rfl rfl rfl rfl xr 0 rfl rfl rfl rfl ?_
   refine ai ?_;refine gE ?_
   refine aa.cC Try.f63 xC _ (ax.cell rfl xA xr (j:=0) rfl rfl (ax.tmp rfl ax.nil)) (fun w' hS=>?_)
   exact ⟨hS.ext,by subst h;rfl⟩
  have h5:op≠5:=by simpa using hc
  refine gS (gR ?_);refine aL dU ?_;refine ai ?_;refine gE ?_
  refine gC (fun hc=>?_) fun hc=>?_
  ·
   have h:op=6:=by simpa using hc
   refine gK ?_
   refine aa.cond rfl (fun _=>?_) (fun hc=>by exfalso;simp [h] at hc)
   refine gS (gR ?_)
   refine aa.v (ah.eM rfl rfl rfl rfl (bd88 (c:=[_,_,_,_,_,_,_]) rfl)) ?_
   refine aa.bV rfl rfl rfl rfl xr 0 rfl rfl rfl rfl ?_
   refine ai ?_;refine gE ?_
   refine aa.cC Try.f63 xC _ (ax.cell rfl xA xr (j:=0) rfl rfl (ax.tmp rfl ax.nil)) (fun w' hS=>?_)
   exact ⟨hS.ext,by subst h;rfl⟩
  have h6:op≠6:=by simpa using hc
  refine gS (gR ?_);refine aL dU ?_;refine ai ?_;refine gE ?_
  refine gC (fun hc=>?_) fun hc=>?_
  ·
   have h:op=7:=by simpa using hc
   refine gK ?_
   refine aa.cond rfl (fun _=>?_) (fun hc=>by exfalso;simp [h] at hc)
   refine gS (gR ?_)
   refine aa.v (ah.eM rfl rfl rfl rfl (bd88 (c:=[_,_,_,_,_,_,_]) rfl)) ?_
   refine aa.bV rfl rfl rfl rfl xr 0 rfl rfl rfl rfl ?_
   refine ai ?_;refine gE ?_
   refine aa.cC Try.f63 xC _ (ax.cell rfl xA xr (j:=0) rfl rfl (ax.tmp rfl ax.nil)) (fun w' hS=>?_)
   exact ⟨hS.ext,by subst h;rfl⟩
  have h7:op≠7:=by simpa using hc
  refine gR ?_;refine aL dU ?_;refine ai ?_;refine gE ?_
  refine gC (fun hc=>?_) fun hc=>?_
  ·
   have h:op=8:=by simpa using hc
   refine gS (gR ?_)
   refine aa.v (ah.eM rfl rfl rfl rfl (bd88 (c:=[_,_,_,_,_,_,_]) rfl)) ?_
   refine aa.bV rfl rfl rfl rfl xr 0 rfl rfl rfl rfl ?_
   refine ai ?_;refine gE ?_
   refine aa.cC Try.f63 xC _ (ax.cell rfl xA xr (j:=0) rfl rfl (ax.tmp rfl ax.nil)) (fun w' hS=>?_)
   exact ⟨hS.ext,by subst h;rfl⟩
  have h8:op≠8:=by simpa using hc
  refine gS (gS (gR ?_));refine aL dU ?_;refine ai ?_;refine gE ?_
  refine gC (fun hc=>?_) fun hc=>?_
  ·
   have h:op=9:=by simpa using hc
   refine gK ?_
   refine aa.cond rfl (fun _=>?_) (fun hc=>by exfalso;simp [h] at hc)
   refine gS (gR ?_)
   refine aa.v (ah.eM rfl rfl rfl rfl (bd88 (c:=[_,_,_,_,_,_,_]) rfl)) ?_
   refine aa.bV rfl rfl rfl rfl xr 0 rfl rfl rfl rfl ?_
   refine ai ?_;refine gE ?_
   refine aa.cC Try.f63 xC _ (ax.cell rfl xA xr (j:=0) rfl rfl (ax.tmp rfl ax.nil)) (fun w' hS=>?_)
   exact ⟨hS.ext,by subst h;rfl⟩
  have h9:op≠9:=by simpa using hc
  refine gR ?_;refine aL dU ?_;refine ai ?_;refine gE ?_
  refine gC (fun hc=>?_) fun hc=>?_
  ·
   have h:op=10:=by simpa using hc
   refine gS (gR ?_)
   refine aa.v (ah.eM rfl rfl rfl rfl (bd88 (c:=[_,_,_,_,_,_,_]) rfl)) ?_
   refine aa.bV rfl rfl rfl rfl xr 0 rfl rfl rfl rfl ?_
   refine ai ?_;refine gE ?_
   refine aa.cC Try.f63 xC _ (ax.cell rfl xA xr (j:=0) rfl rfl (ax.tmp rfl ax.nil)) (fun w' hS=>?_)
   exact ⟨hS.ext,by subst h;rfl⟩
  have h10:op≠10:=by simpa using hc
  refine gS (gR ?_);refine aL dU ?_;refine ai ?_;refine gE ?_
  refine gC (fun hc=>?_) fun hc=>?_
  ·
   have h:op=11:=by simpa using hc
   refine gS (gR ?_)
   refine aa.v (ah.eM rfl rfl rfl rfl (bd88 (c:=[_,_,_,_,_,_,_]) rfl)) ?_
   refine aa.bV rfl rfl rfl rfl xr 0 rfl rfl rfl rfl ?_
   refine ai ?_;refine gE ?_
   refine aa.cC Try.f63 xC _ (ax.cell rfl xA xr (j:=0) rfl rfl (ax.tmp rfl ax.nil)) (fun w' hS=>?_)
   exact ⟨hS.ext,by subst h;rfl⟩
  have h11:op≠11:=by simpa using hc
  refine gS (gR ?_);refine aL dU ?_;refine ai ?_;refine gE ?_
  refine gC (fun hc=>?_) fun hc=>?_
  ·
   have h:op=12:=by simpa using hc
   refine gS (gR ?_)
   refine aa.v (ah.eM rfl rfl rfl rfl (bd88 (c:=[_,_,_,_,_,_,_]) rfl)) ?_
   refine aa.bV rfl rfl rfl rfl xr 0 rfl rfl rfl rfl ?_
   refine ai ?_;refine gE ?_
   refine aa.cC Try.f63 xC _ (ax.cell rfl xA xr (j:=0) rfl rfl (ax.tmp rfl ax.nil)) (fun w' hS=>?_)
   exact ⟨hS.ext,by subst h;rfl⟩
  have h12:op≠12:=by simpa using hc
  refine gS (gR ?_);refine aL dU ?_;refine ai ?_;refine gE ?_
  refine gC (fun hc=>?_) fun hc=>?_
  ·
   have h:op=13:=by simpa using hc
   refine gS (gR ?_)
   refine aa.v (ah.eM rfl rfl rfl rfl (bd88 (c:=[_,_,_,_,_,_,_]) rfl)) ?_
   refine aa.bV rfl rfl rfl rfl xr 0 rfl rfl rfl rfl ?_
   refine ai ?_;refine gE ?_
   refine aa.cC Try.f63 xC _ (ax.cell rfl xA xr (j:=0) rfl rfl (ax.tmp rfl ax.nil)) (fun w' hS=>?_)
   exact ⟨hS.ext,by subst h;rfl⟩
  have h13:op≠13:=by simpa using hc
  refine gS (gR ?_);refine aL dU ?_;refine ai ?_;refine gE ?_
  refine gC (fun hc=>?_) fun hc=>?_
  ·
   have h:op=14:=by simpa using hc
   refine gS (gR ?_)
   refine aa.v (ah.eM rfl rfl rfl rfl (bd88 (c:=[_,_,_,_,_,_,_]) rfl)) ?_
   refine aa.bV rfl rfl rfl rfl xr 0 rfl rfl rfl rfl ?_
   refine ai ?_;refine gE ?_
   refine aa.cC Try.f63 xC _ (ax.cell rfl xA xr (j:=0) rfl rfl (ax.tmp rfl ax.nil)) (fun w' hS=>?_)
   exact ⟨hS.ext,by subst h;rfl⟩
  have h14:op≠14:=by simpa using hc
  refine gS (gR ?_);refine aL dU ?_;refine ai ?_;refine gE ?_
  refine gC (fun hc=>?_) fun hc=>?_
  ·
   have h:op=15:=by simpa using hc
   refine gS (gR ?_)
   refine aa.v (ah.eM rfl rfl rfl rfl (bd88 (c:=[_,_,_,_,_,_,_]) rfl)) ?_
   refine aa.bV rfl rfl rfl rfl xr 0 rfl rfl rfl rfl ?_
   refine ai ?_;refine gE ?_
   refine aa.cC Try.f63 xC _ (ax.cell rfl xA xr (j:=0) rfl rfl (ax.tmp rfl ax.nil)) (fun w' hS=>?_)
   exact ⟨hS.ext,by subst h;rfl⟩
  have h15:op≠15:=by simpa using hc
  refine gS (gR ?_);refine aL dU ?_;refine ai ?_;refine gE ?_
  refine gC (fun hc=>?_) fun hc=>?_
  ·
   have h:op=16:=by simpa using hc
   refine gS (gR ?_)
   refine aa.v (ah.eM rfl rfl rfl rfl (bd88 (c:=[_,_,_,_,_,_,_]) rfl)) ?_
   refine aa.bV rfl rfl rfl rfl xr 0 rfl rfl rfl rfl ?_
   refine ai ?_;refine gE ?_
   refine aa.cC Try.f63 xC _ (ax.cell rfl xA xr (j:=0) rfl rfl (ax.tmp rfl ax.nil)) (fun w' hS=>?_)
   exact ⟨hS.ext,by subst h;rfl⟩
  have h16:op≠16:=by simpa using hc
  refine gS (gR ?_);refine aL dU ?_;refine ai ?_;refine gE ?_
  refine gC (fun hc=>?_) fun hc=>?_
  ·
   have h:op=17:=by simpa using hc
   refine gS (gR ?_)
   refine aa.v (ah.eM rfl rfl rfl rfl (bd88 (c:=[_,_,_,_,_,_,_]) rfl)) ?_
   refine aa.bV rfl rfl rfl rfl xr 0 rfl rfl rfl rfl ?_
   refine ai ?_;refine gE ?_
   refine aa.cC Try.f63 xC _ (ax.cell rfl xA xr (j:=0) rfl rfl (ax.tmp rfl ax.nil)) (fun w' hS=>?_)
   exact ⟨hS.ext,by subst h;rfl⟩
  have h17:op≠17:=by simpa using hc
  refine gS (gS (gR ?_));refine aL dU ?_;refine ai ?_;refine gE ?_
  refine gC (fun hc=>?_) fun hc=>?_
  ·
   have h:op=18:=by simpa using hc
   refine gK ?_
   refine aa.cond rfl (fun _=>?_) (fun hc=>by exfalso;simp [h] at hc)
   refine gS (gR ?_)
   refine aa.v (ah.eM rfl rfl rfl rfl (bd88 (c:=[_,_,_,_,_,_,_]) rfl)) ?_
   refine aa.bV rfl rfl rfl rfl xr 0 rfl rfl rfl rfl ?_
   refine ai ?_;refine gE ?_
   refine aa.cC Try.f63 xC _ (ax.cell rfl xA xr (j:=0) rfl rfl (ax.tmp rfl ax.nil)) (fun w' hS=>?_)
   exact ⟨hS.ext,by subst h;rfl⟩
  have h18:op≠18:=by simpa using hc
  refine gR ?_;refine aL dU ?_;refine ai ?_;refine gE ?_
  refine gC (fun hc=>?_) fun hc=>?_
  ·
   have h:op=20:=by simpa using hc
   refine gS (gR ?_)
   refine aa.v (ah.eM rfl rfl rfl rfl (bd88 (c:=[_,_,_,_,_,_,_]) rfl)) ?_
   refine aa.bV rfl rfl rfl rfl xr 0 rfl rfl rfl rfl ?_
   refine ai ?_;refine gE ?_
   refine aa.cC Try.f63 xC _ (ax.cell rfl xA xr (j:=0) rfl rfl (ax.tmp rfl ax.nil)) (fun w' hS=>?_)
   exact ⟨hS.ext,by subst h;rfl⟩
  have h20:op≠20:=by simpa using hc
  refine gS (gS (gR ?_));refine aL dU ?_;refine ai ?_;refine gE ?_
  refine gC (fun hc=>?_) fun hc=>?_
  ·
   have h:op=19:=by simpa using hc
   refine gK ?_
   refine aa.cond rfl (fun _=>?_) (fun hc=>by exfalso;simp [h] at hc)
   refine gS (gR ?_)
   refine aa.v (ah.eM rfl rfl rfl rfl (bd88 (c:=[_,_,_,_,_,_,_]) rfl)) ?_
   refine aa.bV rfl rfl rfl rfl xr 0 rfl rfl rfl rfl ?_
   refine ai ?_;refine gE ?_
   refine aa.cC Try.f63 xC _ (ax.cell rfl xA xr (j:=0) rfl rfl (ax.tmp rfl ax.nil)) (fun w' hS=>?_)
   exact ⟨hS.ext,by subst h;rfl⟩
  have h19:op≠19:=by simpa using hc
  refine gR ?_;refine aL dU ?_;refine ai ?_;refine gE ?_
  refine gC (fun hc=>?_) fun hc=>?_
  ·
   have h:op=21:=by simpa using hc
   refine gS (gR ?_)
   refine aa.v (ah.eM rfl rfl rfl rfl (bd88 (c:=[_,_,_,_,_,_,_]) rfl)) ?_
   refine aa.bV rfl rfl rfl rfl xr 0 rfl rfl rfl rfl ?_
   refine ai ?_;refine gE ?_
   refine aa.cC Try.f63 xC _ (ax.cell rfl xA xr (j:=0) rfl rfl (ax.tmp rfl ax.nil)) (fun w' hS=>?_)
   exact ⟨hS.ext,by subst h;rfl⟩
  have h21:op≠21:=by simpa using hc
  refine gK (cu (gS (gR ?_)))
  refine aa.v (ah.eM rfl rfl rfl rfl (bd88 (c:=[_,_,_,_,_,_,_]) rfl)) ?_
  refine aa.bV rfl rfl rfl rfl xr 0 rfl rfl rfl rfl ?_
  refine ai ?_;refine gE ?_
  refine aa.cC Try.f63 xC _ (ax.cell rfl xA xr (j:=0) rfl rfl (ax.tmp rfl ax.nil)) (fun w' hS=>?_)
  exact ⟨hS.ext,by rw [oV (by omega),lF (by omega)];rfl⟩
theorem aJ (u:Bool) (x at_:Int) (w:World):Cn Try.prog 67 [.bool u,.int .i64 x,.int .i64 at_] w (fun v _=>v=.bool (cR u x at_)):=by
  refine Cn.of func67 rfl rfl ?_
  refine gS (gR ?_);refine ai ?_;refine gE (gS (gR ?_))
  iterate 2 refine ad ?_
  refine cM 8 (fun hc=>?_) fun hc=>?_
  ·
   have hu:u=true:=hc
   subst hu
   refine ad ?_;refine aL uH ?_;refine aV ?_;refine ad ?_
   refine cM 12 (fun hc=>?_) fun hc=>?_
   ·
    have h1:0≤x:=by simpa using hc
    iterate 2 refine ad ?_
    refine aL db ?_;refine aV ?_;refine ad ?_
    refine cM 17 (fun hc=>?_) fun hc=>?_
    ·
     have h2:x<at_:=by simpa using hc
     iterate 6 refine ba ?_
     refine aV ?_;refine ai ?_;refine gE ?_
     refine gT func67 fun w' hS=>?_
     exact ⟨hS.ext,by simp [cR,h1,h2,eF]⟩
    have h2:¬x<at_:=by simpa using hc
    refine ad ?_;refine bP aH ?_;refine ad ?_
    refine cM 20 (fun hc=>?_) fun hc=>?_
    ·
     simp at hc
    iterate 2 refine ba ?_
    iterate 2 refine aN ?_
    refine ai ?_;refine gE ?_
    refine gT func67 fun w' hS=>?_
    exact ⟨hS.ext,by simp [cR,h1,h2,eF]⟩
   have h1:¬0≤x:=by simpa using hc
   iterate 3 refine ba ?_
   refine aN ?_
   iterate 2 refine ad ?_
   refine bP aH ?_;refine ad ?_
   refine cM 20 (fun hc=>?_) fun hc=>?_
   ·
    simp at hc
   iterate 2 refine ba ?_
   iterate 2 refine aN ?_
   refine ai ?_;refine gE ?_
   refine gT func67 fun w' hS=>?_
   exact ⟨hS.ext,by simp [cR,h1,eF]⟩
  have hu:u=false:=hc
  subst hu
  iterate 2 refine ba ?_
  refine aN ?_;refine ad ?_
  iterate 3 refine ba ?_
  refine aN ?_
  iterate 2 refine ad ?_
  refine bP aH ?_;refine ad ?_
  refine cM 20 (fun hc=>?_) fun hc=>?_
  ·
   refine ad ?_;refine aL dU ?_;refine aV ?_;refine aN ?_;refine ai ?_;refine gE ?_
   refine gT func67 fun w' hS=>?_
   exact ⟨hS.ext,by simp [cR,eF]⟩
  simp at hc
theorem aI (u:Bool) (x lo hi:Int) (w:World):Cn Try.prog 68 [.bool u,.int .i64 x,.int .i64 lo,.int .i64 hi] w (fun v _=>v=.bool (dV u x lo hi)):=by
  refine Cn.of func68 rfl rfl ?_
  refine gS (gR ?_);refine ai ?_;refine gE (gS (gR ?_))
  iterate 2 refine ad ?_
  refine cM 10 (fun hc=>?_) fun hc=>?_
  ·
   have hu:u=true:=hc
   subst hu
   iterate 2 refine ad ?_
   refine aL db ?_;refine ad ?_
   refine cM 14 (fun hc=>?_) fun hc=>?_
   ·
    have h1:x<lo:=by simpa using hc
    iterate 3 refine ba ?_
    iterate 2 refine aV ?_
    refine ai ?_;refine gE ?_
    refine gT func68 fun w' hS=>?_
    exact ⟨hS.ext,by simp [dV,h1,eF]⟩
   have h1:¬x<lo:=by simpa using hc
   iterate 2 refine ad ?_
   refine aL qz ?_;refine aN ?_;refine aV ?_;refine ai ?_;refine gE ?_
   refine gT func68 fun w' hS=>?_
   exact ⟨hS.ext,by simp [dV,h1,eF]⟩
  have hu:u=false:=hc
  subst hu
  iterate 8 refine ba ?_
  refine aN ?_;refine ai ?_;refine gE ?_
  refine gT func68 fun w' hS=>?_
  exact ⟨hS.ext,by simp [dV,eF]⟩
set_option maxRecDepth 4000 in
theorem iz (n:NV) (at_ fr:Int) (w:World) (hop:1≤n.op∧n.op≤21) (hX:bE n.op=false) (hY:bA n.op=false) (h3:(n.op==3)=false) (hA:gv n.op=false) (h17:(n.op==17)=false) (hG:ez n.op=false) (hU:ib n.op=.agg #[.bool false,.bool false,.bool false,.bool false,.bool false,.bool false,.int .i64 fr]) (hK:okO n.op=true):
    Cn Try.prog 36 [n.v,.int .i64 at_] w (fun v _=>v=.int .i64 (aq n at_)):=by
  refine Cn.of xq rfl rfl ?_
  refine gS (gR ?_)
  refine aa.bx rfl rfl rfl rfl (fun b2=>?_)
  refine ai ?_;refine gE (gS (gR ?_));refine ak xn xk 0 ?_;refine aj xl 0 ?_
  refine gP rfl rfl rfl rfl rfl call63 (fun w _ hS=>(by have:=bS n.op w;rw [hU,hK] at this;exact this)) ?_
  refine ad ?_
  iterate 2 refine gZ ?_
  refine aa.dc rfl rfl rfl (fun _=>xJ _) (fun b5=>?_)
  refine aa.bV rfl rfl rfl rfl xr 0 rfl rfl rfl rfl ?_
  refine ai ?_;refine gE (gS (gS (gR ?_)));refine ad ?_;refine bP aH ?_;refine gE ?_
  refine aa.cond rfl (fun hc=>by exfalso;simp at hc) (fun _=>?_)
  refine gK (gS (gS (gR ?_)));refine ak xp xm 0 ?_;refine aj xo 0 ?_;refine ak xn xk 4 ?_;refine aj xl 1 ?_;refine ad ?_
  refine gP rfl rfl rfl rfl rfl call67 (fun w _ hS=>(by exact aJ false n.x at_ w)) ?_
  refine bP aH ?_;refine ad ?_
  refine cM 23 (fun hc=>?_) fun hc=>?_
  ·
   have hb:cR (bE n.op) n.x at_=false:=by rw [hX];simpa using hc
   iterate 7 refine ba ?_
   refine aV ?_;refine gE (aa.aS rfl (gS (gR ?_)));refine ai ?_;refine gE ?_
   refine gT xq fun w' hS=>?_
   exact ⟨hS.ext,by rw [show aq n at_=3 from cW hop hb];rfl⟩
  have hox:cR (bE n.op) n.x at_=true:=by rw [hX];simpa using hc
  refine ak xp xm 1 ?_;refine aj xo 0 ?_;refine ak xn xk 5 ?_;refine aj xl 1 ?_;refine ad ?_
  refine gP rfl rfl rfl rfl rfl call67 (fun w _ hS=>(by exact aJ false n.y at_ w)) ?_
  refine bP aH ?_;refine aN ?_;refine gE ?_
  refine gC (fun hc=>?_) fun hc=>?_
  ·
   have hb:cR (bA n.op) n.y at_=false:=by rw [hY];simpa using hc
   refine gS (gR ?_);refine ai ?_;refine gE ?_
   refine gT xq fun w' hS=>?_
   exact ⟨hS.ext,by rw [show aq n at_=3 from cS hop hb];rfl⟩
  have hoy:cR (bA n.op) n.y at_=true:=by rw [hY];simpa using hc
  refine gK (gS (gS (gR ?_)));refine ak xp xm 2 ?_;refine aj xo 0 ?_;refine ad ?_;refine ak xp xm 3 ?_;refine aj xo 0 ?_;refine aN ?_;refine ad ?_;refine ak xp xm 5 ?_;refine aj xo 0 ?_;refine aN ?_;refine bP aH ?_;refine ad ?_;refine ak xn xk 1 ?_
  refine aj xl 1 ?_;refine aL eV ?_;refine aV ?_;refine ad ?_
  refine cM 48 (fun hc=>?_) fun hc=>?_
  ·
   have hb:n.i≠0:=by simpa using hc
   iterate 8 refine ba ?_
   refine aV ?_;refine ad ?_
   iterate 8 refine ba ?_
   refine aV ?_;refine gE (aa.aS rfl (gS (gR ?_)));refine ai ?_;refine gE ?_
   refine gT xq fun w' hS=>?_
   exact ⟨hS.ext,by rw [show aq n at_=3 from (ay hop hox hoy).trans (a7 (by simp [iO,bne,h3,h17,hA,hG];omega))];rfl⟩
  have hzi:n.i=0:=by simpa using hc
  refine ak xp xm 5 ?_;refine aj xo 0 ?_;refine bP aH ?_;refine ad ?_;refine ak xn xk 2 ?_;refine aj xl 1 ?_;refine aL eV ?_;refine aV ?_;refine aN ?_;refine ad ?_
  refine cM 58 (fun hc=>?_) fun hc=>?_
  ·
   have hb:n.e≠0:=by simpa using hc
   iterate 8 refine ba ?_
   refine aV ?_;refine gE (aa.aS rfl (gS (gR ?_)));refine ai ?_;refine gE ?_
   refine gT xq fun w' hS=>?_
   exact ⟨hS.ext,by rw [show aq n at_=3 from (ay hop hox hoy).trans (a7 (by simp [iO,bne,h3,h17,hA,hG];omega))];rfl⟩
  have hze:n.e=0:=by simpa using hc
  refine ak xp xm 4 ?_;refine aj xo 0 ?_;refine bP aH ?_;refine ad ?_;refine ak xn xk 3 ?_;refine aj xl 1 ?_;refine aL eV ?_;refine aV ?_;refine aN ?_;refine gE ?_
  refine gC (fun hc=>?_) fun hc=>?_
  ·
   have hb:n.g≠0:=by simpa using hc
   refine gS (gR ?_);refine ai ?_;refine gE ?_
   refine gT xq fun w' hS=>?_
   exact ⟨hS.ext,by rw [show aq n at_=3 from (ay hop hox hoy).trans (a7 (by simp [iO,bne,h3,h17,hA,hG];omega))];rfl⟩
  have hzg:n.g=0:=by simpa using hc
  have hfa:(!iO n.op && n.i !=0||n.op !=17 && n.e !=0||!ez n.op && n.g !=0)=false:=by simp [iO,bne,h3,h17,hA,hG];omega
  refine gK (gS (gR ?_));refine ai ?_;refine gE (gS (gS (gR ?_)));refine ad ?_;refine ak xp xm 2 ?_;refine aj xo 0 ?_;refine ak xn xk 1 ?_;refine aj xl 1 ?_
  refine gP rfl rfl rfl rfl rfl xt (fun w _ hS=>(by exact aI false n.i 0 7 w)) ?_
  iterate 2 refine ad ?_
  refine ak xp xm 3 ?_;refine aj xo 0 ?_;refine ak xn xk 1 ?_;refine aj xl 1 ?_
  refine gP rfl rfl rfl rfl rfl xt (fun w _ hS=>(by exact aI false n.i 0 3 w)) ?_
  refine aN ?_
  iterate 2 refine ad ?_
  refine ak xp xm 5 ?_;refine aj xo 0 ?_;refine ak xn xk 1 ?_;refine aj xl 1 ?_
  refine gP rfl rfl rfl rfl rfl xt (fun w _ hS=>(by exact aI false n.i 0 7 w)) ?_
  refine aN ?_
  iterate 2 refine ad ?_
  refine ak xp xm 5 ?_;refine aj xo 0 ?_;refine ak xn xk 2 ?_;refine aj xl 1 ?_
  refine gP rfl rfl rfl rfl rfl xt (fun w _ hS=>(by exact aI false n.e 0 7 w)) ?_
  refine aN ?_
  iterate 2 refine ad ?_
  refine ak xp xm 4 ?_;refine aj xo 0 ?_;refine ak xn xk 3 ?_;refine aj xl 1 ?_
  refine gP rfl rfl rfl rfl rfl xt (fun w _ hS=>(by exact aI false n.g 1 15 w)) ?_
  refine aN ?_;refine gE (aa.aP rfl (gK (gS (gR ?_))));refine ai ?_;refine gE ?_
  refine gT xq fun w' hS=>?_
  exact ⟨hS.ext,by rw [show aq n at_=0 from (ay hop hox hoy).trans (dM hfa (by simp [h3,h17,hA,hG]))];rfl⟩
set_option maxRecDepth 4000 in
theorem mi (n:NV) (at_ fr:Int) (w:World) (hop:1≤n.op∧n.op≤21) (hX:bE n.op=false) (hY:bA n.op=false) (h3:(n.op==3)=true) (hA:gv n.op=false) (h17:(n.op==17)=false) (hG:ez n.op=false) (hU:ib n.op=.agg #[.bool false,.bool false,.bool true,.bool false,.bool false,.bool false,.int .i64 fr]) (hK:okO n.op=true):
    Cn Try.prog 36 [n.v,.int .i64 at_] w (fun v _=>v=.int .i64 (aq n at_)):=by
  refine Cn.of xq rfl rfl ?_
  refine gS (gR ?_)
  refine aa.bx rfl rfl rfl rfl (fun b2=>?_)
  refine ai ?_;refine gE (gS (gR ?_));refine ak xn xk 0 ?_;refine aj xl 0 ?_
  refine gP rfl rfl rfl rfl rfl call63 (fun w _ hS=>(by have:=bS n.op w;rw [hU,hK] at this;exact this)) ?_
  refine ad ?_
  iterate 2 refine gZ ?_
  refine aa.dc rfl rfl rfl (fun _=>xJ _) (fun b5=>?_)
  refine aa.bV rfl rfl rfl rfl xr 0 rfl rfl rfl rfl ?_
  refine ai ?_;refine gE (gS (gS (gR ?_)));refine ad ?_;refine bP aH ?_;refine gE ?_
  refine aa.cond rfl (fun hc=>by exfalso;simp at hc) (fun _=>?_)
  refine gK (gS (gS (gR ?_)));refine ak xp xm 0 ?_;refine aj xo 0 ?_;refine ak xn xk 4 ?_;refine aj xl 1 ?_;refine ad ?_
  refine gP rfl rfl rfl rfl rfl call67 (fun w _ hS=>(by exact aJ false n.x at_ w)) ?_
  refine bP aH ?_;refine ad ?_
  refine cM 23 (fun hc=>?_) fun hc=>?_
  ·
   have hb:cR (bE n.op) n.x at_=false:=by rw [hX];simpa using hc
   iterate 7 refine ba ?_
   refine aV ?_;refine gE (aa.aS rfl (gS (gR ?_)));refine ai ?_;refine gE ?_
   refine gT xq fun w' hS=>?_
   exact ⟨hS.ext,by rw [show aq n at_=3 from cW hop hb];rfl⟩
  have hox:cR (bE n.op) n.x at_=true:=by rw [hX];simpa using hc
  refine ak xp xm 1 ?_;refine aj xo 0 ?_;refine ak xn xk 5 ?_;refine aj xl 1 ?_;refine ad ?_
  refine gP rfl rfl rfl rfl rfl call67 (fun w _ hS=>(by exact aJ false n.y at_ w)) ?_
  refine bP aH ?_;refine aN ?_;refine gE ?_
  refine gC (fun hc=>?_) fun hc=>?_
  ·
   have hb:cR (bA n.op) n.y at_=false:=by rw [hY];simpa using hc
   refine gS (gR ?_);refine ai ?_;refine gE ?_
   refine gT xq fun w' hS=>?_
   exact ⟨hS.ext,by rw [show aq n at_=3 from cS hop hb];rfl⟩
  have hoy:cR (bA n.op) n.y at_=true:=by rw [hY];simpa using hc
  refine gK (gS (gS (gR ?_)));refine ak xp xm 2 ?_;refine aj xo 0 ?_;refine ad ?_
  iterate 2 refine ba ?_
  refine aV ?_;refine ad ?_
  iterate 2 refine ba ?_
  refine aV ?_;refine bP aH ?_;refine ad ?_
  iterate 3 refine ba ?_
  refine aN ?_;refine ad ?_;refine ak xp xm 5 ?_;refine aj xo 0 ?_;refine bP aH ?_;refine ad ?_;refine ak xn xk 2 ?_;refine aj xl 1 ?_;refine aL eV ?_;refine aV ?_;refine aN ?_;refine ad ?_
  refine cM 58 (fun hc=>?_) fun hc=>?_
  ·
   have hb:n.e≠0:=by simpa using hc
   iterate 8 refine ba ?_
   refine aV ?_;refine gE (aa.aS rfl (gS (gR ?_)));refine ai ?_;refine gE ?_
   refine gT xq fun w' hS=>?_
   exact ⟨hS.ext,by rw [show aq n at_=3 from (ay hop hox hoy).trans (a7 (by simp [iO,bne,h3,h17,hA,hG];omega))];rfl⟩
  have hze:n.e=0:=by simpa using hc
  refine ak xp xm 4 ?_;refine aj xo 0 ?_;refine bP aH ?_;refine ad ?_;refine ak xn xk 3 ?_;refine aj xl 1 ?_;refine aL eV ?_;refine aV ?_;refine aN ?_;refine gE ?_
  refine gC (fun hc=>?_) fun hc=>?_
  ·
   have hb:n.g≠0:=by simpa using hc
   refine gS (gR ?_);refine ai ?_;refine gE ?_
   refine gT xq fun w' hS=>?_
   exact ⟨hS.ext,by rw [show aq n at_=3 from (ay hop hox hoy).trans (a7 (by simp [iO,bne,h3,h17,hA,hG];omega))];rfl⟩
  have hzg:n.g=0:=by simpa using hc
  have hfa:(!iO n.op && n.i !=0||n.op !=17 && n.e !=0||!ez n.op && n.g !=0)=false:=by simp [iO,bne,h3,h17,hA,hG];omega
  refine gK (gS (gR ?_));refine ai ?_;refine gE (gS (gS (gR ?_)));refine ad ?_;refine ak xp xm 2 ?_;refine aj xo 0 ?_;refine ak xn xk 1 ?_;refine aj xl 1 ?_
  refine gP rfl rfl rfl rfl rfl xt (fun w _ hS=>(by exact aI true n.i 0 7 w)) ?_
  refine ad ?_
  refine cM 74 (fun hc=>?_) fun hc=>?_
  ·
   have hb:n.i<0∨7<n.i:=by simpa [dV] using hc
   iterate 6 refine ba ?_
   refine aV ?_;refine ad ?_
   iterate 6 refine ba ?_
   refine aV ?_;refine ad ?_
   iterate 6 refine ba ?_
   refine aV ?_;refine ad ?_
   iterate 6 refine ba ?_
   refine aV ?_;refine gE (aa.aS rfl (gS (gR ?_)));refine ai ?_;refine gE ?_
   refine gT xq fun w' hS=>?_
   exact ⟨hS.ext,by rw [show aq n at_=2 from (ay hop hox hoy).trans (eS hfa (by simp [h3,h17,hA,hG];omega))];rfl⟩
  have hr3:0≤n.i∧n.i≤7:=by simpa [dV] using hc
  refine ad ?_;refine ak xp xm 3 ?_;refine aj xo 0 ?_;refine ak xn xk 1 ?_;refine aj xl 1 ?_
  refine gP rfl rfl rfl rfl rfl xt (fun w _ hS=>(by exact aI false n.i 0 3 w)) ?_
  refine aN ?_
  iterate 2 refine ad ?_
  refine ak xp xm 5 ?_;refine aj xo 0 ?_;refine ak xn xk 1 ?_;refine aj xl 1 ?_
  refine gP rfl rfl rfl rfl rfl xt (fun w _ hS=>(by exact aI false n.i 0 7 w)) ?_
  refine aN ?_
  iterate 2 refine ad ?_
  refine ak xp xm 5 ?_;refine aj xo 0 ?_;refine ak xn xk 2 ?_;refine aj xl 1 ?_
  refine gP rfl rfl rfl rfl rfl xt (fun w _ hS=>(by exact aI false n.e 0 7 w)) ?_
  refine aN ?_
  iterate 2 refine ad ?_
  refine ak xp xm 4 ?_;refine aj xo 0 ?_;refine ak xn xk 3 ?_;refine aj xl 1 ?_
  refine gP rfl rfl rfl rfl rfl xt (fun w _ hS=>(by exact aI false n.g 1 15 w)) ?_
  refine aN ?_;refine gE (aa.aP rfl (gK (gS (gR ?_))));refine ai ?_;refine gE ?_
  refine gT xq fun w' hS=>?_
  exact ⟨hS.ext,by rw [show aq n at_=0 from (ay hop hox hoy).trans (dM hfa (by simp [h3,h17,hA,hG];omega))];rfl⟩
set_option maxRecDepth 4000 in
theorem gJ (n:NV) (at_ fr:Int) (w:World) (hop:1≤n.op∧n.op≤21) (hX:bE n.op=true) (hY:bA n.op=false) (h3:(n.op==3)=false) (hA:gv n.op=false) (h17:(n.op==17)=false) (hG:ez n.op=false) (hU:ib n.op=.agg #[.bool true,.bool false,.bool false,.bool false,.bool false,.bool false,.int .i64 fr]) (hK:okO n.op=true):
    Cn Try.prog 36 [n.v,.int .i64 at_] w (fun v _=>v=.int .i64 (aq n at_)):=by
  refine Cn.of xq rfl rfl ?_
  refine gS (gR ?_)
  refine aa.bx rfl rfl rfl rfl (fun b2=>?_)
  refine ai ?_;refine gE (gS (gR ?_));refine ak xn xk 0 ?_;refine aj xl 0 ?_
  refine gP rfl rfl rfl rfl rfl call63 (fun w _ hS=>(by have:=bS n.op w;rw [hU,hK] at this;exact this)) ?_
  refine ad ?_
  iterate 2 refine gZ ?_
  refine aa.dc rfl rfl rfl (fun _=>xJ _) (fun b5=>?_)
  refine aa.bV rfl rfl rfl rfl xr 0 rfl rfl rfl rfl ?_
  refine ai ?_;refine gE (gS (gS (gR ?_)));refine ad ?_;refine bP aH ?_;refine gE ?_
  refine aa.cond rfl (fun hc=>by exfalso;simp at hc) (fun _=>?_)
  refine gK (gS (gS (gR ?_)));refine ak xp xm 0 ?_;refine aj xo 0 ?_;refine ak xn xk 4 ?_;refine aj xl 1 ?_;refine ad ?_
  refine gP rfl rfl rfl rfl rfl call67 (fun w _ hS=>(by exact aJ true n.x at_ w)) ?_
  refine bP aH ?_;refine ad ?_
  refine cM 23 (fun hc=>?_) fun hc=>?_
  ·
   have hb:cR (bE n.op) n.x at_=false:=by rw [hX];simpa using hc
   iterate 7 refine ba ?_
   refine aV ?_;refine gE (aa.aS rfl (gS (gR ?_)));refine ai ?_;refine gE ?_
   refine gT xq fun w' hS=>?_
   exact ⟨hS.ext,by rw [show aq n at_=3 from cW hop hb];rfl⟩
  have hox:cR (bE n.op) n.x at_=true:=by rw [hX];simpa using hc
  refine ak xp xm 1 ?_;refine aj xo 0 ?_;refine ak xn xk 5 ?_;refine aj xl 1 ?_;refine ad ?_
  refine gP rfl rfl rfl rfl rfl call67 (fun w _ hS=>(by exact aJ false n.y at_ w)) ?_
  refine bP aH ?_;refine aN ?_;refine gE ?_
  refine gC (fun hc=>?_) fun hc=>?_
  ·
   have hb:cR (bA n.op) n.y at_=false:=by rw [hY];simpa using hc
   refine gS (gR ?_);refine ai ?_;refine gE ?_
   refine gT xq fun w' hS=>?_
   exact ⟨hS.ext,by rw [show aq n at_=3 from cS hop hb];rfl⟩
  have hoy:cR (bA n.op) n.y at_=true:=by rw [hY];simpa using hc
  refine gK (gS (gS (gR ?_)));refine ak xp xm 2 ?_;refine aj xo 0 ?_;refine ad ?_;refine ak xp xm 3 ?_;refine aj xo 0 ?_;refine aN ?_;refine ad ?_;refine ak xp xm 5 ?_;refine aj xo 0 ?_;refine aN ?_;refine bP aH ?_;refine ad ?_;refine ak xn xk 1 ?_
  refine aj xl 1 ?_;refine aL eV ?_;refine aV ?_;refine ad ?_
  refine cM 48 (fun hc=>?_) fun hc=>?_
  ·
   have hb:n.i≠0:=by simpa using hc
   iterate 8 refine ba ?_
   refine aV ?_;refine ad ?_
   iterate 8 refine ba ?_
   refine aV ?_;refine gE (aa.aS rfl (gS (gR ?_)));refine ai ?_;refine gE ?_
   refine gT xq fun w' hS=>?_
   exact ⟨hS.ext,by rw [show aq n at_=3 from (ay hop hox hoy).trans (a7 (by simp [iO,bne,h3,h17,hA,hG];omega))];rfl⟩
  have hzi:n.i=0:=by simpa using hc
  refine ak xp xm 5 ?_;refine aj xo 0 ?_;refine bP aH ?_;refine ad ?_;refine ak xn xk 2 ?_;refine aj xl 1 ?_;refine aL eV ?_;refine aV ?_;refine aN ?_;refine ad ?_
  refine cM 58 (fun hc=>?_) fun hc=>?_
  ·
   have hb:n.e≠0:=by simpa using hc
   iterate 8 refine ba ?_
   refine aV ?_;refine gE (aa.aS rfl (gS (gR ?_)));refine ai ?_;refine gE ?_
   refine gT xq fun w' hS=>?_
   exact ⟨hS.ext,by rw [show aq n at_=3 from (ay hop hox hoy).trans (a7 (by simp [iO,bne,h3,h17,hA,hG];omega))];rfl⟩
  have hze:n.e=0:=by simpa using hc
  refine ak xp xm 4 ?_;refine aj xo 0 ?_;refine bP aH ?_;refine ad ?_;refine ak xn xk 3 ?_;refine aj xl 1 ?_;refine aL eV ?_;refine aV ?_;refine aN ?_;refine gE ?_
  refine gC (fun hc=>?_) fun hc=>?_
  ·
   have hb:n.g≠0:=by simpa using hc
   refine gS (gR ?_);refine ai ?_;refine gE ?_
   refine gT xq fun w' hS=>?_
   exact ⟨hS.ext,by rw [show aq n at_=3 from (ay hop hox hoy).trans (a7 (by simp [iO,bne,h3,h17,hA,hG];omega))];rfl⟩
  have hzg:n.g=0:=by simpa using hc
  have hfa:(!iO n.op && n.i !=0||n.op !=17 && n.e !=0||!ez n.op && n.g !=0)=false:=by simp [iO,bne,h3,h17,hA,hG];omega
  refine gK (gS (gR ?_));refine ai ?_;refine gE (gS (gS (gR ?_)));refine ad ?_;refine ak xp xm 2 ?_;refine aj xo 0 ?_;refine ak xn xk 1 ?_;refine aj xl 1 ?_
  refine gP rfl rfl rfl rfl rfl xt (fun w _ hS=>(by exact aI false n.i 0 7 w)) ?_
  iterate 2 refine ad ?_
  refine ak xp xm 3 ?_;refine aj xo 0 ?_;refine ak xn xk 1 ?_;refine aj xl 1 ?_
  refine gP rfl rfl rfl rfl rfl xt (fun w _ hS=>(by exact aI false n.i 0 3 w)) ?_
  refine aN ?_
  iterate 2 refine ad ?_
  refine ak xp xm 5 ?_;refine aj xo 0 ?_;refine ak xn xk 1 ?_;refine aj xl 1 ?_
  refine gP rfl rfl rfl rfl rfl xt (fun w _ hS=>(by exact aI false n.i 0 7 w)) ?_
  refine aN ?_
  iterate 2 refine ad ?_
  refine ak xp xm 5 ?_;refine aj xo 0 ?_;refine ak xn xk 2 ?_;refine aj xl 1 ?_
  refine gP rfl rfl rfl rfl rfl xt (fun w _ hS=>(by exact aI false n.e 0 7 w)) ?_
  refine aN ?_
  iterate 2 refine ad ?_
  refine ak xp xm 4 ?_;refine aj xo 0 ?_;refine ak xn xk 3 ?_;refine aj xl 1 ?_
  refine gP rfl rfl rfl rfl rfl xt (fun w _ hS=>(by exact aI false n.g 1 15 w)) ?_
  refine aN ?_;refine gE (aa.aP rfl (gK (gS (gR ?_))));refine ai ?_;refine gE ?_
  refine gT xq fun w' hS=>?_
  exact ⟨hS.ext,by rw [show aq n at_=0 from (ay hop hox hoy).trans (dM hfa (by simp [h3,h17,hA,hG]))];rfl⟩
set_option maxRecDepth 4000 in
theorem c8 (n:NV) (at_ fr:Int) (w:World) (hop:1≤n.op∧n.op≤21) (hX:bE n.op=true) (hY:bA n.op=true) (h3:(n.op==3)=false) (hA:gv n.op=false) (h17:(n.op==17)=false) (hG:ez n.op=false) (hU:ib n.op=.agg #[.bool true,.bool true,.bool false,.bool false,.bool false,.bool false,.int .i64 fr]) (hK:okO n.op=true):
    Cn Try.prog 36 [n.v,.int .i64 at_] w (fun v _=>v=.int .i64 (aq n at_)):=by
  refine Cn.of xq rfl rfl ?_
  refine gS (gR ?_)
  refine aa.bx rfl rfl rfl rfl (fun b2=>?_)
  refine ai ?_;refine gE (gS (gR ?_));refine ak xn xk 0 ?_;refine aj xl 0 ?_
  refine gP rfl rfl rfl rfl rfl call63 (fun w _ hS=>(by have:=bS n.op w;rw [hU,hK] at this;exact this)) ?_
  refine ad ?_
  iterate 2 refine gZ ?_
  refine aa.dc rfl rfl rfl (fun _=>xJ _) (fun b5=>?_)
  refine aa.bV rfl rfl rfl rfl xr 0 rfl rfl rfl rfl ?_
  refine ai ?_;refine gE (gS (gS (gR ?_)));refine ad ?_;refine bP aH ?_;refine gE ?_
  refine aa.cond rfl (fun hc=>by exfalso;simp at hc) (fun _=>?_)
  refine gK (gS (gS (gR ?_)));refine ak xp xm 0 ?_;refine aj xo 0 ?_;refine ak xn xk 4 ?_;refine aj xl 1 ?_;refine ad ?_
  refine gP rfl rfl rfl rfl rfl call67 (fun w _ hS=>(by exact aJ true n.x at_ w)) ?_
  refine bP aH ?_;refine ad ?_
  refine cM 23 (fun hc=>?_) fun hc=>?_
  ·
   have hb:cR (bE n.op) n.x at_=false:=by rw [hX];simpa using hc
   iterate 7 refine ba ?_
   refine aV ?_;refine gE (aa.aS rfl (gS (gR ?_)));refine ai ?_;refine gE ?_
   refine gT xq fun w' hS=>?_
   exact ⟨hS.ext,by rw [show aq n at_=3 from cW hop hb];rfl⟩
  have hox:cR (bE n.op) n.x at_=true:=by rw [hX];simpa using hc
  refine ak xp xm 1 ?_;refine aj xo 0 ?_;refine ak xn xk 5 ?_;refine aj xl 1 ?_;refine ad ?_
  refine gP rfl rfl rfl rfl rfl call67 (fun w _ hS=>(by exact aJ true n.y at_ w)) ?_
  refine bP aH ?_;refine aN ?_;refine gE ?_
  refine gC (fun hc=>?_) fun hc=>?_
  ·
   have hb:cR (bA n.op) n.y at_=false:=by rw [hY];simpa using hc
   refine gS (gR ?_);refine ai ?_;refine gE ?_
   refine gT xq fun w' hS=>?_
   exact ⟨hS.ext,by rw [show aq n at_=3 from cS hop hb];rfl⟩
  have hoy:cR (bA n.op) n.y at_=true:=by rw [hY];simpa using hc
  refine gK (gS (gS (gR ?_)));refine ak xp xm 2 ?_;refine aj xo 0 ?_;refine ad ?_;refine ak xp xm 3 ?_;refine aj xo 0 ?_;refine aN ?_;refine ad ?_;refine ak xp xm 5 ?_;refine aj xo 0 ?_;refine aN ?_;refine bP aH ?_;refine ad ?_;refine ak xn xk 1 ?_
  refine aj xl 1 ?_;refine aL eV ?_;refine aV ?_;refine ad ?_
  refine cM 48 (fun hc=>?_) fun hc=>?_
  ·
   have hb:n.i≠0:=by simpa using hc
   iterate 8 refine ba ?_
   refine aV ?_;refine ad ?_
   iterate 8 refine ba ?_
   refine aV ?_;refine gE (aa.aS rfl (gS (gR ?_)));refine ai ?_;refine gE ?_
   refine gT xq fun w' hS=>?_
   exact ⟨hS.ext,by rw [show aq n at_=3 from (ay hop hox hoy).trans (a7 (by simp [iO,bne,h3,h17,hA,hG];omega))];rfl⟩
  have hzi:n.i=0:=by simpa using hc
  refine ak xp xm 5 ?_;refine aj xo 0 ?_;refine bP aH ?_;refine ad ?_;refine ak xn xk 2 ?_;refine aj xl 1 ?_;refine aL eV ?_;refine aV ?_;refine aN ?_;refine ad ?_
  refine cM 58 (fun hc=>?_) fun hc=>?_
  ·
   have hb:n.e≠0:=by simpa using hc
   iterate 8 refine ba ?_
   refine aV ?_;refine gE (aa.aS rfl (gS (gR ?_)));refine ai ?_;refine gE ?_
   refine gT xq fun w' hS=>?_
   exact ⟨hS.ext,by rw [show aq n at_=3 from (ay hop hox hoy).trans (a7 (by simp [iO,bne,h3,h17,hA,hG];omega))];rfl⟩
  have hze:n.e=0:=by simpa using hc
  refine ak xp xm 4 ?_;refine aj xo 0 ?_;refine bP aH ?_;refine ad ?_;refine ak xn xk 3 ?_;refine aj xl 1 ?_;refine aL eV ?_;refine aV ?_;refine aN ?_;refine gE ?_
  refine gC (fun hc=>?_) fun hc=>?_
  ·
   have hb:n.g≠0:=by simpa using hc
   refine gS (gR ?_);refine ai ?_;refine gE ?_
   refine gT xq fun w' hS=>?_
   exact ⟨hS.ext,by rw [show aq n at_=3 from (ay hop hox hoy).trans (a7 (by simp [iO,bne,h3,h17,hA,hG];omega))];rfl⟩
  have hzg:n.g=0:=by simpa using hc
  have hfa:(!iO n.op && n.i !=0||n.op !=17 && n.e !=0||!ez n.op && n.g !=0)=false:=by simp [iO,bne,h3,h17,hA,hG];omega
  refine gK (gS (gR ?_));refine ai ?_;refine gE (gS (gS (gR ?_)));refine ad ?_;refine ak xp xm 2 ?_;refine aj xo 0 ?_;refine ak xn xk 1 ?_;refine aj xl 1 ?_
  refine gP rfl rfl rfl rfl rfl xt (fun w _ hS=>(by exact aI false n.i 0 7 w)) ?_
  iterate 2 refine ad ?_
  refine ak xp xm 3 ?_;refine aj xo 0 ?_;refine ak xn xk 1 ?_;refine aj xl 1 ?_
  refine gP rfl rfl rfl rfl rfl xt (fun w _ hS=>(by exact aI false n.i 0 3 w)) ?_
  refine aN ?_
  iterate 2 refine ad ?_
  refine ak xp xm 5 ?_;refine aj xo 0 ?_;refine ak xn xk 1 ?_;refine aj xl 1 ?_
  refine gP rfl rfl rfl rfl rfl xt (fun w _ hS=>(by exact aI false n.i 0 7 w)) ?_
  refine aN ?_
  iterate 2 refine ad ?_
  refine ak xp xm 5 ?_;refine aj xo 0 ?_;refine ak xn xk 2 ?_;refine aj xl 1 ?_
  refine gP rfl rfl rfl rfl rfl xt (fun w _ hS=>(by exact aI false n.e 0 7 w)) ?_
  refine aN ?_
  iterate 2 refine ad ?_
  refine ak xp xm 4 ?_;refine aj xo 0 ?_;refine ak xn xk 3 ?_;refine aj xl 1 ?_
  refine gP rfl rfl rfl rfl rfl xt (fun w _ hS=>(by exact aI false n.g 1 15 w)) ?_
  refine aN ?_;refine gE (aa.aP rfl (gK (gS (gR ?_))));refine ai ?_;refine gE ?_
  refine gT xq fun w' hS=>?_
  exact ⟨hS.ext,by rw [show aq n at_=0 from (ay hop hox hoy).trans (dM hfa (by simp [h3,h17,hA,hG]))];rfl⟩
set_option maxRecDepth 4000 in
theorem fG (n:NV) (at_ fr:Int) (w:World) (hop:1≤n.op∧n.op≤21) (hX:bE n.op=true) (hY:bA n.op=false) (h3:(n.op==3)=false) (hA:gv n.op=true) (h17:(n.op==17)=false) (hG:ez n.op=false) (hU:ib n.op=.agg #[.bool true,.bool false,.bool false,.bool true,.bool false,.bool false,.int .i64 fr]) (hK:okO n.op=true):
    Cn Try.prog 36 [n.v,.int .i64 at_] w (fun v _=>v=.int .i64 (aq n at_)):=by
  refine Cn.of xq rfl rfl ?_
  refine gS (gR ?_)
  refine aa.bx rfl rfl rfl rfl (fun b2=>?_)
  refine ai ?_;refine gE (gS (gR ?_));refine ak xn xk 0 ?_;refine aj xl 0 ?_
  refine gP rfl rfl rfl rfl rfl call63 (fun w _ hS=>(by have:=bS n.op w;rw [hU,hK] at this;exact this)) ?_
  refine ad ?_
  iterate 2 refine gZ ?_
  refine aa.dc rfl rfl rfl (fun _=>xJ _) (fun b5=>?_)
  refine aa.bV rfl rfl rfl rfl xr 0 rfl rfl rfl rfl ?_
  refine ai ?_;refine gE (gS (gS (gR ?_)));refine ad ?_;refine bP aH ?_;refine gE ?_
  refine aa.cond rfl (fun hc=>by exfalso;simp at hc) (fun _=>?_)
  refine gK (gS (gS (gR ?_)));refine ak xp xm 0 ?_;refine aj xo 0 ?_;refine ak xn xk 4 ?_;refine aj xl 1 ?_;refine ad ?_
  refine gP rfl rfl rfl rfl rfl call67 (fun w _ hS=>(by exact aJ true n.x at_ w)) ?_
  refine bP aH ?_;refine ad ?_
  refine cM 23 (fun hc=>?_) fun hc=>?_
  ·
   have hb:cR (bE n.op) n.x at_=false:=by rw [hX];simpa using hc
   iterate 7 refine ba ?_
   refine aV ?_;refine gE (aa.aS rfl (gS (gR ?_)));refine ai ?_;refine gE ?_
   refine gT xq fun w' hS=>?_
   exact ⟨hS.ext,by rw [show aq n at_=3 from cW hop hb];rfl⟩
  have hox:cR (bE n.op) n.x at_=true:=by rw [hX];simpa using hc
  refine ak xp xm 1 ?_;refine aj xo 0 ?_;refine ak xn xk 5 ?_;refine aj xl 1 ?_;refine ad ?_
  refine gP rfl rfl rfl rfl rfl call67 (fun w _ hS=>(by exact aJ false n.y at_ w)) ?_
  refine bP aH ?_;refine aN ?_;refine gE ?_
  refine gC (fun hc=>?_) fun hc=>?_
  ·
   have hb:cR (bA n.op) n.y at_=false:=by rw [hY];simpa using hc
   refine gS (gR ?_);refine ai ?_;refine gE ?_
   refine gT xq fun w' hS=>?_
   exact ⟨hS.ext,by rw [show aq n at_=3 from cS hop hb];rfl⟩
  have hoy:cR (bA n.op) n.y at_=true:=by rw [hY];simpa using hc
  refine gK (gS (gS (gR ?_)));refine ak xp xm 2 ?_;refine aj xo 0 ?_;refine ad ?_;refine ak xp xm 3 ?_;refine aj xo 0 ?_;refine aN ?_;refine ad ?_
  iterate 2 refine ba ?_
  refine aV ?_;refine bP aH ?_;refine ad ?_
  iterate 3 refine ba ?_
  refine aN ?_;refine ad ?_;refine ak xp xm 5 ?_;refine aj xo 0 ?_;refine bP aH ?_;refine ad ?_;refine ak xn xk 2 ?_;refine aj xl 1 ?_;refine aL eV ?_;refine aV ?_;refine aN ?_;refine ad ?_
  refine cM 58 (fun hc=>?_) fun hc=>?_
  ·
   have hb:n.e≠0:=by simpa using hc
   iterate 8 refine ba ?_
   refine aV ?_;refine gE (aa.aS rfl (gS (gR ?_)));refine ai ?_;refine gE ?_
   refine gT xq fun w' hS=>?_
   exact ⟨hS.ext,by rw [show aq n at_=3 from (ay hop hox hoy).trans (a7 (by simp [iO,bne,h3,h17,hA,hG];omega))];rfl⟩
  have hze:n.e=0:=by simpa using hc
  refine ak xp xm 4 ?_;refine aj xo 0 ?_;refine bP aH ?_;refine ad ?_;refine ak xn xk 3 ?_;refine aj xl 1 ?_;refine aL eV ?_;refine aV ?_;refine aN ?_;refine gE ?_
  refine gC (fun hc=>?_) fun hc=>?_
  ·
   have hb:n.g≠0:=by simpa using hc
   refine gS (gR ?_);refine ai ?_;refine gE ?_
   refine gT xq fun w' hS=>?_
   exact ⟨hS.ext,by rw [show aq n at_=3 from (ay hop hox hoy).trans (a7 (by simp [iO,bne,h3,h17,hA,hG];omega))];rfl⟩
  have hzg:n.g=0:=by simpa using hc
  have hfa:(!iO n.op && n.i !=0||n.op !=17 && n.e !=0||!ez n.op && n.g !=0)=false:=by simp [iO,bne,h3,h17,hA,hG];omega
  refine gK (gS (gR ?_));refine ai ?_;refine gE (gS (gS (gR ?_)));refine ad ?_;refine ak xp xm 2 ?_;refine aj xo 0 ?_;refine ak xn xk 1 ?_;refine aj xl 1 ?_
  refine gP rfl rfl rfl rfl rfl xt (fun w _ hS=>(by exact aI false n.i 0 7 w)) ?_
  iterate 2 refine ad ?_
  refine ak xp xm 3 ?_;refine aj xo 0 ?_;refine ak xn xk 1 ?_;refine aj xl 1 ?_
  refine gP rfl rfl rfl rfl rfl xt (fun w _ hS=>(by exact aI true n.i 0 3 w)) ?_
  refine aN ?_;refine ad ?_
  refine cM 82 (fun hc=>?_) fun hc=>?_
  ·
   have hb:n.i<0∨3<n.i:=by simpa [dV] using hc
   iterate 6 refine ba ?_
   refine aV ?_;refine ad ?_
   iterate 6 refine ba ?_
   refine aV ?_;refine ad ?_
   iterate 6 refine ba ?_
   refine aV ?_;refine gE (aa.aS rfl (gS (gR ?_)));refine ai ?_;refine gE ?_
   refine gT xq fun w' hS=>?_
   exact ⟨hS.ext,by rw [show aq n at_=2 from (ay hop hox hoy).trans (eS hfa (by simp [h3,h17,hA,hG];omega))];rfl⟩
  have hrA:0≤n.i∧n.i≤3:=by simpa [dV] using hc
  refine ad ?_;refine ak xp xm 5 ?_;refine aj xo 0 ?_;refine ak xn xk 1 ?_;refine aj xl 1 ?_
  refine gP rfl rfl rfl rfl rfl xt (fun w _ hS=>(by exact aI false n.i 0 7 w)) ?_
  refine aN ?_
  iterate 2 refine ad ?_
  refine ak xp xm 5 ?_;refine aj xo 0 ?_;refine ak xn xk 2 ?_;refine aj xl 1 ?_
  refine gP rfl rfl rfl rfl rfl xt (fun w _ hS=>(by exact aI false n.e 0 7 w)) ?_
  refine aN ?_
  iterate 2 refine ad ?_
  refine ak xp xm 4 ?_;refine aj xo 0 ?_;refine ak xn xk 3 ?_;refine aj xl 1 ?_
  refine gP rfl rfl rfl rfl rfl xt (fun w _ hS=>(by exact aI false n.g 1 15 w)) ?_
  refine aN ?_;refine gE (aa.aP rfl (gK (gS (gR ?_))));refine ai ?_;refine gE ?_
  refine gT xq fun w' hS=>?_
  exact ⟨hS.ext,by rw [show aq n at_=0 from (ay hop hox hoy).trans (dM hfa (by simp [h3,h17,hA,hG];omega))];rfl⟩
set_option maxRecDepth 4000 in
theorem jJ (n:NV) (at_ fr:Int) (w:World) (hop:1≤n.op∧n.op≤21) (hX:bE n.op=true) (hY:bA n.op=false) (h3:(n.op==3)=false) (hA:gv n.op=false) (h17:(n.op==17)=false) (hG:ez n.op=true) (hU:ib n.op=.agg #[.bool true,.bool false,.bool false,.bool false,.bool true,.bool false,.int .i64 fr]) (hK:okO n.op=true):
    Cn Try.prog 36 [n.v,.int .i64 at_] w (fun v _=>v=.int .i64 (aq n at_)):=by
  refine Cn.of xq rfl rfl ?_
  refine gS (gR ?_)
  refine aa.bx rfl rfl rfl rfl (fun b2=>?_)
  refine ai ?_;refine gE (gS (gR ?_));refine ak xn xk 0 ?_;refine aj xl 0 ?_
  refine gP rfl rfl rfl rfl rfl call63 (fun w _ hS=>(by have:=bS n.op w;rw [hU,hK] at this;exact this)) ?_
  refine ad ?_
  iterate 2 refine gZ ?_
  refine aa.dc rfl rfl rfl (fun _=>xJ _) (fun b5=>?_)
  refine aa.bV rfl rfl rfl rfl xr 0 rfl rfl rfl rfl ?_
  refine ai ?_;refine gE (gS (gS (gR ?_)));refine ad ?_;refine bP aH ?_;refine gE ?_
  refine aa.cond rfl (fun hc=>by exfalso;simp at hc) (fun _=>?_)
  refine gK (gS (gS (gR ?_)));refine ak xp xm 0 ?_;refine aj xo 0 ?_;refine ak xn xk 4 ?_;refine aj xl 1 ?_;refine ad ?_
  refine gP rfl rfl rfl rfl rfl call67 (fun w _ hS=>(by exact aJ true n.x at_ w)) ?_
  refine bP aH ?_;refine ad ?_
  refine cM 23 (fun hc=>?_) fun hc=>?_
  ·
   have hb:cR (bE n.op) n.x at_=false:=by rw [hX];simpa using hc
   iterate 7 refine ba ?_
   refine aV ?_;refine gE (aa.aS rfl (gS (gR ?_)));refine ai ?_;refine gE ?_
   refine gT xq fun w' hS=>?_
   exact ⟨hS.ext,by rw [show aq n at_=3 from cW hop hb];rfl⟩
  have hox:cR (bE n.op) n.x at_=true:=by rw [hX];simpa using hc
  refine ak xp xm 1 ?_;refine aj xo 0 ?_;refine ak xn xk 5 ?_;refine aj xl 1 ?_;refine ad ?_
  refine gP rfl rfl rfl rfl rfl call67 (fun w _ hS=>(by exact aJ false n.y at_ w)) ?_
  refine bP aH ?_;refine aN ?_;refine gE ?_
  refine gC (fun hc=>?_) fun hc=>?_
  ·
   have hb:cR (bA n.op) n.y at_=false:=by rw [hY];simpa using hc
   refine gS (gR ?_);refine ai ?_;refine gE ?_
   refine gT xq fun w' hS=>?_
   exact ⟨hS.ext,by rw [show aq n at_=3 from cS hop hb];rfl⟩
  have hoy:cR (bA n.op) n.y at_=true:=by rw [hY];simpa using hc
  refine gK (gS (gS (gR ?_)));refine ak xp xm 2 ?_;refine aj xo 0 ?_;refine ad ?_;refine ak xp xm 3 ?_;refine aj xo 0 ?_;refine aN ?_;refine ad ?_;refine ak xp xm 5 ?_;refine aj xo 0 ?_;refine aN ?_;refine bP aH ?_;refine ad ?_;refine ak xn xk 1 ?_
  refine aj xl 1 ?_;refine aL eV ?_;refine aV ?_;refine ad ?_
  refine cM 48 (fun hc=>?_) fun hc=>?_
  ·
   have hb:n.i≠0:=by simpa using hc
   iterate 8 refine ba ?_
   refine aV ?_;refine ad ?_
   iterate 8 refine ba ?_
   refine aV ?_;refine gE (aa.aS rfl (gS (gR ?_)));refine ai ?_;refine gE ?_
   refine gT xq fun w' hS=>?_
   exact ⟨hS.ext,by rw [show aq n at_=3 from (ay hop hox hoy).trans (a7 (by simp [iO,bne,h3,h17,hA,hG];omega))];rfl⟩
  have hzi:n.i=0:=by simpa using hc
  refine ak xp xm 5 ?_;refine aj xo 0 ?_;refine bP aH ?_;refine ad ?_;refine ak xn xk 2 ?_;refine aj xl 1 ?_;refine aL eV ?_;refine aV ?_;refine aN ?_;refine ad ?_
  refine cM 58 (fun hc=>?_) fun hc=>?_
  ·
   have hb:n.e≠0:=by simpa using hc
   iterate 8 refine ba ?_
   refine aV ?_;refine gE (aa.aS rfl (gS (gR ?_)));refine ai ?_;refine gE ?_
   refine gT xq fun w' hS=>?_
   exact ⟨hS.ext,by rw [show aq n at_=3 from (ay hop hox hoy).trans (a7 (by simp [iO,bne,h3,h17,hA,hG];omega))];rfl⟩
  have hze:n.e=0:=by simpa using hc
  refine ak xp xm 4 ?_;refine aj xo 0 ?_
  have hfa:(!iO n.op && n.i !=0||n.op !=17 && n.e !=0||!ez n.op && n.g !=0)=false:=by simp [iO,bne,h3,h17,hA,hG];omega
  refine bP aH ?_;refine ad ?_
  iterate 3 refine ba ?_
  iterate 2 refine aN ?_
  refine gE (aa.aP rfl (gK (gS (gR ?_))));refine ai ?_;refine gE (gS (gS (gR ?_)));refine ad ?_;refine ak xp xm 2 ?_;refine aj xo 0 ?_;refine ak xn xk 1 ?_;refine aj xl 1 ?_
  refine gP rfl rfl rfl rfl rfl xt (fun w _ hS=>(by exact aI false n.i 0 7 w)) ?_
  iterate 2 refine ad ?_
  refine ak xp xm 3 ?_;refine aj xo 0 ?_;refine ak xn xk 1 ?_;refine aj xl 1 ?_
  refine gP rfl rfl rfl rfl rfl xt (fun w _ hS=>(by exact aI false n.i 0 3 w)) ?_
  refine aN ?_
  iterate 2 refine ad ?_
  refine ak xp xm 5 ?_;refine aj xo 0 ?_;refine ak xn xk 1 ?_;refine aj xl 1 ?_
  refine gP rfl rfl rfl rfl rfl xt (fun w _ hS=>(by exact aI false n.i 0 7 w)) ?_
  refine aN ?_
  iterate 2 refine ad ?_
  refine ak xp xm 5 ?_;refine aj xo 0 ?_;refine ak xn xk 2 ?_;refine aj xl 1 ?_
  refine gP rfl rfl rfl rfl rfl xt (fun w _ hS=>(by exact aI false n.e 0 7 w)) ?_
  refine aN ?_
  iterate 2 refine ad ?_
  refine ak xp xm 4 ?_;refine aj xo 0 ?_;refine ak xn xk 3 ?_;refine aj xl 1 ?_
  refine gP rfl rfl rfl rfl rfl xt (fun w _ hS=>(by exact aI true n.g 1 15 w)) ?_
  refine aN ?_;refine gE ?_
  refine gC (fun hc=>?_) fun hc=>?_
  ·
   have hb:n.g<1∨15<n.g:=by simpa [dV] using hc
   refine gS (gR ?_);refine ai ?_;refine gE ?_
   refine gT xq fun w' hS=>?_
   exact ⟨hS.ext,by rw [show aq n at_=2 from (ay hop hox hoy).trans (eS hfa (by simp [h3,h17,hA,hG];omega))];rfl⟩
  have hrG:1≤n.g∧n.g≤15:=by simpa [dV] using hc
  refine gK (gS (gR ?_));refine ai ?_;refine gE ?_
  refine gT xq fun w' hS=>?_
  exact ⟨hS.ext,by rw [show aq n at_=0 from (ay hop hox hoy).trans (dM hfa (by simp [h3,h17,hA,hG];omega))];rfl⟩
set_option maxRecDepth 4000 in
theorem nA (n:NV) (at_ fr:Int) (w:World) (hop:1≤n.op∧n.op≤21) (hX:bE n.op=true) (hY:bA n.op=true) (h3:(n.op==3)=false) (hA:gv n.op=false) (h17:(n.op==17)=false) (hG:ez n.op=true) (hU:ib n.op=.agg #[.bool true,.bool true,.bool false,.bool false,.bool true,.bool false,.int .i64 fr]) (hK:okO n.op=true):
    Cn Try.prog 36 [n.v,.int .i64 at_] w (fun v _=>v=.int .i64 (aq n at_)):=by
  refine Cn.of xq rfl rfl ?_
  refine gS (gR ?_)
  refine aa.bx rfl rfl rfl rfl (fun b2=>?_)
  refine ai ?_;refine gE (gS (gR ?_));refine ak xn xk 0 ?_;refine aj xl 0 ?_
  refine gP rfl rfl rfl rfl rfl call63 (fun w _ hS=>(by have:=bS n.op w;rw [hU,hK] at this;exact this)) ?_
  refine ad ?_
  iterate 2 refine gZ ?_
  refine aa.dc rfl rfl rfl (fun _=>xJ _) (fun b5=>?_)
  refine aa.bV rfl rfl rfl rfl xr 0 rfl rfl rfl rfl ?_
  refine ai ?_;refine gE (gS (gS (gR ?_)));refine ad ?_;refine bP aH ?_;refine gE ?_
  refine aa.cond rfl (fun hc=>by exfalso;simp at hc) (fun _=>?_)
  refine gK (gS (gS (gR ?_)));refine ak xp xm 0 ?_;refine aj xo 0 ?_;refine ak xn xk 4 ?_;refine aj xl 1 ?_;refine ad ?_
  refine gP rfl rfl rfl rfl rfl call67 (fun w _ hS=>(by exact aJ true n.x at_ w)) ?_
  refine bP aH ?_;refine ad ?_
  refine cM 23 (fun hc=>?_) fun hc=>?_
  ·
   have hb:cR (bE n.op) n.x at_=false:=by rw [hX];simpa using hc
   iterate 7 refine ba ?_
   refine aV ?_;refine gE (aa.aS rfl (gS (gR ?_)));refine ai ?_;refine gE ?_
   refine gT xq fun w' hS=>?_
   exact ⟨hS.ext,by rw [show aq n at_=3 from cW hop hb];rfl⟩
  have hox:cR (bE n.op) n.x at_=true:=by rw [hX];simpa using hc
  refine ak xp xm 1 ?_;refine aj xo 0 ?_;refine ak xn xk 5 ?_;refine aj xl 1 ?_;refine ad ?_
  refine gP rfl rfl rfl rfl rfl call67 (fun w _ hS=>(by exact aJ true n.y at_ w)) ?_
  refine bP aH ?_;refine aN ?_;refine gE ?_
  refine gC (fun hc=>?_) fun hc=>?_
  ·
   have hb:cR (bA n.op) n.y at_=false:=by rw [hY];simpa using hc
   refine gS (gR ?_);refine ai ?_;refine gE ?_
   refine gT xq fun w' hS=>?_
   exact ⟨hS.ext,by rw [show aq n at_=3 from cS hop hb];rfl⟩
  have hoy:cR (bA n.op) n.y at_=true:=by rw [hY];simpa using hc
  refine gK (gS (gS (gR ?_)));refine ak xp xm 2 ?_;refine aj xo 0 ?_;refine ad ?_;refine ak xp xm 3 ?_;refine aj xo 0 ?_;refine aN ?_;refine ad ?_;refine ak xp xm 5 ?_;refine aj xo 0 ?_;refine aN ?_;refine bP aH ?_;refine ad ?_;refine ak xn xk 1 ?_
  refine aj xl 1 ?_;refine aL eV ?_;refine aV ?_;refine ad ?_
  refine cM 48 (fun hc=>?_) fun hc=>?_
  ·
   have hb:n.i≠0:=by simpa using hc
   iterate 8 refine ba ?_
   refine aV ?_;refine ad ?_
   iterate 8 refine ba ?_
   refine aV ?_;refine gE (aa.aS rfl (gS (gR ?_)));refine ai ?_;refine gE ?_
   refine gT xq fun w' hS=>?_
   exact ⟨hS.ext,by rw [show aq n at_=3 from (ay hop hox hoy).trans (a7 (by simp [iO,bne,h3,h17,hA,hG];omega))];rfl⟩
  have hzi:n.i=0:=by simpa using hc
  refine ak xp xm 5 ?_;refine aj xo 0 ?_;refine bP aH ?_;refine ad ?_;refine ak xn xk 2 ?_;refine aj xl 1 ?_;refine aL eV ?_;refine aV ?_;refine aN ?_;refine ad ?_
  refine cM 58 (fun hc=>?_) fun hc=>?_
  ·
   have hb:n.e≠0:=by simpa using hc
   iterate 8 refine ba ?_
   refine aV ?_;refine gE (aa.aS rfl (gS (gR ?_)));refine ai ?_;refine gE ?_
   refine gT xq fun w' hS=>?_
   exact ⟨hS.ext,by rw [show aq n at_=3 from (ay hop hox hoy).trans (a7 (by simp [iO,bne,h3,h17,hA,hG];omega))];rfl⟩
  have hze:n.e=0:=by simpa using hc
  refine ak xp xm 4 ?_;refine aj xo 0 ?_
  have hfa:(!iO n.op && n.i !=0||n.op !=17 && n.e !=0||!ez n.op && n.g !=0)=false:=by simp [iO,bne,h3,h17,hA,hG];omega
  refine bP aH ?_;refine ad ?_
  iterate 3 refine ba ?_
  iterate 2 refine aN ?_
  refine gE (aa.aP rfl (gK (gS (gR ?_))));refine ai ?_;refine gE (gS (gS (gR ?_)));refine ad ?_;refine ak xp xm 2 ?_;refine aj xo 0 ?_;refine ak xn xk 1 ?_;refine aj xl 1 ?_
  refine gP rfl rfl rfl rfl rfl xt (fun w _ hS=>(by exact aI false n.i 0 7 w)) ?_
  iterate 2 refine ad ?_
  refine ak xp xm 3 ?_;refine aj xo 0 ?_;refine ak xn xk 1 ?_;refine aj xl 1 ?_
  refine gP rfl rfl rfl rfl rfl xt (fun w _ hS=>(by exact aI false n.i 0 3 w)) ?_
  refine aN ?_
  iterate 2 refine ad ?_
  refine ak xp xm 5 ?_;refine aj xo 0 ?_;refine ak xn xk 1 ?_;refine aj xl 1 ?_
  refine gP rfl rfl rfl rfl rfl xt (fun w _ hS=>(by exact aI false n.i 0 7 w)) ?_
  refine aN ?_
  iterate 2 refine ad ?_
  refine ak xp xm 5 ?_;refine aj xo 0 ?_;refine ak xn xk 2 ?_;refine aj xl 1 ?_
  refine gP rfl rfl rfl rfl rfl xt (fun w _ hS=>(by exact aI false n.e 0 7 w)) ?_
  refine aN ?_
  iterate 2 refine ad ?_
  refine ak xp xm 4 ?_;refine aj xo 0 ?_;refine ak xn xk 3 ?_;refine aj xl 1 ?_
  refine gP rfl rfl rfl rfl rfl xt (fun w _ hS=>(by exact aI true n.g 1 15 w)) ?_
  refine aN ?_;refine gE ?_
  refine gC (fun hc=>?_) fun hc=>?_
  ·
   have hb:n.g<1∨15<n.g:=by simpa [dV] using hc
   refine gS (gR ?_);refine ai ?_;refine gE ?_
   refine gT xq fun w' hS=>?_
   exact ⟨hS.ext,by rw [show aq n at_=2 from (ay hop hox hoy).trans (eS hfa (by simp [h3,h17,hA,hG];omega))];rfl⟩
  have hrG:1≤n.g∧n.g≤15:=by simpa [dV] using hc
  refine gK (gS (gR ?_));refine ai ?_;refine gE ?_
  refine gT xq fun w' hS=>?_
  exact ⟨hS.ext,by rw [show aq n at_=0 from (ay hop hox hoy).trans (dM hfa (by simp [h3,h17,hA,hG];omega))];rfl⟩
set_option maxRecDepth 4000 in
theorem nC (n:NV) (at_ fr:Int) (w:World) (hop:1≤n.op∧n.op≤21) (hX:bE n.op=true) (hY:bA n.op=true) (h3:(n.op==3)=false) (hA:gv n.op=true) (h17:(n.op==17)=false) (hG:ez n.op=false) (hU:ib n.op=.agg #[.bool true,.bool true,.bool false,.bool true,.bool false,.bool false,.int .i64 fr]) (hK:okO n.op=true):
    Cn Try.prog 36 [n.v,.int .i64 at_] w (fun v _=>v=.int .i64 (aq n at_)):=by
  refine Cn.of xq rfl rfl ?_
  refine gS (gR ?_)
  refine aa.bx rfl rfl rfl rfl (fun b2=>?_)
  refine ai ?_;refine gE (gS (gR ?_));refine ak xn xk 0 ?_;refine aj xl 0 ?_
  refine gP rfl rfl rfl rfl rfl call63 (fun w _ hS=>(by have:=bS n.op w;rw [hU,hK] at this;exact this)) ?_
  refine ad ?_
  iterate 2 refine gZ ?_
  refine aa.dc rfl rfl rfl (fun _=>xJ _) (fun b5=>?_)
  refine aa.bV rfl rfl rfl rfl xr 0 rfl rfl rfl rfl ?_
  refine ai ?_;refine gE (gS (gS (gR ?_)));refine ad ?_;refine bP aH ?_;refine gE ?_
  refine aa.cond rfl (fun hc=>by exfalso;simp at hc) (fun _=>?_)
  refine gK (gS (gS (gR ?_)));refine ak xp xm 0 ?_;refine aj xo 0 ?_;refine ak xn xk 4 ?_;refine aj xl 1 ?_;refine ad ?_
  refine gP rfl rfl rfl rfl rfl call67 (fun w _ hS=>(by exact aJ true n.x at_ w)) ?_
  refine bP aH ?_;refine ad ?_
  refine cM 23 (fun hc=>?_) fun hc=>?_
  ·
   have hb:cR (bE n.op) n.x at_=false:=by rw [hX];simpa using hc
   iterate 7 refine ba ?_
   refine aV ?_;refine gE (aa.aS rfl (gS (gR ?_)));refine ai ?_;refine gE ?_
   refine gT xq fun w' hS=>?_
   exact ⟨hS.ext,by rw [show aq n at_=3 from cW hop hb];rfl⟩
  have hox:cR (bE n.op) n.x at_=true:=by rw [hX];simpa using hc
  refine ak xp xm 1 ?_;refine aj xo 0 ?_;refine ak xn xk 5 ?_;refine aj xl 1 ?_;refine ad ?_
  refine gP rfl rfl rfl rfl rfl call67 (fun w _ hS=>(by exact aJ true n.y at_ w)) ?_
  refine bP aH ?_;refine aN ?_;refine gE ?_
  refine gC (fun hc=>?_) fun hc=>?_
  ·
   have hb:cR (bA n.op) n.y at_=false:=by rw [hY];simpa using hc
   refine gS (gR ?_);refine ai ?_;refine gE ?_
   refine gT xq fun w' hS=>?_
   exact ⟨hS.ext,by rw [show aq n at_=3 from cS hop hb];rfl⟩
  have hoy:cR (bA n.op) n.y at_=true:=by rw [hY];simpa using hc
  refine gK (gS (gS (gR ?_)));refine ak xp xm 2 ?_;refine aj xo 0 ?_;refine ad ?_;refine ak xp xm 3 ?_;refine aj xo 0 ?_;refine aN ?_;refine ad ?_
  iterate 2 refine ba ?_
  refine aV ?_;refine bP aH ?_;refine ad ?_
  iterate 3 refine ba ?_
  refine aN ?_;refine ad ?_;refine ak xp xm 5 ?_;refine aj xo 0 ?_;refine bP aH ?_;refine ad ?_;refine ak xn xk 2 ?_;refine aj xl 1 ?_;refine aL eV ?_;refine aV ?_;refine aN ?_;refine ad ?_
  refine cM 58 (fun hc=>?_) fun hc=>?_
  ·
   have hb:n.e≠0:=by simpa using hc
   iterate 8 refine ba ?_
   refine aV ?_;refine gE (aa.aS rfl (gS (gR ?_)));refine ai ?_;refine gE ?_
   refine gT xq fun w' hS=>?_
   exact ⟨hS.ext,by rw [show aq n at_=3 from (ay hop hox hoy).trans (a7 (by simp [iO,bne,h3,h17,hA,hG];omega))];rfl⟩
  have hze:n.e=0:=by simpa using hc
  refine ak xp xm 4 ?_;refine aj xo 0 ?_;refine bP aH ?_;refine ad ?_;refine ak xn xk 3 ?_;refine aj xl 1 ?_;refine aL eV ?_;refine aV ?_;refine aN ?_;refine gE ?_
  refine gC (fun hc=>?_) fun hc=>?_
  ·
   have hb:n.g≠0:=by simpa using hc
   refine gS (gR ?_);refine ai ?_;refine gE ?_
   refine gT xq fun w' hS=>?_
   exact ⟨hS.ext,by rw [show aq n at_=3 from (ay hop hox hoy).trans (a7 (by simp [iO,bne,h3,h17,hA,hG];omega))];rfl⟩
  have hzg:n.g=0:=by simpa using hc
  have hfa:(!iO n.op && n.i !=0||n.op !=17 && n.e !=0||!ez n.op && n.g !=0)=false:=by simp [iO,bne,h3,h17,hA,hG];omega
  refine gK (gS (gR ?_));refine ai ?_;refine gE (gS (gS (gR ?_)));refine ad ?_;refine ak xp xm 2 ?_;refine aj xo 0 ?_;refine ak xn xk 1 ?_;refine aj xl 1 ?_
  refine gP rfl rfl rfl rfl rfl xt (fun w _ hS=>(by exact aI false n.i 0 7 w)) ?_
  iterate 2 refine ad ?_
  refine ak xp xm 3 ?_;refine aj xo 0 ?_;refine ak xn xk 1 ?_;refine aj xl 1 ?_
  refine gP rfl rfl rfl rfl rfl xt (fun w _ hS=>(by exact aI true n.i 0 3 w)) ?_
  refine aN ?_;refine ad ?_
  refine cM 82 (fun hc=>?_) fun hc=>?_
  ·
   have hb:n.i<0∨3<n.i:=by simpa [dV] using hc
   iterate 6 refine ba ?_
   refine aV ?_;refine ad ?_
   iterate 6 refine ba ?_
   refine aV ?_;refine ad ?_
   iterate 6 refine ba ?_
   refine aV ?_;refine gE (aa.aS rfl (gS (gR ?_)));refine ai ?_;refine gE ?_
   refine gT xq fun w' hS=>?_
   exact ⟨hS.ext,by rw [show aq n at_=2 from (ay hop hox hoy).trans (eS hfa (by simp [h3,h17,hA,hG];omega))];rfl⟩
  have hrA:0≤n.i∧n.i≤3:=by simpa [dV] using hc
  refine ad ?_;refine ak xp xm 5 ?_;refine aj xo 0 ?_;refine ak xn xk 1 ?_;refine aj xl 1 ?_
  refine gP rfl rfl rfl rfl rfl xt (fun w _ hS=>(by exact aI false n.i 0 7 w)) ?_
  refine aN ?_
  iterate 2 refine ad ?_
  refine ak xp xm 5 ?_;refine aj xo 0 ?_;refine ak xn xk 2 ?_;refine aj xl 1 ?_
  refine gP rfl rfl rfl rfl rfl xt (fun w _ hS=>(by exact aI false n.e 0 7 w)) ?_
  refine aN ?_
  iterate 2 refine ad ?_
  refine ak xp xm 4 ?_;refine aj xo 0 ?_;refine ak xn xk 3 ?_;refine aj xl 1 ?_
  refine gP rfl rfl rfl rfl rfl xt (fun w _ hS=>(by exact aI false n.g 1 15 w)) ?_
  refine aN ?_;refine gE (aa.aP rfl (gK (gS (gR ?_))));refine ai ?_;refine gE ?_
  refine gT xq fun w' hS=>?_
  exact ⟨hS.ext,by rw [show aq n at_=0 from (ay hop hox hoy).trans (dM hfa (by simp [h3,h17,hA,hG];omega))];rfl⟩
set_option maxRecDepth 4000 in
theorem nD (n:NV) (at_ fr:Int) (w:World) (hop:1≤n.op∧n.op≤21) (hX:bE n.op=true) (hY:bA n.op=false) (h3:(n.op==3)=false) (hA:gv n.op=false) (h17:(n.op==17)=true) (hG:ez n.op=false) (hU:ib n.op=.agg #[.bool true,.bool false,.bool false,.bool false,.bool false,.bool true,.int .i64 fr]) (hK:okO n.op=true):
    Cn Try.prog 36 [n.v,.int .i64 at_] w (fun v _=>v=.int .i64 (aq n at_)):=by
  refine Cn.of xq rfl rfl ?_
  refine gS (gR ?_)
  refine aa.bx rfl rfl rfl rfl (fun b2=>?_)
  refine ai ?_;refine gE (gS (gR ?_));refine ak xn xk 0 ?_;refine aj xl 0 ?_
  refine gP rfl rfl rfl rfl rfl call63 (fun w _ hS=>(by have:=bS n.op w;rw [hU,hK] at this;exact this)) ?_
  refine ad ?_
  iterate 2 refine gZ ?_
  refine aa.dc rfl rfl rfl (fun _=>xJ _) (fun b5=>?_)
  refine aa.bV rfl rfl rfl rfl xr 0 rfl rfl rfl rfl ?_
  refine ai ?_;refine gE (gS (gS (gR ?_)));refine ad ?_;refine bP aH ?_;refine gE ?_
  refine aa.cond rfl (fun hc=>by exfalso;simp at hc) (fun _=>?_)
  refine gK (gS (gS (gR ?_)));refine ak xp xm 0 ?_;refine aj xo 0 ?_;refine ak xn xk 4 ?_;refine aj xl 1 ?_;refine ad ?_
  refine gP rfl rfl rfl rfl rfl call67 (fun w _ hS=>(by exact aJ true n.x at_ w)) ?_
  refine bP aH ?_;refine ad ?_
  refine cM 23 (fun hc=>?_) fun hc=>?_
  ·
   have hb:cR (bE n.op) n.x at_=false:=by rw [hX];simpa using hc
   iterate 7 refine ba ?_
   refine aV ?_;refine gE (aa.aS rfl (gS (gR ?_)));refine ai ?_;refine gE ?_
   refine gT xq fun w' hS=>?_
   exact ⟨hS.ext,by rw [show aq n at_=3 from cW hop hb];rfl⟩
  have hox:cR (bE n.op) n.x at_=true:=by rw [hX];simpa using hc
  refine ak xp xm 1 ?_;refine aj xo 0 ?_;refine ak xn xk 5 ?_;refine aj xl 1 ?_;refine ad ?_
  refine gP rfl rfl rfl rfl rfl call67 (fun w _ hS=>(by exact aJ false n.y at_ w)) ?_
  refine bP aH ?_;refine aN ?_;refine gE ?_
  refine gC (fun hc=>?_) fun hc=>?_
  ·
   have hb:cR (bA n.op) n.y at_=false:=by rw [hY];simpa using hc
   refine gS (gR ?_);refine ai ?_;refine gE ?_
   refine gT xq fun w' hS=>?_
   exact ⟨hS.ext,by rw [show aq n at_=3 from cS hop hb];rfl⟩
  have hoy:cR (bA n.op) n.y at_=true:=by rw [hY];simpa using hc
  refine gK (gS (gS (gR ?_)));refine ak xp xm 2 ?_;refine aj xo 0 ?_;refine ad ?_;refine ak xp xm 3 ?_;refine aj xo 0 ?_;refine aN ?_;refine ad ?_;refine ak xp xm 5 ?_;refine aj xo 0 ?_;refine aN ?_;refine bP aH ?_;refine ad ?_
  iterate 3 refine ba ?_
  refine aN ?_;refine ad ?_;refine ak xp xm 5 ?_;refine aj xo 0 ?_;refine bP aH ?_;refine ad ?_
  iterate 3 refine ba ?_
  iterate 2 refine aN ?_
  refine ad ?_;refine ak xp xm 4 ?_;refine aj xo 0 ?_;refine bP aH ?_;refine ad ?_;refine ak xn xk 3 ?_;refine aj xl 1 ?_;refine aL eV ?_;refine aV ?_;refine aN ?_;refine gE ?_
  refine gC (fun hc=>?_) fun hc=>?_
  ·
   have hb:n.g≠0:=by simpa using hc
   refine gS (gR ?_);refine ai ?_;refine gE ?_
   refine gT xq fun w' hS=>?_
   exact ⟨hS.ext,by rw [show aq n at_=3 from (ay hop hox hoy).trans (a7 (by simp [iO,bne,h3,h17,hA,hG];omega))];rfl⟩
  have hzg:n.g=0:=by simpa using hc
  have hfa:(!iO n.op && n.i !=0||n.op !=17 && n.e !=0||!ez n.op && n.g !=0)=false:=by simp [iO,bne,h3,h17,hA,hG];omega
  refine gK (gS (gR ?_));refine ai ?_;refine gE (gS (gS (gR ?_)));refine ad ?_;refine ak xp xm 2 ?_;refine aj xo 0 ?_;refine ak xn xk 1 ?_;refine aj xl 1 ?_
  refine gP rfl rfl rfl rfl rfl xt (fun w _ hS=>(by exact aI false n.i 0 7 w)) ?_
  iterate 2 refine ad ?_
  refine ak xp xm 3 ?_;refine aj xo 0 ?_;refine ak xn xk 1 ?_;refine aj xl 1 ?_
  refine gP rfl rfl rfl rfl rfl xt (fun w _ hS=>(by exact aI false n.i 0 3 w)) ?_
  refine aN ?_
  iterate 2 refine ad ?_
  refine ak xp xm 5 ?_;refine aj xo 0 ?_;refine ak xn xk 1 ?_;refine aj xl 1 ?_
  refine gP rfl rfl rfl rfl rfl xt (fun w _ hS=>(by exact aI true n.i 0 7 w)) ?_
  refine aN ?_;refine ad ?_
  refine cM 90 (fun hc=>?_) fun hc=>?_
  ·
   have hb:n.i<0∨7<n.i:=by simpa [dV] using hc
   iterate 6 refine ba ?_
   refine aV ?_;refine ad ?_
   iterate 6 refine ba ?_
   refine aV ?_;refine gE (aa.aS rfl (gS (gR ?_)));refine ai ?_;refine gE ?_
   refine gT xq fun w' hS=>?_
   exact ⟨hS.ext,by rw [show aq n at_=2 from (ay hop hox hoy).trans (eS hfa (by simp [h3,h17,hA,hG];omega))];rfl⟩
  have hr17:0≤n.i∧n.i≤7:=by simpa [dV] using hc
  refine ad ?_;refine ak xp xm 5 ?_;refine aj xo 0 ?_;refine ak xn xk 2 ?_;refine aj xl 1 ?_
  refine gP rfl rfl rfl rfl rfl xt (fun w _ hS=>(by exact aI true n.e 0 7 w)) ?_
  refine aN ?_;refine ad ?_
  refine cM 98 (fun hc=>?_) fun hc=>?_
  ·
   have hb:n.e<0∨7<n.e:=by simpa [dV] using hc
   iterate 6 refine ba ?_
   refine aV ?_;refine gE (aa.aS rfl (gS (gR ?_)));refine ai ?_;refine gE ?_
   refine gT xq fun w' hS=>?_
   exact ⟨hS.ext,by rw [show aq n at_=2 from (ay hop hox hoy).trans (eS hfa (by simp [h3,h17,hA,hG];omega))];rfl⟩
  have hrE:0≤n.e∧n.e≤7:=by simpa [dV] using hc
  refine ad ?_;refine ak xp xm 4 ?_;refine aj xo 0 ?_;refine ak xn xk 3 ?_;refine aj xl 1 ?_
  refine gP rfl rfl rfl rfl rfl xt (fun w _ hS=>(by exact aI false n.g 1 15 w)) ?_
  refine aN ?_;refine gE (aa.aP rfl (gK (gS (gR ?_))));refine ai ?_;refine gE ?_
  refine gT xq fun w' hS=>?_
  exact ⟨hS.ext,by rw [show aq n at_=0 from (ay hop hox hoy).trans (dM hfa (by simp [h3,h17,hA,hG];omega))];rfl⟩
theorem nB (n:NV) (at_:Int) (w:World):Cn Try.prog 36 [n.v,.int .i64 at_] w (fun v _=>v=.int .i64 (aq n at_)):=by
 by_cases hop:1≤n.op∧n.op≤21
 ·obtain ⟨op,i,e,g,x,y⟩:=n
  dsimp only at hop
  have hcs:op=1∨op=2∨op=3∨op=4∨op=5∨op=6∨op=7∨op=8∨op=9∨op=10∨op=11∨op=12∨op=13∨op=14∨op=15∨op=16∨op=17∨op=18∨op=19∨op=20∨op=21:=by omega
  rcases hcs with rfl|rfl|rfl|rfl|rfl|rfl|rfl|rfl|rfl|rfl|rfl|rfl|rfl|rfl|rfl|rfl|rfl|rfl|rfl|rfl|rfl
  ·exact iz ⟨1,i,e,g,x,y⟩ at_ _ w hop rfl rfl rfl rfl rfl rfl rfl rfl
  ·exact iz ⟨2,i,e,g,x,y⟩ at_ _ w hop rfl rfl rfl rfl rfl rfl rfl rfl
  ·exact mi ⟨3,i,e,g,x,y⟩ at_ _ w hop rfl rfl rfl rfl rfl rfl rfl rfl
  ·exact gJ ⟨4,i,e,g,x,y⟩ at_ _ w hop rfl rfl rfl rfl rfl rfl rfl rfl
  ·exact c8 ⟨5,i,e,g,x,y⟩ at_ _ w hop rfl rfl rfl rfl rfl rfl rfl rfl
  ·exact c8 ⟨6,i,e,g,x,y⟩ at_ _ w hop rfl rfl rfl rfl rfl rfl rfl rfl
  ·exact c8 ⟨7,i,e,g,x,y⟩ at_ _ w hop rfl rfl rfl rfl rfl rfl rfl rfl
  ·exact c8 ⟨8,i,e,g,x,y⟩ at_ _ w hop rfl rfl rfl rfl rfl rfl rfl rfl
  ·exact fG ⟨9,i,e,g,x,y⟩ at_ _ w hop rfl rfl rfl rfl rfl rfl rfl rfl
  ·exact fG ⟨10,i,e,g,x,y⟩ at_ _ w hop rfl rfl rfl rfl rfl rfl rfl rfl
  ·exact jJ ⟨11,i,e,g,x,y⟩ at_ _ w hop rfl rfl rfl rfl rfl rfl rfl rfl
  ·exact jJ ⟨12,i,e,g,x,y⟩ at_ _ w hop rfl rfl rfl rfl rfl rfl rfl rfl
  ·exact nA ⟨13,i,e,g,x,y⟩ at_ _ w hop rfl rfl rfl rfl rfl rfl rfl rfl
  ·exact nC ⟨14,i,e,g,x,y⟩ at_ _ w hop rfl rfl rfl rfl rfl rfl rfl rfl
  ·exact fG ⟨15,i,e,g,x,y⟩ at_ _ w hop rfl rfl rfl rfl rfl rfl rfl rfl
  ·exact c8 ⟨16,i,e,g,x,y⟩ at_ _ w hop rfl rfl rfl rfl rfl rfl rfl rfl
  ·exact nD ⟨17,i,e,g,x,y⟩ at_ _ w hop rfl rfl rfl rfl rfl rfl rfl rfl
  ·exact gJ ⟨18,i,e,g,x,y⟩ at_ _ w hop rfl rfl rfl rfl rfl rfl rfl rfl
  ·exact c8 ⟨19,i,e,g,x,y⟩ at_ _ w hop rfl rfl rfl rfl rfl rfl rfl rfl
  ·exact gJ ⟨20,i,e,g,x,y⟩ at_ _ w hop rfl rfl rfl rfl rfl rfl rfl rfl
  exact c8 ⟨21,i,e,g,x,y⟩ at_ _ w hop rfl rfl rfl rfl rfl rfl rfl rfl
 refine Cn.of xq rfl rfl ?_
 have hK:=lF hop
 refine gS (gR ?_)
 refine aa.bx rfl rfl rfl rfl (fun b2=>?_)
 refine ai ?_;refine gE (gS (gR ?_));refine ak xn xk 0 ?_;refine aj xl 0 ?_
 refine gP rfl rfl rfl rfl rfl call63 (fun w _ hS=>(by have:=bS n.op w;rw [hK] at this;exact this)) ?_
 refine ad ?_
 iterate 2 refine gZ ?_
 refine aa.dc rfl rfl rfl (fun _=>xJ _) (fun b5=>?_)
 refine aa.bV rfl rfl rfl rfl xr 0 rfl rfl rfl rfl ?_
 refine ai ?_;refine gE (gS (gS (gR ?_)));refine ad ?_;refine bP aH ?_;refine gE ?_
 refine aa.cond rfl (fun _=>?_) (fun hc=>by exfalso;simp at hc)
 refine gS (gR ?_);refine ai ?_;refine gE ?_
 refine gT xq fun w' hS=>?_
 exact ⟨hS.ext,by rw [nE hop];rfl⟩
theorem ft (a:Option Addr) (ca:Nat) (f:List NV) (w:World) (ha:FA w a f) (hl:f.length≤maxLen):Cn Try.prog 18 [.slice a f.length ca] w (fun v _=>v=.int .i64 (bj f)):=by
  unfold maxLen at hl
  refine Cn.of func18 rfl rfl ?_
  refine gS (gR ?_);refine ai ?_;refine gE (gS (gS (gR ?_)));refine ad ?_;refine cq xx ?_;refine aL dU ?_;refine gE ?_
  refine gC (fun hc=>?_) fun hc=>?_
  ·
   have h1:f.length=0:=by simpa using hc
   refine gS (gR ?_);refine ai ?_;refine gE ?_
   refine gT func18 fun w' hS=>?_
   exact ⟨hS.ext,by rw [bj,if_pos h1];rfl⟩
  have h1:¬f.length=0:=by simpa using hc
  refine gK (gS (gS (gR ?_)));refine ad ?_;refine cq xx ?_;refine aL qz ?_;refine gE ?_
  refine gC (fun hc=>?_) fun hc=>?_
  ·
   have h2:200<f.length:=by simp at hc;omega
   refine gS (gR ?_);refine ai ?_;refine gE ?_
   refine gT func18 fun w' hS=>?_
   exact ⟨hS.ext,by rw [bj,if_neg h1,if_pos h2];rfl⟩
  have h2:¬200<f.length:=by simp at hc;omega
  refine gK (gS (gS (gR ?_)));refine ad ?_;refine cq xx ?_;refine ad ?_;refine gE (gB ?_)
  refine aa.loop (σ:=Nat) (fun k=>[(0,.slice a f.length ca),(12,.slice a f.length ca),(13,.int .i64 f.length),(14,.int .i64 k)]) (fun _=>[]) (fun k=>k≤f.length∧bH (mz f) k=0) (fun k=>f.length - k) 0 ⟨Nat.zero_le _,rfl⟩ ⟨rfl,rfl,rfl,rfl,trivial⟩ .slnil (fun k hI IH=>?_)
  obtain ⟨hk,hz⟩:=hI
  refine gS (gR ?_);refine aL db ?_;refine gE (gS ?_)
  refine gC (fun hc=>?_) fun hc=>?_
  ·
   have hlt:k<f.length:=by simpa using hc
   have he:mz f k=aq f[k] k:=by simp [mz,List.getD_eq_getElem?_getD,hlt]
   refine gK (gS (gB (gS (gR ?_))));refine ad ?_
   refine aa.v (ah.fo rfl rfl rfl rfl rfl xx xu ⟨_,(ha).at_⟩ (aO (enc:=NV.cells) (sz:=6) (fun _=>rfl)) (by decide) (k) ⟨rfl,hlt⟩) ?_
   refine aa.v (ah.ko (cs:=NV.cells f[k]) rfl rfl rfl rfl xE xu (fun w _ hS=>Sl.many (enc:=NV.cells) (sz:=6) (ha.a8 hS.ext).at_ (fun _=>rfl) hlt)) ?_
   refine aa.dc rfl rfl rfl (fun _=>xO _) (fun b4=>?_)
   refine ai ?_
   refine aa.bV rfl rfl rfl rfl xu 0 rfl rfl rfl rfl ?_
   refine gE (gS (gR ?_))
   refine aa.v (ah.eR rfl rfl rfl rfl xE 0 rfl xu rfl) ?_
   refine ad ?_
   refine gP rfl rfl rfl rfl rfl call36 (fun w _ hS=>(by exact nB f[k] k w)) ?_
   refine ai ?_;refine gE (gS (gR ?_));refine ad ?_;refine aL eV ?_;refine gE ?_
   refine gC (fun hc=>?_) fun hc=>?_
   ·
    have h3:aq f[k] k≠0:=by simpa using hc
    refine gS (gR ?_);refine ad ?_;refine ai ?_;refine gE ?_
    refine gT func18 fun w' hS=>?_
    exact ⟨hS.ext,by rw [bj,if_neg h1,if_neg h2,kX hz (by rw [he];exact h3) hlt,he];rfl⟩
   have h3:aq f[k] k=0:=by simpa using hc
   refine gK (cu (gR ?_));refine aC rfl rfl rfl rfl (aK (by omega)) ?_;refine ad ?_;refine gE ?_
   exact IH (k+1) _ _ ⟨hlt,by rw [bH,if_neg (by simp [hz]),he];exact h3⟩ (by omega) ⟨rfl,rfl,rfl,rfl,trivial⟩ (.cons _ .slnil)
  have hge:¬k<f.length:=by simpa using hc
  obtain rfl:k=f.length:=by omega
  refine aa.exit rfl (gS (gR ?_))
  refine ai ?_;refine gE ?_
  refine gT func18 fun w' hS=>?_
  exact ⟨hS.ext,by rw [bj,if_neg h1,if_neg h2,hz];rfl⟩
end Go.Proofs.Ytkpknmgofmohbaa
