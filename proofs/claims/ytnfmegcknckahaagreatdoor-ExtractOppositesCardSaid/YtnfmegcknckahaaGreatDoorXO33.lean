/- What calls of the program return, under the conditions that each theorem states. -/
import Derived.Test.YtnfmegcknckahaaGreatDoorXO31
import Derived.Test.YtnfmegcknckahaaGreatDoorXO32
import Derived.Test.YtnfmegcknckahaaGreatDoorXO03
import Derived.Test.YtnfmegcknckahaaGreatDoorXO04
import Derived.Test.YtnfmegcknckahaaGreatDoorXO20
namespace Go.Proofs.YtnfmegcknckahaaGreatDoor
open Go.RowKit Go.Proofs.Wit Tryz
theorem l6 (bc:Nat) (l:Int) (A:Option Addr) (nA cA:Nat) (B:Option Addr) (nB cB:Nat) (O:Option Addr) (cO:Nat) (os:List Int) (node other:Int) (w:World) (hb:w.heap[bc]?=some (.cells (oM l A nA cA B nB cB O os.length cO) 116 (0,0))) (hO:jU w O os):
    Cn Tryz.prog 144 [.pointer (some ⟨bc,0,none⟩),.int .i64 node,.int .i64 other] w (fun v _=>v=.bool (kJ os node other)):=by
  have HB:∀{w':World} {j:Nat} {u:Value},Ex [] w w'→(oM l A nA cA B nB cB O os.length cO)[j]?=some u→w'.cell? ⟨bc,j,none⟩=some u:=fun e h=>Ex.cell e hb h
  refine Cn.of func144 rfl rfl ?_
  refine gS (gR ?_);refine ai ?_;refine gE (gS (gR ?_));refine ah ?_;refine aw oN ?_;refine ah ?_
  refine eD 9 (fun hc=>?_) fun hc=>?_
  ·
   have h1:0≤node:=by simpa using hc
   iterate 2 refine ah ?_
   refine kk ?_;refine al JY JP 3 ?_
   refine ab.v (ae.ld (p:=⟨bc,3,none⟩) rfl rfl rfl rfl JU (fun w _ hS=>HB hS.ext rfl)) ?_
   refine dY Jg ?_;refine aw jl ?_;refine cz ?_;refine ah ?_
   refine eD 18 (fun hc=>?_) fun hc=>?_
   ·
    have h2:node<os.length:=by simpa using hc
    obtain ⟨k,rfl⟩:∃k:Nat,node=(k:Int):=⟨node.toNat,by omega⟩
    have hk:k<os.length:=by omega
    refine ah ?_;refine aw oN ?_;refine cz ?_;refine ah ?_
    refine eD 22 (fun hc=>?_) fun hc=>?_
    ·
     have h3:0≤other:=by simpa using hc
     refine ah ?_;refine kk ?_;refine al JY JP 3 ?_
     refine ab.v (ae.ld (p:=⟨bc,3,none⟩) rfl rfl rfl rfl JU (fun w _ hS=>HB hS.ext rfl)) ?_
     refine ah ?_
     refine ab.v (ae.idx rfl rfl rfl rfl rfl Jg I9 ⟨_,hO⟩ (by simp) (k) ⟨rfl,by simpa using hk⟩) ?_
     refine ab.v (ae.ld rfl rfl rfl rfl Ja (fun w _ hS=>(jU.ay hO hS.ext).at (k) hk)) ?_
     refine ah ?_;refine aw bh ?_;refine cz ?_;refine ai ?_;refine gE ?_
     refine gT func144 fun w' hS=>?_
     exact ⟨hS.ext,by simp [jX,kJ,hk,h3,List.getD_eq_getElem?_getD];rfl⟩
    have h3:¬0≤other:=by simpa using hc
    iterate 9 refine cy ?_
    refine bE ?_;refine ai ?_;refine gE ?_
    refine gT func144 fun w' hS=>?_
    exact ⟨hS.ext,by rw [kJ,decide_eq_false (by omega)];rfl⟩
   have h2:¬node<os.length:=by simpa using hc
   iterate 2 refine cy ?_
   refine bE ?_;refine ah ?_
   iterate 9 refine cy ?_
   refine bE ?_;refine ai ?_;refine gE ?_
   refine gT func144 fun w' hS=>?_
   exact ⟨hS.ext,by rw [kJ,decide_eq_false (by omega)];rfl⟩
  have h1:¬0≤node:=by simpa using hc
  iterate 7 refine cy ?_
  refine bE ?_;refine ah ?_
  iterate 2 refine cy ?_
  refine bE ?_;refine ah ?_
  iterate 9 refine cy ?_
  refine bE ?_;refine ai ?_;refine gE ?_
  refine gT func144 fun w' hS=>?_
  exact ⟨hS.ext,by rw [kJ,decide_eq_false (by omega)];rfl⟩
set_option maxRecDepth 8000 in
theorem sN (bc:Nat) (l:Int) (A:Option Addr) (cA:Nat) (b:List NV) (B:Option Addr) (nB cB:Nat) (O:Option Addr) (nO cO:Nat) (x:SV) (op:Int) (w:World) (hb:w.heap[bc]?=some (.cells (oM l A b.length cA B nB cB O nO cO) 116 (0,0))) (hA:FA w A b):
    Cn Tryz.prog 146 [.pointer (some ⟨bc,0,none⟩),.agg x.cells.toArray,.int .i64 op] w (fun v _=>v=.tuple #[(if kE b x.d op=true then nd b x.d.on else Ep).v,.bool (kE b x.d op)]):=by
  have HB:∀{w':World} {j:Nat} {u:Value},Ex [] w w'→(oM l A b.length cA B nB cB O nO cO)[j]?=some u→w'.cell? ⟨bc,j,none⟩=some u:=fun e h=>Ex.cell e hb h
  refine Cn.of func146 rfl rfl ?_
  refine gS (gR ?_)
  refine ab.bx rfl rfl rfl rfl (fun b4=>?_)
  refine ab.eN rfl rfl rfl (fun _=>Jq _) (fun b6=>?_)
  refine ai ?_;refine gE (gS (gS ?_))
  refine ab.dK 32 mixed ?_
  refine cV 0 (ae.aH rfl rfl rfl rfl Jh rfl (by exact I9) 2 rfl) ?_
  refine cV 1 (ae.dw rfl rfl rfl rfl Ja 1 rfl rfl) ?_
  refine cV 2 (ae.mv rfl rfl rfl rfl) ?_
  refine cV 3 (ae.eg rfl rfl rfl rfl) ?_
  refine cV 4 (ae.aH rfl rfl rfl rfl JY rfl (by exact Jp) 0 rfl) ?_
  refine cV 5 (ae.aH rfl rfl rfl rfl Jr rfl (by exact Jj) 1 rfl) ?_
  refine cV 6 (ae.ld (p:=⟨bc,1,none⟩) rfl rfl rfl rfl Jn (fun w _ hS=>HB hS.ext rfl)) ?_
  refine cV 7 (ae.blt rfl rfl rfl (dC Ji) rfl) ?_
  refine cV 8 (ae.bin rfl rfl rfl rfl oN rfl) ?_
  refine cV 9 (ae.mv rfl rfl rfl rfl) ?_
  refine aG.cases (d:=17) rfl (fun hc=>?_) (fun hc=>?_)
  ·
   have h1:¬x.d.on<b.length:=by simp at hc;omega
   have ho:kE b x.d op=false:=by rw [kE,decide_eq_false h1,Bool.false_and]
   refine cN 10 ?_
   refine cN 11 ?_
   refine cN 12 ?_
   refine cN 13 ?_
   refine cN 14 ?_
   refine cN 15 ?_
   refine cV 16 (ae.aT rfl rfl rfl rfl rfl) ?_
   refine cV 17 (ae.mv rfl rfl rfl rfl) ?_
   refine cN 18 ?_
   refine cN 19 ?_
   refine cN 20 ?_
   refine cN 21 ?_
   refine cN 22 ?_
   refine cN 23 ?_
   refine cN 24 ?_
   refine cN 25 ?_
   refine cN 26 ?_
   refine cN 27 ?_
   refine cN 28 ?_
   refine cN 29 ?_
   refine cV 30 (ae.aT rfl rfl rfl rfl rfl) ?_
   refine aG.done rfl ?_
   refine gE (ab.bX rfl (gS (gR ?_)))
   refine ab.v (ae.eM rfl rfl rfl rfl (bd66 (c:=[_,_,_,_,_,_]) rfl)) ?_
   refine ab.dG rfl rfl rfl rfl Jd 0 rfl rfl rfl rfl ?_
   refine ai ?_;refine gE ?_
   refine ab.fH Tryz.f146 func146 _ (aP.cell rfl Jt Jd (j:=0) rfl rfl (aP.tmp rfl aP.nil)) (fun w' hS=>?_)
   exact ⟨hS.ext,by rw [ho];rfl⟩
  have h1:x.d.on<b.length:=by simp at hc;omega
  refine cV 10 (ae.aH rfl rfl rfl rfl Jh rfl (by exact Ju) 0 rfl) ?_
  refine cV 11 (ae.dw rfl rfl rfl rfl Jz 1 rfl rfl) ?_
  refine cV 12 (ae.aH rfl rfl rfl rfl Jh rfl (by exact I9) 2 rfl) ?_
  refine cV 13 (ae.dw rfl rfl rfl rfl Ja 1 rfl rfl) ?_
  refine aG.cC (i:=14) rfl rfl rfl rfl rfl rfl (fun _ _=>call63 _ _) (fun w _ hS=>(by exact qN x.d.set x.d.on w)) sL ?_
  refine cV 15 (ae.un rfl rfl rfl bG rfl) ?_
  refine cV 16 (ae.de rfl rfl rfl rfl rfl) ?_
  refine cV 17 (ae.mv rfl rfl rfl rfl) ?_
  refine aG.cases (d:=25) rfl (fun hc=>?_) (fun hc=>?_)
  ·
   have h2:eT x.d.set x.d.on=false:=by simpa using hc
   have ho:kE b x.d op=false:=by rw [kE,h2,Bool.false_and,Bool.and_false]
   refine cN 18 ?_
   refine cN 19 ?_
   refine cN 20 ?_
   refine cN 21 ?_
   refine cN 22 ?_
   refine cN 23 ?_
   refine cN 24 ?_
   refine cN 25 ?_
   refine cN 26 ?_
   refine cN 27 ?_
   refine cN 28 ?_
   refine cN 29 ?_
   refine cV 30 (ae.aT rfl rfl rfl rfl rfl) ?_
   refine aG.done rfl ?_
   refine gE (ab.bX rfl (gS (gR ?_)))
   refine ab.v (ae.eM rfl rfl rfl rfl (bd66 (c:=[_,_,_,_,_,_]) rfl)) ?_
   refine ab.dG rfl rfl rfl rfl Jd 0 rfl rfl rfl rfl ?_
   refine ai ?_;refine gE ?_
   refine ab.fH Tryz.f146 func146 _ (aP.cell rfl Jt Jd (j:=0) rfl rfl (aP.tmp rfl aP.nil)) (fun w' hS=>?_)
   exact ⟨hS.ext,by rw [ho];rfl⟩
  have h2:eT x.d.set x.d.on=true:=by simpa using hc
  obtain ⟨k,hk,_,_⟩:=fP.1 h2
  have hkl:k<b.length:=by omega
  have hnd:nd b x.d.on=b[k]:=by rw [hk,dI hkl]
  refine cV 18 (ae.mv rfl rfl rfl rfl) ?_
  refine cV 19 (ae.eg rfl rfl rfl rfl) ?_
  refine cV 20 (ae.aH rfl rfl rfl rfl JY rfl (by exact Jp) 0 rfl) ?_
  refine cV 21 (ae.aH rfl rfl rfl rfl Jr rfl (by exact Jj) 1 rfl) ?_
  refine cV 22 (ae.ld (p:=⟨bc,1,none⟩) rfl rfl rfl rfl Jn (fun w _ hS=>HB hS.ext rfl)) ?_
  refine cV 23 (ae.aH rfl rfl rfl rfl Jh rfl (by exact I9) 2 rfl) ?_
  refine cV 24 (ae.dw rfl rfl rfl rfl Ja 1 rfl rfl) ?_
  refine cV 25 (ae.ez rfl rfl rfl rfl rfl Ji Jd ⟨_,(hA).at_⟩ (aD (enc:=NV.cells) (sz:=6) (fun _=>rfl)) (by decide) (k) ⟨hk,hkl⟩) ?_
  refine cV 26 (ae.fQ rfl rfl rfl rfl Jb rfl I9 ((k)*6+0) rfl) ?_
  refine cV 27 (ae.ld rfl rfl rfl rfl Ja (fun w _ hS=>Sl.kO (enc:=NV.cells) (sz:=6) ((hA).ay hS.ext).at_ (fun _=>rfl) hkl rfl)) ?_
  refine cV 28 (ae.mv rfl rfl rfl rfl) ?_
  refine cV 29 (ae.bin rfl rfl rfl rfl gO rfl) ?_
  refine cV 30 (ae.de rfl rfl rfl rfl rfl) ?_
  refine aG.done rfl ?_
  refine gE ?_
  refine gC (fun hc=>?_) fun hc=>?_
  ·
   have h3:b[k].op≠op:=by simpa using hc
   have ho:kE b x.d op=false:=by rw [kE,hnd,decide_eq_false h3,Bool.and_false,Bool.and_false]
   refine gS (gR ?_)
   refine ab.v (ae.eM rfl rfl rfl rfl (bd66 (c:=[_,_,_,_,_,_]) rfl)) ?_
   refine ab.dG rfl rfl rfl rfl Jd 0 rfl rfl rfl rfl ?_
   refine ai ?_;refine gE ?_
   refine ab.fH Tryz.f146 func146 _ (aP.cell rfl Jt Jd (j:=0) rfl rfl (aP.tmp rfl aP.nil)) (fun w' hS=>?_)
   exact ⟨hS.ext,by rw [ho];rfl⟩
  have h3:b[k].op=op:=by simpa using hc
  have ho:kE b x.d op=true:=by rw [kE,hnd,decide_eq_true h3,h2,decide_eq_true h1];rfl
  refine gK (gS ?_)
  refine ab.zb 12 9 [] mixed ?_
  refine eP.v (i:=0) (ae.mv rfl rfl rfl rfl) (List.nil_sublist _) rfl rfl rfl rfl sL ?_
  refine eP.v (i:=1) (ae.eg rfl rfl rfl rfl) (List.nil_sublist _) rfl rfl rfl rfl sL ?_
  refine eP.v (i:=2) (ae.aH rfl rfl rfl rfl JY rfl (by exact Jp) 0 rfl) (List.nil_sublist _) rfl rfl rfl rfl sL ?_
  refine eP.v (i:=3) (ae.aH rfl rfl rfl rfl Jr rfl (by exact Jj) 1 rfl) (List.nil_sublist _) rfl rfl rfl rfl sL ?_
  refine eP.v (i:=4) (ae.ld (p:=⟨bc,1,none⟩) rfl rfl rfl rfl Jn (fun w _ hS=>HB hS.ext rfl)) (List.nil_sublist _) rfl rfl rfl rfl sL ?_
  refine eP.v (i:=5) (ae.aH rfl rfl rfl rfl Jh rfl (by exact I9) 2 rfl) (List.nil_sublist _) rfl rfl rfl rfl sL ?_
  refine eP.v (i:=6) (ae.dw rfl rfl rfl rfl Ja 1 rfl rfl) (List.nil_sublist _) rfl rfl rfl rfl sL ?_
  refine eP.v (i:=7) (ae.ez rfl rfl rfl rfl rfl Ji Jd ⟨_,(hA).at_⟩ (aD (enc:=NV.cells) (sz:=6) (fun _=>rfl)) (by decide) (k) ⟨hk,hkl⟩) (List.nil_sublist _) rfl rfl rfl rfl sL ?_
  refine eP.v (i:=8) (ae.nR (cs:=NV.cells b[k]) rfl rfl rfl rfl Jt Jd (fun w _ hS=>Sl.many (enc:=NV.cells) (sz:=6) (hA.ay hS.ext).at_ (fun _=>rfl) hkl)) (List.nil_sublist _) rfl rfl rfl rfl sL ?_
  refine eP.dG (i:=9) (v:=.agg (NV.cells b[k]).toArray) rfl rfl rfl rfl rfl Jd 0 rfl rfl rfl rfl (by rw [iX rfl];exact List.nil_sublist _) ?_
  refine eP.u (i:=10) (ae.fh rfl rfl rfl rfl) (List.nil_sublist _) rfl rfl rfl (by rw [iX rfl];exact List.nil_sublist _) ?_
  refine eP.done rfl ?_
  refine gE ?_
  refine ab.fH Tryz.f146 func146 _ (aP.cell rfl Jt Jd (j:=0) rfl rfl (aP.tmp rfl aP.nil)) (fun w' hS=>?_)
  exact ⟨hS.ext,by rw [ho,hnd];rfl⟩
set_option maxRecDepth 8000 in
theorem cJ (bc:Nat) (l:Int) (A:Option Addr) (nA cA:Nat) (B:Option Addr) (cB:Nat) (ss:List SV) (O:Option Addr) (nO cO:Nat) (k:Nat) (Z:Option Addr) (cZ:Nat) (us:List ax) (w:World) (hb:w.heap[bc]?=some (.cells (oM l A nA cA B ss.length cB O nO cO) 116 (0,0))) (hB:zJ w B ss) (hk:k<ss.length) (hZ:xg w Z us) (_hu:us.length≤maxLen):
    Cn Tryz.prog 145 [.pointer (some ⟨bc,0,none⟩),.int .i64 k,.slice Z us.length cZ] w (fun v _=>∃r,v=.bool r∧(r=true↔eE (fg ss) k ss[k].d.fr us)):=by
  have HB:∀{w':World} {j:Nat} {u:Value},Ex [] w w'→(oM l A nA cA B ss.length cB O nO cO)[j]?=some u→w'.cell? ⟨bc,j,none⟩=some u:=fun e h=>Ex.cell e hb h
  obtain ⟨hfr,hfl⟩:=hB.yO ss[k] (List.getElem_mem hk)
  unfold maxLen at hfl
  refine Cn.of func145 rfl rfl ?_
  refine gS (gR ?_);refine ai ?_;refine gE (gS (gR ?_));refine ah ?_;refine kk ?_;refine al JY Jp 0 ?_;refine al Jr JH 2 ?_
  refine ab.v (ae.ld (p:=⟨bc,2,none⟩) rfl rfl rfl rfl JN (fun w _ hS=>HB hS.ext rfl)) ?_
  refine ah ?_
  refine ab.v (ae.ez rfl rfl rfl rfl rfl JB Jm ⟨_,(hB).at_⟩ (aD (enc:=SV.cells) (sz:=5) (fun _=>rfl)) (by decide) (k) ⟨rfl,hk⟩) ?_
  refine ab.v (ae.fQ rfl rfl rfl rfl Jh rfl JP ((k)*5+4) rfl) ?_
  refine ab.v (ae.ld rfl rfl rfl rfl JU (fun w _ hS=>Sl.kO (enc:=SV.cells) (sz:=5) ((hB).ay hS.ext).at_ (fun _=>rfl) hk rfl)) ?_
  refine ai ?_;refine gE (gS (gS (gR ?_)));refine ah ?_;refine dY Jg ?_;refine ah ?_;refine dY JW ?_;refine aw gO ?_;refine gE ?_
  refine gC (fun hc=>?_) fun hc=>?_
  ·
   have h1:ss[k].d.fr.length≠us.length:=by simp at hc;omega
   refine gS (gR ?_);refine ai ?_;refine gE ?_
   refine gT func145 fun w' hS=>?_
   exact ⟨hS.ext,_,rfl,by rw [iv];exact ⟨fun h=>(by cases h),fun h=>absurd h.1 h1⟩⟩
  have h1:ss[k].d.fr.length=us.length:=by simp at hc;omega
  refine gK (gS (gS (gR ?_)));refine ah ?_;refine dY JW ?_;refine ah ?_;refine gE (gB ?_)
  refine ab.loop (σ:=Nat) (fun j=>[(0,.pointer (some ⟨bc,0,none⟩)),(1,.int .i64 k),(7,.slice ss[k].fa ss[k].d.fr.length ss[k].fc),(24,.slice Z us.length cZ),(25,.int .i64 us.length),(26,.int .i64 j)]) (fun _=>[]) (fun j=>j≤us.length∧∀i,i<j→(0≤ss[k].d.fr.getD i 0∧ss[k].d.fr.getD i 0<k)∧dc (fg ss) (ss[k].d.fr.getD i 0) &&& ~~~ us.getD i 0#64=0#64) (fun j=>us.length - j) 0 ⟨Nat.zero_le _,fun i h=>absurd h (Nat.not_lt_zero _)⟩ ⟨rfl,rfl,rfl,rfl,rfl,rfl,trivial⟩ .slnil (fun j hI IH=>?_)
  obtain ⟨hj,hpre⟩:=hI
  refine gS (gR ?_);refine aw jl ?_;refine gE (gS ?_)
  refine gC (fun hc=>?_) fun hc=>?_
  ·
   have hlt:j<us.length:=by simp at hc;omega
   have hjf:j<ss[k].d.fr.length:=by omega
   have hgf:ss[k].d.fr.getD j 0=ss[k].d.fr[j]:=by simp [List.getD_eq_getElem?_getD,hjf]
   have hgu:us.getD j 0#64=us[j]:=by simp [List.getD_eq_getElem?_getD,hlt]
   have hno:∀{r:Bool},r=false→¬((0≤ss[k].d.fr[j]∧ss[k].d.fr[j]<k)∧dc (fg ss) ss[k].d.fr[j] &&& ~~~ us[j]=0#64)→(r=true↔eE (fg ss) k ss[k].d.fr us):=fun hr h=>by
     rw [iv]
     exact ⟨fun e=>(by rw [hr] at e;cases e),fun e=>absurd (by have:=e.2 j hlt;rwa [hgf,hgu] at this) h⟩
   refine gK (gS (gB (gS (gR ?_))));refine ah ?_
   refine ab.v (ae.idx rfl rfl rfl rfl rfl JW Ju ⟨_,hZ⟩ (by simp) (j) ⟨rfl,by simpa using hlt⟩) ?_
   refine ab.v (ae.ld rfl rfl rfl rfl Jz (fun w _ hS=>(xg.ay hZ hS.ext).at (j) hlt)) ?_
   iterate 2 refine ai ?_
   refine gE (gS ?_)
   refine ab.draw 30 mixed rfl ?_
   iterate 2 refine mH ?_
   refine aM.v (ae.idx rfl rfl rfl rfl rfl Jg I9 ⟨_,hfr⟩ (by simp) (j) ⟨rfl,by simpa using hjf⟩) ?_
   refine aM.v (ae.ld rfl rfl rfl rfl Ja (fun w _ hS=>(jU.ay hfr hS.ext).at (j) hjf)) ?_
   refine CT jl ?_;refine mH ?_
   refine aM.cases (d:=36) rfl (fun hc=>?_) (fun hc=>?_)
   ·
    have e1:ss[k].d.fr[j]<0:=by simpa using hc
    iterate 6 refine GC ?_
    refine GB ?_;refine mH ?_
    iterate 15 refine GC ?_
    refine GB ?_
    refine aM.nil ?_
    refine gE (ab.bX rfl (gS (gR ?_)));refine ai ?_;refine gE ?_
    refine gT func145 fun w' hS=>?_
    exact ⟨hS.ext,_,rfl,hno rfl (by omega)⟩
   have e1:¬ss[k].d.fr[j]<0:=by simpa using hc
   iterate 2 refine mH ?_
   refine aM.v (ae.idx rfl rfl rfl rfl rfl Jg I9 ⟨_,hfr⟩ (by simp) (j) ⟨rfl,by simpa using hjf⟩) ?_
   refine aM.v (ae.ld rfl rfl rfl rfl Ja (fun w _ hS=>(jU.ay hfr hS.ext).at (j) hjf)) ?_
   refine mH ?_;refine CT oN ?_;refine HG ?_;refine mH ?_
   refine aM.cases (d:=44) rfl (fun hc=>?_) (fun hc=>?_)
   ·
    have e2:(k:Int)≤ss[k].d.fr[j]:=by simpa using hc
    iterate 15 refine GC ?_
    refine GB ?_
    refine aM.nil ?_
    refine gE (ab.bX rfl (gS (gR ?_)));refine ai ?_;refine gE ?_
    refine gT func145 fun w' hS=>?_
    exact ⟨hS.ext,_,rfl,hno rfl (by omega)⟩
   have e2:¬(k:Int)≤ss[k].d.fr[j]:=by simpa using hc
   obtain ⟨p,hp⟩:∃p:Nat,ss[k].d.fr[j]=(p:Int):=⟨ss[k].d.fr[j].toNat,by omega⟩
   have hps:p<ss.length:=by omega
   have mV:dc (fg ss) ss[k].d.fr[j]=ss[p].d.set:=by rw [hp,eJ (by rw [eL];exact hps),mj hps]
   refine mH ?_;refine xi ?_;refine mI JY Jp 0 ?_;refine mI Jr JH 2 ?_
   refine aM.v (ae.ld (p:=⟨bc,2,none⟩) rfl rfl rfl rfl JN (fun w _ hS=>HB hS.ext rfl)) ?_
   iterate 2 refine mH ?_
   refine aM.v (ae.idx rfl rfl rfl rfl rfl Jg I9 ⟨_,hfr⟩ (by simp) (j) ⟨rfl,by simpa using hjf⟩) ?_
   refine aM.v (ae.ld rfl rfl rfl rfl Ja (fun w _ hS=>(jU.ay hfr hS.ext).at (j) hjf)) ?_
   refine aM.v (ae.ez rfl rfl rfl rfl rfl JB Jm ⟨_,(hB).at_⟩ (aD (enc:=SV.cells) (sz:=5) (fun _=>rfl)) (by decide) (p) ⟨hp,hps⟩) ?_
   refine aM.v (ae.fQ rfl rfl rfl rfl Jh rfl Ju ((p)*5+0) rfl) ?_
   refine aM.v (ae.ld rfl rfl rfl rfl Jz (fun w _ hS=>Sl.kO (enc:=SV.cells) (sz:=5) ((hB).ay hS.ext).at_ (fun _=>rfl) hps rfl)) ?_
   refine mH ?_;refine CT ik ?_
   refine aM.v (ae.bin (b:=U 0#64) rfl rfl rfl rfl FU rfl) ?_
   refine HG ?_
   refine aM.nil ?_
   refine gE ?_
   refine gC (fun hc=>?_) fun hc=>?_
   ·
    have e3:¬ss[p].d.set &&& ~~~ us[j]=0#64:=by rw [←hgu];simpa using hc
    refine gS (gR ?_);refine ai ?_;refine gE ?_
    refine gT func145 fun w' hS=>?_
    exact ⟨hS.ext,_,rfl,hno rfl (by rw [mV];exact fun h=>e3 h.2)⟩
   have e3:ss[p].d.set &&& ~~~ us[j]=0#64:=by rw [←hgu];simpa using hc
   refine gK (dQ (gR ?_));refine df rfl rfl rfl rfl (cD (by omega)) ?_;refine ah ?_;refine gE ?_
   refine IH (j+1) _ _ ⟨hlt,fun i hi=>?_⟩ (by omega) ⟨rfl,rfl,rfl,rfl,rfl,rfl,trivial⟩ (List.nil_sublist _)
   by_cases e:i=j
   · subst e;rw [hgf,hgu,mV];exact ⟨by omega,e3⟩
   exact hpre i (by omega)
  have hge:¬j<us.length:=by simp at hc;omega
  refine ab.exit rfl (gS (gR ?_))
  refine ai ?_;refine gE ?_
  refine gT func145 fun w' hS=>?_
  exact ⟨hS.ext,_,rfl,by rw [iv];exact ⟨fun _=>⟨h1,fun i hi=>hpre i (by omega)⟩,fun _=>rfl⟩⟩
end Go.Proofs.YtnfmegcknckahaaGreatDoor
namespace Go.Proofs.YtnfmegcknckahaaGreatDoor
open Go.RowKit Go.Proofs.Wit Tryz
set_option maxRecDepth 8000 in
theorem wk (bc:Nat) (l:Int) (A:Option Addr) (cA:Nat) (b:List NV) (B:Option Addr) (cB:Nat) (ss:List SV) (O:Option Addr) (cO:Nat) (k:Nat) (w:World) (hC:Gf w 116 bc l A cA b B cB ss O cO) (hk:k<ss.length):
    Cn Tryz.prog 143 [.pointer (some ⟨bc,0,none⟩),.int .i64 k] w (fun v _=>∃r,v=.bool r∧(r=true↔xh b ss[k].d)):=by
  have HB:∀{w':World} {j:Nat} {u:Value},Ex [] w w'→(oM l A b.length cA B ss.length cB O (dh b).length cO)[j]?=some u→w'.cell? ⟨bc,j,none⟩=some u:=fun e h=>Ex.cell e hC.dg h
  have hB:=hC.sa
  refine Cn.of func143 rfl rfl ?_
  refine gS (gR ?_);refine ai ?_;refine gE (gS (gR ?_));refine ah ?_;refine kk ?_;refine al JY Jp 0 ?_;refine al Jr JH 2 ?_
  refine ab.v (ae.ld (p:=⟨bc,2,none⟩) rfl rfl rfl rfl JN (fun w _ hS=>HB hS.ext rfl)) ?_
  refine ah ?_
  refine ab.v (ae.ez rfl rfl rfl rfl rfl JB Jm ⟨_,(hB).at_⟩ (aD (enc:=SV.cells) (sz:=5) (fun _=>rfl)) (by decide) (k) ⟨rfl,hk⟩) ?_
  refine ab.v (ae.nR (cs:=SV.cells ss[k]) rfl rfl rfl rfl JV Jm (fun w _ hS=>Sl.many (enc:=SV.cells) (sz:=5) (hB.ay hS.ext).at_ (fun _=>rfl) hk)) ?_
  refine ab.eN rfl rfl rfl (fun _=>J4 _) (fun b5=>?_)
  refine ab.dG rfl rfl rfl rfl Jm 0 rfl rfl rfl rfl ?_
  refine gE (gS (gS (gR ?_)));refine ah ?_
  refine ab.v (ae.iR rfl rfl rfl rfl JV 0 rfl Jm rfl) ?_
  refine gP rfl rfl rfl rfl rfl call146 (fun w _ hS=>(by exact sN bc l A cA b B ss.length cB O (dh b).length cO ss[k] 2 w (hS.ext.gG hC.dg) (hC.fa.ay hS.ext))) ?_
  refine ah ?_
  iterate 2 refine fW ?_
  refine ab.eN rfl rfl rfl (fun _=>Jq _) (fun b6=>?_)
  refine ab.dG rfl rfl rfl rfl Jd 0 rfl rfl rfl rfl ?_
  refine ai ?_;refine gE (gS (gR ?_))
  iterate 2 refine ah ?_
  refine eD 23 (fun hc=>?_) fun hc=>?_
  ·
   have ho:kE b ss[k].d 2=true:=hc
   refine al Jh I9 3 ?_;refine aq Ja 1 ?_;refine aw bh ?_;refine cz ?_;refine gE ?_
   refine gC (fun hc=>?_) fun hc=>?_
   ·
    have he:ss[k].d.e=0:=by simpa using hc
    refine gS (gR ?_)
    iterate 2 refine ah ?_
    refine gM rfl rfl rfl rfl rfl call145 (fun w _ hS=>(by exact cJ bc l A b.length cA B cB ss O (dh b).length cO k none 0 [] w (hS.ext.gG hC.dg) (hC.sa.ay hS.ext) hk (Sl.nil _ _) (by decide))) ?_
    rintro v w1 w2 Y' hS he' ⟨r,rfl,hr⟩
    refine ⟨_,hS.later he',?_⟩
    refine ai ?_;refine gE ?_
    refine gT func143 fun w' hS=>?_
    exact ⟨hS.ext,r,rfl,by rw [hr,pz,xh];exact ⟨fun h=>⟨h,.inl ⟨ho,he⟩⟩,fun h=>h.1⟩⟩
   have he:¬ss[k].d.e=0:=by simpa using hc
   have hno:kE b ss[k].d 2=true∧ss[k].d.e=0→False:=fun h=>he h.2
   refine gK (gS (gR ?_));refine al Jh Ju 0 ?_;refine aq Jz 1 ?_;refine al Jh I9 2 ?_;refine aq Ja 1 ?_
   refine gP rfl rfl rfl rfl rfl call63 (fun w _ hS=>(by exact qN ss[k].d.set ss[k].d.on w)) ?_
   refine ah ?_
   refine eD 36 (fun hc=>?_) fun hc=>?_
   ·
    have h1:eT ss[k].d.set ss[k].d.on=true:=hc
    refine al Jh Ju 0 ?_;refine aq Jz 1 ?_;refine al Jh I9 3 ?_;refine aq Ja 1 ?_
    refine gP rfl rfl rfl rfl rfl call63 (fun w _ hS=>(by exact qN ss[k].d.set ss[k].d.e w)) ?_
    refine cz ?_;refine ah ?_
    refine eD 43 (fun hc=>?_) fun hc=>?_
    ·
     have h2:eT ss[k].d.set ss[k].d.e=true:=hc
     refine ah ?_;refine al Jh I9 2 ?_;refine aq Ja 1 ?_;refine al Jh I9 3 ?_;refine aq Ja 1 ?_
     refine gP rfl rfl rfl rfl rfl call144 (fun w _ hS=>(by exact l6 bc l A b.length cA B ss.length cB O cO (dh b) ss[k].d.on ss[k].d.e w (hS.ext.gG hC.dg) (hC.oa.ay hS.ext))) ?_
     refine cz ?_;refine ah ?_
     refine eD 51 (fun hc=>?_) fun hc=>?_
     ·
      have h3:kJ (dh b) ss[k].d.on ss[k].d.e=true:=hc
      iterate 2 refine ah ?_
      refine gM rfl rfl rfl rfl rfl call145 (fun w _ hS=>(by exact cJ bc l A b.length cA B cB ss O (dh b).length cO k none 0 [] w (hS.ext.gG hC.dg) (hC.sa.ay hS.ext) hk (Sl.nil _ _) (by decide))) ?_
      rintro v w1 w2 Y' hS he ⟨r,rfl,hr⟩
      refine ⟨_,hS.later he,?_⟩
      refine cz ?_;refine ai ?_;refine gE ?_
      refine gT func143 fun w' hS=>?_
      exact ⟨hS.ext,r,rfl,by rw [hr,pz,xh];exact ⟨fun h=>⟨h,.inr ⟨h1,h2,h3⟩⟩,fun h=>h.1⟩⟩
     have h3:¬kJ (dh b) ss[k].d.on ss[k].d.e=true:=by rw [show kJ (dh b) ss[k].d.on ss[k].d.e=false from hc];decide
     iterate 3 refine cy ?_
     refine bE ?_;refine ai ?_;refine gE ?_
     refine gT func143 fun w' hS=>?_
     exact ⟨hS.ext,false,rfl,by rw [xh];exact ⟨fun h=>(by cases h),fun h=>(h.2.elim hno (fun g=>h3 g.2.2)).elim⟩⟩
    have h2:¬eT ss[k].d.set ss[k].d.e=true:=by rw [show eT ss[k].d.set ss[k].d.e=false from hc];decide
    iterate 6 refine cy ?_
    refine bE ?_;refine ah ?_
    iterate 3 refine cy ?_
    refine bE ?_;refine ai ?_;refine gE ?_
    refine gT func143 fun w' hS=>?_
    exact ⟨hS.ext,false,rfl,by rw [xh];exact ⟨fun h=>(by cases h),fun h=>(h.2.elim hno (fun g=>h2 g.2.1)).elim⟩⟩
   have h1:¬eT ss[k].d.set ss[k].d.on=true:=by rw [show eT ss[k].d.set ss[k].d.on=false from hc];decide
   iterate 5 refine cy ?_
   refine bE ?_;refine ah ?_
   iterate 6 refine cy ?_
   refine bE ?_;refine ah ?_
   iterate 3 refine cy ?_
   refine bE ?_;refine ai ?_;refine gE ?_
   refine gT func143 fun w' hS=>?_
   exact ⟨hS.ext,false,rfl,by rw [xh];exact ⟨fun h=>(by cases h),fun h=>(h.2.elim hno (fun g=>h1 g.1)).elim⟩⟩
  have ho:¬kE b ss[k].d 2=true:=by rw [show kE b ss[k].d 2=false from hc];decide
  have hno:kE b ss[k].d 2=true∧ss[k].d.e=0→False:=fun h=>ho h.1
  iterate 3 refine cy ?_
  refine bE ?_;refine gE (ab.gj rfl (gK (gS (gR ?_))));refine al Jh Ju 0 ?_;refine aq Jz 1 ?_;refine al Jh I9 2 ?_;refine aq Ja 1 ?_
  refine gP rfl rfl rfl rfl rfl call63 (fun w _ hS=>(by exact qN ss[k].d.set ss[k].d.on w)) ?_
  refine ah ?_
  refine eD 36 (fun hc=>?_) fun hc=>?_
  ·
   have h1:eT ss[k].d.set ss[k].d.on=true:=hc
   refine al Jh Ju 0 ?_;refine aq Jz 1 ?_;refine al Jh I9 3 ?_;refine aq Ja 1 ?_
   refine gP rfl rfl rfl rfl rfl call63 (fun w _ hS=>(by exact qN ss[k].d.set ss[k].d.e w)) ?_
   refine cz ?_;refine ah ?_
   refine eD 43 (fun hc=>?_) fun hc=>?_
   ·
    have h2:eT ss[k].d.set ss[k].d.e=true:=hc
    refine ah ?_;refine al Jh I9 2 ?_;refine aq Ja 1 ?_;refine al Jh I9 3 ?_;refine aq Ja 1 ?_
    refine gP rfl rfl rfl rfl rfl call144 (fun w _ hS=>(by exact l6 bc l A b.length cA B ss.length cB O cO (dh b) ss[k].d.on ss[k].d.e w (hS.ext.gG hC.dg) (hC.oa.ay hS.ext))) ?_
    refine cz ?_;refine ah ?_
    refine eD 51 (fun hc=>?_) fun hc=>?_
    ·
     have h3:kJ (dh b) ss[k].d.on ss[k].d.e=true:=hc
     iterate 2 refine ah ?_
     refine gM rfl rfl rfl rfl rfl call145 (fun w _ hS=>(by exact cJ bc l A b.length cA B cB ss O (dh b).length cO k none 0 [] w (hS.ext.gG hC.dg) (hC.sa.ay hS.ext) hk (Sl.nil _ _) (by decide))) ?_
     rintro v w1 w2 Y' hS he ⟨r,rfl,hr⟩
     refine ⟨_,hS.later he,?_⟩
     refine cz ?_;refine ai ?_;refine gE ?_
     refine gT func143 fun w' hS=>?_
     exact ⟨hS.ext,r,rfl,by rw [hr,pz,xh];exact ⟨fun h=>⟨h,.inr ⟨h1,h2,h3⟩⟩,fun h=>h.1⟩⟩
    have h3:¬kJ (dh b) ss[k].d.on ss[k].d.e=true:=by rw [show kJ (dh b) ss[k].d.on ss[k].d.e=false from hc];decide
    iterate 3 refine cy ?_
    refine bE ?_;refine ai ?_;refine gE ?_
    refine gT func143 fun w' hS=>?_
    exact ⟨hS.ext,false,rfl,by rw [xh];exact ⟨fun h=>(by cases h),fun h=>(h.2.elim hno (fun g=>h3 g.2.2)).elim⟩⟩
   have h2:¬eT ss[k].d.set ss[k].d.e=true:=by rw [show eT ss[k].d.set ss[k].d.e=false from hc];decide
   iterate 6 refine cy ?_
   refine bE ?_;refine ah ?_
   iterate 3 refine cy ?_
   refine bE ?_;refine ai ?_;refine gE ?_
   refine gT func143 fun w' hS=>?_
   exact ⟨hS.ext,false,rfl,by rw [xh];exact ⟨fun h=>(by cases h),fun h=>(h.2.elim hno (fun g=>h2 g.2.1)).elim⟩⟩
  have h1:¬eT ss[k].d.set ss[k].d.on=true:=by rw [show eT ss[k].d.set ss[k].d.on=false from hc];decide
  iterate 5 refine cy ?_
  refine bE ?_;refine ah ?_
  iterate 6 refine cy ?_
  refine bE ?_;refine ah ?_
  iterate 3 refine cy ?_
  refine bE ?_;refine ai ?_;refine gE ?_
  refine gT func143 fun w' hS=>?_
  exact ⟨hS.ext,false,rfl,by rw [xh];exact ⟨fun h=>(by cases h),fun h=>(h.2.elim hno (fun g=>h1 g.1)).elim⟩⟩
end Go.Proofs.YtnfmegcknckahaaGreatDoor
namespace Go.Proofs.YtnfmegcknckahaaGreatDoor
open Go.RowKit Go.Proofs.Wit Tryz
set_option maxRecDepth 8000 in
set_option maxHeartbeats 1000000 in
theorem uh (bc:Nat) (l:Int) (A:Option Addr) (cA:Nat) (b:List NV) (B:Option Addr) (cB:Nat) (ss:List SV) (O:Option Addr) (cO:Nat) (k:Nat) (w:World) (hC:Gf w 116 bc l A cA b B cB ss O cO) (hk:k<ss.length):
    Cn Tryz.prog 101 [.pointer (some ⟨bc,0,none⟩),.int .i64 k] w (fun v _=>∃r,v=.bool r∧(r=true↔ej l b (fg ss) k ss[k].d)):=by
  have HB:∀{w':World} {j:Nat} {u:Value},Ex [] w w'→(oM l A b.length cA B ss.length cB O (dh b).length cO)[j]?=some u→w'.cell? ⟨bc,j,none⟩=some u:=fun e h=>Ex.cell e hC.dg h
  have hB:=hC.sa
  have hlen:=hC.base.len
  have hpos:=(aA.1 hC.base.iY).pos
  refine Cn.of JG rfl rfl ?_
  refine gS (gR ?_);refine ai ?_;refine gE (gS (gR ?_));refine ah ?_;refine kk ?_;refine al JY Jp 0 ?_;refine al Jr JH 2 ?_
  refine ab.v (ae.ld (p:=⟨bc,2,none⟩) rfl rfl rfl rfl JN (fun w _ hS=>HB hS.ext rfl)) ?_
  refine ah ?_
  refine ab.v (ae.ez rfl rfl rfl rfl rfl JB Jm ⟨_,(hB).at_⟩ (aD (enc:=SV.cells) (sz:=5) (fun _=>rfl)) (by decide) (k) ⟨rfl,hk⟩) ?_
  refine ab.v (ae.nR (cs:=SV.cells ss[k]) rfl rfl rfl rfl JV Jm (fun w _ hS=>Sl.many (enc:=SV.cells) (sz:=5) (hB.ay hS.ext).at_ (fun _=>rfl) hk)) ?_
  refine ab.eN rfl rfl rfl (fun _=>J4 _) (fun b5=>?_)
  refine ab.dG rfl rfl rfl rfl Jm 0 rfl rfl rfl rfl ?_
  refine gE (gS (gR ?_));refine ah ?_;refine kk ?_;refine al JY Jp 0 ?_;refine al Jr I9 0 ?_
  refine ab.v (ae.ld (p:=⟨bc,0,none⟩) rfl rfl rfl rfl Ja (fun w _ hS=>HB hS.ext rfl)) ?_
  refine ai ?_;refine gE (gS (gS ?_))
  refine ab.dK 10 mixed ?_
  refine cV 0 (ae.mv rfl rfl rfl rfl) ?_
  refine cV 1 (ae.eg rfl rfl rfl rfl) ?_
  refine cV 2 (ae.aH rfl rfl rfl rfl JY rfl (by exact Jp) 0 rfl) ?_
  refine cV 3 (ae.aH rfl rfl rfl rfl Jr rfl (by exact Jj) 1 rfl) ?_
  refine cV 4 (ae.ld (p:=⟨bc,1,none⟩) rfl rfl rfl rfl Jn (fun w _ hS=>HB hS.ext rfl)) ?_
  refine cV 5 (ae.aH rfl rfl rfl rfl Jh rfl (by exact Ju) 0 rfl) ?_
  refine cV 6 (ae.dw rfl rfl rfl rfl Jz 0 rfl rfl) ?_
  refine aG.cC (i:=7) rfl rfl rfl rfl rfl rfl (fun _ _=>call142 _ _) (fun w _ hS=>(by exact wj A cA b ss[k].d.set w hpos hlen)) sL ?_
  refine cV 8 (ae.un rfl rfl rfl bG rfl) ?_
  refine aG.done rfl ?_
  refine gE ?_
  refine gC (fun hc=>?_) fun hc=>?_
  ·
   have hi:¬js b ss[k].d.set:=fun h=>by have:=(tB hpos hlen).2 h;rw [this] at hc;cases hc
   refine gS (gR ?_);refine ai ?_;refine gE ?_
   refine gT JG fun w' hS=>?_
   exact ⟨hS.ext,false,rfl,iff_of_false Bool.false_ne_true (By hi)⟩
  have hi:js b ss[k].d.set:=(tB hpos hlen).1 (by simpa using hc)
  refine gK (gS (gS (gR ?_)));refine al Jh I9 1 ?_;refine aq Ja 0 ?_;refine gE (gB (gS (gR ?_)));refine aw bh ?_;refine ai ?_;refine gE ?_
  refine gC (fun hc=>?_) fun hc=>?_
  ·
   have r1:ss[k].d.av=1:=by simpa using hc
   refine gS (gR ?_)
   iterate 2 refine ah ?_
   refine gM rfl rfl rfl rfl rfl call143 (fun w _ hS=>(by exact wk bc l A cA b B cB ss O cO k w (hC.ex hS.ext) hk)) ?_
   rintro v w1 w2 Y' hS he' ⟨r,rfl,hr⟩
   refine ⟨_,hS.later he',?_⟩
   refine ai ?_;refine gE ?_
   refine gT JG fun w' hS=>?_
   exact ⟨hS.ext,r,rfl,by rw [hr,uR hi r1]⟩
  have r1:¬ss[k].d.av=1:=by simpa using hc
  refine gS (gR ?_);refine aw bh ?_;refine ai ?_;refine gE ?_
  refine gC (fun hc=>?_) fun hc=>?_
  ·
   have r4:ss[k].d.av=4:=by simpa using hc
   refine gS ?_
   refine ab.dK 31 mixed ?_
   refine cV 0 (ae.aH rfl rfl rfl rfl Jh rfl (by exact I9) 3 rfl) ?_
   refine cV 1 (ae.dw rfl rfl rfl rfl Ja 0 rfl rfl) ?_
   refine cV 2 (ae.bin rfl rfl rfl rfl oN rfl) ?_
   refine cV 3 (ae.mv rfl rfl rfl rfl) ?_
   refine aG.cases (d:=49) rfl (fun hc=>?_) (fun hc=>?_)
   ·
    have he:0≤ss[k].d.e:=by simpa using hc
    refine cV 4 (ae.mv rfl rfl rfl rfl) ?_
    refine cV 5 (ae.aH rfl rfl rfl rfl Jh rfl (by exact I9) 2 rfl) ?_
    refine cV 6 (ae.dw rfl rfl rfl rfl Ja 0 rfl rfl) ?_
    refine cV 7 (ae.aH rfl rfl rfl rfl Jh rfl (by exact I9) 3 rfl) ?_
    refine cV 8 (ae.dw rfl rfl rfl rfl Ja 0 rfl rfl) ?_
    refine aG.cC (i:=9) rfl rfl rfl rfl rfl rfl (fun _ _=>call144 _ _) (fun w _ hS=>(by exact l6 bc l A b.length cA B ss.length cB O cO (dh b) ss[k].d.on ss[k].d.e w (hS.ext.gG hC.dg) (hC.oa.ay hS.ext))) sL ?_
    refine cV 10 (ae.aT rfl rfl rfl rfl rfl) ?_
    refine cV 11 (ae.mv rfl rfl rfl rfl) ?_
    refine aG.cases (d:=57) rfl (fun hc=>?_) (fun hc=>?_)
    ·
     have ho:kJ (dh b) ss[k].d.on ss[k].d.e=true:=hc
     obtain ⟨⟨o0,o1⟩,e0,e1⟩:=oV.1 ho
     refine cV 12 (ae.mv rfl rfl rfl rfl) ?_
     refine cV 13 (ae.mv rfl rfl rfl rfl) ?_
     refine cV 14 (ae.aH rfl rfl rfl rfl Jh rfl (by exact Ju) 0 rfl) ?_
     refine cV 15 (ae.dw rfl rfl rfl rfl Jz 0 rfl rfl) ?_
     refine cV 16 (ae.aH rfl rfl rfl rfl Jh rfl (by exact I9) 2 rfl) ?_
     refine cV 17 (ae.dw rfl rfl rfl rfl Ja 0 rfl rfl) ?_
     refine cV 18 (ae.bin (a:=U 1#64) rfl rfl rfl rfl (lS ss[k].d.on.toNat (by omega)) rfl) ?_
     refine cV 19 (ae.bin rfl rfl rfl rfl ql rfl) ?_
     refine cV 20 (ae.aH rfl rfl rfl rfl Jh rfl (by exact Ju) 0 rfl) ?_
     refine cV 21 (ae.dw rfl rfl rfl rfl Jz 0 rfl rfl) ?_
     refine cV 22 (ae.aH rfl rfl rfl rfl Jh rfl (by exact I9) 3 rfl) ?_
     refine cV 23 (ae.dw rfl rfl rfl rfl Ja 0 rfl rfl) ?_
     refine cV 24 (ae.bin (a:=U 1#64) rfl rfl rfl rfl (lS ss[k].d.e.toNat (by omega)) rfl) ?_
     refine cV 25 (ae.bin rfl rfl rfl rfl ql rfl) ?_
     refine aG.one (i:=26) rfl (dk.eh (c:=[_,_]) rfl rfl rfl rfl JW Ju J1 rfl rfl (fun b72=>⟨sL,?_⟩)) rfl
     refine aG.call (i:=27) _ rfl rfl rfl rfl rfl rfl (fun _ _=>call145 _ _) (fun w _ hS=>(by exact cJ bc l A b.length cA B cB ss O (dh b).length cO k (some ⟨b72,0,none⟩) 2 [HOr.hOr (ss[k].d.set) (bW ss[k].d.on),HOr.hOr (ss[k].d.set) (bW ss[k].d.e)] w (hS.ext.gG hC.dg) (hC.sa.ay hS.ext) hk (Sl.dg (hS.get (j:=0) rfl)) (by simp [maxLen]))) ?_
     rintro v w1 w2 Y' hS he' ⟨r,rfl,hr⟩
     refine ⟨_,hS.later he',sM,?_⟩
     refine cV 28 (ae.aT rfl rfl rfl rfl rfl) ?_
     refine cV 29 (ae.fh rfl rfl rfl rfl) ?_
     refine aG.done rfl ?_
     refine gE ?_
     refine gT JG fun w' hS=>?_
     exact ⟨hS.ext,r,rfl,by rw [hr];exact ⟨fun h=>(m9 hi r4).2 ⟨he,ho,h⟩,fun h=>((m9 hi r4).1 h).2.2⟩⟩
    have ho:¬kJ (dh b) ss[k].d.on ss[k].d.e=true:=by rw [show kJ (dh b) ss[k].d.on ss[k].d.e=false from hc];decide
    refine cN 12 ?_
    refine cN 13 ?_
    refine cN 14 ?_
    refine cN 15 ?_
    refine cN 16 ?_
    refine cN 17 ?_
    refine cN 18 ?_
    refine cN 19 ?_
    refine cN 20 ?_
    refine cN 21 ?_
    refine cN 22 ?_
    refine cN 23 ?_
    refine cN 24 ?_
    refine cN 25 ?_
    refine cN 26 ?_
    refine cN 27 ?_
    refine cV 28 (ae.de rfl rfl rfl rfl rfl) ?_
    refine cV 29 (ae.fh rfl rfl rfl rfl) ?_
    refine aG.done rfl ?_
    refine gE ?_
    refine gT JG fun w' hS=>?_
    exact ⟨hS.ext,false,rfl,iff_of_false Bool.false_ne_true (fun h=>ho ((m9 hi r4).1 h).2.1)⟩
   have he:¬0≤ss[k].d.e:=by simpa using hc
   refine cN 4 ?_
   refine cN 5 ?_
   refine cN 6 ?_
   refine cN 7 ?_
   refine cN 8 ?_
   refine cN 9 ?_
   refine cV 10 (ae.de rfl rfl rfl rfl rfl) ?_
   refine cV 11 (ae.mv rfl rfl rfl rfl) ?_
   refine cN 12 ?_
   refine cN 13 ?_
   refine cN 14 ?_
   refine cN 15 ?_
   refine cN 16 ?_
   refine cN 17 ?_
   refine cN 18 ?_
   refine cN 19 ?_
   refine cN 20 ?_
   refine cN 21 ?_
   refine cN 22 ?_
   refine cN 23 ?_
   refine cN 24 ?_
   refine cN 25 ?_
   refine cN 26 ?_
   refine cN 27 ?_
   refine cV 28 (ae.de rfl rfl rfl rfl rfl) ?_
   refine cV 29 (ae.fh rfl rfl rfl rfl) ?_
   refine aG.done rfl ?_
   refine gE ?_
   refine gT JG fun w' hS=>?_
   exact ⟨hS.ext,false,rfl,iff_of_false Bool.false_ne_true (fun h=>he ((m9 hi r4).1 h).1)⟩
  have r4:¬ss[k].d.av=4:=by simpa using hc
  refine gK (dQ (gS (gS (gR ?_))));refine al Jh I9 3 ?_;refine aq Ja 0 ?_;refine aw gO ?_;refine gE ?_
  refine gC (fun hc=>?_) fun hc=>?_
  ·
   have he:¬ss[k].d.e=0:=by simpa using hc
   refine gS (gR ?_);refine ai ?_;refine gE ?_
   refine gT JG fun w' hS=>?_
   exact ⟨hS.ext,false,rfl,iff_of_false Bool.false_ne_true (FK r1 r4 he)⟩
  have he:ss[k].d.e=0:=by simpa using hc
  refine gK (gS (gS (gR ?_)));refine al Jh I9 1 ?_;refine aq Ja 0 ?_;refine gE (gB (gS (gR ?_)));refine aw bh ?_;refine ai ?_;refine gE ?_
  refine gC (fun hc=>?_) fun hc=>?_
  ·
   have r2:ss[k].d.av=2:=by simpa using hc
   obtain ⟨nv,hnv⟩:∃nv,nv=(if kE b ss[k].d 5=true then nd b ss[k].d.on else Ep):=⟨_,rfl⟩
   refine gS (gR ?_);refine ah ?_
   refine ab.v (ae.iR rfl rfl rfl rfl JV 0 rfl Jm rfl) ?_
   refine gP rfl rfl rfl rfl rfl call146 (fun w _ hS=>(by have:=sN bc l A cA b B ss.length cB O (dh b).length cO ss[k] 5 w (hS.ext.gG hC.dg) (hC.fa.ay hS.ext);rw [←hnv] at this;exact this)) ?_
   refine ah ?_
   iterate 2 refine fW ?_
   refine ab.eN rfl rfl rfl (fun _=>Jq _) (fun b7=>?_)
   refine ab.dG rfl rfl rfl rfl Jd 0 rfl rfl rfl rfl ?_
   refine ai ?_;refine gE (gS ?_)
   refine ab.dK 19 mixed ?_
   refine cV 0 (ae.mv rfl rfl rfl rfl) ?_
   refine cV 1 (ae.mv rfl rfl rfl rfl) ?_
   refine aG.cases (d:=89) rfl (fun hc=>?_) (fun hc=>?_)
   ·
    have ho:kE b ss[k].d 5=true:=hc
    rw [if_pos ho] at hnv
    obtain ⟨q,q1,q2,q3,q4⟩:=(iK.1 ho).nat hC.base
    rw [q1] at q4 hnv
    have hx:=hC.base.x q2 (by omega)
    have hy:=hC.base.y q2 (by omega)
    rw [←hnv] at hx hy q4
    have hnd:nd b ss[k].d.on=nv:=by rw [hnv,q1]
    refine cV 2 (ae.mv rfl rfl rfl rfl) ?_
    refine cV 3 (ae.mv rfl rfl rfl rfl) ?_
    refine cV 4 (ae.aH rfl rfl rfl rfl Jh rfl (by exact Ju) 0 rfl) ?_
    refine cV 5 (ae.dw rfl rfl rfl rfl Jz 1 rfl rfl) ?_
    refine cV 6 (ae.aH rfl rfl rfl rfl Jb rfl (by exact I9) 4 rfl) ?_
    refine cV 7 (ae.dw rfl rfl rfl rfl Ja 0 rfl rfl) ?_
    refine cV 8 (ae.bin (a:=U 1#64) rfl rfl rfl rfl (lS nv.x.toNat (by omega)) rfl) ?_
    refine cV 9 (ae.bin rfl rfl rfl rfl ql rfl) ?_
    refine cV 10 (ae.aH rfl rfl rfl rfl Jb rfl (by exact I9) 5 rfl) ?_
    refine cV 11 (ae.dw rfl rfl rfl rfl Ja 0 rfl rfl) ?_
    refine cV 12 (ae.bin (a:=U 1#64) rfl rfl rfl rfl (lS nv.y.toNat (by omega)) rfl) ?_
    refine cV 13 (ae.bin rfl rfl rfl rfl ql rfl) ?_
    refine aG.one (i:=14) rfl (dk.eh (c:=[_]) rfl rfl rfl rfl JW Ju J1 rfl rfl (fun b102=>⟨sL,?_⟩)) rfl
    refine aG.call (i:=15) _ rfl rfl rfl rfl rfl rfl (fun _ _=>call145 _ _) (fun w _ hS=>(by exact cJ bc l A b.length cA B cB ss O (dh b).length cO k (some ⟨b102,0,none⟩) 1 [HOr.hOr (HOr.hOr (ss[k].d.set) (bW nv.x)) (bW nv.y)] w (hS.ext.gG hC.dg) (hC.sa.ay hS.ext) hk (Sl.dg (hS.get (j:=0) rfl)) (by simp [maxLen]))) ?_
    rintro v w1 w2 Y' hS he' ⟨r,rfl,hr⟩
    refine ⟨_,hS.later he',sM,?_⟩
    refine cV 16 (ae.aT rfl rfl rfl rfl rfl) ?_
    refine cV 17 (ae.fh rfl rfl rfl rfl) ?_
    refine aG.done rfl ?_
    refine gE ?_
    refine gT JG fun w' hS=>?_
    exact ⟨hS.ext,r,rfl,by rw [hr];exact ⟨fun h=>(zh hi he r2).2 ⟨ho,by rw [hnd];exact h⟩,fun h=>by have:=((zh hi he r2).1 h).2;rwa [hnd] at this⟩⟩
   have ho:¬kE b ss[k].d 5=true:=by rw [show kE b ss[k].d 5=false from hc];decide
   refine cN 2 ?_
   refine cN 3 ?_
   refine cN 4 ?_
   refine cN 5 ?_
   refine cN 6 ?_
   refine cN 7 ?_
   refine cN 8 ?_
   refine cN 9 ?_
   refine cN 10 ?_
   refine cN 11 ?_
   refine cN 12 ?_
   refine cN 13 ?_
   refine cN 14 ?_
   refine cN 15 ?_
   refine cV 16 (ae.de rfl rfl rfl rfl rfl) ?_
   refine cV 17 (ae.fh rfl rfl rfl rfl) ?_
   refine aG.done rfl ?_
   refine gE ?_
   refine gT JG fun w' hS=>?_
   exact ⟨hS.ext,false,rfl,iff_of_false Bool.false_ne_true (fun h=>ho ((zh hi he r2).1 h).1)⟩
  have r2:¬ss[k].d.av=2:=by simpa using hc
  refine gS (gR ?_);refine aw bh ?_;refine ai ?_;refine gE ?_
  refine gC (fun hc=>?_) fun hc=>?_
  ·
   have r3:ss[k].d.av=3:=by simpa using hc
   obtain ⟨nv,hnv⟩:∃nv,nv=(if kE b ss[k].d 6=true then nd b ss[k].d.on else Ep):=⟨_,rfl⟩
   refine gS (gR ?_);refine ah ?_
   refine ab.v (ae.iR rfl rfl rfl rfl JV 0 rfl Jm rfl) ?_
   refine gP rfl rfl rfl rfl rfl call146 (fun w _ hS=>(by have:=sN bc l A cA b B ss.length cB O (dh b).length cO ss[k] 6 w (hS.ext.gG hC.dg) (hC.fa.ay hS.ext);rw [←hnv] at this;exact this)) ?_
   refine ah ?_
   iterate 2 refine fW ?_
   refine ab.eN rfl rfl rfl (fun _=>Jq _) (fun b9=>?_)
   refine ab.dG rfl rfl rfl rfl Jd 0 rfl rfl rfl rfl ?_
   refine ai ?_;refine gE (gS ?_)
   refine ab.dK 21 mixed ?_
   refine cV 0 (ae.mv rfl rfl rfl rfl) ?_
   refine cV 1 (ae.mv rfl rfl rfl rfl) ?_
   refine aG.cases (d:=114) rfl (fun hc=>?_) (fun hc=>?_)
   ·
    have ho:kE b ss[k].d 6=true:=hc
    rw [if_pos ho] at hnv
    obtain ⟨q,q1,q2,q3,q4⟩:=(iK.1 ho).nat hC.base
    rw [q1] at q4 hnv
    have hx:=hC.base.x q2 (by omega)
    have hy:=hC.base.y q2 (by omega)
    rw [←hnv] at hx hy q4
    have hnd:nd b ss[k].d.on=nv:=by rw [hnv,q1]
    refine cV 2 (ae.mv rfl rfl rfl rfl) ?_
    refine cV 3 (ae.mv rfl rfl rfl rfl) ?_
    refine cV 4 (ae.aH rfl rfl rfl rfl Jh rfl (by exact Ju) 0 rfl) ?_
    refine cV 5 (ae.dw rfl rfl rfl rfl Jz 1 rfl rfl) ?_
    refine cV 6 (ae.aH rfl rfl rfl rfl Jb rfl (by exact I9) 4 rfl) ?_
    refine cV 7 (ae.dw rfl rfl rfl rfl Ja 0 rfl rfl) ?_
    refine cV 8 (ae.bin (a:=U 1#64) rfl rfl rfl rfl (lS nv.x.toNat (by omega)) rfl) ?_
    refine cV 9 (ae.bin rfl rfl rfl rfl ql rfl) ?_
    refine cV 10 (ae.aH rfl rfl rfl rfl Jh rfl (by exact Ju) 0 rfl) ?_
    refine cV 11 (ae.dw rfl rfl rfl rfl Jz 1 rfl rfl) ?_
    refine cV 12 (ae.aH rfl rfl rfl rfl Jb rfl (by exact I9) 5 rfl) ?_
    refine cV 13 (ae.dw rfl rfl rfl rfl Ja 0 rfl rfl) ?_
    refine cV 14 (ae.bin (a:=U 1#64) rfl rfl rfl rfl (lS nv.y.toNat (by omega)) rfl) ?_
    refine cV 15 (ae.bin rfl rfl rfl rfl ql rfl) ?_
    refine aG.one (i:=16) rfl (dk.eh (c:=[_,_]) rfl rfl rfl rfl JW Ju J1 rfl rfl (fun b129=>⟨sL,?_⟩)) rfl
    refine aG.call (i:=17) _ rfl rfl rfl rfl rfl rfl (fun _ _=>call145 _ _) (fun w _ hS=>(by exact cJ bc l A b.length cA B cB ss O (dh b).length cO k (some ⟨b129,0,none⟩) 2 [HOr.hOr (ss[k].d.set) (bW nv.x),HOr.hOr (ss[k].d.set) (bW nv.y)] w (hS.ext.gG hC.dg) (hC.sa.ay hS.ext) hk (Sl.dg (hS.get (j:=0) rfl)) (by simp [maxLen]))) ?_
    rintro v w1 w2 Y' hS he' ⟨r,rfl,hr⟩
    refine ⟨_,hS.later he',sM,?_⟩
    refine cV 18 (ae.aT rfl rfl rfl rfl rfl) ?_
    refine cV 19 (ae.fh rfl rfl rfl rfl) ?_
    refine aG.done rfl ?_
    refine gE ?_
    refine gT JG fun w' hS=>?_
    exact ⟨hS.ext,r,rfl,by rw [hr];exact ⟨fun h=>(zg hi he r3).2 ⟨ho,by rw [hnd];exact h⟩,fun h=>by have:=((zg hi he r3).1 h).2;rwa [hnd] at this⟩⟩
   have ho:¬kE b ss[k].d 6=true:=by rw [show kE b ss[k].d 6=false from hc];decide
   refine cN 2 ?_
   refine cN 3 ?_
   refine cN 4 ?_
   refine cN 5 ?_
   refine cN 6 ?_
   refine cN 7 ?_
   refine cN 8 ?_
   refine cN 9 ?_
   refine cN 10 ?_
   refine cN 11 ?_
   refine cN 12 ?_
   refine cN 13 ?_
   refine cN 14 ?_
   refine cN 15 ?_
   refine cN 16 ?_
   refine cN 17 ?_
   refine cV 18 (ae.de rfl rfl rfl rfl rfl) ?_
   refine cV 19 (ae.fh rfl rfl rfl rfl) ?_
   refine aG.done rfl ?_
   refine gE ?_
   refine gT JG fun w' hS=>?_
   exact ⟨hS.ext,false,rfl,iff_of_false Bool.false_ne_true (fun h=>ho ((zg hi he r3).1 h).1)⟩
  have r3:¬ss[k].d.av=3:=by simpa using hc
  refine gS (gR ?_);refine aw bh ?_;refine ai ?_;refine gE ?_
  refine gC (fun hc=>?_) fun hc=>?_
  ·
   have r5:ss[k].d.av=5:=by simpa using hc
   obtain ⟨nv,hnv⟩:∃nv,nv=(if kE b ss[k].d 9=true then nd b ss[k].d.on else Ep):=⟨_,rfl⟩
   refine gS (gR ?_);refine ah ?_
   refine ab.v (ae.iR rfl rfl rfl rfl JV 0 rfl Jm rfl) ?_
   refine gP rfl rfl rfl rfl rfl call146 (fun w _ hS=>(by have:=sN bc l A cA b B ss.length cB O (dh b).length cO ss[k] 9 w (hS.ext.gG hC.dg) (hC.fa.ay hS.ext);rw [←hnv] at this;exact this)) ?_
   refine ah ?_
   iterate 2 refine fW ?_
   refine ab.eN rfl rfl rfl (fun _=>Jq _) (fun b11=>?_)
   refine ab.dG rfl rfl rfl rfl Jd 0 rfl rfl rfl rfl ?_
   refine ai ?_;refine gE (gS ?_)
   refine ab.dK 27 mixed ?_
   refine cV 0 (ae.mv rfl rfl rfl rfl) ?_
   refine cV 1 (ae.mv rfl rfl rfl rfl) ?_
   refine aG.cases (d:=141) rfl (fun hc=>?_) (fun hc=>?_)
   ·
    have ho:kE b ss[k].d 9=true:=hc
    rw [if_pos ho] at hnv
    obtain ⟨q,q1,q2,q3,q4⟩:=(iK.1 ho).nat hC.base
    rw [q1] at q4 hnv
    have hx:=hC.base.x q2 (by omega)
    rw [←hnv] at hx q4
    have hnd:nd b ss[k].d.on=nv:=by rw [hnv,q1]
    refine cV 2 (ae.mv rfl rfl rfl rfl) ?_
    refine cV 3 (ae.bin rfl rfl rfl rfl bh rfl) ?_
    refine cV 4 (ae.mv rfl rfl rfl rfl) ?_
    refine aG.cases (d:=144) rfl (fun hc=>?_) (fun hc=>?_)
    ·
     have e2:l=2:=by simpa using hc
     have hlg:l=2∨l=4∨l=6:=by omega
     refine cN 5 ?_
     refine cN 6 ?_
     refine cV 7 (ae.aT rfl rfl rfl rfl rfl) ?_
     refine cV 8 (ae.mv rfl rfl rfl rfl) ?_
     refine cN 9 ?_
     refine cN 10 ?_
     refine cV 11 (ae.aT rfl rfl rfl rfl rfl) ?_
     refine cV 12 (ae.aT rfl rfl rfl rfl rfl) ?_
     refine cV 13 (ae.mv rfl rfl rfl rfl) ?_
     refine cV 14 (ae.mv rfl rfl rfl rfl) ?_
     refine cV 15 (ae.mv rfl rfl rfl rfl) ?_
     refine cV 16 (ae.aH rfl rfl rfl rfl Jh rfl (by exact Ju) 0 rfl) ?_
     refine cV 17 (ae.dw rfl rfl rfl rfl Jz 1 rfl rfl) ?_
     refine cV 18 (ae.aH rfl rfl rfl rfl Jb rfl (by exact I9) 4 rfl) ?_
     refine cV 19 (ae.dw rfl rfl rfl rfl Ja 0 rfl rfl) ?_
     refine cV 20 (ae.bin (a:=U 1#64) rfl rfl rfl rfl (lS nv.x.toNat (by omega)) rfl) ?_
     refine cV 21 (ae.bin rfl rfl rfl rfl ql rfl) ?_
     refine aG.one (i:=22) rfl (dk.eh (c:=[_]) rfl rfl rfl rfl JW Ju J1 rfl rfl (fun b162=>⟨sL,?_⟩)) rfl
     refine aG.call (i:=23) _ rfl rfl rfl rfl rfl rfl (fun _ _=>call145 _ _) (fun w _ hS=>(by exact cJ bc l A b.length cA B cB ss O (dh b).length cO k (some ⟨b162,0,none⟩) 1 [HOr.hOr (ss[k].d.set) (bW nv.x)] w (hS.ext.gG hC.dg) (hC.sa.ay hS.ext) hk (Sl.dg (hS.get (j:=0) rfl)) (by simp [maxLen]))) ?_
     rintro v w1 w2 Y' hS he' ⟨r,rfl,hr⟩
     refine ⟨_,hS.later he',sM,?_⟩
     refine cV 24 (ae.aT rfl rfl rfl rfl rfl) ?_
     refine cV 25 (ae.fh rfl rfl rfl rfl) ?_
     refine aG.done rfl ?_
     refine gE ?_
     refine gT JG fun w' hS=>?_
     exact ⟨hS.ext,r,rfl,by rw [hr];exact ⟨fun h=>(oz hi he r5).2 ⟨ho,hlg,by rw [hnd];exact h⟩,fun h=>by have:=((oz hi he r5).1 h).2.2;rwa [hnd] at this⟩⟩
    have e2:¬l=2:=by simpa using hc
    refine cV 5 (ae.mv rfl rfl rfl rfl) ?_
    refine cV 6 (ae.bin rfl rfl rfl rfl bh rfl) ?_
    refine cV 7 (ae.de rfl rfl rfl rfl rfl) ?_
    refine cV 8 (ae.mv rfl rfl rfl rfl) ?_
    refine aG.cases (d:=148) rfl (fun hc=>?_) (fun hc=>?_)
    ·
     have e4:l=4:=by simpa using hc
     have hlg:l=2∨l=4∨l=6:=by omega
     refine cN 9 ?_
     refine cN 10 ?_
     refine cV 11 (ae.aT rfl rfl rfl rfl rfl) ?_
     refine cV 12 (ae.aT rfl rfl rfl rfl rfl) ?_
     refine cV 13 (ae.mv rfl rfl rfl rfl) ?_
     refine cV 14 (ae.mv rfl rfl rfl rfl) ?_
     refine cV 15 (ae.mv rfl rfl rfl rfl) ?_
     refine cV 16 (ae.aH rfl rfl rfl rfl Jh rfl (by exact Ju) 0 rfl) ?_
     refine cV 17 (ae.dw rfl rfl rfl rfl Jz 1 rfl rfl) ?_
     refine cV 18 (ae.aH rfl rfl rfl rfl Jb rfl (by exact I9) 4 rfl) ?_
     refine cV 19 (ae.dw rfl rfl rfl rfl Ja 0 rfl rfl) ?_
     refine cV 20 (ae.bin (a:=U 1#64) rfl rfl rfl rfl (lS nv.x.toNat (by omega)) rfl) ?_
     refine cV 21 (ae.bin rfl rfl rfl rfl ql rfl) ?_
     refine aG.one (i:=22) rfl (dk.eh (c:=[_]) rfl rfl rfl rfl JW Ju J1 rfl rfl (fun b162=>⟨sL,?_⟩)) rfl
     refine aG.call (i:=23) _ rfl rfl rfl rfl rfl rfl (fun _ _=>call145 _ _) (fun w _ hS=>(by exact cJ bc l A b.length cA B cB ss O (dh b).length cO k (some ⟨b162,0,none⟩) 1 [HOr.hOr (ss[k].d.set) (bW nv.x)] w (hS.ext.gG hC.dg) (hC.sa.ay hS.ext) hk (Sl.dg (hS.get (j:=0) rfl)) (by simp [maxLen]))) ?_
     rintro v w1 w2 Y' hS he' ⟨r,rfl,hr⟩
     refine ⟨_,hS.later he',sM,?_⟩
     refine cV 24 (ae.aT rfl rfl rfl rfl rfl) ?_
     refine cV 25 (ae.fh rfl rfl rfl rfl) ?_
     refine aG.done rfl ?_
     refine gE ?_
     refine gT JG fun w' hS=>?_
     exact ⟨hS.ext,r,rfl,by rw [hr];exact ⟨fun h=>(oz hi he r5).2 ⟨ho,hlg,by rw [hnd];exact h⟩,fun h=>by have:=((oz hi he r5).1 h).2.2;rwa [hnd] at this⟩⟩
    have e4:¬l=4:=by simpa using hc
    refine cV 9 (ae.mv rfl rfl rfl rfl) ?_
    refine cV 10 (ae.bin rfl rfl rfl rfl bh rfl) ?_
    refine cV 11 (ae.de rfl rfl rfl rfl rfl) ?_
    refine cV 12 (ae.aT rfl rfl rfl rfl rfl) ?_
    refine cV 13 (ae.mv rfl rfl rfl rfl) ?_
    refine aG.cases (d:=153) rfl (fun hc=>?_) (fun hc=>?_)
    ·
     have e6:l=6:=by simpa using hc
     have hlg:l=2∨l=4∨l=6:=by omega
     refine cV 14 (ae.mv rfl rfl rfl rfl) ?_
     refine cV 15 (ae.mv rfl rfl rfl rfl) ?_
     refine cV 16 (ae.aH rfl rfl rfl rfl Jh rfl (by exact Ju) 0 rfl) ?_
     refine cV 17 (ae.dw rfl rfl rfl rfl Jz 1 rfl rfl) ?_
     refine cV 18 (ae.aH rfl rfl rfl rfl Jb rfl (by exact I9) 4 rfl) ?_
     refine cV 19 (ae.dw rfl rfl rfl rfl Ja 0 rfl rfl) ?_
     refine cV 20 (ae.bin (a:=U 1#64) rfl rfl rfl rfl (lS nv.x.toNat (by omega)) rfl) ?_
     refine cV 21 (ae.bin rfl rfl rfl rfl ql rfl) ?_
     refine aG.one (i:=22) rfl (dk.eh (c:=[_]) rfl rfl rfl rfl JW Ju J1 rfl rfl (fun b162=>⟨sL,?_⟩)) rfl
     refine aG.call (i:=23) _ rfl rfl rfl rfl rfl rfl (fun _ _=>call145 _ _) (fun w _ hS=>(by exact cJ bc l A b.length cA B cB ss O (dh b).length cO k (some ⟨b162,0,none⟩) 1 [HOr.hOr (ss[k].d.set) (bW nv.x)] w (hS.ext.gG hC.dg) (hC.sa.ay hS.ext) hk (Sl.dg (hS.get (j:=0) rfl)) (by simp [maxLen]))) ?_
     rintro v w1 w2 Y' hS he' ⟨r,rfl,hr⟩
     refine ⟨_,hS.later he',sM,?_⟩
     refine cV 24 (ae.aT rfl rfl rfl rfl rfl) ?_
     refine cV 25 (ae.fh rfl rfl rfl rfl) ?_
     refine aG.done rfl ?_
     refine gE ?_
     refine gT JG fun w' hS=>?_
     exact ⟨hS.ext,r,rfl,by rw [hr];exact ⟨fun h=>(oz hi he r5).2 ⟨ho,hlg,by rw [hnd];exact h⟩,fun h=>by have:=((oz hi he r5).1 h).2.2;rwa [hnd] at this⟩⟩
    have e6:¬l=6:=by simpa using hc
    refine cN 14 ?_
    refine cN 15 ?_
    refine cN 16 ?_
    refine cN 17 ?_
    refine cN 18 ?_
    refine cN 19 ?_
    refine cN 20 ?_
    refine cN 21 ?_
    refine cN 22 ?_
    refine cN 23 ?_
    refine cV 24 (ae.de rfl rfl rfl rfl rfl) ?_
    refine cV 25 (ae.fh rfl rfl rfl rfl) ?_
    refine aG.done rfl ?_
    refine gE ?_
    refine gT JG fun w' hS=>?_
    exact ⟨hS.ext,false,rfl,iff_of_false Bool.false_ne_true (fun h=>by have:=((oz hi he r5).1 h).2.1;omega)⟩
   have ho:¬kE b ss[k].d 9=true:=by rw [show kE b ss[k].d 9=false from hc];decide
   refine cN 2 ?_
   refine cN 3 ?_
   refine cN 4 ?_
   refine cN 5 ?_
   refine cN 6 ?_
   refine cN 7 ?_
   refine cN 8 ?_
   refine cN 9 ?_
   refine cN 10 ?_
   refine cN 11 ?_
   refine cV 12 (ae.de rfl rfl rfl rfl rfl) ?_
   refine cV 13 (ae.mv rfl rfl rfl rfl) ?_
   refine cN 14 ?_
   refine cN 15 ?_
   refine cN 16 ?_
   refine cN 17 ?_
   refine cN 18 ?_
   refine cN 19 ?_
   refine cN 20 ?_
   refine cN 21 ?_
   refine cN 22 ?_
   refine cN 23 ?_
   refine cV 24 (ae.de rfl rfl rfl rfl rfl) ?_
   refine cV 25 (ae.fh rfl rfl rfl rfl) ?_
   refine aG.done rfl ?_
   refine gE ?_
   refine gT JG fun w' hS=>?_
   exact ⟨hS.ext,false,rfl,iff_of_false Bool.false_ne_true (fun h=>ho ((oz hi he r5).1 h).1)⟩
  have r5:¬ss[k].d.av=5:=by simpa using hc
  refine gS (gR ?_);refine aw bh ?_;refine ai ?_;refine gE ?_
  refine gC (fun hc=>?_) fun hc=>?_
  ·
   have r6:ss[k].d.av=6:=by simpa using hc
   obtain ⟨nv,hnv⟩:∃nv,nv=(if kE b ss[k].d 10=true then nd b ss[k].d.on else Ep):=⟨_,rfl⟩
   refine gS (gR ?_);refine ah ?_
   refine ab.v (ae.iR rfl rfl rfl rfl JV 0 rfl Jm rfl) ?_
   refine gP rfl rfl rfl rfl rfl call146 (fun w _ hS=>(by have:=sN bc l A cA b B ss.length cB O (dh b).length cO ss[k] 10 w (hS.ext.gG hC.dg) (hC.fa.ay hS.ext);rw [←hnv] at this;exact this)) ?_
   refine ah ?_
   iterate 2 refine fW ?_
   refine ab.eN rfl rfl rfl (fun _=>Jq _) (fun b13=>?_)
   refine ab.dG rfl rfl rfl rfl Jd 0 rfl rfl rfl rfl ?_
   refine ai ?_;refine gE (gS ?_)
   refine ab.dK 24 mixed ?_
   refine cV 0 (ae.mv rfl rfl rfl rfl) ?_
   refine cV 1 (ae.mv rfl rfl rfl rfl) ?_
   refine aG.cases (d:=174) rfl (fun hc=>?_) (fun hc=>?_)
   ·
    have ho:kE b ss[k].d 10=true:=hc
    rw [if_pos ho] at hnv
    obtain ⟨q,q1,q2,q3,q4⟩:=(iK.1 ho).nat hC.base
    rw [q1] at q4 hnv
    have hx:=hC.base.x q2 (by omega)
    rw [←hnv] at hx q4
    have hnd:nd b ss[k].d.on=nv:=by rw [hnv,q1]
    refine cV 2 (ae.mv rfl rfl rfl rfl) ?_
    refine cV 3 (ae.mv rfl rfl rfl rfl) ?_
    refine cV 4 (ae.aH rfl rfl rfl rfl Jb rfl (by exact I9) 4 rfl) ?_
    refine cV 5 (ae.dw rfl rfl rfl rfl Ja 0 rfl rfl) ?_
    refine cV 6 (ae.bin (a:=U 1#64) rfl rfl rfl rfl (lS nv.x.toNat (by omega)) rfl) ?_
    refine cV 7 (ae.mv rfl rfl rfl rfl) ?_
    refine cV 8 (ae.mv rfl rfl rfl rfl) ?_
    refine cV 9 (ae.eg rfl rfl rfl rfl) ?_
    refine cV 10 (ae.aH rfl rfl rfl rfl JY rfl (by exact Jp) 0 rfl) ?_
    refine cV 11 (ae.aH rfl rfl rfl rfl Jr rfl (by exact Jj) 1 rfl) ?_
    refine cV 12 (ae.ld (p:=⟨bc,1,none⟩) rfl rfl rfl rfl Jn (fun w _ hS=>HB hS.ext rfl)) ?_
    refine cV 13 (ae.aH rfl rfl rfl rfl Jh rfl (by exact Ju) 0 rfl) ?_
    refine cV 14 (ae.dw rfl rfl rfl rfl Jz 1 rfl rfl) ?_
    refine cV 15 (ae.aH rfl rfl rfl rfl Jb rfl (by exact I9) 1 rfl) ?_
    refine cV 16 (ae.dw rfl rfl rfl rfl Ja 0 rfl rfl) ?_
    refine aG.cC (i:=17) rfl rfl rfl rfl rfl rfl (fun _ _=>call147 _ _) (fun w _ hS=>(by exact pr l A cA b ss[k].d.set nv.i w (hC.fa.ay hS.ext) hC.base)) sL ?_
    refine cV 18 (ae.bin rfl rfl rfl rfl ql rfl) ?_
    refine aG.one (i:=19) rfl (dk.eh (c:=[_]) rfl rfl rfl rfl JW Ju J1 rfl rfl (fun b192=>⟨sL,?_⟩)) rfl
    refine aG.call (i:=20) _ rfl rfl rfl rfl rfl rfl (fun _ _=>call145 _ _) (fun w _ hS=>(by exact cJ bc l A b.length cA B cB ss O (dh b).length cO k (some ⟨b192,0,none⟩) 1 [HOr.hOr (bW nv.x) (lz l b ss[k].d.set nv.i)] w (hS.ext.gG hC.dg) (hC.sa.ay hS.ext) hk (Sl.dg (hS.get (j:=0) rfl)) (by simp [maxLen]))) ?_
    rintro v w1 w2 Y' hS he' ⟨r,rfl,hr⟩
    refine ⟨_,hS.later he',sM,?_⟩
    refine cV 21 (ae.aT rfl rfl rfl rfl rfl) ?_
    refine cV 22 (ae.fh rfl rfl rfl rfl) ?_
    refine aG.done rfl ?_
    refine gE ?_
    refine gT JG fun w' hS=>?_
    exact ⟨hS.ext,r,rfl,by rw [hr];exact ⟨fun h=>(zf hi he r6).2 ⟨ho,by rw [hnd];exact h⟩,fun h=>by have:=((zf hi he r6).1 h).2;rwa [hnd] at this⟩⟩
   have ho:¬kE b ss[k].d 10=true:=by rw [show kE b ss[k].d 10=false from hc];decide
   refine cN 2 ?_
   refine cN 3 ?_
   refine cN 4 ?_
   refine cN 5 ?_
   refine cN 6 ?_
   refine cN 7 ?_
   refine cN 8 ?_
   refine cN 9 ?_
   refine cN 10 ?_
   refine cN 11 ?_
   refine cN 12 ?_
   refine cN 13 ?_
   refine cN 14 ?_
   refine cN 15 ?_
   refine cN 16 ?_
   refine cN 17 ?_
   refine cN 18 ?_
   refine cN 19 ?_
   refine cN 20 ?_
   refine cV 21 (ae.de rfl rfl rfl rfl rfl) ?_
   refine cV 22 (ae.fh rfl rfl rfl rfl) ?_
   refine aG.done rfl ?_
   refine gE ?_
   refine gT JG fun w' hS=>?_
   exact ⟨hS.ext,false,rfl,iff_of_false Bool.false_ne_true (fun h=>ho ((zf hi he r6).1 h).1)⟩
  have r6:¬ss[k].d.av=6:=by simpa using hc
  refine gS (gR ?_);refine aw bh ?_;refine ai ?_;refine gE ?_
  refine gC (fun hc=>?_) fun hc=>?_
  ·
   have r7:ss[k].d.av=7:=by simpa using hc
   refine gS ?_
   refine ab.dK 35 mixed ?_
   refine cV 0 (ae.mv rfl rfl rfl rfl) ?_
   refine cV 1 (ae.bin rfl rfl rfl rfl bh rfl) ?_
   refine cV 2 (ae.mv rfl rfl rfl rfl) ?_
   refine aG.cases (d:=199) rfl (fun hc=>?_) (fun hc=>?_)
   ·
    have e1:l=1:=by simpa using hc
    have hlg:l=1∨l=5:=by omega
    refine cN 3 ?_
    refine cN 4 ?_
    refine cV 5 (ae.aT rfl rfl rfl rfl rfl) ?_
    refine cV 6 (ae.mv rfl rfl rfl rfl) ?_
    refine cV 7 (ae.aH rfl rfl rfl rfl Jh rfl (by exact I9) 2 rfl) ?_
    refine cV 8 (ae.dw rfl rfl rfl rfl Ja 0 rfl rfl) ?_
    refine cV 9 (ae.bin rfl rfl rfl rfl oN rfl) ?_
    refine cV 10 (ae.aT rfl rfl rfl rfl rfl) ?_
    refine cV 11 (ae.mv rfl rfl rfl rfl) ?_
    refine aG.cases (d:=208) rfl (fun hc=>?_) (fun hc=>?_)
    ·
     have o0:0≤ss[k].d.on:=by simpa using hc
     refine cV 12 (ae.aH rfl rfl rfl rfl Jh rfl (by exact I9) 2 rfl) ?_
     refine cV 13 (ae.dw rfl rfl rfl rfl Ja 0 rfl rfl) ?_
     refine cV 14 (ae.bin rfl rfl rfl rfl jl rfl) ?_
     refine cV 15 (ae.aT rfl rfl rfl rfl rfl) ?_
     refine cV 16 (ae.mv rfl rfl rfl rfl) ?_
     refine aG.cases (d:=213) rfl (fun hc=>?_) (fun hc=>?_)
     ·
      have o1:ss[k].d.on<4:=by simpa using hc
      refine cV 17 (ae.mv rfl rfl rfl rfl) ?_
      refine cV 18 (ae.mv rfl rfl rfl rfl) ?_
      refine cV 19 (ae.mv rfl rfl rfl rfl) ?_
      refine cV 20 (ae.mv rfl rfl rfl rfl) ?_
      refine cV 21 (ae.eg rfl rfl rfl rfl) ?_
      refine cV 22 (ae.aH rfl rfl rfl rfl JY rfl (by exact Jp) 0 rfl) ?_
      refine cV 23 (ae.aH rfl rfl rfl rfl Jr rfl (by exact Jj) 1 rfl) ?_
      refine cV 24 (ae.ld (p:=⟨bc,1,none⟩) rfl rfl rfl rfl Jn (fun w _ hS=>HB hS.ext rfl)) ?_
      refine cV 25 (ae.aH rfl rfl rfl rfl Jh rfl (by exact Ju) 0 rfl) ?_
      refine cV 26 (ae.dw rfl rfl rfl rfl Jz 0 rfl rfl) ?_
      refine cV 27 (ae.aH rfl rfl rfl rfl Jh rfl (by exact I9) 2 rfl) ?_
      refine cV 28 (ae.dw rfl rfl rfl rfl Ja 0 rfl rfl) ?_
      refine aG.cC (i:=29) rfl rfl rfl rfl rfl rfl (fun _ _=>call147 _ _) (fun w _ hS=>(by exact pr l A cA b ss[k].d.set ss[k].d.on w (hC.fa.ay hS.ext) hC.base)) sL ?_
      refine aG.one (i:=30) rfl (dk.eh (c:=[_]) rfl rfl rfl rfl JW Ju J1 rfl rfl (fun b227=>⟨sL,?_⟩)) rfl
      refine aG.call (i:=31) _ rfl rfl rfl rfl rfl rfl (fun _ _=>call145 _ _) (fun w _ hS=>(by exact cJ bc l A b.length cA B cB ss O (dh b).length cO k (some ⟨b227,0,none⟩) 1 [lz l b ss[k].d.set ss[k].d.on] w (hS.ext.gG hC.dg) (hC.sa.ay hS.ext) hk (Sl.dg (hS.get (j:=0) rfl)) (by simp [maxLen]))) ?_
      rintro v w1 w2 Y' hS he' ⟨r,rfl,hr⟩
      refine ⟨_,hS.later he',sM,?_⟩
      refine cV 32 (ae.aT rfl rfl rfl rfl rfl) ?_
      refine cV 33 (ae.fh rfl rfl rfl rfl) ?_
      refine aG.done rfl ?_
      refine gE ?_
      refine gT JG fun w' hS=>?_
      exact ⟨hS.ext,r,rfl,by rw [hr];exact ⟨fun h=>(ng hi he r7).2 ⟨hlg,o0,o1,h⟩,fun h=>((ng hi he r7).1 h).2.2.2⟩⟩
     have o1:¬ss[k].d.on<4:=by simpa using hc
     refine cN 17 ?_
     refine cN 18 ?_
     refine cN 19 ?_
     refine cN 20 ?_
     refine cN 21 ?_
     refine cN 22 ?_
     refine cN 23 ?_
     refine cN 24 ?_
     refine cN 25 ?_
     refine cN 26 ?_
     refine cN 27 ?_
     refine cN 28 ?_
     refine cN 29 ?_
     refine cN 30 ?_
     refine cN 31 ?_
     refine cV 32 (ae.de rfl rfl rfl rfl rfl) ?_
     refine cV 33 (ae.fh rfl rfl rfl rfl) ?_
     refine aG.done rfl ?_
     refine gE ?_
     refine gT JG fun w' hS=>?_
     exact ⟨hS.ext,false,rfl,iff_of_false Bool.false_ne_true (fun h=>o1 ((ng hi he r7).1 h).2.2.1)⟩
    have o0:¬0≤ss[k].d.on:=by simpa using hc
    refine cN 12 ?_
    refine cN 13 ?_
    refine cN 14 ?_
    refine cV 15 (ae.de rfl rfl rfl rfl rfl) ?_
    refine cV 16 (ae.mv rfl rfl rfl rfl) ?_
    refine cN 17 ?_
    refine cN 18 ?_
    refine cN 19 ?_
    refine cN 20 ?_
    refine cN 21 ?_
    refine cN 22 ?_
    refine cN 23 ?_
    refine cN 24 ?_
    refine cN 25 ?_
    refine cN 26 ?_
    refine cN 27 ?_
    refine cN 28 ?_
    refine cN 29 ?_
    refine cN 30 ?_
    refine cN 31 ?_
    refine cV 32 (ae.de rfl rfl rfl rfl rfl) ?_
    refine cV 33 (ae.fh rfl rfl rfl rfl) ?_
    refine aG.done rfl ?_
    refine gE ?_
    refine gT JG fun w' hS=>?_
    exact ⟨hS.ext,false,rfl,iff_of_false Bool.false_ne_true (fun h=>o0 ((ng hi he r7).1 h).2.1)⟩
   have e1:¬l=1:=by simpa using hc
   refine cV 3 (ae.mv rfl rfl rfl rfl) ?_
   refine cV 4 (ae.bin rfl rfl rfl rfl bh rfl) ?_
   refine cV 5 (ae.de rfl rfl rfl rfl rfl) ?_
   refine cV 6 (ae.mv rfl rfl rfl rfl) ?_
   refine aG.cases (d:=203) rfl (fun hc=>?_) (fun hc=>?_)
   ·
    have e5:l=5:=by simpa using hc
    have hlg:l=1∨l=5:=by omega
    refine cV 7 (ae.aH rfl rfl rfl rfl Jh rfl (by exact I9) 2 rfl) ?_
    refine cV 8 (ae.dw rfl rfl rfl rfl Ja 0 rfl rfl) ?_
    refine cV 9 (ae.bin rfl rfl rfl rfl oN rfl) ?_
    refine cV 10 (ae.aT rfl rfl rfl rfl rfl) ?_
    refine cV 11 (ae.mv rfl rfl rfl rfl) ?_
    refine aG.cases (d:=208) rfl (fun hc=>?_) (fun hc=>?_)
    ·
     have o0:0≤ss[k].d.on:=by simpa using hc
     refine cV 12 (ae.aH rfl rfl rfl rfl Jh rfl (by exact I9) 2 rfl) ?_
     refine cV 13 (ae.dw rfl rfl rfl rfl Ja 0 rfl rfl) ?_
     refine cV 14 (ae.bin rfl rfl rfl rfl jl rfl) ?_
     refine cV 15 (ae.aT rfl rfl rfl rfl rfl) ?_
     refine cV 16 (ae.mv rfl rfl rfl rfl) ?_
     refine aG.cases (d:=213) rfl (fun hc=>?_) (fun hc=>?_)
     ·
      have o1:ss[k].d.on<4:=by simpa using hc
      refine cV 17 (ae.mv rfl rfl rfl rfl) ?_
      refine cV 18 (ae.mv rfl rfl rfl rfl) ?_
      refine cV 19 (ae.mv rfl rfl rfl rfl) ?_
      refine cV 20 (ae.mv rfl rfl rfl rfl) ?_
      refine cV 21 (ae.eg rfl rfl rfl rfl) ?_
      refine cV 22 (ae.aH rfl rfl rfl rfl JY rfl (by exact Jp) 0 rfl) ?_
      refine cV 23 (ae.aH rfl rfl rfl rfl Jr rfl (by exact Jj) 1 rfl) ?_
      refine cV 24 (ae.ld (p:=⟨bc,1,none⟩) rfl rfl rfl rfl Jn (fun w _ hS=>HB hS.ext rfl)) ?_
      refine cV 25 (ae.aH rfl rfl rfl rfl Jh rfl (by exact Ju) 0 rfl) ?_
      refine cV 26 (ae.dw rfl rfl rfl rfl Jz 0 rfl rfl) ?_
      refine cV 27 (ae.aH rfl rfl rfl rfl Jh rfl (by exact I9) 2 rfl) ?_
      refine cV 28 (ae.dw rfl rfl rfl rfl Ja 0 rfl rfl) ?_
      refine aG.cC (i:=29) rfl rfl rfl rfl rfl rfl (fun _ _=>call147 _ _) (fun w _ hS=>(by exact pr l A cA b ss[k].d.set ss[k].d.on w (hC.fa.ay hS.ext) hC.base)) sL ?_
      refine aG.one (i:=30) rfl (dk.eh (c:=[_]) rfl rfl rfl rfl JW Ju J1 rfl rfl (fun b227=>⟨sL,?_⟩)) rfl
      refine aG.call (i:=31) _ rfl rfl rfl rfl rfl rfl (fun _ _=>call145 _ _) (fun w _ hS=>(by exact cJ bc l A b.length cA B cB ss O (dh b).length cO k (some ⟨b227,0,none⟩) 1 [lz l b ss[k].d.set ss[k].d.on] w (hS.ext.gG hC.dg) (hC.sa.ay hS.ext) hk (Sl.dg (hS.get (j:=0) rfl)) (by simp [maxLen]))) ?_
      rintro v w1 w2 Y' hS he' ⟨r,rfl,hr⟩
      refine ⟨_,hS.later he',sM,?_⟩
      refine cV 32 (ae.aT rfl rfl rfl rfl rfl) ?_
      refine cV 33 (ae.fh rfl rfl rfl rfl) ?_
      refine aG.done rfl ?_
      refine gE ?_
      refine gT JG fun w' hS=>?_
      exact ⟨hS.ext,r,rfl,by rw [hr];exact ⟨fun h=>(ng hi he r7).2 ⟨hlg,o0,o1,h⟩,fun h=>((ng hi he r7).1 h).2.2.2⟩⟩
     have o1:¬ss[k].d.on<4:=by simpa using hc
     refine cN 17 ?_
     refine cN 18 ?_
     refine cN 19 ?_
     refine cN 20 ?_
     refine cN 21 ?_
     refine cN 22 ?_
     refine cN 23 ?_
     refine cN 24 ?_
     refine cN 25 ?_
     refine cN 26 ?_
     refine cN 27 ?_
     refine cN 28 ?_
     refine cN 29 ?_
     refine cN 30 ?_
     refine cN 31 ?_
     refine cV 32 (ae.de rfl rfl rfl rfl rfl) ?_
     refine cV 33 (ae.fh rfl rfl rfl rfl) ?_
     refine aG.done rfl ?_
     refine gE ?_
     refine gT JG fun w' hS=>?_
     exact ⟨hS.ext,false,rfl,iff_of_false Bool.false_ne_true (fun h=>o1 ((ng hi he r7).1 h).2.2.1)⟩
    have o0:¬0≤ss[k].d.on:=by simpa using hc
    refine cN 12 ?_
    refine cN 13 ?_
    refine cN 14 ?_
    refine cV 15 (ae.de rfl rfl rfl rfl rfl) ?_
    refine cV 16 (ae.mv rfl rfl rfl rfl) ?_
    refine cN 17 ?_
    refine cN 18 ?_
    refine cN 19 ?_
    refine cN 20 ?_
    refine cN 21 ?_
    refine cN 22 ?_
    refine cN 23 ?_
    refine cN 24 ?_
    refine cN 25 ?_
    refine cN 26 ?_
    refine cN 27 ?_
    refine cN 28 ?_
    refine cN 29 ?_
    refine cN 30 ?_
    refine cN 31 ?_
    refine cV 32 (ae.de rfl rfl rfl rfl rfl) ?_
    refine cV 33 (ae.fh rfl rfl rfl rfl) ?_
    refine aG.done rfl ?_
    refine gE ?_
    refine gT JG fun w' hS=>?_
    exact ⟨hS.ext,false,rfl,iff_of_false Bool.false_ne_true (fun h=>o0 ((ng hi he r7).1 h).2.1)⟩
   have e5:¬l=5:=by simpa using hc
   refine cN 7 ?_
   refine cN 8 ?_
   refine cN 9 ?_
   refine cV 10 (ae.de rfl rfl rfl rfl rfl) ?_
   refine cV 11 (ae.mv rfl rfl rfl rfl) ?_
   refine cN 12 ?_
   refine cN 13 ?_
   refine cN 14 ?_
   refine cV 15 (ae.de rfl rfl rfl rfl rfl) ?_
   refine cV 16 (ae.mv rfl rfl rfl rfl) ?_
   refine cN 17 ?_
   refine cN 18 ?_
   refine cN 19 ?_
   refine cN 20 ?_
   refine cN 21 ?_
   refine cN 22 ?_
   refine cN 23 ?_
   refine cN 24 ?_
   refine cN 25 ?_
   refine cN 26 ?_
   refine cN 27 ?_
   refine cN 28 ?_
   refine cN 29 ?_
   refine cN 30 ?_
   refine cN 31 ?_
   refine cV 32 (ae.de rfl rfl rfl rfl rfl) ?_
   refine cV 33 (ae.fh rfl rfl rfl rfl) ?_
   refine aG.done rfl ?_
   refine gE ?_
   refine gT JG fun w' hS=>?_
   exact ⟨hS.ext,false,rfl,iff_of_false Bool.false_ne_true (fun h=>by have:=((ng hi he r7).1 h).1;omega)⟩
  have r7:¬ss[k].d.av=7:=by simpa using hc
  refine gK (dQ (gS (gR ?_)));refine ai ?_;refine gE ?_
  refine gT JG fun w' hS=>?_
  exact ⟨hS.ext,false,rfl,iff_of_false Bool.false_ne_true (DS r1 r2 r3 r4 r5 r6 r7)⟩
end Go.Proofs.YtnfmegcknckahaaGreatDoor
namespace Go.Proofs.YtnfmegcknckahaaGreatDoor
open Go.RowKit Go.Proofs.Wit Tryz
theorem uI:(Tryz.prog.info? 3).map (fun i=>(i.zero,i.size,i.bytes))=some (some (bK 0),1,8):=by kernel_rfl
theorem vk (l:Int) (A:Option Addr) (cA:Nat) (b:List NV) (B:Option Addr) (m cB:Nat) (w:World) (hA:FA w A b) (hl:b.length≤maxLen):
    Cn Tryz.prog 52 [.agg (cn l A b.length cA B m cB)] w (fun v _=>v=.int .i64 (eG l b m)):=by
  refine Cn.of func52 rfl rfl ?_
  refine gS (gR ?_)
  refine ab.bx rfl rfl rfl rfl (fun b1=>?_)
  refine ai ?_;refine gE (gS (gS (gR ?_)));refine al Jr I9 0 ?_;refine aq Ja 0 ?_
  refine gP rfl rfl rfl rfl rfl call96 (fun w _ hS=>(by exact xO l w)) ?_
  refine fe bG ?_;refine gE ?_
  refine gC (fun hc=>?_) fun hc=>?_
  ·
   have h1:¬(0≤l∧l≤6):=by simp at hc;omega
   refine gS (gR ?_);refine ai ?_;refine gE ?_
   refine gT func52 fun w' hS=>?_
   exact ⟨hS.ext,by rw [eG,if_pos h1];rfl⟩
  have h1:0≤l∧l≤6:=by simp at hc;omega
  have h1':¬¬(0≤l∧l≤6):=fun h=>h h1
  refine gK (gS (gS (gR ?_)));refine al Jr Jj 1 ?_;refine aq Jn 0 ?_
  refine gP rfl rfl rfl rfl rfl call97 (fun w _ hS=>(by exact Ax A cA b w (hA.ay hS.ext) hl)) ?_
  refine ai ?_;refine gE (gS (gR ?_));refine ah ?_;refine aw gO ?_;refine gE ?_
  refine gC (fun hc=>?_) fun hc=>?_
  ·
   have h2:kf b≠0:=by simpa using hc
   refine gS (gR ?_);refine ah ?_;refine ai ?_;refine gE ?_
   refine gT func52 fun w' hS=>?_
   exact ⟨hS.ext,by rw [eG,if_neg h1',if_pos h2];rfl⟩
  have h2:¬kf b≠0:=by simpa using hc
  refine gK (gS (gS (gR ?_)));refine al Jr JH 2 ?_;refine aq JN 0 ?_;refine dY JB ?_;refine aw bh ?_;refine ah ?_
  refine eD 18 (fun hc=>?_) fun hc=>?_
  ·
   have h3:m=0:=by simp at hc;omega
   iterate 4 refine cy ?_
   refine cz ?_;refine gE (ab.bX rfl (gS (gR ?_)));refine ai ?_;refine gE ?_
   refine gT func52 fun w' hS=>?_
   exact ⟨hS.ext,by rw [eG,if_neg h1',if_neg h2,if_pos (.inl h3)];rfl⟩
  have h3:¬m=0:=by simp at hc;omega
  refine al Jr JH 2 ?_;refine aq JN 0 ?_;refine dY JB ?_;refine aw w6 ?_;refine bE ?_;refine gE ?_
  refine gC (fun hc=>?_) fun hc=>?_
  ·
   have h4:4096<m:=by simp at hc;omega
   refine gS (gR ?_);refine ai ?_;refine gE ?_
   refine gT func52 fun w' hS=>?_
   exact ⟨hS.ext,by rw [eG,if_neg h1',if_neg h2,if_pos (.inr h4)];rfl⟩
  have h4:¬4096<m:=by simp at hc;omega
  refine gK (gS (gR ?_));refine ai ?_;refine gE ?_
  refine gT func52 fun w' hS=>?_
  exact ⟨hS.ext,by rw [eG,if_neg h1',if_neg h2,if_neg (by omega)];rfl⟩
theorem Dv (b7:Nat) (_t:Tr) (x:FV) (q:Option Nat) (gs:List FV) (cap:Nat) (b:List NV) (i:Nat) (w:World) (hb:aY b) (hi:i<b.length) (hgs:gs.map FV.f=(List.range b.length).map (fun i=>bT (aa b i))) (ha:qF w (q.map (fun b=>⟨b,0,none⟩)) gs) (hfa:∀g∈gs,FA w g.a g.f) (h7:w.heap[b7]?=some (.cells #[x.v] 22 (0,0))) (hx:FA w x.a x.f) (hxf:x.f=bT (eR (aa b i))):
  Cn Tryz.prog 99 [cK q gs.length cap,.func (.func 100) #[] #[.pointer (some ⟨b7,0,none⟩)]] w (fun v _=>v=.int .i64 (jw b i)):=by
 have hlen:gs.length=b.length:=by have:=congrArg List.length hgs;simpa using this
 refine Cn.mono (Fs b7 x (q.map (fun b=>⟨b,0,none⟩)) cap gs w ha (by have:=hb.len;unfold maxLen;omega) hfa h7 hx (by rw [hxf];exact zx _)) (fun v w' _ h=>?_)
 obtain ⟨j,rfl,hj⟩:=h
 rw [Dc hb hi hxf hgs hj]
set_option maxRecDepth 8000 in
theorem wm (l:Int) (A:Option Addr) (cA:Nat) (b:List NV) (B:Option Addr) (cB:Nat) (ss:List SV) (w:World) (hA:FA w A b) (hB:zJ w B ss) (hl:b.length≤maxLen) (_hsl:ss.length≤maxLen):
    Cn Tryz.prog 53 [.agg (cn l A b.length cA B ss.length cB)] w (fun v _=>∃r:Int,v=.int .i64 r∧(0≤r↔eG l b ss.length=0∧¬∀(k:Nat) (hk:k<ss.length),ej l b (fg ss) k ss[k].d)):=by
  obtain ⟨i2,hi2,hz2,hsz2,hby2⟩:=info_parts uI
  refine Cn.of func53 rfl rfl ?_
  refine gS (gR ?_)
  refine ab.bx rfl rfl rfl rfl (fun b1=>?_)
  refine ai ?_;refine gE (gS (gS (gR ?_)))
  refine ab.v (ae.iR rfl rfl rfl rfl JR 0 rfl Jp rfl) ?_
  refine gP rfl rfl rfl rfl rfl call52 (fun w _ hS=>(by exact vk l A cA b B ss.length cB w (hA.ay hS.ext) hl)) ?_
  refine aw gO ?_;refine gE ?_
  refine gC (fun hc=>?_) fun hc=>?_
  ·
   have h1:eG l b ss.length≠0:=by simpa using hc
   refine gS (gR ?_);refine ai ?_;refine gE ?_
   refine gT func53 fun w' hS=>?_
   exact ⟨hS.ext,-1,rfl,⟨fun h=>absurd h (by decide),fun h=>absurd h.1 h1⟩⟩
  have h1:eG l b ss.length=0:=by simpa using hc
  obtain ⟨hlo,hbe,hs0,hs4⟩:=me.1 h1
  have hb:aY b:=by have:=mm.1 hbe;exact ⟨this.1,this.2.1,this.2.2⟩
  have hlen:=hb.len
  refine gK (gS (gR ?_))
  refine ab.v (ae.iR rfl rfl rfl rfl JR 0 rfl Jp rfl) ?_
  refine ab.v (ae.eM rfl rfl rfl rfl (bd116 (c:=[_,_,_,_]) rfl)) ?_
  refine ab.bx rfl rfl rfl rfl (fun b14=>?_)
  refine ai ?_;refine gE (gS (gR ?_));refine al Jr Jj 1 ?_;refine aq Jn 1 ?_
  refine gM rfl rfl rfl rfl rfl call62 (fun w _ hS=>(by exact xQ A cA b w (hA.ay hS.ext) hb)) ?_
  rintro v w1 w2 Y' hS he ⟨gs,⟨q,cap,sp,H,rfl,hq,ao,hnew,hin⟩,hgs⟩
  refine ⟨_,hS.fD (pre:=[_]) he hnew,?_⟩
  refine ai ?_;refine gE (gS (gS (gR ?_)));refine ah ?_;refine dY Jo ?_;refine ah ?_;refine gE (gB ?_)
  have hgl:gs.length=b.length:=by have:=congrArg List.length hgs;simpa using this
  have hpos:=(aA.1 hb.iY).pos
  obtain ⟨bq,rfl⟩:∃b,q=some b:=by
    cases q with
    |none=>have:=(hq rfl).1;omega
    |some b=>exact ⟨b,rfl⟩
  refine ab.cQ (ob bK 3 [] []) ?_
  refine ab.loop (σ:=Nat×Option Nat×Nat×List Value×Hl) (fun z=>[(1,.pointer (some ⟨b1,0,none⟩)),(3,.pointer (some ⟨b14,0,none⟩)),(4,cK (some bq) gs.length cap),(18,cK (some bq) gs.length cap),(19,.int .i64 gs.length),(20,.int .i64 z.1)])
    (fun z=>[(z.2.1,ob bK 3 ((dh b).take z.1) z.2.2.2.1),(some bq,ob FV.v 22 gs sp),(some b14,.cells (oM l A b.length cA B ss.length cB (z.2.1.map (fun b=>⟨b,0,none⟩)) z.1 z.2.2.1) 116 (0,0)),(some b1,.cells (cn l A b.length cA B ss.length cB) 25 (0,0))]++z.2.2.2.2)
    (fun z=>z.1≤b.length∧(z.2.1=none→z.1=0∧z.2.2.1=0)∧(((dh b).take z.1).map bK++z.2.2.2.1).length=z.2.2.1∧∀g∈gs,g.In 66 z.2.2.2.2)
    (fun z=>b.length - z.1) (0,none,0,[],H) ⟨Nat.zero_le _,fun _=>⟨rfl,rfl⟩,rfl,hin⟩ ⟨rfl,rfl,rfl,rfl,rfl,rfl,trivial⟩ (List.Sublist.refl _) (fun z hZ IH=>?_)
  obtain ⟨i,qo,co,spo,H1⟩:=z
  obtain ⟨hi,hqo,hco,hin1⟩:=hZ
  dsimp only at hi hqo hco hin1 IH⊢
  refine gS (gR ?_);refine aw jl ?_;refine gE (gS ?_)
  refine gC (fun hc=>?_) fun hc=>?_
  ·
   have hig:i<gs.length:=by simp at hc;omega
   have hib:i<b.length:=by omega
   have hfi:gs[i].f=bT (aa b i):=by
     have h1:(gs.map FV.f)[i]?=some gs[i].f:=by rw [List.getElem?_map,List.getElem?_eq_getElem hig];rfl
     rw [hgs,List.getElem?_map,List.getElem?_range hib] at h1
     exact (Option.some.inj h1).symm
   have hgi:gs.getD i FV.z=gs[i]:=by simp [List.getD_eq_getElem?_getD,hig]
   obtain ⟨x,hx⟩:∃x,x=gs[i]:=⟨_,rfl⟩
   have hxin:x∈gs:=by rw [hx];exact List.getElem_mem hig
   rw [←hx] at hfi hgi
   have htk:((dh b).take i).map bK++[bK (jw b i)]=((dh b).take (i+1)).map bK:=by
     have hin:i<(dh b).length:=by rw [j5];exact hib
     have h2:(dh b)[i]=jw b i:=by have:=rL hib;rwa [List.getD_eq_getElem?_getD,List.getElem?_eq_getElem hin] at this
     rw [List.take_succ_eq_append_getElem hin,List.map_append,h2];rfl
   have hil:((dh b).take i).length=i:=by rw [List.length_take,j5];omega
   refine gK (gS (gB (gS (gR ?_))))
   refine ab.v (ae.dV rfl rfl rfl rfl rfl Jo Jj (i) ⟨rfl,hig⟩) ?_
   refine ab.v (ae.qY FV.v FV.z rfl rfl rfl rfl Jn 1 rfl hig) ?_
   refine ai ?_;refine gE (gS (gR ?_));refine ah ?_
   refine gM rfl rfl rfl rfl rfl call98 (fun w _ hS=>(by rw [hgi];exact CO x (aa b i) w (((hin1 x hxin).mono (List.subset_append_right _ H1)).at hS) hfi (hb.ok hib))) ?_
   rintro v w1 w2 Y' hS he ho
   obtain ⟨q2,jO,oT,rfl,hq2,gN,hS'⟩:=ak hS he ho
   refine ⟨_,hS',?_⟩
   refine ab.eN rfl rfl rfl (fun _=>Jx _) (fun b7=>?_)
   refine ab.st rfl rfl rfl rfl Jj rfl 0 rfl rfl ?_
   refine gE ?_
   refine ab.r8 7 14 [(some b7,.cells #[cK q2 (bT (eR (aa b i))).length jO] 22 (0,0)),(some bq,ob FV.v 22 gs sp),(some b14,.cells (oM l A b.length cA B ss.length cB (qo.map (fun b=>⟨b,0,none⟩)) i co) 116 (0,0)),(some b1,.cells (cn l A b.length cA B ss.length cB) 25 (0,0))] sL mixed rfl ?_
   iterate 2 refine lT.v (ae.mv rfl rfl rfl rfl) ?_
   refine lT.v (ae.eg rfl rfl rfl rfl) ?_
   refine lT.v (ae.aH rfl rfl rfl rfl JY rfl (by exact JP) 3 rfl) ?_
   refine lT.v (ae.dw rfl rfl rfl rfl JU 2 rfl rfl) ?_
   refine lT.v (ae.mv rfl rfl rfl rfl) ?_
   refine lT.v (ae.ux rfl rfl rfl rfl rfl) ?_
   refine lT.nil ?_
   refine Tl.one (d:=33) rfl ?_
   refine dk.call _ rfl rfl rfl rfl rfl (fun _ _=>call99 _ _) (fun w _ hS=>(by exact Dv b7 (aa b i) ⟨q2.map (fun b=>⟨b,0,none⟩),jO,bT (eR (aa b i))⟩ (some bq) gs cap b i w hb hib hgs (xN hS 3 rfl (fun e=>by cases e)) (fun g hg=>((hin1 g hg).mono (fun z hz=>by simp [hz])).at hS) (hS.get (j:=0) rfl) (aL hS 1 rfl (fun e=>(hq2 e).1)) rfl)) ?_
   rintro v w1 w2 Y' hS he rfl
   refine ⟨_,hS.later he,sL,?_⟩
   refine Tl.one (d:=34) rfl ?_
   refine dk.eh (c:=[_]) rfl rfl rfl rfl Jg I9 Jv rfl rfl (fun b34=>⟨by repeat (first|exact List.Sublist.refl _|exact List.nil_sublist _|refine List.Sublist.cons_cons _ ?_|refine List.Sublist.cons _ ?_),?_⟩)
   refine Tl.one (d:=35) rfl ?_
   refine dk.app 1 (xs:=((dh b).take i).map bK) (sp:=spo) (nx:=i) (q:=qo) (news:=[bK (jw b i)]) (spn:=[]) rfl rfl rfl rfl rfl Jg hi2 hz2 hsz2 rfl hqo 3 rfl 0 rfl (by rw [List.length_map,hil,Nat.mul_one]) (by rw [hco,Nat.mul_one]) rfl (by decide) (fun u hu=>by rw [List.mem_singleton.1 hu];rfl) (by unfold maxLen;omega) (by rw [hby2];omega) (fun b' sp' cap' hlen'=>⟨sL,?_⟩)
   rw [htk] at hlen'⊢
   refine Tl.sw [10,11,12] rfl rfl ?_
   refine kk ?_;refine al JY JP 3 ?_
   refine ab.st rfl rfl rfl rfl JP rfl 5 rfl rfl ?_
   refine gE (dQ (gR ?_));refine df rfl rfl rfl rfl (cD (by omega)) ?_;refine ah ?_;refine gE ?_
   refine ab.aT (pre:=[_,_,_,_,_,_,_]) (pre':=[_,_,_,_]) H1 [3,4,5,6] (by decide) rfl ?_
   exact IH (i+1,some b',cap',sp',H1) _ _ ⟨hib,(fun e=>by cases e),by rw [hlen',Nat.mul_one],hin1⟩ (by dsimp only;omega) ⟨rfl,rfl,rfl,rfl,rfl,rfl,trivial⟩ (List.Sublist.refl _)
  have hge:¬i<gs.length:=by simp at hc;omega
  obtain rfl:i=b.length:=by omega
  have htn:(dh b).take b.length=dh b:=List.take_of_length_le (by rw [j5];exact Nat.le_refl _)
  rw [htn]
  rw [htn] at hco
  refine ab.exit rfl (gS (gS (gR ?_)))
  refine al Jr JH 2 ?_;refine aq JN 3 ?_;refine dY JB ?_;refine ah ?_;refine gE (gB ?_)
  refine ab.loop (σ:=Nat) (fun k=>[(1,.pointer (some ⟨b1,0,none⟩)),(3,.pointer (some ⟨b14,0,none⟩)),(41,.int .i64 ss.length),(42,.int .i64 k)])
    (fun _=>[(qo,ob bK 3 (dh b) spo),(some bq,ob FV.v 22 gs sp),(some b14,.cells (oM l A b.length cA B ss.length cB (qo.map (fun b=>⟨b,0,none⟩)) b.length co) 116 (0,0)),(some b1,.cells (cn l A b.length cA B ss.length cB) 25 (0,0))]++H1)
    (fun k=>k≤ss.length∧∀(j:Nat) (hj:j<ss.length),j<k→ej l b (fg ss) j ss[j].d) (fun k=>ss.length - k) 0 ⟨Nat.zero_le _,fun j _ h=>absurd h (Nat.not_lt_zero _)⟩ ⟨rfl,rfl,rfl,rfl,trivial⟩ (List.Sublist.refl _) (fun k hK IH=>?_)
  obtain ⟨hk,hpre⟩:=hK
  refine gS (gR ?_);refine aw jl ?_;refine gE (gS ?_)
  refine gC (fun hc=>?_) fun hc=>?_
  ·
   have hlt:k<ss.length:=by simpa using hc
   refine gK (gS (gB (gS (gR ?_))));refine ah ?_;refine ai ?_;refine gE (gS (gR ?_))
   iterate 2 refine ah ?_
   refine gM rfl rfl rfl rfl rfl call101 (fun w _ hS=>(by exact uh b14 l A cA b B cB ss (qo.map (fun b=>⟨b,0,none⟩)) co k w ⟨by rw [j5];exact hS.get (j:=2) rfl,hA.ay hS.ext,hB.ay hS.ext,ES hS 0 rfl (fun e=>by rw [j5];exact (hqo e).1),hb⟩ hlt)) ?_
   rintro v w1 w2 Y' hS he ⟨r,rfl,hr⟩
   refine ⟨_,hS.later he,?_⟩
   refine fe bG ?_;refine gE ?_
   refine gC (fun hc=>?_) fun hc=>?_
   ·
    have hrf:r=false:=by simpa using hc
    refine gS (gR ?_);refine ah ?_;refine ai ?_;refine gE ?_
    refine gT func53 fun w' hS=>?_
    exact ⟨hS.ext,k,rfl,⟨fun _=>⟨h1,fun hall=>by have:=hr.2 (hall k hlt);rw [hrf] at this;cases this⟩,fun _=>by omega⟩⟩
   have hrt:r=true:=by simpa using hc
   refine gK (dQ (gR ?_));refine df rfl rfl rfl rfl (cD (by omega)) ?_;refine ah ?_;refine gE ?_
   refine IH (k+1) _ _ ⟨hlt,fun j hj hjk=>?_⟩ (by omega) ⟨rfl,rfl,rfl,rfl,trivial⟩ (List.Sublist.refl _)
   by_cases e:j=k
   · subst e;exact hr.1 hrt
   exact hpre j hj (by omega)
  have hge2:¬k<ss.length:=by simpa using hc
  refine ab.exit rfl (gS (gR ?_))
  refine ai ?_;refine gE ?_
  refine gT func53 fun w' hS=>?_
  exact ⟨hS.ext,-1,rfl,⟨fun h=>absurd h (by decide),fun h=>absurd (fun j hj=>hpre j hj (by omega)) h.2⟩⟩
end Go.Proofs.YtnfmegcknckahaaGreatDoor
namespace Go.Proofs.YtnfmegcknckahaaGreatDoor
open Go.RowKit Go.Proofs.Wit Tryz
theorem vM {l:Int} {b:List NV} {ss:List SV}:(∀(k:Nat) (hk:k<(fg ss).length),ej l b (fg ss) k (fg ss)[k])↔∀(k:Nat) (hk:k<ss.length),ej l b (fg ss) k ss[k].d:=by
 constructor
 ·intro h k hk
  have:=h k (by rw [eL];exact hk)
  rwa [mj hk] at this
 intro h k hk
 rw [eL] at hk
 rw [mj hk];exact h k hk
theorem EZ {l:Int} {b:List NV} {ss:List SV} (h:eG l b ss.length≠0):qu l b (fg ss)=eG l b ss.length:=by
 have e:eG l b (fg ss).length=eG l b ss.length:=by rw [eL]
 unfold qu
 rw [if_pos (by rw [e];exact h),e]
theorem EY {l:Int} {b:List NV} {ss:List SV} (h:¬eG l b ss.length≠0) (h2:∀(k:Nat) (hk:k<ss.length),ej l b (fg ss) k ss[k].d):qu l b (fg ss)=0:=by
 have e:eG l b (fg ss).length=eG l b ss.length:=by rw [eL]
 unfold qu
 rw [if_neg (by rw [e];exact h),if_pos (vM.2 h2)]
theorem EX {l:Int} {b:List NV} {ss:List SV} (h:¬eG l b ss.length≠0) (h2:¬∀(k:Nat) (hk:k<ss.length),ej l b (fg ss) k ss[k].d):qu l b (fg ss)=13:=by
 have e:eG l b (fg ss).length=eG l b ss.length:=by rw [eL]
 unfold qu
 rw [if_neg (by rw [e];exact h),if_neg (fun g=>h2 (vM.1 g))]
theorem qO (l:Int) (A:Option Addr) (cA:Nat) (b:List NV) (B:Option Addr) (cB:Nat) (ss:List SV) (w:World) (hA:FA w A b) (hB:zJ w B ss) (hl:b.length≤maxLen) (hsl:ss.length≤maxLen):
    Cn Tryz.prog 22 [.agg (cn l A b.length cA B ss.length cB)] w (fun v _=>v=.int .i64 (qu l b (fg ss))):=by
  refine Cn.of func22 rfl rfl ?_
  refine gS (gR ?_)
  refine ab.bx rfl rfl rfl rfl (fun b1=>?_)
  refine ai ?_;refine gE (gS (gS (gR ?_)))
  refine ab.v (ae.iR rfl rfl rfl rfl JR 0 rfl Jp rfl) ?_
  refine gP rfl rfl rfl rfl rfl call52 (fun w _ hS=>(by exact vk l A cA b B ss.length cB w (hA.ay hS.ext) hl)) ?_
  refine ai ?_;refine gE (gS (gR ?_));refine ah ?_;refine aw gO ?_;refine gE ?_
  refine gC (fun hc=>?_) fun hc=>?_
  ·
   have h1:eG l b ss.length≠0:=by simpa using hc
   refine gS (gR ?_);refine ah ?_;refine ai ?_;refine gE ?_
   refine gT func22 fun w' hS=>?_
   exact ⟨hS.ext,by rw [EZ h1];rfl⟩
  have h1:¬eG l b ss.length≠0:=by simpa using hc
  refine gK (gS (gS (gR ?_)))
  refine ab.v (ae.iR rfl rfl rfl rfl JR 0 rfl Jp rfl) ?_
  refine gM rfl rfl rfl rfl rfl call53 (fun w _ hS=>(by exact wm l A cA b B cB ss w (hA.ay hS.ext) (hB.ay hS.ext) hl hsl)) ?_
  rintro v w1 w2 Y' hS he ⟨r,rfl,hr⟩
  refine ⟨_,hS.later he,?_⟩
  refine aw oN ?_;refine gE ?_
  refine gC (fun hc=>?_) fun hc=>?_
  ·
   have h2:0≤r:=by simpa using hc
   refine gS (gR ?_);refine ai ?_;refine gE ?_
   refine gT func22 fun w' hS=>?_
   exact ⟨hS.ext,by rw [EX h1 (hr.1 h2).2];rfl⟩
  have h2:¬0≤r:=by simpa using hc
  have h3:∀(k:Nat) (hk:k<ss.length),ej l b (fg ss) k ss[k].d:=Classical.byContradiction fun h=>h2 (hr.2 ⟨Classical.byContradiction fun e=>h1 e,h⟩)
  refine gK (gS (gR ?_));refine ai ?_;refine gE ?_
  refine gT func22 fun w' hS=>?_
  exact ⟨hS.ext,by rw [EY h1 h3];rfl⟩
end Go.Proofs.YtnfmegcknckahaaGreatDoor
namespace Go.Proofs.YtnfmegcknckahaaGreatDoor
open Go.RowKit Go.Proofs.Wit Tryz
theorem gU (i:Int) (w:World) (hi:0≤i):Cn Tryz.prog 111 [.int .i64 i] w (fun v _=>v=U (bW i)):=by
 refine Cn.of func111 rfl rfl ?_
 refine gS (gR ?_)
 refine ab.v (ae.fh (v:=U 0#64) rfl rfl rfl rfl) ?_
 refine gE (gS (gR ?_));refine ah ?_
 refine ab.v (ae.bin (a:=U 1#64) rfl rfl rfl rfl (lS i.toNat (by omega)) rfl) ?_
 refine ai ?_;refine gE ?_
 refine gT func111 fun w' hS=>?_
 exact ⟨hS.ext,rfl⟩
def iu (s:ax) (k:Nat):List Nat:=(List.range k).filter (fun i=>s.getLsbD i)
theorem py {s:ax} {k:Nat}:iu s (k+1)=iu s k++(if s.getLsbD k=true then [k] else []):=by
 unfold iu
 rw [List.range_succ,List.filter_append]
 by_cases h:s.getLsbD k=true<;>simp [h]
theorem lH {s:ax} {k:Nat}:(iu s k).length≤k:=by
 have:=List.length_filter_le (fun i=>s.getLsbD i) (List.range k)
 simpa [iu] using this
theorem kR (s:ax) (w:World):Cn Tryz.prog 85 [U s] w (fun v w'=>nu bK 3 w w' v (iL (dX s))):=by
  obtain ⟨i2,hi2,hz2,hsz2,hby2⟩:=info_parts uI
  refine Cn.of func85 rfl rfl ?_
  refine gS (gR ?_);refine ai ?_;refine gE (gS (gR ?_));refine ai ?_;refine gE (gS (gS (gR ?_)));refine ah ?_;refine gE (gB ?_)
  refine ab.cQ (ob bK 3 [] []) ?_
  refine ab.loop (σ:=Nat×Option Nat×Nat×List Value×Hl) (fun z=>[(0,U s),(3,cK z.2.1 (iL (iu s z.1)).length z.2.2.1),(5,.int .i64 z.1)])
    (fun z=>[(z.2.1,ob bK 3 (iL (iu s z.1)) z.2.2.2.1)]++z.2.2.2.2)
    (fun z=>z.1≤64∧(z.2.1=none→(iL (iu s z.1)).length=0∧z.2.2.1=0)∧((iL (iu s z.1)).map bK++z.2.2.2.1).length=z.2.2.1)
    (fun z=>64 - z.1) (0,none,0,[],[]) ⟨Nat.zero_le _,fun _=>⟨rfl,rfl⟩,rfl⟩ ⟨rfl,rfl,rfl,trivial⟩ (List.Sublist.refl _) (fun z hZ IH=>?_)
  obtain ⟨k,q,cap,sp,H⟩:=z
  obtain ⟨hk,hq,ao⟩:=hZ
  dsimp only at hk hq ao IH⊢
  have hln:=@lH s k
  have hil:=@iE (iu s k)
  refine gS (gR ?_);refine aw jl ?_;refine gE (gS ?_)
  refine gC (fun hc=>?_) fun hc=>?_
  ·
   have hlt:k<64:=by simp at hc;omega
   refine gK (gS (gB (gS (gR ?_))));refine ah ?_;refine ai ?_;refine gE (gS (gR ?_))
   iterate 2 refine ah ?_
   refine df rfl rfl rfl rfl (BM k rfl) ?_
   refine ab.v (ae.bin (b:=U 1#64) rfl rfl rfl rfl D4 rfl) ?_
   refine ab.v (ae.bin (b:=U 1#64) rfl rfl rfl rfl w8 rfl) ?_
   refine gE ?_
   refine gC (fun hc=>?_) fun hc=>?_
   ·
    have hb:s.getLsbD k=true:=by rw [←rR];exact hc
    have hsn:iu s (k+1)=iu s k++[k]:=by rw [py,if_pos hb]
    have hsi:iL (iu s (k+1))=iL (iu s k)++[(k:Int)]:=by rw [hsn];simp [iL]
    refine gR ?_
    iterate 2 refine ah ?_
    refine ab.eh (c:=[_]) rfl rfl rfl rfl Jg I9 Jv rfl rfl (fun b15=>?_)
    refine ab.oh bK (news:=[(k:Int)]) (spn:=[]) (xs:=iL (iu s k)) (sp:=sp) (q:=q) rfl rfl rfl rfl rfl Jg hi2 hz2 hsz2 rfl hq 1 rfl 0 rfl ao rfl (by decide) (fun _=>rfl) (by unfold maxLen;omega) (by rw [hby2];omega) (fun b' sp' cap' hlen=>?_)
    refine ai ?_;refine gE (dQ (gR ?_));refine df rfl rfl rfl rfl (cD (by omega)) ?_;refine ah ?_;refine gE ?_
    refine ab.aT (pre:=[_,_]) (pre':=[_]) H [1] (by decide) rfl ?_
    rw [←hsi] at hlen⊢
    exact IH (k+1,some b',cap',sp',H) _ _ ⟨hlt,(fun e=>by cases e),hlen⟩ (by dsimp only;omega) ⟨rfl,by dsimp only;rw [hsi,List.length_append];rfl,rfl,trivial⟩ (List.Sublist.refl _)
   have hb:¬s.getLsbD k=true:=by rw [←rR,show (s>>>k &&& 1#64==1#64)=false from hc];decide
   have hsn:iu s (k+1)=iu s k:=by rw [py,if_neg hb,List.append_nil]
   refine gK (dQ (gR ?_));refine df rfl rfl rfl rfl (cD (by omega)) ?_;refine ah ?_;refine gE ?_
   exact IH (k+1,q,cap,sp,H) _ _ ⟨hlt,by dsimp only;rw [hsn];exact hq,by dsimp only;rw [hsn];exact ao⟩ (by dsimp only;omega) ⟨rfl,by dsimp only;rw [hsn];rfl,rfl,trivial⟩ (by dsimp only;rw [hsn];exact List.Sublist.refl _)
  have hge:¬k<64:=by simp at hc;omega
  obtain rfl:k=64:=by omega
  refine ab.exit rfl (gS (gR ?_))
  refine ah ?_;refine ai ?_;refine gE ?_
  refine gT func85 fun w' hS=>?_
  exact ⟨hS.ext,nu.mk hS 0 rfl rfl hq ao⟩
end Go.Proofs.YtnfmegcknckahaaGreatDoor
