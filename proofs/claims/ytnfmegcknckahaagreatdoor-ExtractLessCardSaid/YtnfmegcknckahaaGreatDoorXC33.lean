/- What calls of the program return, under the conditions that each theorem states. -/
import Derived.Test.YtnfmegcknckahaaGreatDoorXC31
import Derived.Test.YtnfmegcknckahaaGreatDoorXC32
import Derived.Test.YtnfmegcknckahaaGreatDoorXC03
import Derived.Test.YtnfmegcknckahaaGreatDoorXC04
import Derived.Test.YtnfmegcknckahaaGreatDoorXC20
namespace Go.Proofs.YtnfmegcknckahaaGreatDoor
open Go.RowKit Go.Proofs.Wit Tryz
/-! refutations: the checker's small parts: the program -/
theorem ml (bc:Nat) (l:Int) (A:Option Addr) (nA cA:Nat) (B:Option Addr) (nB cB:Nat) (O:Option Addr) (cO:Nat) (os:List Int) (node other:Int) (w:World) (hb:w.heap[bc]?=some (.cells (oO l A nA cA B nB cB O os.length cO) 116 (0,0))) (hO:jw w O os):
    Cn Tryz.prog 144 [.pointer (some ⟨bc,0,none⟩),.int .i64 node,.int .i64 other] w (fun v _=>v=.bool (kN os node other)):=by
  have HB:∀{w':World} {j:Nat} {u:Value},Ex [] w w'→(oO l A nA cA B nB cB O os.length cO)[j]?=some u→w'.cell? ⟨bc,j,none⟩=some u:=fun e h=>Ex.cell e hb h
  refine Cn.of func144 rfl rfl ?_
  refine gS (gR ?_);refine ai ?_;refine gE (gS (gR ?_));refine ah ?_;refine ax oP ?_;refine ah ?_
  refine dW 9 (fun hc=>?_) fun hc=>?_
  ·
   have h1:0≤node:=by simpa using hc
   iterate 2 refine ah ?_
   refine kp ?_;refine al Kb JU 3 ?_
   refine ab.v (ae.ld (p:=⟨bc,3,none⟩) rfl rfl rfl rfl JX (fun w _ hS=>HB hS.ext rfl)) ?_
   refine dt Jt ?_;refine ax iJ ?_;refine bV ?_;refine ah ?_
   refine dW 18 (fun hc=>?_) fun hc=>?_
   ·
    have h2:node<os.length:=by simpa using hc
    obtain ⟨k,rfl⟩:∃k:Nat,node=(k:Int):=⟨node.toNat,by omega⟩
    have hk:k<os.length:=by omega
    refine ah ?_;refine ax oP ?_;refine bV ?_;refine ah ?_
    refine dW 22 (fun hc=>?_) fun hc=>?_
    ·
     have h3:0≤other:=by simpa using hc
     refine ah ?_;refine kp ?_;refine al Kb JU 3 ?_
     refine ab.v (ae.ld (p:=⟨bc,3,none⟩) rfl rfl rfl rfl JX (fun w _ hS=>HB hS.ext rfl)) ?_
     refine ah ?_
     refine ab.v (ae.idx rfl rfl rfl rfl rfl Jt Jm ⟨_,hO⟩ (by simp) (k) ⟨rfl,by simpa using hk⟩) ?_
     refine ab.v (ae.ld rfl rfl rfl rfl Jn (fun w _ hS=>(jw.ay hO hS.ext).at (k) hk)) ?_
     refine ah ?_;refine ax bh ?_;refine bV ?_;refine ai ?_;refine gE ?_
     refine gT func144 fun w' hS=>?_
     exact ⟨hS.ext,by simp [j5,kN,hk,h3,List.getD_eq_getElem?_getD];rfl⟩
    have h3:¬0≤other:=by simpa using hc
    iterate 9 refine bZ ?_
    refine bA ?_;refine ai ?_;refine gE ?_
    refine gT func144 fun w' hS=>?_
    exact ⟨hS.ext,by rw [kN,decide_eq_false (by omega)];rfl⟩
   have h2:¬node<os.length:=by simpa using hc
   iterate 2 refine bZ ?_
   refine bA ?_;refine ah ?_
   iterate 9 refine bZ ?_
   refine bA ?_;refine ai ?_;refine gE ?_
   refine gT func144 fun w' hS=>?_
   exact ⟨hS.ext,by rw [kN,decide_eq_false (by omega)];rfl⟩
  have h1:¬0≤node:=by simpa using hc
  iterate 7 refine bZ ?_
  refine bA ?_;refine ah ?_
  iterate 2 refine bZ ?_
  refine bA ?_;refine ah ?_
  iterate 9 refine bZ ?_
  refine bA ?_;refine ai ?_;refine gE ?_
  refine gT func144 fun w' hS=>?_
  exact ⟨hS.ext,by rw [kN,decide_eq_false (by omega)];rfl⟩
set_option maxRecDepth 8000 in
theorem sV (bc:Nat) (l:Int) (A:Option Addr) (cA:Nat) (b:List NV) (B:Option Addr) (nB cB:Nat) (O:Option Addr) (nO cO:Nat) (x:SV) (op:Int) (w:World) (hb:w.heap[bc]?=some (.cells (oO l A b.length cA B nB cB O nO cO) 116 (0,0))) (hA:FA w A b):
    Cn Tryz.prog 146 [.pointer (some ⟨bc,0,none⟩),.agg x.cells.toArray,.int .i64 op] w (fun v _=>v=.tuple #[(if kI b x.d op=true then nd b x.d.on else EH).v,.bool (kI b x.d op)]):=by
  have HB:∀{w':World} {j:Nat} {u:Value},Ex [] w w'→(oO l A b.length cA B nB cB O nO cO)[j]?=some u→w'.cell? ⟨bc,j,none⟩=some u:=fun e h=>Ex.cell e hb h
  refine Cn.of func146 rfl rfl ?_
  refine gS (gR ?_)
  refine ab.bx rfl rfl rfl rfl (fun b4=>?_)
  refine ab.eH rfl rfl rfl (fun _=>JE _) (fun b6=>?_)
  refine ai ?_;refine gE (gS (gS ?_))
  refine ab.eg 32 mixed ?_
  refine cV 0 (ae.aG rfl rfl rfl rfl Ju rfl (by exact Jm) 2 rfl) ?_
  refine cV 1 (ae.dz rfl rfl rfl rfl Jn 1 rfl rfl) ?_
  refine cV 2 (ae.mv rfl rfl rfl rfl) ?_
  refine cV 3 (ae.ep rfl rfl rfl rfl) ?_
  refine cV 4 (ae.aG rfl rfl rfl rfl Kb rfl (by exact JB) 0 rfl) ?_
  refine cV 5 (ae.aG rfl rfl rfl rfl Jx rfl (by exact Jw) 1 rfl) ?_
  refine cV 6 (ae.ld (p:=⟨bc,1,none⟩) rfl rfl rfl rfl JC (fun w _ hS=>HB hS.ext rfl)) ?_
  refine cV 7 (ae.blt rfl rfl rfl (iu Jv) rfl) ?_
  refine cV 8 (ae.bin rfl rfl rfl rfl oP rfl) ?_
  refine cV 9 (ae.mv rfl rfl rfl rfl) ?_
  refine aH.cases (d:=17) rfl (fun hc=>?_) (fun hc=>?_)
  ·
   have h1:¬x.d.on<b.length:=by simp at hc;omega
   have ho:kI b x.d op=false:=by rw [kI,decide_eq_false h1,Bool.false_and]
   refine cN 10 ?_
   refine cN 11 ?_
   refine cN 12 ?_
   refine cN 13 ?_
   refine cN 14 ?_
   refine cN 15 ?_
   refine cV 16 (ae.aX rfl rfl rfl rfl rfl) ?_
   refine cV 17 (ae.mv rfl rfl rfl rfl) ?_
   refine cN 18 ?_
   refine cN 19 ?_
   refine cN 20 ?_
   refine cN 21 ?_
   refine cN 22 ?_
   refine cN 23 ?_
   refine cN 24 ?_
   refine cN 25 ?_
   refine cN 26 ?_
   refine cN 27 ?_
   refine cN 28 ?_
   refine cN 29 ?_
   refine cV 30 (ae.aX rfl rfl rfl rfl rfl) ?_
   refine aH.done rfl ?_
   refine gE (ab.bJ rfl (gS (gR ?_)))
   refine ab.v (ae.eP rfl rfl rfl rfl (bd66 (c:=[_,_,_,_,_,_]) rfl)) ?_
   refine ab.dw rfl rfl rfl rfl Jq 0 rfl rfl rfl rfl ?_
   refine ai ?_;refine gE ?_
   refine ab.fK Tryz.f146 func146 _ (aO.cell rfl JH Jq (j:=0) rfl rfl (aO.tmp rfl aO.nil)) (fun w' hS=>?_)
   exact ⟨hS.ext,by rw [ho];rfl⟩
  have h1:x.d.on<b.length:=by simp at hc;omega
  refine cV 10 (ae.aG rfl rfl rfl rfl Ju rfl (by exact JF) 0 rfl) ?_
  refine cV 11 (ae.dz rfl rfl rfl rfl JL 1 rfl rfl) ?_
  refine cV 12 (ae.aG rfl rfl rfl rfl Ju rfl (by exact Jm) 2 rfl) ?_
  refine cV 13 (ae.dz rfl rfl rfl rfl Jn 1 rfl rfl) ?_
  refine aH.cM (i:=14) rfl rfl rfl rfl rfl rfl (fun _ _=>call63 _ _) (fun w _ hS=>(by exact qS x.d.set x.d.on w)) sL ?_
  refine cV 15 (ae.un rfl rfl rfl bH rfl) ?_
  refine cV 16 (ae.dQ rfl rfl rfl rfl rfl) ?_
  refine cV 17 (ae.mv rfl rfl rfl rfl) ?_
  refine aH.cases (d:=25) rfl (fun hc=>?_) (fun hc=>?_)
  ·
   have h2:eU x.d.set x.d.on=false:=by simpa using hc
   have ho:kI b x.d op=false:=by rw [kI,h2,Bool.false_and,Bool.and_false]
   refine cN 18 ?_
   refine cN 19 ?_
   refine cN 20 ?_
   refine cN 21 ?_
   refine cN 22 ?_
   refine cN 23 ?_
   refine cN 24 ?_
   refine cN 25 ?_
   refine cN 26 ?_
   refine cN 27 ?_
   refine cN 28 ?_
   refine cN 29 ?_
   refine cV 30 (ae.aX rfl rfl rfl rfl rfl) ?_
   refine aH.done rfl ?_
   refine gE (ab.bJ rfl (gS (gR ?_)))
   refine ab.v (ae.eP rfl rfl rfl rfl (bd66 (c:=[_,_,_,_,_,_]) rfl)) ?_
   refine ab.dw rfl rfl rfl rfl Jq 0 rfl rfl rfl rfl ?_
   refine ai ?_;refine gE ?_
   refine ab.fK Tryz.f146 func146 _ (aO.cell rfl JH Jq (j:=0) rfl rfl (aO.tmp rfl aO.nil)) (fun w' hS=>?_)
   exact ⟨hS.ext,by rw [ho];rfl⟩
  have h2:eU x.d.set x.d.on=true:=by simpa using hc
  obtain ⟨k,hk,_,_⟩:=fR.1 h2
  have hkl:k<b.length:=by omega
  have hnd:nd b x.d.on=b[k]:=by rw [hk,dJ hkl]
  refine cV 18 (ae.mv rfl rfl rfl rfl) ?_
  refine cV 19 (ae.ep rfl rfl rfl rfl) ?_
  refine cV 20 (ae.aG rfl rfl rfl rfl Kb rfl (by exact JB) 0 rfl) ?_
  refine cV 21 (ae.aG rfl rfl rfl rfl Jx rfl (by exact Jw) 1 rfl) ?_
  refine cV 22 (ae.ld (p:=⟨bc,1,none⟩) rfl rfl rfl rfl JC (fun w _ hS=>HB hS.ext rfl)) ?_
  refine cV 23 (ae.aG rfl rfl rfl rfl Ju rfl (by exact Jm) 2 rfl) ?_
  refine cV 24 (ae.dz rfl rfl rfl rfl Jn 1 rfl rfl) ?_
  refine cV 25 (ae.dK rfl rfl rfl rfl rfl Jv Jq ⟨_,(hA).at_⟩ (aw (enc:=NV.cells) (sz:=6) (fun _=>rfl)) (by decide) (k) ⟨hk,hkl⟩) ?_
  refine cV 26 (ae.fM rfl rfl rfl rfl Jo rfl Jm ((k)*6+0) rfl) ?_
  refine cV 27 (ae.ld rfl rfl rfl rfl Jn (fun w _ hS=>Sl.kU (enc:=NV.cells) (sz:=6) ((hA).ay hS.ext).at_ (fun _=>rfl) hkl rfl)) ?_
  refine cV 28 (ae.mv rfl rfl rfl rfl) ?_
  refine cV 29 (ae.bin rfl rfl rfl rfl fX rfl) ?_
  refine cV 30 (ae.dQ rfl rfl rfl rfl rfl) ?_
  refine aH.done rfl ?_
  refine gE ?_
  refine gC (fun hc=>?_) fun hc=>?_
  ·
   have h3:b[k].op≠op:=by simpa using hc
   have ho:kI b x.d op=false:=by rw [kI,hnd,decide_eq_false h3,Bool.and_false,Bool.and_false]
   refine gS (gR ?_)
   refine ab.v (ae.eP rfl rfl rfl rfl (bd66 (c:=[_,_,_,_,_,_]) rfl)) ?_
   refine ab.dw rfl rfl rfl rfl Jq 0 rfl rfl rfl rfl ?_
   refine ai ?_;refine gE ?_
   refine ab.fK Tryz.f146 func146 _ (aO.cell rfl JH Jq (j:=0) rfl rfl (aO.tmp rfl aO.nil)) (fun w' hS=>?_)
   exact ⟨hS.ext,by rw [ho];rfl⟩
  have h3:b[k].op=op:=by simpa using hc
  have ho:kI b x.d op=true:=by rw [kI,hnd,decide_eq_true h3,h2,decide_eq_true h1];rfl
  refine gK (gS ?_)
  refine ab.zp 12 9 [] mixed ?_
  refine eQ.v (i:=0) (ae.mv rfl rfl rfl rfl) (List.nil_sublist _) rfl rfl rfl rfl sL ?_
  refine eQ.v (i:=1) (ae.ep rfl rfl rfl rfl) (List.nil_sublist _) rfl rfl rfl rfl sL ?_
  refine eQ.v (i:=2) (ae.aG rfl rfl rfl rfl Kb rfl (by exact JB) 0 rfl) (List.nil_sublist _) rfl rfl rfl rfl sL ?_
  refine eQ.v (i:=3) (ae.aG rfl rfl rfl rfl Jx rfl (by exact Jw) 1 rfl) (List.nil_sublist _) rfl rfl rfl rfl sL ?_
  refine eQ.v (i:=4) (ae.ld (p:=⟨bc,1,none⟩) rfl rfl rfl rfl JC (fun w _ hS=>HB hS.ext rfl)) (List.nil_sublist _) rfl rfl rfl rfl sL ?_
  refine eQ.v (i:=5) (ae.aG rfl rfl rfl rfl Ju rfl (by exact Jm) 2 rfl) (List.nil_sublist _) rfl rfl rfl rfl sL ?_
  refine eQ.v (i:=6) (ae.dz rfl rfl rfl rfl Jn 1 rfl rfl) (List.nil_sublist _) rfl rfl rfl rfl sL ?_
  refine eQ.v (i:=7) (ae.dK rfl rfl rfl rfl rfl Jv Jq ⟨_,(hA).at_⟩ (aw (enc:=NV.cells) (sz:=6) (fun _=>rfl)) (by decide) (k) ⟨hk,hkl⟩) (List.nil_sublist _) rfl rfl rfl rfl sL ?_
  refine eQ.v (i:=8) (ae.mq (cs:=NV.cells b[k]) rfl rfl rfl rfl JH Jq (fun w _ hS=>Sl.many (enc:=NV.cells) (sz:=6) (hA.ay hS.ext).at_ (fun _=>rfl) hkl)) (List.nil_sublist _) rfl rfl rfl rfl sL ?_
  refine eQ.dw (i:=9) (v:=.agg (NV.cells b[k]).toArray) rfl rfl rfl rfl rfl Jq 0 rfl rfl rfl rfl (by rw [iY rfl];exact List.nil_sublist _) ?_
  refine eQ.u (i:=10) (ae.fC rfl rfl rfl rfl) (List.nil_sublist _) rfl rfl rfl (by rw [iY rfl];exact List.nil_sublist _) ?_
  refine eQ.done rfl ?_
  refine gE ?_
  refine ab.fK Tryz.f146 func146 _ (aO.cell rfl JH Jq (j:=0) rfl rfl (aO.tmp rfl aO.nil)) (fun w' hS=>?_)
  exact ⟨hS.ext,by rw [ho,hnd];rfl⟩
set_option maxRecDepth 8000 in
theorem cK (bc:Nat) (l:Int) (A:Option Addr) (nA cA:Nat) (B:Option Addr) (cB:Nat) (ss:List SV) (O:Option Addr) (nO cO:Nat) (k:Nat) (Z:Option Addr) (cZ:Nat) (us:List aB) (w:World) (hb:w.heap[bc]?=some (.cells (oO l A nA cA B ss.length cB O nO cO) 116 (0,0))) (hB:sJ w B ss) (hk:k<ss.length) (hZ:xq w Z us) (_hu:us.length≤maxLen):
    Cn Tryz.prog 145 [.pointer (some ⟨bc,0,none⟩),.int .i64 k,.slice Z us.length cZ] w (fun v _=>∃r,v=.bool r∧(r=true↔eJ (dE ss) k ss[k].d.fr us)):=by
  have HB:∀{w':World} {j:Nat} {u:Value},Ex [] w w'→(oO l A nA cA B ss.length cB O nO cO)[j]?=some u→w'.cell? ⟨bc,j,none⟩=some u:=fun e h=>Ex.cell e hb h
  obtain ⟨hfr,hfl⟩:=hB.w5 ss[k] (List.getElem_mem hk)
  unfold maxLen at hfl
  refine Cn.of func145 rfl rfl ?_
  refine gS (gR ?_);refine ai ?_;refine gE (gS (gR ?_));refine ah ?_;refine kp ?_;refine al Kb JB 0 ?_;refine al Jx JK 2 ?_
  refine ab.v (ae.ld (p:=⟨bc,2,none⟩) rfl rfl rfl rfl JM (fun w _ hS=>HB hS.ext rfl)) ?_
  refine ah ?_
  refine ab.v (ae.dK rfl rfl rfl rfl rfl JI Jz ⟨_,(hB).at_⟩ (aw (enc:=SV.cells) (sz:=5) (fun _=>rfl)) (by decide) (k) ⟨rfl,hk⟩) ?_
  refine ab.v (ae.fM rfl rfl rfl rfl Ju rfl JU ((k)*5+4) rfl) ?_
  refine ab.v (ae.ld rfl rfl rfl rfl JX (fun w _ hS=>Sl.kU (enc:=SV.cells) (sz:=5) ((hB).ay hS.ext).at_ (fun _=>rfl) hk rfl)) ?_
  refine ai ?_;refine gE (gS (gS (gR ?_)));refine ah ?_;refine dt Jt ?_;refine ah ?_;refine dt J9 ?_;refine ax fX ?_;refine gE ?_
  refine gC (fun hc=>?_) fun hc=>?_
  ·
   have h1:ss[k].d.fr.length≠us.length:=by simp at hc;omega
   refine gS (gR ?_);refine ai ?_;refine gE ?_
   refine gT func145 fun w' hS=>?_
   exact ⟨hS.ext,_,rfl,by rw [iy];exact ⟨fun h=>(by cases h),fun h=>absurd h.1 h1⟩⟩
  have h1:ss[k].d.fr.length=us.length:=by simp at hc;omega
  refine gK (gS (gS (gR ?_)));refine ah ?_;refine dt J9 ?_;refine ah ?_;refine gE (gB ?_)
  refine ab.loop (σ:=Nat) (fun j=>[(0,.pointer (some ⟨bc,0,none⟩)),(1,.int .i64 k),(7,.slice ss[k].fa ss[k].d.fr.length ss[k].fc),(24,.slice Z us.length cZ),(25,.int .i64 us.length),(26,.int .i64 j)]) (fun _=>[]) (fun j=>j≤us.length∧∀i,i<j→(0≤ss[k].d.fr.getD i 0∧ss[k].d.fr.getD i 0<k)∧dh (dE ss) (ss[k].d.fr.getD i 0) &&& ~~~ us.getD i 0#64=0#64) (fun j=>us.length - j) 0 ⟨Nat.zero_le _,fun i h=>absurd h (Nat.not_lt_zero _)⟩ ⟨rfl,rfl,rfl,rfl,rfl,rfl,trivial⟩ .slnil (fun j hI IH=>?_)
  obtain ⟨hj,hpre⟩:=hI
  refine gS (gR ?_);refine ax iJ ?_;refine gE (gS ?_)
  refine gC (fun hc=>?_) fun hc=>?_
  ·
   have hlt:j<us.length:=by simp at hc;omega
   have hjf:j<ss[k].d.fr.length:=by omega
   have hgf:ss[k].d.fr.getD j 0=ss[k].d.fr[j]:=by simp [List.getD_eq_getElem?_getD,hjf]
   have hgu:us.getD j 0#64=us[j]:=by simp [List.getD_eq_getElem?_getD,hlt]
   have hno:∀{r:Bool},r=false→¬((0≤ss[k].d.fr[j]∧ss[k].d.fr[j]<k)∧dh (dE ss) ss[k].d.fr[j] &&& ~~~ us[j]=0#64)→(r=true↔eJ (dE ss) k ss[k].d.fr us):=fun hr h=>by
     rw [iy]
     exact ⟨fun e=>(by rw [hr] at e;cases e),fun e=>absurd (by have:=e.2 j hlt;rwa [hgf,hgu] at this) h⟩
   refine gK (gS (gB (gS (gR ?_))));refine ah ?_
   refine ab.v (ae.idx rfl rfl rfl rfl rfl J9 JF ⟨_,hZ⟩ (by simp) (j) ⟨rfl,by simpa using hlt⟩) ?_
   refine ab.v (ae.ld rfl rfl rfl rfl JL (fun w _ hS=>(xq.ay hZ hS.ext).at (j) hlt)) ?_
   iterate 2 refine ai ?_
   refine gE (gS ?_)
   refine ab.draw 30 mixed rfl ?_
   iterate 2 refine ko ?_
   refine aA.v (ae.idx rfl rfl rfl rfl rfl Jt Jm ⟨_,hfr⟩ (by simp) (j) ⟨rfl,by simpa using hjf⟩) ?_
   refine aA.v (ae.ld rfl rfl rfl rfl Jn (fun w _ hS=>(jw.ay hfr hS.ext).at (j) hjf)) ?_
   refine AR iJ ?_;refine ko ?_
   refine aA.cases (d:=36) rfl (fun hc=>?_) (fun hc=>?_)
   ·
    have e1:ss[k].d.fr[j]<0:=by simpa using hc
    iterate 6 refine GW ?_
    refine GV ?_;refine ko ?_
    iterate 15 refine GW ?_
    refine GV ?_
    refine aA.nil ?_
    refine gE (ab.bJ rfl (gS (gR ?_)));refine ai ?_;refine gE ?_
    refine gT func145 fun w' hS=>?_
    exact ⟨hS.ext,_,rfl,hno rfl (by omega)⟩
   have e1:¬ss[k].d.fr[j]<0:=by simpa using hc
   iterate 2 refine ko ?_
   refine aA.v (ae.idx rfl rfl rfl rfl rfl Jt Jm ⟨_,hfr⟩ (by simp) (j) ⟨rfl,by simpa using hjf⟩) ?_
   refine aA.v (ae.ld rfl rfl rfl rfl Jn (fun w _ hS=>(jw.ay hfr hS.ext).at (j) hjf)) ?_
   refine ko ?_;refine AR oP ?_;refine C9 ?_;refine ko ?_
   refine aA.cases (d:=44) rfl (fun hc=>?_) (fun hc=>?_)
   ·
    have e2:(k:Int)≤ss[k].d.fr[j]:=by simpa using hc
    iterate 15 refine GW ?_
    refine GV ?_
    refine aA.nil ?_
    refine gE (ab.bJ rfl (gS (gR ?_)));refine ai ?_;refine gE ?_
    refine gT func145 fun w' hS=>?_
    exact ⟨hS.ext,_,rfl,hno rfl (by omega)⟩
   have e2:¬(k:Int)≤ss[k].d.fr[j]:=by simpa using hc
   obtain ⟨p,hp⟩:∃p:Nat,ss[k].d.fr[j]=(p:Int):=⟨ss[k].d.fr[j].toNat,by omega⟩
   have hps:p<ss.length:=by omega
   have mr:dh (dE ss) ss[k].d.fr[j]=ss[p].d.set:=by rw [hp,eN (by rw [cH];exact hps),my hps]
   refine ko ?_;refine xu ?_;refine kM Kb JB 0 ?_;refine kM Jx JK 2 ?_
   refine aA.v (ae.ld (p:=⟨bc,2,none⟩) rfl rfl rfl rfl JM (fun w _ hS=>HB hS.ext rfl)) ?_
   iterate 2 refine ko ?_
   refine aA.v (ae.idx rfl rfl rfl rfl rfl Jt Jm ⟨_,hfr⟩ (by simp) (j) ⟨rfl,by simpa using hjf⟩) ?_
   refine aA.v (ae.ld rfl rfl rfl rfl Jn (fun w _ hS=>(jw.ay hfr hS.ext).at (j) hjf)) ?_
   refine aA.v (ae.dK rfl rfl rfl rfl rfl JI Jz ⟨_,(hB).at_⟩ (aw (enc:=SV.cells) (sz:=5) (fun _=>rfl)) (by decide) (p) ⟨hp,hps⟩) ?_
   refine aA.v (ae.fM rfl rfl rfl rfl Ju rfl JF ((p)*5+0) rfl) ?_
   refine aA.v (ae.ld rfl rfl rfl rfl JL (fun w _ hS=>Sl.kU (enc:=SV.cells) (sz:=5) ((hB).ay hS.ext).at_ (fun _=>rfl) hps rfl)) ?_
   refine ko ?_;refine AR gG ?_
   refine aA.v (ae.bin (b:=U 0#64) rfl rfl rfl rfl B3 rfl) ?_
   refine C9 ?_
   refine aA.nil ?_
   refine gE ?_
   refine gC (fun hc=>?_) fun hc=>?_
   ·
    have e3:¬ss[p].d.set &&& ~~~ us[j]=0#64:=by rw [←hgu];simpa using hc
    refine gS (gR ?_);refine ai ?_;refine gE ?_
    refine gT func145 fun w' hS=>?_
    exact ⟨hS.ext,_,rfl,hno rfl (by rw [mr];exact fun h=>e3 h.2)⟩
   have e3:ss[p].d.set &&& ~~~ us[j]=0#64:=by rw [←hgu];simpa using hc
   refine gK (dN (gR ?_));refine cU rfl rfl rfl rfl (cC (by omega)) ?_;refine ah ?_;refine gE ?_
   refine IH (j+1) _ _ ⟨hlt,fun i hi=>?_⟩ (by omega) ⟨rfl,rfl,rfl,rfl,rfl,rfl,trivial⟩ (List.nil_sublist _)
   by_cases e:i=j
   · subst e;rw [hgf,hgu,mr];exact ⟨by omega,e3⟩
   exact hpre i (by omega)
  have hge:¬j<us.length:=by simp at hc;omega
  refine ab.exit rfl (gS (gR ?_))
  refine ai ?_;refine gE ?_
  refine gT func145 fun w' hS=>?_
  exact ⟨hS.ext,_,rfl,by rw [iy];exact ⟨fun _=>⟨h1,fun i hi=>hpre i (by omega)⟩,fun _=>rfl⟩⟩
end Go.Proofs.YtnfmegcknckahaaGreatDoor
namespace Go.Proofs.YtnfmegcknckahaaGreatDoor
open Go.RowKit Go.Proofs.Wit Tryz
/-! refutations: closed steps: the program -/
set_option maxRecDepth 8000 in
theorem wD (bc:Nat) (l:Int) (A:Option Addr) (cA:Nat) (b:List NV) (B:Option Addr) (cB:Nat) (ss:List SV) (O:Option Addr) (cO:Nat) (k:Nat) (w:World) (hC:Gy w 116 bc l A cA b B cB ss O cO) (hk:k<ss.length):
    Cn Tryz.prog 143 [.pointer (some ⟨bc,0,none⟩),.int .i64 k] w (fun v _=>∃r,v=.bool r∧(r=true↔xt b ss[k].d)):=by
  have HB:∀{w':World} {j:Nat} {u:Value},Ex [] w w'→(oO l A b.length cA B ss.length cB O (dn b).length cO)[j]?=some u→w'.cell? ⟨bc,j,none⟩=some u:=fun e h=>Ex.cell e hC.di h
  have hB:=hC.sa
  refine Cn.of func143 rfl rfl ?_
  refine gS (gR ?_);refine ai ?_;refine gE (gS (gR ?_));refine ah ?_;refine kp ?_;refine al Kb JB 0 ?_;refine al Jx JK 2 ?_
  refine ab.v (ae.ld (p:=⟨bc,2,none⟩) rfl rfl rfl rfl JM (fun w _ hS=>HB hS.ext rfl)) ?_
  refine ah ?_
  refine ab.v (ae.dK rfl rfl rfl rfl rfl JI Jz ⟨_,(hB).at_⟩ (aw (enc:=SV.cells) (sz:=5) (fun _=>rfl)) (by decide) (k) ⟨rfl,hk⟩) ?_
  refine ab.v (ae.mq (cs:=SV.cells ss[k]) rfl rfl rfl rfl J5 Jz (fun w _ hS=>Sl.many (enc:=SV.cells) (sz:=5) (hB.ay hS.ext).at_ (fun _=>rfl) hk)) ?_
  refine ab.eH rfl rfl rfl (fun _=>Kf _) (fun b5=>?_)
  refine ab.dw rfl rfl rfl rfl Jz 0 rfl rfl rfl rfl ?_
  refine gE (gS (gS (gR ?_)));refine ah ?_
  refine ab.v (ae.gJ rfl rfl rfl rfl J5 0 rfl Jz rfl) ?_
  refine gP rfl rfl rfl rfl rfl call146 (fun w _ hS=>(by exact sV bc l A cA b B ss.length cB O (dn b).length cO ss[k] 2 w (hS.ext.gL hC.di) (hC.fa.ay hS.ext))) ?_
  refine ah ?_
  iterate 2 refine ga ?_
  refine ab.eH rfl rfl rfl (fun _=>JE _) (fun b6=>?_)
  refine ab.dw rfl rfl rfl rfl Jq 0 rfl rfl rfl rfl ?_
  refine ai ?_;refine gE (gS (gR ?_))
  iterate 2 refine ah ?_
  refine dW 23 (fun hc=>?_) fun hc=>?_
  ·
   have ho:kI b ss[k].d 2=true:=hc
   refine al Ju Jm 3 ?_;refine aq Jn 1 ?_;refine ax bh ?_;refine bV ?_;refine gE ?_
   refine gC (fun hc=>?_) fun hc=>?_
   ·
    have he:ss[k].d.e=0:=by simpa using hc
    refine gS (gR ?_)
    iterate 2 refine ah ?_
    refine gM rfl rfl rfl rfl rfl call145 (fun w _ hS=>(by exact cK bc l A b.length cA B cB ss O (dn b).length cO k none 0 [] w (hS.ext.gL hC.di) (hC.sa.ay hS.ext) hk (Sl.nil _ _) (by decide))) ?_
    rintro v w1 w2 Y' hS he' ⟨r,rfl,hr⟩
    refine ⟨_,hS.later he',?_⟩
    refine ai ?_;refine gE ?_
    refine gT func143 fun w' hS=>?_
    exact ⟨hS.ext,r,rfl,by rw [hr,pB,xt];exact ⟨fun h=>⟨h,.inl ⟨ho,he⟩⟩,fun h=>h.1⟩⟩
   have he:¬ss[k].d.e=0:=by simpa using hc
   have hno:kI b ss[k].d 2=true∧ss[k].d.e=0→False:=fun h=>he h.2
   refine gK (gS (gR ?_));refine al Ju JF 0 ?_;refine aq JL 1 ?_;refine al Ju Jm 2 ?_;refine aq Jn 1 ?_
   refine gP rfl rfl rfl rfl rfl call63 (fun w _ hS=>(by exact qS ss[k].d.set ss[k].d.on w)) ?_
   refine ah ?_
   refine dW 36 (fun hc=>?_) fun hc=>?_
   ·
    have h1:eU ss[k].d.set ss[k].d.on=true:=hc
    refine al Ju JF 0 ?_;refine aq JL 1 ?_;refine al Ju Jm 3 ?_;refine aq Jn 1 ?_
    refine gP rfl rfl rfl rfl rfl call63 (fun w _ hS=>(by exact qS ss[k].d.set ss[k].d.e w)) ?_
    refine bV ?_;refine ah ?_
    refine dW 43 (fun hc=>?_) fun hc=>?_
    ·
     have h2:eU ss[k].d.set ss[k].d.e=true:=hc
     refine ah ?_;refine al Ju Jm 2 ?_;refine aq Jn 1 ?_;refine al Ju Jm 3 ?_;refine aq Jn 1 ?_
     refine gP rfl rfl rfl rfl rfl call144 (fun w _ hS=>(by exact ml bc l A b.length cA B ss.length cB O cO (dn b) ss[k].d.on ss[k].d.e w (hS.ext.gL hC.di) (hC.oa.ay hS.ext))) ?_
     refine bV ?_;refine ah ?_
     refine dW 51 (fun hc=>?_) fun hc=>?_
     ·
      have h3:kN (dn b) ss[k].d.on ss[k].d.e=true:=hc
      iterate 2 refine ah ?_
      refine gM rfl rfl rfl rfl rfl call145 (fun w _ hS=>(by exact cK bc l A b.length cA B cB ss O (dn b).length cO k none 0 [] w (hS.ext.gL hC.di) (hC.sa.ay hS.ext) hk (Sl.nil _ _) (by decide))) ?_
      rintro v w1 w2 Y' hS he ⟨r,rfl,hr⟩
      refine ⟨_,hS.later he,?_⟩
      refine bV ?_;refine ai ?_;refine gE ?_
      refine gT func143 fun w' hS=>?_
      exact ⟨hS.ext,r,rfl,by rw [hr,pB,xt];exact ⟨fun h=>⟨h,.inr ⟨h1,h2,h3⟩⟩,fun h=>h.1⟩⟩
     have h3:¬kN (dn b) ss[k].d.on ss[k].d.e=true:=by rw [show kN (dn b) ss[k].d.on ss[k].d.e=false from hc];decide
     iterate 3 refine bZ ?_
     refine bA ?_;refine ai ?_;refine gE ?_
     refine gT func143 fun w' hS=>?_
     exact ⟨hS.ext,false,rfl,by rw [xt];exact ⟨fun h=>(by cases h),fun h=>(h.2.elim hno (fun g=>h3 g.2.2)).elim⟩⟩
    have h2:¬eU ss[k].d.set ss[k].d.e=true:=by rw [show eU ss[k].d.set ss[k].d.e=false from hc];decide
    iterate 6 refine bZ ?_
    refine bA ?_;refine ah ?_
    iterate 3 refine bZ ?_
    refine bA ?_;refine ai ?_;refine gE ?_
    refine gT func143 fun w' hS=>?_
    exact ⟨hS.ext,false,rfl,by rw [xt];exact ⟨fun h=>(by cases h),fun h=>(h.2.elim hno (fun g=>h2 g.2.1)).elim⟩⟩
   have h1:¬eU ss[k].d.set ss[k].d.on=true:=by rw [show eU ss[k].d.set ss[k].d.on=false from hc];decide
   iterate 5 refine bZ ?_
   refine bA ?_;refine ah ?_
   iterate 6 refine bZ ?_
   refine bA ?_;refine ah ?_
   iterate 3 refine bZ ?_
   refine bA ?_;refine ai ?_;refine gE ?_
   refine gT func143 fun w' hS=>?_
   exact ⟨hS.ext,false,rfl,by rw [xt];exact ⟨fun h=>(by cases h),fun h=>(h.2.elim hno (fun g=>h1 g.1)).elim⟩⟩
  have ho:¬kI b ss[k].d 2=true:=by rw [show kI b ss[k].d 2=false from hc];decide
  have hno:kI b ss[k].d 2=true∧ss[k].d.e=0→False:=fun h=>ho h.1
  iterate 3 refine bZ ?_
  refine bA ?_;refine gE (ab.gp rfl (gK (gS (gR ?_))));refine al Ju JF 0 ?_;refine aq JL 1 ?_;refine al Ju Jm 2 ?_;refine aq Jn 1 ?_
  refine gP rfl rfl rfl rfl rfl call63 (fun w _ hS=>(by exact qS ss[k].d.set ss[k].d.on w)) ?_
  refine ah ?_
  refine dW 36 (fun hc=>?_) fun hc=>?_
  ·
   have h1:eU ss[k].d.set ss[k].d.on=true:=hc
   refine al Ju JF 0 ?_;refine aq JL 1 ?_;refine al Ju Jm 3 ?_;refine aq Jn 1 ?_
   refine gP rfl rfl rfl rfl rfl call63 (fun w _ hS=>(by exact qS ss[k].d.set ss[k].d.e w)) ?_
   refine bV ?_;refine ah ?_
   refine dW 43 (fun hc=>?_) fun hc=>?_
   ·
    have h2:eU ss[k].d.set ss[k].d.e=true:=hc
    refine ah ?_;refine al Ju Jm 2 ?_;refine aq Jn 1 ?_;refine al Ju Jm 3 ?_;refine aq Jn 1 ?_
    refine gP rfl rfl rfl rfl rfl call144 (fun w _ hS=>(by exact ml bc l A b.length cA B ss.length cB O cO (dn b) ss[k].d.on ss[k].d.e w (hS.ext.gL hC.di) (hC.oa.ay hS.ext))) ?_
    refine bV ?_;refine ah ?_
    refine dW 51 (fun hc=>?_) fun hc=>?_
    ·
     have h3:kN (dn b) ss[k].d.on ss[k].d.e=true:=hc
     iterate 2 refine ah ?_
     refine gM rfl rfl rfl rfl rfl call145 (fun w _ hS=>(by exact cK bc l A b.length cA B cB ss O (dn b).length cO k none 0 [] w (hS.ext.gL hC.di) (hC.sa.ay hS.ext) hk (Sl.nil _ _) (by decide))) ?_
     rintro v w1 w2 Y' hS he ⟨r,rfl,hr⟩
     refine ⟨_,hS.later he,?_⟩
     refine bV ?_;refine ai ?_;refine gE ?_
     refine gT func143 fun w' hS=>?_
     exact ⟨hS.ext,r,rfl,by rw [hr,pB,xt];exact ⟨fun h=>⟨h,.inr ⟨h1,h2,h3⟩⟩,fun h=>h.1⟩⟩
    have h3:¬kN (dn b) ss[k].d.on ss[k].d.e=true:=by rw [show kN (dn b) ss[k].d.on ss[k].d.e=false from hc];decide
    iterate 3 refine bZ ?_
    refine bA ?_;refine ai ?_;refine gE ?_
    refine gT func143 fun w' hS=>?_
    exact ⟨hS.ext,false,rfl,by rw [xt];exact ⟨fun h=>(by cases h),fun h=>(h.2.elim hno (fun g=>h3 g.2.2)).elim⟩⟩
   have h2:¬eU ss[k].d.set ss[k].d.e=true:=by rw [show eU ss[k].d.set ss[k].d.e=false from hc];decide
   iterate 6 refine bZ ?_
   refine bA ?_;refine ah ?_
   iterate 3 refine bZ ?_
   refine bA ?_;refine ai ?_;refine gE ?_
   refine gT func143 fun w' hS=>?_
   exact ⟨hS.ext,false,rfl,by rw [xt];exact ⟨fun h=>(by cases h),fun h=>(h.2.elim hno (fun g=>h2 g.2.1)).elim⟩⟩
  have h1:¬eU ss[k].d.set ss[k].d.on=true:=by rw [show eU ss[k].d.set ss[k].d.on=false from hc];decide
  iterate 5 refine bZ ?_
  refine bA ?_;refine ah ?_
  iterate 6 refine bZ ?_
  refine bA ?_;refine ah ?_
  iterate 3 refine bZ ?_
  refine bA ?_;refine ai ?_;refine gE ?_
  refine gT func143 fun w' hS=>?_
  exact ⟨hS.ext,false,rfl,by rw [xt];exact ⟨fun h=>(by cases h),fun h=>(h.2.elim hno (fun g=>h1 g.1)).elim⟩⟩
end Go.Proofs.YtnfmegcknckahaaGreatDoor
namespace Go.Proofs.YtnfmegcknckahaaGreatDoor
open Go.RowKit Go.Proofs.Wit Tryz
/-! refutations: right steps: the program -/
set_option maxRecDepth 8000 in
set_option maxHeartbeats 1000000 in
theorem uq (bc:Nat) (l:Int) (A:Option Addr) (cA:Nat) (b:List NV) (B:Option Addr) (cB:Nat) (ss:List SV) (O:Option Addr) (cO:Nat) (k:Nat) (w:World) (hC:Gy w 116 bc l A cA b B cB ss O cO) (hk:k<ss.length):
    Cn Tryz.prog 101 [.pointer (some ⟨bc,0,none⟩),.int .i64 k] w (fun v _=>∃r,v=.bool r∧(r=true↔ey l b (dE ss) k ss[k].d)):=by
  have HB:∀{w':World} {j:Nat} {u:Value},Ex [] w w'→(oO l A b.length cA B ss.length cB O (dn b).length cO)[j]?=some u→w'.cell? ⟨bc,j,none⟩=some u:=fun e h=>Ex.cell e hC.di h
  have hB:=hC.sa
  have hlen:=hC.base.len
  have hpos:=(aE.1 hC.base.jH).pos
  refine Cn.of JW rfl rfl ?_
  refine gS (gR ?_);refine ai ?_;refine gE (gS (gR ?_));refine ah ?_;refine kp ?_;refine al Kb JB 0 ?_;refine al Jx JK 2 ?_
  refine ab.v (ae.ld (p:=⟨bc,2,none⟩) rfl rfl rfl rfl JM (fun w _ hS=>HB hS.ext rfl)) ?_
  refine ah ?_
  refine ab.v (ae.dK rfl rfl rfl rfl rfl JI Jz ⟨_,(hB).at_⟩ (aw (enc:=SV.cells) (sz:=5) (fun _=>rfl)) (by decide) (k) ⟨rfl,hk⟩) ?_
  refine ab.v (ae.mq (cs:=SV.cells ss[k]) rfl rfl rfl rfl J5 Jz (fun w _ hS=>Sl.many (enc:=SV.cells) (sz:=5) (hB.ay hS.ext).at_ (fun _=>rfl) hk)) ?_
  refine ab.eH rfl rfl rfl (fun _=>Kf _) (fun b5=>?_)
  refine ab.dw rfl rfl rfl rfl Jz 0 rfl rfl rfl rfl ?_
  refine gE (gS (gR ?_));refine ah ?_;refine kp ?_;refine al Kb JB 0 ?_;refine al Jx Jm 0 ?_
  refine ab.v (ae.ld (p:=⟨bc,0,none⟩) rfl rfl rfl rfl Jn (fun w _ hS=>HB hS.ext rfl)) ?_
  refine ai ?_;refine gE (gS (gS ?_))
  refine ab.eg 10 mixed ?_
  refine cV 0 (ae.mv rfl rfl rfl rfl) ?_
  refine cV 1 (ae.ep rfl rfl rfl rfl) ?_
  refine cV 2 (ae.aG rfl rfl rfl rfl Kb rfl (by exact JB) 0 rfl) ?_
  refine cV 3 (ae.aG rfl rfl rfl rfl Jx rfl (by exact Jw) 1 rfl) ?_
  refine cV 4 (ae.ld (p:=⟨bc,1,none⟩) rfl rfl rfl rfl JC (fun w _ hS=>HB hS.ext rfl)) ?_
  refine cV 5 (ae.aG rfl rfl rfl rfl Ju rfl (by exact JF) 0 rfl) ?_
  refine cV 6 (ae.dz rfl rfl rfl rfl JL 0 rfl rfl) ?_
  refine aH.cM (i:=7) rfl rfl rfl rfl rfl rfl (fun _ _=>call142 _ _) (fun w _ hS=>(by exact wC A cA b ss[k].d.set w hpos hlen)) sL ?_
  refine cV 8 (ae.un rfl rfl rfl bH rfl) ?_
  refine aH.done rfl ?_
  refine gE ?_
  refine gC (fun hc=>?_) fun hc=>?_
  ·
   have hi:¬ju b ss[k].d.set:=fun h=>by have:=(tH hpos hlen).2 h;rw [this] at hc;cases hc
   refine gS (gR ?_);refine ai ?_;refine gE ?_
   refine gT JW fun w' hS=>?_
   exact ⟨hS.ext,false,rfl,iff_of_false Bool.false_ne_true (BL hi)⟩
  have hi:ju b ss[k].d.set:=(tH hpos hlen).1 (by simpa using hc)
  refine gK (gS (gS (gR ?_)));refine al Ju Jm 1 ?_;refine aq Jn 0 ?_;refine gE (gB (gS (gR ?_)));refine ax bh ?_;refine ai ?_;refine gE ?_
  refine gC (fun hc=>?_) fun hc=>?_
  ·
   have r1:ss[k].d.av=1:=by simpa using hc
   refine gS (gR ?_)
   iterate 2 refine ah ?_
   refine gM rfl rfl rfl rfl rfl call143 (fun w _ hS=>(by exact wD bc l A cA b B cB ss O cO k w (hC.ex hS.ext) hk)) ?_
   rintro v w1 w2 Y' hS he' ⟨r,rfl,hr⟩
   refine ⟨_,hS.later he',?_⟩
   refine ai ?_;refine gE ?_
   refine gT JW fun w' hS=>?_
   exact ⟨hS.ext,r,rfl,by rw [hr,uY hi r1]⟩
  have r1:¬ss[k].d.av=1:=by simpa using hc
  refine gS (gR ?_);refine ax bh ?_;refine ai ?_;refine gE ?_
  refine gC (fun hc=>?_) fun hc=>?_
  ·
   have r4:ss[k].d.av=4:=by simpa using hc
   refine gS ?_
   refine ab.eg 31 mixed ?_
   refine cV 0 (ae.aG rfl rfl rfl rfl Ju rfl (by exact Jm) 3 rfl) ?_
   refine cV 1 (ae.dz rfl rfl rfl rfl Jn 0 rfl rfl) ?_
   refine cV 2 (ae.bin rfl rfl rfl rfl oP rfl) ?_
   refine cV 3 (ae.mv rfl rfl rfl rfl) ?_
   refine aH.cases (d:=49) rfl (fun hc=>?_) (fun hc=>?_)
   ·
    have he:0≤ss[k].d.e:=by simpa using hc
    refine cV 4 (ae.mv rfl rfl rfl rfl) ?_
    refine cV 5 (ae.aG rfl rfl rfl rfl Ju rfl (by exact Jm) 2 rfl) ?_
    refine cV 6 (ae.dz rfl rfl rfl rfl Jn 0 rfl rfl) ?_
    refine cV 7 (ae.aG rfl rfl rfl rfl Ju rfl (by exact Jm) 3 rfl) ?_
    refine cV 8 (ae.dz rfl rfl rfl rfl Jn 0 rfl rfl) ?_
    refine aH.cM (i:=9) rfl rfl rfl rfl rfl rfl (fun _ _=>call144 _ _) (fun w _ hS=>(by exact ml bc l A b.length cA B ss.length cB O cO (dn b) ss[k].d.on ss[k].d.e w (hS.ext.gL hC.di) (hC.oa.ay hS.ext))) sL ?_
    refine cV 10 (ae.aX rfl rfl rfl rfl rfl) ?_
    refine cV 11 (ae.mv rfl rfl rfl rfl) ?_
    refine aH.cases (d:=57) rfl (fun hc=>?_) (fun hc=>?_)
    ·
     have ho:kN (dn b) ss[k].d.on ss[k].d.e=true:=hc
     obtain ⟨⟨o0,o1⟩,e0,e1⟩:=oU.1 ho
     refine cV 12 (ae.mv rfl rfl rfl rfl) ?_
     refine cV 13 (ae.mv rfl rfl rfl rfl) ?_
     refine cV 14 (ae.aG rfl rfl rfl rfl Ju rfl (by exact JF) 0 rfl) ?_
     refine cV 15 (ae.dz rfl rfl rfl rfl JL 0 rfl rfl) ?_
     refine cV 16 (ae.aG rfl rfl rfl rfl Ju rfl (by exact Jm) 2 rfl) ?_
     refine cV 17 (ae.dz rfl rfl rfl rfl Jn 0 rfl rfl) ?_
     refine cV 18 (ae.bin (a:=U 1#64) rfl rfl rfl rfl (l4 ss[k].d.on.toNat (by omega)) rfl) ?_
     refine cV 19 (ae.bin rfl rfl rfl rfl qt rfl) ?_
     refine cV 20 (ae.aG rfl rfl rfl rfl Ju rfl (by exact JF) 0 rfl) ?_
     refine cV 21 (ae.dz rfl rfl rfl rfl JL 0 rfl rfl) ?_
     refine cV 22 (ae.aG rfl rfl rfl rfl Ju rfl (by exact Jm) 3 rfl) ?_
     refine cV 23 (ae.dz rfl rfl rfl rfl Jn 0 rfl rfl) ?_
     refine cV 24 (ae.bin (a:=U 1#64) rfl rfl rfl rfl (l4 ss[k].d.e.toNat (by omega)) rfl) ?_
     refine cV 25 (ae.bin rfl rfl rfl rfl qt rfl) ?_
     refine aH.one (i:=26) rfl (du.ew (c:=[_,_]) rfl rfl rfl rfl J9 JF Kg rfl rfl (fun b72=>⟨sL,?_⟩)) rfl
     refine aH.call (i:=27) _ rfl rfl rfl rfl rfl rfl (fun _ _=>call145 _ _) (fun w _ hS=>(by exact cK bc l A b.length cA B cB ss O (dn b).length cO k (some ⟨b72,0,none⟩) 2 [HOr.hOr (ss[k].d.set) (bW ss[k].d.on),HOr.hOr (ss[k].d.set) (bW ss[k].d.e)] w (hS.ext.gL hC.di) (hC.sa.ay hS.ext) hk (Sl.di (hS.get (j:=0) rfl)) (by simp [maxLen]))) ?_
     rintro v w1 w2 Y' hS he' ⟨r,rfl,hr⟩
     refine ⟨_,hS.later he',sM,?_⟩
     refine cV 28 (ae.aX rfl rfl rfl rfl rfl) ?_
     refine cV 29 (ae.fC rfl rfl rfl rfl) ?_
     refine aH.done rfl ?_
     refine gE ?_
     refine gT JW fun w' hS=>?_
     exact ⟨hS.ext,r,rfl,by rw [hr];exact ⟨fun h=>(np hi r4).2 ⟨he,ho,h⟩,fun h=>((np hi r4).1 h).2.2⟩⟩
    have ho:¬kN (dn b) ss[k].d.on ss[k].d.e=true:=by rw [show kN (dn b) ss[k].d.on ss[k].d.e=false from hc];decide
    refine cN 12 ?_
    refine cN 13 ?_
    refine cN 14 ?_
    refine cN 15 ?_
    refine cN 16 ?_
    refine cN 17 ?_
    refine cN 18 ?_
    refine cN 19 ?_
    refine cN 20 ?_
    refine cN 21 ?_
    refine cN 22 ?_
    refine cN 23 ?_
    refine cN 24 ?_
    refine cN 25 ?_
    refine cN 26 ?_
    refine cN 27 ?_
    refine cV 28 (ae.dQ rfl rfl rfl rfl rfl) ?_
    refine cV 29 (ae.fC rfl rfl rfl rfl) ?_
    refine aH.done rfl ?_
    refine gE ?_
    refine gT JW fun w' hS=>?_
    exact ⟨hS.ext,false,rfl,iff_of_false Bool.false_ne_true (fun h=>ho ((np hi r4).1 h).2.1)⟩
   have he:¬0≤ss[k].d.e:=by simpa using hc
   refine cN 4 ?_
   refine cN 5 ?_
   refine cN 6 ?_
   refine cN 7 ?_
   refine cN 8 ?_
   refine cN 9 ?_
   refine cV 10 (ae.dQ rfl rfl rfl rfl rfl) ?_
   refine cV 11 (ae.mv rfl rfl rfl rfl) ?_
   refine cN 12 ?_
   refine cN 13 ?_
   refine cN 14 ?_
   refine cN 15 ?_
   refine cN 16 ?_
   refine cN 17 ?_
   refine cN 18 ?_
   refine cN 19 ?_
   refine cN 20 ?_
   refine cN 21 ?_
   refine cN 22 ?_
   refine cN 23 ?_
   refine cN 24 ?_
   refine cN 25 ?_
   refine cN 26 ?_
   refine cN 27 ?_
   refine cV 28 (ae.dQ rfl rfl rfl rfl rfl) ?_
   refine cV 29 (ae.fC rfl rfl rfl rfl) ?_
   refine aH.done rfl ?_
   refine gE ?_
   refine gT JW fun w' hS=>?_
   exact ⟨hS.ext,false,rfl,iff_of_false Bool.false_ne_true (fun h=>he ((np hi r4).1 h).1)⟩
  have r4:¬ss[k].d.av=4:=by simpa using hc
  refine gK (dN (gS (gS (gR ?_))));refine al Ju Jm 3 ?_;refine aq Jn 0 ?_;refine ax fX ?_;refine gE ?_
  refine gC (fun hc=>?_) fun hc=>?_
  ·
   have he:¬ss[k].d.e=0:=by simpa using hc
   refine gS (gR ?_);refine ai ?_;refine gE ?_
   refine gT JW fun w' hS=>?_
   exact ⟨hS.ext,false,rfl,iff_of_false Bool.false_ne_true (F0 r1 r4 he)⟩
  have he:ss[k].d.e=0:=by simpa using hc
  refine gK (gS (gS (gR ?_)));refine al Ju Jm 1 ?_;refine aq Jn 0 ?_;refine gE (gB (gS (gR ?_)));refine ax bh ?_;refine ai ?_;refine gE ?_
  refine gC (fun hc=>?_) fun hc=>?_
  ·
   have r2:ss[k].d.av=2:=by simpa using hc
   obtain ⟨nv,hnv⟩:∃nv,nv=(if kI b ss[k].d 5=true then nd b ss[k].d.on else EH):=⟨_,rfl⟩
   refine gS (gR ?_);refine ah ?_
   refine ab.v (ae.gJ rfl rfl rfl rfl J5 0 rfl Jz rfl) ?_
   refine gP rfl rfl rfl rfl rfl call146 (fun w _ hS=>(by have:=sV bc l A cA b B ss.length cB O (dn b).length cO ss[k] 5 w (hS.ext.gL hC.di) (hC.fa.ay hS.ext);rw [←hnv] at this;exact this)) ?_
   refine ah ?_
   iterate 2 refine ga ?_
   refine ab.eH rfl rfl rfl (fun _=>JE _) (fun b7=>?_)
   refine ab.dw rfl rfl rfl rfl Jq 0 rfl rfl rfl rfl ?_
   refine ai ?_;refine gE (gS ?_)
   refine ab.eg 19 mixed ?_
   refine cV 0 (ae.mv rfl rfl rfl rfl) ?_
   refine cV 1 (ae.mv rfl rfl rfl rfl) ?_
   refine aH.cases (d:=89) rfl (fun hc=>?_) (fun hc=>?_)
   ·
    have ho:kI b ss[k].d 5=true:=hc
    rw [if_pos ho] at hnv
    obtain ⟨q,q1,q2,q3,q4⟩:=(iQ.1 ho).nat hC.base
    rw [q1] at q4 hnv
    have hx:=hC.base.x q2 (by omega)
    have hy:=hC.base.y q2 (by omega)
    rw [←hnv] at hx hy q4
    have hnd:nd b ss[k].d.on=nv:=by rw [hnv,q1]
    refine cV 2 (ae.mv rfl rfl rfl rfl) ?_
    refine cV 3 (ae.mv rfl rfl rfl rfl) ?_
    refine cV 4 (ae.aG rfl rfl rfl rfl Ju rfl (by exact JF) 0 rfl) ?_
    refine cV 5 (ae.dz rfl rfl rfl rfl JL 1 rfl rfl) ?_
    refine cV 6 (ae.aG rfl rfl rfl rfl Jo rfl (by exact Jm) 4 rfl) ?_
    refine cV 7 (ae.dz rfl rfl rfl rfl Jn 0 rfl rfl) ?_
    refine cV 8 (ae.bin (a:=U 1#64) rfl rfl rfl rfl (l4 nv.x.toNat (by omega)) rfl) ?_
    refine cV 9 (ae.bin rfl rfl rfl rfl qt rfl) ?_
    refine cV 10 (ae.aG rfl rfl rfl rfl Jo rfl (by exact Jm) 5 rfl) ?_
    refine cV 11 (ae.dz rfl rfl rfl rfl Jn 0 rfl rfl) ?_
    refine cV 12 (ae.bin (a:=U 1#64) rfl rfl rfl rfl (l4 nv.y.toNat (by omega)) rfl) ?_
    refine cV 13 (ae.bin rfl rfl rfl rfl qt rfl) ?_
    refine aH.one (i:=14) rfl (du.ew (c:=[_]) rfl rfl rfl rfl J9 JF Kg rfl rfl (fun b102=>⟨sL,?_⟩)) rfl
    refine aH.call (i:=15) _ rfl rfl rfl rfl rfl rfl (fun _ _=>call145 _ _) (fun w _ hS=>(by exact cK bc l A b.length cA B cB ss O (dn b).length cO k (some ⟨b102,0,none⟩) 1 [HOr.hOr (HOr.hOr (ss[k].d.set) (bW nv.x)) (bW nv.y)] w (hS.ext.gL hC.di) (hC.sa.ay hS.ext) hk (Sl.di (hS.get (j:=0) rfl)) (by simp [maxLen]))) ?_
    rintro v w1 w2 Y' hS he' ⟨r,rfl,hr⟩
    refine ⟨_,hS.later he',sM,?_⟩
    refine cV 16 (ae.aX rfl rfl rfl rfl rfl) ?_
    refine cV 17 (ae.fC rfl rfl rfl rfl) ?_
    refine aH.done rfl ?_
    refine gE ?_
    refine gT JW fun w' hS=>?_
    exact ⟨hS.ext,r,rfl,by rw [hr];exact ⟨fun h=>(zw hi he r2).2 ⟨ho,by rw [hnd];exact h⟩,fun h=>by have:=((zw hi he r2).1 h).2;rwa [hnd] at this⟩⟩
   have ho:¬kI b ss[k].d 5=true:=by rw [show kI b ss[k].d 5=false from hc];decide
   refine cN 2 ?_
   refine cN 3 ?_
   refine cN 4 ?_
   refine cN 5 ?_
   refine cN 6 ?_
   refine cN 7 ?_
   refine cN 8 ?_
   refine cN 9 ?_
   refine cN 10 ?_
   refine cN 11 ?_
   refine cN 12 ?_
   refine cN 13 ?_
   refine cN 14 ?_
   refine cN 15 ?_
   refine cV 16 (ae.dQ rfl rfl rfl rfl rfl) ?_
   refine cV 17 (ae.fC rfl rfl rfl rfl) ?_
   refine aH.done rfl ?_
   refine gE ?_
   refine gT JW fun w' hS=>?_
   exact ⟨hS.ext,false,rfl,iff_of_false Bool.false_ne_true (fun h=>ho ((zw hi he r2).1 h).1)⟩
  have r2:¬ss[k].d.av=2:=by simpa using hc
  refine gS (gR ?_);refine ax bh ?_;refine ai ?_;refine gE ?_
  refine gC (fun hc=>?_) fun hc=>?_
  ·
   have r3:ss[k].d.av=3:=by simpa using hc
   obtain ⟨nv,hnv⟩:∃nv,nv=(if kI b ss[k].d 6=true then nd b ss[k].d.on else EH):=⟨_,rfl⟩
   refine gS (gR ?_);refine ah ?_
   refine ab.v (ae.gJ rfl rfl rfl rfl J5 0 rfl Jz rfl) ?_
   refine gP rfl rfl rfl rfl rfl call146 (fun w _ hS=>(by have:=sV bc l A cA b B ss.length cB O (dn b).length cO ss[k] 6 w (hS.ext.gL hC.di) (hC.fa.ay hS.ext);rw [←hnv] at this;exact this)) ?_
   refine ah ?_
   iterate 2 refine ga ?_
   refine ab.eH rfl rfl rfl (fun _=>JE _) (fun b9=>?_)
   refine ab.dw rfl rfl rfl rfl Jq 0 rfl rfl rfl rfl ?_
   refine ai ?_;refine gE (gS ?_)
   refine ab.eg 21 mixed ?_
   refine cV 0 (ae.mv rfl rfl rfl rfl) ?_
   refine cV 1 (ae.mv rfl rfl rfl rfl) ?_
   refine aH.cases (d:=114) rfl (fun hc=>?_) (fun hc=>?_)
   ·
    have ho:kI b ss[k].d 6=true:=hc
    rw [if_pos ho] at hnv
    obtain ⟨q,q1,q2,q3,q4⟩:=(iQ.1 ho).nat hC.base
    rw [q1] at q4 hnv
    have hx:=hC.base.x q2 (by omega)
    have hy:=hC.base.y q2 (by omega)
    rw [←hnv] at hx hy q4
    have hnd:nd b ss[k].d.on=nv:=by rw [hnv,q1]
    refine cV 2 (ae.mv rfl rfl rfl rfl) ?_
    refine cV 3 (ae.mv rfl rfl rfl rfl) ?_
    refine cV 4 (ae.aG rfl rfl rfl rfl Ju rfl (by exact JF) 0 rfl) ?_
    refine cV 5 (ae.dz rfl rfl rfl rfl JL 1 rfl rfl) ?_
    refine cV 6 (ae.aG rfl rfl rfl rfl Jo rfl (by exact Jm) 4 rfl) ?_
    refine cV 7 (ae.dz rfl rfl rfl rfl Jn 0 rfl rfl) ?_
    refine cV 8 (ae.bin (a:=U 1#64) rfl rfl rfl rfl (l4 nv.x.toNat (by omega)) rfl) ?_
    refine cV 9 (ae.bin rfl rfl rfl rfl qt rfl) ?_
    refine cV 10 (ae.aG rfl rfl rfl rfl Ju rfl (by exact JF) 0 rfl) ?_
    refine cV 11 (ae.dz rfl rfl rfl rfl JL 1 rfl rfl) ?_
    refine cV 12 (ae.aG rfl rfl rfl rfl Jo rfl (by exact Jm) 5 rfl) ?_
    refine cV 13 (ae.dz rfl rfl rfl rfl Jn 0 rfl rfl) ?_
    refine cV 14 (ae.bin (a:=U 1#64) rfl rfl rfl rfl (l4 nv.y.toNat (by omega)) rfl) ?_
    refine cV 15 (ae.bin rfl rfl rfl rfl qt rfl) ?_
    refine aH.one (i:=16) rfl (du.ew (c:=[_,_]) rfl rfl rfl rfl J9 JF Kg rfl rfl (fun b129=>⟨sL,?_⟩)) rfl
    refine aH.call (i:=17) _ rfl rfl rfl rfl rfl rfl (fun _ _=>call145 _ _) (fun w _ hS=>(by exact cK bc l A b.length cA B cB ss O (dn b).length cO k (some ⟨b129,0,none⟩) 2 [HOr.hOr (ss[k].d.set) (bW nv.x),HOr.hOr (ss[k].d.set) (bW nv.y)] w (hS.ext.gL hC.di) (hC.sa.ay hS.ext) hk (Sl.di (hS.get (j:=0) rfl)) (by simp [maxLen]))) ?_
    rintro v w1 w2 Y' hS he' ⟨r,rfl,hr⟩
    refine ⟨_,hS.later he',sM,?_⟩
    refine cV 18 (ae.aX rfl rfl rfl rfl rfl) ?_
    refine cV 19 (ae.fC rfl rfl rfl rfl) ?_
    refine aH.done rfl ?_
    refine gE ?_
    refine gT JW fun w' hS=>?_
    exact ⟨hS.ext,r,rfl,by rw [hr];exact ⟨fun h=>(zv hi he r3).2 ⟨ho,by rw [hnd];exact h⟩,fun h=>by have:=((zv hi he r3).1 h).2;rwa [hnd] at this⟩⟩
   have ho:¬kI b ss[k].d 6=true:=by rw [show kI b ss[k].d 6=false from hc];decide
   refine cN 2 ?_
   refine cN 3 ?_
   refine cN 4 ?_
   refine cN 5 ?_
   refine cN 6 ?_
   refine cN 7 ?_
   refine cN 8 ?_
   refine cN 9 ?_
   refine cN 10 ?_
   refine cN 11 ?_
   refine cN 12 ?_
   refine cN 13 ?_
   refine cN 14 ?_
   refine cN 15 ?_
   refine cN 16 ?_
   refine cN 17 ?_
   refine cV 18 (ae.dQ rfl rfl rfl rfl rfl) ?_
   refine cV 19 (ae.fC rfl rfl rfl rfl) ?_
   refine aH.done rfl ?_
   refine gE ?_
   refine gT JW fun w' hS=>?_
   exact ⟨hS.ext,false,rfl,iff_of_false Bool.false_ne_true (fun h=>ho ((zv hi he r3).1 h).1)⟩
  have r3:¬ss[k].d.av=3:=by simpa using hc
  refine gS (gR ?_);refine ax bh ?_;refine ai ?_;refine gE ?_
  refine gC (fun hc=>?_) fun hc=>?_
  ·
   have r5:ss[k].d.av=5:=by simpa using hc
   obtain ⟨nv,hnv⟩:∃nv,nv=(if kI b ss[k].d 9=true then nd b ss[k].d.on else EH):=⟨_,rfl⟩
   refine gS (gR ?_);refine ah ?_
   refine ab.v (ae.gJ rfl rfl rfl rfl J5 0 rfl Jz rfl) ?_
   refine gP rfl rfl rfl rfl rfl call146 (fun w _ hS=>(by have:=sV bc l A cA b B ss.length cB O (dn b).length cO ss[k] 9 w (hS.ext.gL hC.di) (hC.fa.ay hS.ext);rw [←hnv] at this;exact this)) ?_
   refine ah ?_
   iterate 2 refine ga ?_
   refine ab.eH rfl rfl rfl (fun _=>JE _) (fun b11=>?_)
   refine ab.dw rfl rfl rfl rfl Jq 0 rfl rfl rfl rfl ?_
   refine ai ?_;refine gE (gS ?_)
   refine ab.eg 27 mixed ?_
   refine cV 0 (ae.mv rfl rfl rfl rfl) ?_
   refine cV 1 (ae.mv rfl rfl rfl rfl) ?_
   refine aH.cases (d:=141) rfl (fun hc=>?_) (fun hc=>?_)
   ·
    have ho:kI b ss[k].d 9=true:=hc
    rw [if_pos ho] at hnv
    obtain ⟨q,q1,q2,q3,q4⟩:=(iQ.1 ho).nat hC.base
    rw [q1] at q4 hnv
    have hx:=hC.base.x q2 (by omega)
    rw [←hnv] at hx q4
    have hnd:nd b ss[k].d.on=nv:=by rw [hnv,q1]
    refine cV 2 (ae.mv rfl rfl rfl rfl) ?_
    refine cV 3 (ae.bin rfl rfl rfl rfl bh rfl) ?_
    refine cV 4 (ae.mv rfl rfl rfl rfl) ?_
    refine aH.cases (d:=144) rfl (fun hc=>?_) (fun hc=>?_)
    ·
     have e2:l=2:=by simpa using hc
     have hlg:l=2∨l=4∨l=6:=by omega
     refine cN 5 ?_
     refine cN 6 ?_
     refine cV 7 (ae.aX rfl rfl rfl rfl rfl) ?_
     refine cV 8 (ae.mv rfl rfl rfl rfl) ?_
     refine cN 9 ?_
     refine cN 10 ?_
     refine cV 11 (ae.aX rfl rfl rfl rfl rfl) ?_
     refine cV 12 (ae.aX rfl rfl rfl rfl rfl) ?_
     refine cV 13 (ae.mv rfl rfl rfl rfl) ?_
     refine cV 14 (ae.mv rfl rfl rfl rfl) ?_
     refine cV 15 (ae.mv rfl rfl rfl rfl) ?_
     refine cV 16 (ae.aG rfl rfl rfl rfl Ju rfl (by exact JF) 0 rfl) ?_
     refine cV 17 (ae.dz rfl rfl rfl rfl JL 1 rfl rfl) ?_
     refine cV 18 (ae.aG rfl rfl rfl rfl Jo rfl (by exact Jm) 4 rfl) ?_
     refine cV 19 (ae.dz rfl rfl rfl rfl Jn 0 rfl rfl) ?_
     refine cV 20 (ae.bin (a:=U 1#64) rfl rfl rfl rfl (l4 nv.x.toNat (by omega)) rfl) ?_
     refine cV 21 (ae.bin rfl rfl rfl rfl qt rfl) ?_
     refine aH.one (i:=22) rfl (du.ew (c:=[_]) rfl rfl rfl rfl J9 JF Kg rfl rfl (fun b162=>⟨sL,?_⟩)) rfl
     refine aH.call (i:=23) _ rfl rfl rfl rfl rfl rfl (fun _ _=>call145 _ _) (fun w _ hS=>(by exact cK bc l A b.length cA B cB ss O (dn b).length cO k (some ⟨b162,0,none⟩) 1 [HOr.hOr (ss[k].d.set) (bW nv.x)] w (hS.ext.gL hC.di) (hC.sa.ay hS.ext) hk (Sl.di (hS.get (j:=0) rfl)) (by simp [maxLen]))) ?_
     rintro v w1 w2 Y' hS he' ⟨r,rfl,hr⟩
     refine ⟨_,hS.later he',sM,?_⟩
     refine cV 24 (ae.aX rfl rfl rfl rfl rfl) ?_
     refine cV 25 (ae.fC rfl rfl rfl rfl) ?_
     refine aH.done rfl ?_
     refine gE ?_
     refine gT JW fun w' hS=>?_
     exact ⟨hS.ext,r,rfl,by rw [hr];exact ⟨fun h=>(oz hi he r5).2 ⟨ho,hlg,by rw [hnd];exact h⟩,fun h=>by have:=((oz hi he r5).1 h).2.2;rwa [hnd] at this⟩⟩
    have e2:¬l=2:=by simpa using hc
    refine cV 5 (ae.mv rfl rfl rfl rfl) ?_
    refine cV 6 (ae.bin rfl rfl rfl rfl bh rfl) ?_
    refine cV 7 (ae.dQ rfl rfl rfl rfl rfl) ?_
    refine cV 8 (ae.mv rfl rfl rfl rfl) ?_
    refine aH.cases (d:=148) rfl (fun hc=>?_) (fun hc=>?_)
    ·
     have e4:l=4:=by simpa using hc
     have hlg:l=2∨l=4∨l=6:=by omega
     refine cN 9 ?_
     refine cN 10 ?_
     refine cV 11 (ae.aX rfl rfl rfl rfl rfl) ?_
     refine cV 12 (ae.aX rfl rfl rfl rfl rfl) ?_
     refine cV 13 (ae.mv rfl rfl rfl rfl) ?_
     refine cV 14 (ae.mv rfl rfl rfl rfl) ?_
     refine cV 15 (ae.mv rfl rfl rfl rfl) ?_
     refine cV 16 (ae.aG rfl rfl rfl rfl Ju rfl (by exact JF) 0 rfl) ?_
     refine cV 17 (ae.dz rfl rfl rfl rfl JL 1 rfl rfl) ?_
     refine cV 18 (ae.aG rfl rfl rfl rfl Jo rfl (by exact Jm) 4 rfl) ?_
     refine cV 19 (ae.dz rfl rfl rfl rfl Jn 0 rfl rfl) ?_
     refine cV 20 (ae.bin (a:=U 1#64) rfl rfl rfl rfl (l4 nv.x.toNat (by omega)) rfl) ?_
     refine cV 21 (ae.bin rfl rfl rfl rfl qt rfl) ?_
     refine aH.one (i:=22) rfl (du.ew (c:=[_]) rfl rfl rfl rfl J9 JF Kg rfl rfl (fun b162=>⟨sL,?_⟩)) rfl
     refine aH.call (i:=23) _ rfl rfl rfl rfl rfl rfl (fun _ _=>call145 _ _) (fun w _ hS=>(by exact cK bc l A b.length cA B cB ss O (dn b).length cO k (some ⟨b162,0,none⟩) 1 [HOr.hOr (ss[k].d.set) (bW nv.x)] w (hS.ext.gL hC.di) (hC.sa.ay hS.ext) hk (Sl.di (hS.get (j:=0) rfl)) (by simp [maxLen]))) ?_
     rintro v w1 w2 Y' hS he' ⟨r,rfl,hr⟩
     refine ⟨_,hS.later he',sM,?_⟩
     refine cV 24 (ae.aX rfl rfl rfl rfl rfl) ?_
     refine cV 25 (ae.fC rfl rfl rfl rfl) ?_
     refine aH.done rfl ?_
     refine gE ?_
     refine gT JW fun w' hS=>?_
     exact ⟨hS.ext,r,rfl,by rw [hr];exact ⟨fun h=>(oz hi he r5).2 ⟨ho,hlg,by rw [hnd];exact h⟩,fun h=>by have:=((oz hi he r5).1 h).2.2;rwa [hnd] at this⟩⟩
    have e4:¬l=4:=by simpa using hc
    refine cV 9 (ae.mv rfl rfl rfl rfl) ?_
    refine cV 10 (ae.bin rfl rfl rfl rfl bh rfl) ?_
    refine cV 11 (ae.dQ rfl rfl rfl rfl rfl) ?_
    refine cV 12 (ae.aX rfl rfl rfl rfl rfl) ?_
    refine cV 13 (ae.mv rfl rfl rfl rfl) ?_
    refine aH.cases (d:=153) rfl (fun hc=>?_) (fun hc=>?_)
    ·
     have e6:l=6:=by simpa using hc
     have hlg:l=2∨l=4∨l=6:=by omega
     refine cV 14 (ae.mv rfl rfl rfl rfl) ?_
     refine cV 15 (ae.mv rfl rfl rfl rfl) ?_
     refine cV 16 (ae.aG rfl rfl rfl rfl Ju rfl (by exact JF) 0 rfl) ?_
     refine cV 17 (ae.dz rfl rfl rfl rfl JL 1 rfl rfl) ?_
     refine cV 18 (ae.aG rfl rfl rfl rfl Jo rfl (by exact Jm) 4 rfl) ?_
     refine cV 19 (ae.dz rfl rfl rfl rfl Jn 0 rfl rfl) ?_
     refine cV 20 (ae.bin (a:=U 1#64) rfl rfl rfl rfl (l4 nv.x.toNat (by omega)) rfl) ?_
     refine cV 21 (ae.bin rfl rfl rfl rfl qt rfl) ?_
     refine aH.one (i:=22) rfl (du.ew (c:=[_]) rfl rfl rfl rfl J9 JF Kg rfl rfl (fun b162=>⟨sL,?_⟩)) rfl
     refine aH.call (i:=23) _ rfl rfl rfl rfl rfl rfl (fun _ _=>call145 _ _) (fun w _ hS=>(by exact cK bc l A b.length cA B cB ss O (dn b).length cO k (some ⟨b162,0,none⟩) 1 [HOr.hOr (ss[k].d.set) (bW nv.x)] w (hS.ext.gL hC.di) (hC.sa.ay hS.ext) hk (Sl.di (hS.get (j:=0) rfl)) (by simp [maxLen]))) ?_
     rintro v w1 w2 Y' hS he' ⟨r,rfl,hr⟩
     refine ⟨_,hS.later he',sM,?_⟩
     refine cV 24 (ae.aX rfl rfl rfl rfl rfl) ?_
     refine cV 25 (ae.fC rfl rfl rfl rfl) ?_
     refine aH.done rfl ?_
     refine gE ?_
     refine gT JW fun w' hS=>?_
     exact ⟨hS.ext,r,rfl,by rw [hr];exact ⟨fun h=>(oz hi he r5).2 ⟨ho,hlg,by rw [hnd];exact h⟩,fun h=>by have:=((oz hi he r5).1 h).2.2;rwa [hnd] at this⟩⟩
    have e6:¬l=6:=by simpa using hc
    refine cN 14 ?_
    refine cN 15 ?_
    refine cN 16 ?_
    refine cN 17 ?_
    refine cN 18 ?_
    refine cN 19 ?_
    refine cN 20 ?_
    refine cN 21 ?_
    refine cN 22 ?_
    refine cN 23 ?_
    refine cV 24 (ae.dQ rfl rfl rfl rfl rfl) ?_
    refine cV 25 (ae.fC rfl rfl rfl rfl) ?_
    refine aH.done rfl ?_
    refine gE ?_
    refine gT JW fun w' hS=>?_
    exact ⟨hS.ext,false,rfl,iff_of_false Bool.false_ne_true (fun h=>by have:=((oz hi he r5).1 h).2.1;omega)⟩
   have ho:¬kI b ss[k].d 9=true:=by rw [show kI b ss[k].d 9=false from hc];decide
   refine cN 2 ?_
   refine cN 3 ?_
   refine cN 4 ?_
   refine cN 5 ?_
   refine cN 6 ?_
   refine cN 7 ?_
   refine cN 8 ?_
   refine cN 9 ?_
   refine cN 10 ?_
   refine cN 11 ?_
   refine cV 12 (ae.dQ rfl rfl rfl rfl rfl) ?_
   refine cV 13 (ae.mv rfl rfl rfl rfl) ?_
   refine cN 14 ?_
   refine cN 15 ?_
   refine cN 16 ?_
   refine cN 17 ?_
   refine cN 18 ?_
   refine cN 19 ?_
   refine cN 20 ?_
   refine cN 21 ?_
   refine cN 22 ?_
   refine cN 23 ?_
   refine cV 24 (ae.dQ rfl rfl rfl rfl rfl) ?_
   refine cV 25 (ae.fC rfl rfl rfl rfl) ?_
   refine aH.done rfl ?_
   refine gE ?_
   refine gT JW fun w' hS=>?_
   exact ⟨hS.ext,false,rfl,iff_of_false Bool.false_ne_true (fun h=>ho ((oz hi he r5).1 h).1)⟩
  have r5:¬ss[k].d.av=5:=by simpa using hc
  refine gS (gR ?_);refine ax bh ?_;refine ai ?_;refine gE ?_
  refine gC (fun hc=>?_) fun hc=>?_
  ·
   have r6:ss[k].d.av=6:=by simpa using hc
   obtain ⟨nv,hnv⟩:∃nv,nv=(if kI b ss[k].d 10=true then nd b ss[k].d.on else EH):=⟨_,rfl⟩
   refine gS (gR ?_);refine ah ?_
   refine ab.v (ae.gJ rfl rfl rfl rfl J5 0 rfl Jz rfl) ?_
   refine gP rfl rfl rfl rfl rfl call146 (fun w _ hS=>(by have:=sV bc l A cA b B ss.length cB O (dn b).length cO ss[k] 10 w (hS.ext.gL hC.di) (hC.fa.ay hS.ext);rw [←hnv] at this;exact this)) ?_
   refine ah ?_
   iterate 2 refine ga ?_
   refine ab.eH rfl rfl rfl (fun _=>JE _) (fun b13=>?_)
   refine ab.dw rfl rfl rfl rfl Jq 0 rfl rfl rfl rfl ?_
   refine ai ?_;refine gE (gS ?_)
   refine ab.eg 24 mixed ?_
   refine cV 0 (ae.mv rfl rfl rfl rfl) ?_
   refine cV 1 (ae.mv rfl rfl rfl rfl) ?_
   refine aH.cases (d:=174) rfl (fun hc=>?_) (fun hc=>?_)
   ·
    have ho:kI b ss[k].d 10=true:=hc
    rw [if_pos ho] at hnv
    obtain ⟨q,q1,q2,q3,q4⟩:=(iQ.1 ho).nat hC.base
    rw [q1] at q4 hnv
    have hx:=hC.base.x q2 (by omega)
    rw [←hnv] at hx q4
    have hnd:nd b ss[k].d.on=nv:=by rw [hnv,q1]
    refine cV 2 (ae.mv rfl rfl rfl rfl) ?_
    refine cV 3 (ae.mv rfl rfl rfl rfl) ?_
    refine cV 4 (ae.aG rfl rfl rfl rfl Jo rfl (by exact Jm) 4 rfl) ?_
    refine cV 5 (ae.dz rfl rfl rfl rfl Jn 0 rfl rfl) ?_
    refine cV 6 (ae.bin (a:=U 1#64) rfl rfl rfl rfl (l4 nv.x.toNat (by omega)) rfl) ?_
    refine cV 7 (ae.mv rfl rfl rfl rfl) ?_
    refine cV 8 (ae.mv rfl rfl rfl rfl) ?_
    refine cV 9 (ae.ep rfl rfl rfl rfl) ?_
    refine cV 10 (ae.aG rfl rfl rfl rfl Kb rfl (by exact JB) 0 rfl) ?_
    refine cV 11 (ae.aG rfl rfl rfl rfl Jx rfl (by exact Jw) 1 rfl) ?_
    refine cV 12 (ae.ld (p:=⟨bc,1,none⟩) rfl rfl rfl rfl JC (fun w _ hS=>HB hS.ext rfl)) ?_
    refine cV 13 (ae.aG rfl rfl rfl rfl Ju rfl (by exact JF) 0 rfl) ?_
    refine cV 14 (ae.dz rfl rfl rfl rfl JL 1 rfl rfl) ?_
    refine cV 15 (ae.aG rfl rfl rfl rfl Jo rfl (by exact Jm) 1 rfl) ?_
    refine cV 16 (ae.dz rfl rfl rfl rfl Jn 0 rfl rfl) ?_
    refine aH.cM (i:=17) rfl rfl rfl rfl rfl rfl (fun _ _=>call147 _ _) (fun w _ hS=>(by exact pw l A cA b ss[k].d.set nv.i w (hC.fa.ay hS.ext) hC.base)) sL ?_
    refine cV 18 (ae.bin rfl rfl rfl rfl qt rfl) ?_
    refine aH.one (i:=19) rfl (du.ew (c:=[_]) rfl rfl rfl rfl J9 JF Kg rfl rfl (fun b192=>⟨sL,?_⟩)) rfl
    refine aH.call (i:=20) _ rfl rfl rfl rfl rfl rfl (fun _ _=>call145 _ _) (fun w _ hS=>(by exact cK bc l A b.length cA B cB ss O (dn b).length cO k (some ⟨b192,0,none⟩) 1 [HOr.hOr (bW nv.x) (lF l b ss[k].d.set nv.i)] w (hS.ext.gL hC.di) (hC.sa.ay hS.ext) hk (Sl.di (hS.get (j:=0) rfl)) (by simp [maxLen]))) ?_
    rintro v w1 w2 Y' hS he' ⟨r,rfl,hr⟩
    refine ⟨_,hS.later he',sM,?_⟩
    refine cV 21 (ae.aX rfl rfl rfl rfl rfl) ?_
    refine cV 22 (ae.fC rfl rfl rfl rfl) ?_
    refine aH.done rfl ?_
    refine gE ?_
    refine gT JW fun w' hS=>?_
    exact ⟨hS.ext,r,rfl,by rw [hr];exact ⟨fun h=>(zu hi he r6).2 ⟨ho,by rw [hnd];exact h⟩,fun h=>by have:=((zu hi he r6).1 h).2;rwa [hnd] at this⟩⟩
   have ho:¬kI b ss[k].d 10=true:=by rw [show kI b ss[k].d 10=false from hc];decide
   refine cN 2 ?_
   refine cN 3 ?_
   refine cN 4 ?_
   refine cN 5 ?_
   refine cN 6 ?_
   refine cN 7 ?_
   refine cN 8 ?_
   refine cN 9 ?_
   refine cN 10 ?_
   refine cN 11 ?_
   refine cN 12 ?_
   refine cN 13 ?_
   refine cN 14 ?_
   refine cN 15 ?_
   refine cN 16 ?_
   refine cN 17 ?_
   refine cN 18 ?_
   refine cN 19 ?_
   refine cN 20 ?_
   refine cV 21 (ae.dQ rfl rfl rfl rfl rfl) ?_
   refine cV 22 (ae.fC rfl rfl rfl rfl) ?_
   refine aH.done rfl ?_
   refine gE ?_
   refine gT JW fun w' hS=>?_
   exact ⟨hS.ext,false,rfl,iff_of_false Bool.false_ne_true (fun h=>ho ((zu hi he r6).1 h).1)⟩
  have r6:¬ss[k].d.av=6:=by simpa using hc
  refine gS (gR ?_);refine ax bh ?_;refine ai ?_;refine gE ?_
  refine gC (fun hc=>?_) fun hc=>?_
  ·
   have r7:ss[k].d.av=7:=by simpa using hc
   refine gS ?_
   refine ab.eg 35 mixed ?_
   refine cV 0 (ae.mv rfl rfl rfl rfl) ?_
   refine cV 1 (ae.bin rfl rfl rfl rfl bh rfl) ?_
   refine cV 2 (ae.mv rfl rfl rfl rfl) ?_
   refine aH.cases (d:=199) rfl (fun hc=>?_) (fun hc=>?_)
   ·
    have e1:l=1:=by simpa using hc
    have hlg:l=1∨l=5:=by omega
    refine cN 3 ?_
    refine cN 4 ?_
    refine cV 5 (ae.aX rfl rfl rfl rfl rfl) ?_
    refine cV 6 (ae.mv rfl rfl rfl rfl) ?_
    refine cV 7 (ae.aG rfl rfl rfl rfl Ju rfl (by exact Jm) 2 rfl) ?_
    refine cV 8 (ae.dz rfl rfl rfl rfl Jn 0 rfl rfl) ?_
    refine cV 9 (ae.bin rfl rfl rfl rfl oP rfl) ?_
    refine cV 10 (ae.aX rfl rfl rfl rfl rfl) ?_
    refine cV 11 (ae.mv rfl rfl rfl rfl) ?_
    refine aH.cases (d:=208) rfl (fun hc=>?_) (fun hc=>?_)
    ·
     have o0:0≤ss[k].d.on:=by simpa using hc
     refine cV 12 (ae.aG rfl rfl rfl rfl Ju rfl (by exact Jm) 2 rfl) ?_
     refine cV 13 (ae.dz rfl rfl rfl rfl Jn 0 rfl rfl) ?_
     refine cV 14 (ae.bin rfl rfl rfl rfl iJ rfl) ?_
     refine cV 15 (ae.aX rfl rfl rfl rfl rfl) ?_
     refine cV 16 (ae.mv rfl rfl rfl rfl) ?_
     refine aH.cases (d:=213) rfl (fun hc=>?_) (fun hc=>?_)
     ·
      have o1:ss[k].d.on<4:=by simpa using hc
      refine cV 17 (ae.mv rfl rfl rfl rfl) ?_
      refine cV 18 (ae.mv rfl rfl rfl rfl) ?_
      refine cV 19 (ae.mv rfl rfl rfl rfl) ?_
      refine cV 20 (ae.mv rfl rfl rfl rfl) ?_
      refine cV 21 (ae.ep rfl rfl rfl rfl) ?_
      refine cV 22 (ae.aG rfl rfl rfl rfl Kb rfl (by exact JB) 0 rfl) ?_
      refine cV 23 (ae.aG rfl rfl rfl rfl Jx rfl (by exact Jw) 1 rfl) ?_
      refine cV 24 (ae.ld (p:=⟨bc,1,none⟩) rfl rfl rfl rfl JC (fun w _ hS=>HB hS.ext rfl)) ?_
      refine cV 25 (ae.aG rfl rfl rfl rfl Ju rfl (by exact JF) 0 rfl) ?_
      refine cV 26 (ae.dz rfl rfl rfl rfl JL 0 rfl rfl) ?_
      refine cV 27 (ae.aG rfl rfl rfl rfl Ju rfl (by exact Jm) 2 rfl) ?_
      refine cV 28 (ae.dz rfl rfl rfl rfl Jn 0 rfl rfl) ?_
      refine aH.cM (i:=29) rfl rfl rfl rfl rfl rfl (fun _ _=>call147 _ _) (fun w _ hS=>(by exact pw l A cA b ss[k].d.set ss[k].d.on w (hC.fa.ay hS.ext) hC.base)) sL ?_
      refine aH.one (i:=30) rfl (du.ew (c:=[_]) rfl rfl rfl rfl J9 JF Kg rfl rfl (fun b227=>⟨sL,?_⟩)) rfl
      refine aH.call (i:=31) _ rfl rfl rfl rfl rfl rfl (fun _ _=>call145 _ _) (fun w _ hS=>(by exact cK bc l A b.length cA B cB ss O (dn b).length cO k (some ⟨b227,0,none⟩) 1 [lF l b ss[k].d.set ss[k].d.on] w (hS.ext.gL hC.di) (hC.sa.ay hS.ext) hk (Sl.di (hS.get (j:=0) rfl)) (by simp [maxLen]))) ?_
      rintro v w1 w2 Y' hS he' ⟨r,rfl,hr⟩
      refine ⟨_,hS.later he',sM,?_⟩
      refine cV 32 (ae.aX rfl rfl rfl rfl rfl) ?_
      refine cV 33 (ae.fC rfl rfl rfl rfl) ?_
      refine aH.done rfl ?_
      refine gE ?_
      refine gT JW fun w' hS=>?_
      exact ⟨hS.ext,r,rfl,by rw [hr];exact ⟨fun h=>(nq hi he r7).2 ⟨hlg,o0,o1,h⟩,fun h=>((nq hi he r7).1 h).2.2.2⟩⟩
     have o1:¬ss[k].d.on<4:=by simpa using hc
     refine cN 17 ?_
     refine cN 18 ?_
     refine cN 19 ?_
     refine cN 20 ?_
     refine cN 21 ?_
     refine cN 22 ?_
     refine cN 23 ?_
     refine cN 24 ?_
     refine cN 25 ?_
     refine cN 26 ?_
     refine cN 27 ?_
     refine cN 28 ?_
     refine cN 29 ?_
     refine cN 30 ?_
     refine cN 31 ?_
     refine cV 32 (ae.dQ rfl rfl rfl rfl rfl) ?_
     refine cV 33 (ae.fC rfl rfl rfl rfl) ?_
     refine aH.done rfl ?_
     refine gE ?_
     refine gT JW fun w' hS=>?_
     exact ⟨hS.ext,false,rfl,iff_of_false Bool.false_ne_true (fun h=>o1 ((nq hi he r7).1 h).2.2.1)⟩
    have o0:¬0≤ss[k].d.on:=by simpa using hc
    refine cN 12 ?_
    refine cN 13 ?_
    refine cN 14 ?_
    refine cV 15 (ae.dQ rfl rfl rfl rfl rfl) ?_
    refine cV 16 (ae.mv rfl rfl rfl rfl) ?_
    refine cN 17 ?_
    refine cN 18 ?_
    refine cN 19 ?_
    refine cN 20 ?_
    refine cN 21 ?_
    refine cN 22 ?_
    refine cN 23 ?_
    refine cN 24 ?_
    refine cN 25 ?_
    refine cN 26 ?_
    refine cN 27 ?_
    refine cN 28 ?_
    refine cN 29 ?_
    refine cN 30 ?_
    refine cN 31 ?_
    refine cV 32 (ae.dQ rfl rfl rfl rfl rfl) ?_
    refine cV 33 (ae.fC rfl rfl rfl rfl) ?_
    refine aH.done rfl ?_
    refine gE ?_
    refine gT JW fun w' hS=>?_
    exact ⟨hS.ext,false,rfl,iff_of_false Bool.false_ne_true (fun h=>o0 ((nq hi he r7).1 h).2.1)⟩
   have e1:¬l=1:=by simpa using hc
   refine cV 3 (ae.mv rfl rfl rfl rfl) ?_
   refine cV 4 (ae.bin rfl rfl rfl rfl bh rfl) ?_
   refine cV 5 (ae.dQ rfl rfl rfl rfl rfl) ?_
   refine cV 6 (ae.mv rfl rfl rfl rfl) ?_
   refine aH.cases (d:=203) rfl (fun hc=>?_) (fun hc=>?_)
   ·
    have e5:l=5:=by simpa using hc
    have hlg:l=1∨l=5:=by omega
    refine cV 7 (ae.aG rfl rfl rfl rfl Ju rfl (by exact Jm) 2 rfl) ?_
    refine cV 8 (ae.dz rfl rfl rfl rfl Jn 0 rfl rfl) ?_
    refine cV 9 (ae.bin rfl rfl rfl rfl oP rfl) ?_
    refine cV 10 (ae.aX rfl rfl rfl rfl rfl) ?_
    refine cV 11 (ae.mv rfl rfl rfl rfl) ?_
    refine aH.cases (d:=208) rfl (fun hc=>?_) (fun hc=>?_)
    ·
     have o0:0≤ss[k].d.on:=by simpa using hc
     refine cV 12 (ae.aG rfl rfl rfl rfl Ju rfl (by exact Jm) 2 rfl) ?_
     refine cV 13 (ae.dz rfl rfl rfl rfl Jn 0 rfl rfl) ?_
     refine cV 14 (ae.bin rfl rfl rfl rfl iJ rfl) ?_
     refine cV 15 (ae.aX rfl rfl rfl rfl rfl) ?_
     refine cV 16 (ae.mv rfl rfl rfl rfl) ?_
     refine aH.cases (d:=213) rfl (fun hc=>?_) (fun hc=>?_)
     ·
      have o1:ss[k].d.on<4:=by simpa using hc
      refine cV 17 (ae.mv rfl rfl rfl rfl) ?_
      refine cV 18 (ae.mv rfl rfl rfl rfl) ?_
      refine cV 19 (ae.mv rfl rfl rfl rfl) ?_
      refine cV 20 (ae.mv rfl rfl rfl rfl) ?_
      refine cV 21 (ae.ep rfl rfl rfl rfl) ?_
      refine cV 22 (ae.aG rfl rfl rfl rfl Kb rfl (by exact JB) 0 rfl) ?_
      refine cV 23 (ae.aG rfl rfl rfl rfl Jx rfl (by exact Jw) 1 rfl) ?_
      refine cV 24 (ae.ld (p:=⟨bc,1,none⟩) rfl rfl rfl rfl JC (fun w _ hS=>HB hS.ext rfl)) ?_
      refine cV 25 (ae.aG rfl rfl rfl rfl Ju rfl (by exact JF) 0 rfl) ?_
      refine cV 26 (ae.dz rfl rfl rfl rfl JL 0 rfl rfl) ?_
      refine cV 27 (ae.aG rfl rfl rfl rfl Ju rfl (by exact Jm) 2 rfl) ?_
      refine cV 28 (ae.dz rfl rfl rfl rfl Jn 0 rfl rfl) ?_
      refine aH.cM (i:=29) rfl rfl rfl rfl rfl rfl (fun _ _=>call147 _ _) (fun w _ hS=>(by exact pw l A cA b ss[k].d.set ss[k].d.on w (hC.fa.ay hS.ext) hC.base)) sL ?_
      refine aH.one (i:=30) rfl (du.ew (c:=[_]) rfl rfl rfl rfl J9 JF Kg rfl rfl (fun b227=>⟨sL,?_⟩)) rfl
      refine aH.call (i:=31) _ rfl rfl rfl rfl rfl rfl (fun _ _=>call145 _ _) (fun w _ hS=>(by exact cK bc l A b.length cA B cB ss O (dn b).length cO k (some ⟨b227,0,none⟩) 1 [lF l b ss[k].d.set ss[k].d.on] w (hS.ext.gL hC.di) (hC.sa.ay hS.ext) hk (Sl.di (hS.get (j:=0) rfl)) (by simp [maxLen]))) ?_
      rintro v w1 w2 Y' hS he' ⟨r,rfl,hr⟩
      refine ⟨_,hS.later he',sM,?_⟩
      refine cV 32 (ae.aX rfl rfl rfl rfl rfl) ?_
      refine cV 33 (ae.fC rfl rfl rfl rfl) ?_
      refine aH.done rfl ?_
      refine gE ?_
      refine gT JW fun w' hS=>?_
      exact ⟨hS.ext,r,rfl,by rw [hr];exact ⟨fun h=>(nq hi he r7).2 ⟨hlg,o0,o1,h⟩,fun h=>((nq hi he r7).1 h).2.2.2⟩⟩
     have o1:¬ss[k].d.on<4:=by simpa using hc
     refine cN 17 ?_
     refine cN 18 ?_
     refine cN 19 ?_
     refine cN 20 ?_
     refine cN 21 ?_
     refine cN 22 ?_
     refine cN 23 ?_
     refine cN 24 ?_
     refine cN 25 ?_
     refine cN 26 ?_
     refine cN 27 ?_
     refine cN 28 ?_
     refine cN 29 ?_
     refine cN 30 ?_
     refine cN 31 ?_
     refine cV 32 (ae.dQ rfl rfl rfl rfl rfl) ?_
     refine cV 33 (ae.fC rfl rfl rfl rfl) ?_
     refine aH.done rfl ?_
     refine gE ?_
     refine gT JW fun w' hS=>?_
     exact ⟨hS.ext,false,rfl,iff_of_false Bool.false_ne_true (fun h=>o1 ((nq hi he r7).1 h).2.2.1)⟩
    have o0:¬0≤ss[k].d.on:=by simpa using hc
    refine cN 12 ?_
    refine cN 13 ?_
    refine cN 14 ?_
    refine cV 15 (ae.dQ rfl rfl rfl rfl rfl) ?_
    refine cV 16 (ae.mv rfl rfl rfl rfl) ?_
    refine cN 17 ?_
    refine cN 18 ?_
    refine cN 19 ?_
    refine cN 20 ?_
    refine cN 21 ?_
    refine cN 22 ?_
    refine cN 23 ?_
    refine cN 24 ?_
    refine cN 25 ?_
    refine cN 26 ?_
    refine cN 27 ?_
    refine cN 28 ?_
    refine cN 29 ?_
    refine cN 30 ?_
    refine cN 31 ?_
    refine cV 32 (ae.dQ rfl rfl rfl rfl rfl) ?_
    refine cV 33 (ae.fC rfl rfl rfl rfl) ?_
    refine aH.done rfl ?_
    refine gE ?_
    refine gT JW fun w' hS=>?_
    exact ⟨hS.ext,false,rfl,iff_of_false Bool.false_ne_true (fun h=>o0 ((nq hi he r7).1 h).2.1)⟩
   have e5:¬l=5:=by simpa using hc
   refine cN 7 ?_
   refine cN 8 ?_
   refine cN 9 ?_
   refine cV 10 (ae.dQ rfl rfl rfl rfl rfl) ?_
   refine cV 11 (ae.mv rfl rfl rfl rfl) ?_
   refine cN 12 ?_
   refine cN 13 ?_
   refine cN 14 ?_
   refine cV 15 (ae.dQ rfl rfl rfl rfl rfl) ?_
   refine cV 16 (ae.mv rfl rfl rfl rfl) ?_
   refine cN 17 ?_
   refine cN 18 ?_
   refine cN 19 ?_
   refine cN 20 ?_
   refine cN 21 ?_
   refine cN 22 ?_
   refine cN 23 ?_
   refine cN 24 ?_
   refine cN 25 ?_
   refine cN 26 ?_
   refine cN 27 ?_
   refine cN 28 ?_
   refine cN 29 ?_
   refine cN 30 ?_
   refine cN 31 ?_
   refine cV 32 (ae.dQ rfl rfl rfl rfl rfl) ?_
   refine cV 33 (ae.fC rfl rfl rfl rfl) ?_
   refine aH.done rfl ?_
   refine gE ?_
   refine gT JW fun w' hS=>?_
   exact ⟨hS.ext,false,rfl,iff_of_false Bool.false_ne_true (fun h=>by have:=((nq hi he r7).1 h).1;omega)⟩
  have r7:¬ss[k].d.av=7:=by simpa using hc
  refine gK (dN (gS (gR ?_)));refine ai ?_;refine gE ?_
  refine gT JW fun w' hS=>?_
  exact ⟨hS.ext,false,rfl,iff_of_false Bool.false_ne_true (Ea r1 r2 r3 r4 r5 r6 r7)⟩
end Go.Proofs.YtnfmegcknckahaaGreatDoor
namespace Go.Proofs.YtnfmegcknckahaaGreatDoor
open Go.RowKit Go.Proofs.Wit Tryz
/-! refutations: form, the first step that is not right: the program -/
theorem uO:(Tryz.prog.info? 3).map (fun i=>(i.zero,i.size,i.bytes))=some (some (bM 0),1,8):=by kernel_rfl
theorem vx (l:Int) (A:Option Addr) (cA:Nat) (b:List NV) (B:Option Addr) (m cB:Nat) (w:World) (hA:FA w A b) (hl:b.length≤maxLen):
    Cn Tryz.prog 52 [.agg (bK l A b.length cA B m cB)] w (fun v _=>v=.int .i64 (eL l b m)):=by
  refine Cn.of func52 rfl rfl ?_
  refine gS (gR ?_)
  refine ab.bx rfl rfl rfl rfl (fun b1=>?_)
  refine ai ?_;refine gE (gS (gS (gR ?_)));refine al Jx Jm 0 ?_;refine aq Jn 0 ?_
  refine gP rfl rfl rfl rfl rfl call96 (fun w _ hS=>(by exact yd l w)) ?_
  refine eY bH ?_;refine gE ?_
  refine gC (fun hc=>?_) fun hc=>?_
  ·
   have h1:¬(0≤l∧l≤6):=by simp at hc;omega
   refine gS (gR ?_);refine ai ?_;refine gE ?_
   refine gT func52 fun w' hS=>?_
   exact ⟨hS.ext,by rw [eL,if_pos h1];rfl⟩
  have h1:0≤l∧l≤6:=by simp at hc;omega
  have h1':¬¬(0≤l∧l≤6):=fun h=>h h1
  refine gK (gS (gS (gR ?_)));refine al Jx Jw 1 ?_;refine aq JC 0 ?_
  refine gP rfl rfl rfl rfl rfl call97 (fun w _ hS=>(by exact AK A cA b w (hA.ay hS.ext) hl)) ?_
  refine ai ?_;refine gE (gS (gR ?_));refine ah ?_;refine ax fX ?_;refine gE ?_
  refine gC (fun hc=>?_) fun hc=>?_
  ·
   have h2:kk b≠0:=by simpa using hc
   refine gS (gR ?_);refine ah ?_;refine ai ?_;refine gE ?_
   refine gT func52 fun w' hS=>?_
   exact ⟨hS.ext,by rw [eL,if_neg h1',if_pos h2];rfl⟩
  have h2:¬kk b≠0:=by simpa using hc
  refine gK (gS (gS (gR ?_)));refine al Jx JK 2 ?_;refine aq JM 0 ?_;refine dt JI ?_;refine ax bh ?_;refine ah ?_
  refine dW 18 (fun hc=>?_) fun hc=>?_
  ·
   have h3:m=0:=by simp at hc;omega
   iterate 4 refine bZ ?_
   refine bV ?_;refine gE (ab.bJ rfl (gS (gR ?_)));refine ai ?_;refine gE ?_
   refine gT func52 fun w' hS=>?_
   exact ⟨hS.ext,by rw [eL,if_neg h1',if_neg h2,if_pos (.inl h3)];rfl⟩
  have h3:¬m=0:=by simp at hc;omega
  refine al Jx JK 2 ?_;refine aq JM 0 ?_;refine dt JI ?_;refine ax vd ?_;refine bA ?_;refine gE ?_
  refine gC (fun hc=>?_) fun hc=>?_
  ·
   have h4:4096<m:=by simp at hc;omega
   refine gS (gR ?_);refine ai ?_;refine gE ?_
   refine gT func52 fun w' hS=>?_
   exact ⟨hS.ext,by rw [eL,if_neg h1',if_neg h2,if_pos (.inr h4)];rfl⟩
  have h4:¬4096<m:=by simp at hc;omega
  refine gK (gS (gR ?_));refine ai ?_;refine gE ?_
  refine gT func52 fun w' hS=>?_
  exact ⟨hS.ext,by rw [eL,if_neg h1',if_neg h2,if_neg (by omega)];rfl⟩
theorem DM (b7:Nat) (_t:Tr) (x:FV) (q:Option Nat) (gs:List FV) (cap:Nat) (b:List NV) (i:Nat) (w:World) (hb:aW b) (hi:i<b.length) (hgs:gs.map FV.f=(List.range b.length).map (fun i=>bT (aa b i))) (ha:qJ w (q.map (fun b=>⟨b,0,none⟩)) gs) (hfa:∀g∈gs,FA w g.a g.f) (h7:w.heap[b7]?=some (.cells #[x.v] 22 (0,0))) (hx:FA w x.a x.f) (hxf:x.f=bT (fg (aa b i))):
  Cn Tryz.prog 99 [cR q gs.length cap,.func (.func 100) #[] #[.pointer (some ⟨b7,0,none⟩)]] w (fun v _=>v=.int .i64 (jy b i)):=by
 have hlen:gs.length=b.length:=by have:=congrArg List.length hgs;simpa using this
 refine Cn.mono (FH b7 x (q.map (fun b=>⟨b,0,none⟩)) cap gs w ha (by have:=hb.len;unfold maxLen;omega) hfa h7 hx (by rw [hxf];exact zM _)) (fun v w' _ h=>?_)
 obtain ⟨j,rfl,hj⟩:=h
 rw [Dx hb hi hxf hgs hj]
set_option maxRecDepth 8000 in
theorem wE (l:Int) (A:Option Addr) (cA:Nat) (b:List NV) (B:Option Addr) (cB:Nat) (ss:List SV) (w:World) (hA:FA w A b) (hB:sJ w B ss) (hl:b.length≤maxLen) (_hsl:ss.length≤maxLen):
    Cn Tryz.prog 53 [.agg (bK l A b.length cA B ss.length cB)] w (fun v _=>∃r:Int,v=.int .i64 r∧(0≤r↔eL l b ss.length=0∧¬∀(k:Nat) (hk:k<ss.length),ey l b (dE ss) k ss[k].d)):=by
  obtain ⟨i2,hi2,hz2,hsz2,hby2⟩:=info_parts uO
  refine Cn.of func53 rfl rfl ?_
  refine gS (gR ?_)
  refine ab.bx rfl rfl rfl rfl (fun b1=>?_)
  refine ai ?_;refine gE (gS (gS (gR ?_)))
  refine ab.v (ae.gJ rfl rfl rfl rfl JS 0 rfl JB rfl) ?_
  refine gP rfl rfl rfl rfl rfl call52 (fun w _ hS=>(by exact vx l A cA b B ss.length cB w (hA.ay hS.ext) hl)) ?_
  refine ax fX ?_;refine gE ?_
  refine gC (fun hc=>?_) fun hc=>?_
  ·
   have h1:eL l b ss.length≠0:=by simpa using hc
   refine gS (gR ?_);refine ai ?_;refine gE ?_
   refine gT func53 fun w' hS=>?_
   exact ⟨hS.ext,-1,rfl,⟨fun h=>absurd h (by decide),fun h=>absurd h.1 h1⟩⟩
  have h1:eL l b ss.length=0:=by simpa using hc
  obtain ⟨hlo,hbe,hs0,hs4⟩:=mu.1 h1
  have hb:aW b:=by have:=mE.1 hbe;exact ⟨this.1,this.2.1,this.2.2⟩
  have hlen:=hb.len
  refine gK (gS (gR ?_))
  refine ab.v (ae.gJ rfl rfl rfl rfl JS 0 rfl JB rfl) ?_
  refine ab.v (ae.eP rfl rfl rfl rfl (bd116 (c:=[_,_,_,_]) rfl)) ?_
  refine ab.bx rfl rfl rfl rfl (fun b14=>?_)
  refine ai ?_;refine gE (gS (gR ?_));refine al Jx Jw 1 ?_;refine aq JC 1 ?_
  refine gM rfl rfl rfl rfl rfl call62 (fun w _ hS=>(by exact yg A cA b w (hA.ay hS.ext) hb)) ?_
  rintro v w1 w2 Y' hS he ⟨gs,⟨q,cap,sp,H,rfl,hq,ao,hnew,hin⟩,hgs⟩
  refine ⟨_,hS.fE (pre:=[_]) he hnew,?_⟩
  refine ai ?_;refine gE (gS (gS (gR ?_)));refine ah ?_;refine dt JD ?_;refine ah ?_;refine gE (gB ?_)
  have hgl:gs.length=b.length:=by have:=congrArg List.length hgs;simpa using this
  have hpos:=(aE.1 hb.jH).pos
  obtain ⟨bq,rfl⟩:∃b,q=some b:=by
    cases q with
    |none=>have:=(hq rfl).1;omega
    |some b=>exact ⟨b,rfl⟩
  refine ab.cS (ob bM 3 [] []) ?_
  refine ab.loop (σ:=Nat×Option Nat×Nat×List Value×Hl) (fun z=>[(1,.pointer (some ⟨b1,0,none⟩)),(3,.pointer (some ⟨b14,0,none⟩)),(4,cR (some bq) gs.length cap),(18,cR (some bq) gs.length cap),(19,.int .i64 gs.length),(20,.int .i64 z.1)])
    (fun z=>[(z.2.1,ob bM 3 ((dn b).take z.1) z.2.2.2.1),(some bq,ob FV.v 22 gs sp),(some b14,.cells (oO l A b.length cA B ss.length cB (z.2.1.map (fun b=>⟨b,0,none⟩)) z.1 z.2.2.1) 116 (0,0)),(some b1,.cells (bK l A b.length cA B ss.length cB) 25 (0,0))]++z.2.2.2.2)
    (fun z=>z.1≤b.length∧(z.2.1=none→z.1=0∧z.2.2.1=0)∧(((dn b).take z.1).map bM++z.2.2.2.1).length=z.2.2.1∧∀g∈gs,g.In 66 z.2.2.2.2)
    (fun z=>b.length - z.1) (0,none,0,[],H) ⟨Nat.zero_le _,fun _=>⟨rfl,rfl⟩,rfl,hin⟩ ⟨rfl,rfl,rfl,rfl,rfl,rfl,trivial⟩ (List.Sublist.refl _) (fun z hZ IH=>?_)
  obtain ⟨i,qo,co,spo,H1⟩:=z
  obtain ⟨hi,hqo,hco,hin1⟩:=hZ
  dsimp only at hi hqo hco hin1 IH⊢
  refine gS (gR ?_);refine ax iJ ?_;refine gE (gS ?_)
  refine gC (fun hc=>?_) fun hc=>?_
  ·
   have hig:i<gs.length:=by simp at hc;omega
   have hib:i<b.length:=by omega
   have hfi:gs[i].f=bT (aa b i):=by
     have h1:(gs.map FV.f)[i]?=some gs[i].f:=by rw [List.getElem?_map,List.getElem?_eq_getElem hig];rfl
     rw [hgs,List.getElem?_map,List.getElem?_range hib] at h1
     exact (Option.some.inj h1).symm
   have hgi:gs.getD i FV.z=gs[i]:=by simp [List.getD_eq_getElem?_getD,hig]
   obtain ⟨x,hx⟩:∃x,x=gs[i]:=⟨_,rfl⟩
   have hxin:x∈gs:=by rw [hx];exact List.getElem_mem hig
   rw [←hx] at hfi hgi
   have htk:((dn b).take i).map bM++[bM (jy b i)]=((dn b).take (i+1)).map bM:=by
     have hin:i<(dn b).length:=by rw [j8];exact hib
     have h2:(dn b)[i]=jy b i:=by have:=rR hib;rwa [List.getD_eq_getElem?_getD,List.getElem?_eq_getElem hin] at this
     rw [List.take_succ_eq_append_getElem hin,List.map_append,h2];rfl
   have hil:((dn b).take i).length=i:=by rw [List.length_take,j8];omega
   refine gK (gS (gB (gS (gR ?_))))
   refine ab.v (ae.dZ rfl rfl rfl rfl rfl JD Jw (i) ⟨rfl,hig⟩) ?_
   refine ab.v (ae.rj FV.v FV.z rfl rfl rfl rfl JC 1 rfl hig) ?_
   refine ai ?_;refine gE (gS (gR ?_));refine ah ?_
   refine gM rfl rfl rfl rfl rfl call98 (fun w _ hS=>(by rw [hgi];exact C4 x (aa b i) w (((hin1 x hxin).mono (List.subset_append_right _ H1)).at hS) hfi (hb.ok hib))) ?_
   rintro v w1 w2 Y' hS he ho
   obtain ⟨q2,jP,oS,rfl,hq2,gU,hS'⟩:=ak hS he ho
   refine ⟨_,hS',?_⟩
   refine ab.eH rfl rfl rfl (fun _=>JN _) (fun b7=>?_)
   refine ab.st rfl rfl rfl rfl Jw rfl 0 rfl rfl ?_
   refine gE ?_
   refine ab.sh 7 14 [(some b7,.cells #[cR q2 (bT (fg (aa b i))).length jP] 22 (0,0)),(some bq,ob FV.v 22 gs sp),(some b14,.cells (oO l A b.length cA B ss.length cB (qo.map (fun b=>⟨b,0,none⟩)) i co) 116 (0,0)),(some b1,.cells (bK l A b.length cA B ss.length cB) 25 (0,0))] sL mixed rfl ?_
   iterate 2 refine l6.v (ae.mv rfl rfl rfl rfl) ?_
   refine l6.v (ae.ep rfl rfl rfl rfl) ?_
   refine l6.v (ae.aG rfl rfl rfl rfl Kb rfl (by exact JU) 3 rfl) ?_
   refine l6.v (ae.dz rfl rfl rfl rfl JX 2 rfl rfl) ?_
   refine l6.v (ae.mv rfl rfl rfl rfl) ?_
   refine l6.v (ae.uD rfl rfl rfl rfl rfl) ?_
   refine l6.nil ?_
   refine Tl.one (d:=33) rfl ?_
   refine du.call _ rfl rfl rfl rfl rfl (fun _ _=>call99 _ _) (fun w _ hS=>(by exact DM b7 (aa b i) ⟨q2.map (fun b=>⟨b,0,none⟩),jP,bT (fg (aa b i))⟩ (some bq) gs cap b i w hb hib hgs (xZ hS 3 rfl (fun e=>by cases e)) (fun g hg=>((hin1 g hg).mono (fun z hz=>by simp [hz])).at hS) (hS.get (j:=0) rfl) (aM hS 1 rfl (fun e=>(hq2 e).1)) rfl)) ?_
   rintro v w1 w2 Y' hS he rfl
   refine ⟨_,hS.later he,sL,?_⟩
   refine Tl.one (d:=34) rfl ?_
   refine du.ew (c:=[_]) rfl rfl rfl rfl Jt Jm JJ rfl rfl (fun b34=>⟨by repeat (first|exact List.Sublist.refl _|exact List.nil_sublist _|refine List.Sublist.cons_cons _ ?_|refine List.Sublist.cons _ ?_),?_⟩)
   refine Tl.one (d:=35) rfl ?_
   refine du.app 1 (xs:=((dn b).take i).map bM) (sp:=spo) (nx:=i) (q:=qo) (news:=[bM (jy b i)]) (spn:=[]) rfl rfl rfl rfl rfl Jt hi2 hz2 hsz2 rfl hqo 3 rfl 0 rfl (by rw [List.length_map,hil,Nat.mul_one]) (by rw [hco,Nat.mul_one]) rfl (by decide) (fun u hu=>by rw [List.mem_singleton.1 hu];rfl) (by unfold maxLen;omega) (by rw [hby2];omega) (fun b' sp' cap' hlen'=>⟨sL,?_⟩)
   rw [htk] at hlen'⊢
   refine Tl.sw [10,11,12] rfl rfl ?_
   refine kp ?_;refine al Kb JU 3 ?_
   refine ab.st rfl rfl rfl rfl JU rfl 5 rfl rfl ?_
   refine gE (dN (gR ?_));refine cU rfl rfl rfl rfl (cC (by omega)) ?_;refine ah ?_;refine gE ?_
   refine ab.aX (pre:=[_,_,_,_,_,_,_]) (pre':=[_,_,_,_]) H1 [3,4,5,6] (by decide) rfl ?_
   exact IH (i+1,some b',cap',sp',H1) _ _ ⟨hib,(fun e=>by cases e),by rw [hlen',Nat.mul_one],hin1⟩ (by dsimp only;omega) ⟨rfl,rfl,rfl,rfl,rfl,rfl,trivial⟩ (List.Sublist.refl _)
  have hge:¬i<gs.length:=by simp at hc;omega
  obtain rfl:i=b.length:=by omega
  have htn:(dn b).take b.length=dn b:=List.take_of_length_le (by rw [j8];exact Nat.le_refl _)
  rw [htn]
  rw [htn] at hco
  refine ab.exit rfl (gS (gS (gR ?_)))
  refine al Jx JK 2 ?_;refine aq JM 3 ?_;refine dt JI ?_;refine ah ?_;refine gE (gB ?_)
  refine ab.loop (σ:=Nat) (fun k=>[(1,.pointer (some ⟨b1,0,none⟩)),(3,.pointer (some ⟨b14,0,none⟩)),(41,.int .i64 ss.length),(42,.int .i64 k)])
    (fun _=>[(qo,ob bM 3 (dn b) spo),(some bq,ob FV.v 22 gs sp),(some b14,.cells (oO l A b.length cA B ss.length cB (qo.map (fun b=>⟨b,0,none⟩)) b.length co) 116 (0,0)),(some b1,.cells (bK l A b.length cA B ss.length cB) 25 (0,0))]++H1)
    (fun k=>k≤ss.length∧∀(j:Nat) (hj:j<ss.length),j<k→ey l b (dE ss) j ss[j].d) (fun k=>ss.length - k) 0 ⟨Nat.zero_le _,fun j _ h=>absurd h (Nat.not_lt_zero _)⟩ ⟨rfl,rfl,rfl,rfl,trivial⟩ (List.Sublist.refl _) (fun k hK IH=>?_)
  obtain ⟨hk,hpre⟩:=hK
  refine gS (gR ?_);refine ax iJ ?_;refine gE (gS ?_)
  refine gC (fun hc=>?_) fun hc=>?_
  ·
   have hlt:k<ss.length:=by simpa using hc
   refine gK (gS (gB (gS (gR ?_))));refine ah ?_;refine ai ?_;refine gE (gS (gR ?_))
   iterate 2 refine ah ?_
   refine gM rfl rfl rfl rfl rfl call101 (fun w _ hS=>(by exact uq b14 l A cA b B cB ss (qo.map (fun b=>⟨b,0,none⟩)) co k w ⟨by rw [j8];exact hS.get (j:=2) rfl,hA.ay hS.ext,hB.ay hS.ext,E6 hS 0 rfl (fun e=>by rw [j8];exact (hqo e).1),hb⟩ hlt)) ?_
   rintro v w1 w2 Y' hS he ⟨r,rfl,hr⟩
   refine ⟨_,hS.later he,?_⟩
   refine eY bH ?_;refine gE ?_
   refine gC (fun hc=>?_) fun hc=>?_
   ·
    have hrf:r=false:=by simpa using hc
    refine gS (gR ?_);refine ah ?_;refine ai ?_;refine gE ?_
    refine gT func53 fun w' hS=>?_
    exact ⟨hS.ext,k,rfl,⟨fun _=>⟨h1,fun hall=>by have:=hr.2 (hall k hlt);rw [hrf] at this;cases this⟩,fun _=>by omega⟩⟩
   have hrt:r=true:=by simpa using hc
   refine gK (dN (gR ?_));refine cU rfl rfl rfl rfl (cC (by omega)) ?_;refine ah ?_;refine gE ?_
   refine IH (k+1) _ _ ⟨hlt,fun j hj hjk=>?_⟩ (by omega) ⟨rfl,rfl,rfl,rfl,trivial⟩ (List.Sublist.refl _)
   by_cases e:j=k
   · subst e;exact hr.1 hrt
   exact hpre j hj (by omega)
  have hge2:¬k<ss.length:=by simpa using hc
  refine ab.exit rfl (gS (gR ?_))
  refine ai ?_;refine gE ?_
  refine gT func53 fun w' hS=>?_
  exact ⟨hS.ext,-1,rfl,⟨fun h=>absurd h (by decide),fun h=>absurd (fun j hj=>hpre j hj (by omega)) h.2⟩⟩
end Go.Proofs.YtnfmegcknckahaaGreatDoor
namespace Go.Proofs.YtnfmegcknckahaaGreatDoor
open Go.RowKit Go.Proofs.Wit Tryz
/-! refutations: the program's check -/
theorem vX {l:Int} {b:List NV} {ss:List SV}:(∀(k:Nat) (hk:k<(dE ss).length),ey l b (dE ss) k (dE ss)[k])↔∀(k:Nat) (hk:k<ss.length),ey l b (dE ss) k ss[k].d:=by
 constructor
 ·intro h k hk
  have:=h k (by rw [cH];exact hk)
  rwa [my hk] at this
 intro h k hk
 rw [cH] at hk
 rw [my hk];exact h k hk
theorem Fc {l:Int} {b:List NV} {ss:List SV} (h:eL l b ss.length≠0):mQ l b (dE ss)=eL l b ss.length:=by
 have e:eL l b (dE ss).length=eL l b ss.length:=by rw [cH]
 unfold mQ
 rw [if_pos (by rw [e];exact h),e]
theorem Fb {l:Int} {b:List NV} {ss:List SV} (h:¬eL l b ss.length≠0) (h2:∀(k:Nat) (hk:k<ss.length),ey l b (dE ss) k ss[k].d):mQ l b (dE ss)=0:=by
 have e:eL l b (dE ss).length=eL l b ss.length:=by rw [cH]
 unfold mQ
 rw [if_neg (by rw [e];exact h),if_pos (vX.2 h2)]
theorem Fa {l:Int} {b:List NV} {ss:List SV} (h:¬eL l b ss.length≠0) (h2:¬∀(k:Nat) (hk:k<ss.length),ey l b (dE ss) k ss[k].d):mQ l b (dE ss)=13:=by
 have e:eL l b (dE ss).length=eL l b ss.length:=by rw [cH]
 unfold mQ
 rw [if_neg (by rw [e];exact h),if_neg (fun g=>h2 (vX.1 g))]
theorem jY (l:Int) (A:Option Addr) (cA:Nat) (b:List NV) (B:Option Addr) (cB:Nat) (ss:List SV) (w:World) (hA:FA w A b) (hB:sJ w B ss) (hl:b.length≤maxLen) (hsl:ss.length≤maxLen):
    Cn Tryz.prog 22 [.agg (bK l A b.length cA B ss.length cB)] w (fun v _=>v=.int .i64 (mQ l b (dE ss))):=by
  refine Cn.of func22 rfl rfl ?_
  refine gS (gR ?_)
  refine ab.bx rfl rfl rfl rfl (fun b1=>?_)
  refine ai ?_;refine gE (gS (gS (gR ?_)))
  refine ab.v (ae.gJ rfl rfl rfl rfl JS 0 rfl JB rfl) ?_
  refine gP rfl rfl rfl rfl rfl call52 (fun w _ hS=>(by exact vx l A cA b B ss.length cB w (hA.ay hS.ext) hl)) ?_
  refine ai ?_;refine gE (gS (gR ?_));refine ah ?_;refine ax fX ?_;refine gE ?_
  refine gC (fun hc=>?_) fun hc=>?_
  ·
   have h1:eL l b ss.length≠0:=by simpa using hc
   refine gS (gR ?_);refine ah ?_;refine ai ?_;refine gE ?_
   refine gT func22 fun w' hS=>?_
   exact ⟨hS.ext,by rw [Fc h1];rfl⟩
  have h1:¬eL l b ss.length≠0:=by simpa using hc
  refine gK (gS (gS (gR ?_)))
  refine ab.v (ae.gJ rfl rfl rfl rfl JS 0 rfl JB rfl) ?_
  refine gM rfl rfl rfl rfl rfl call53 (fun w _ hS=>(by exact wE l A cA b B cB ss w (hA.ay hS.ext) (hB.ay hS.ext) hl hsl)) ?_
  rintro v w1 w2 Y' hS he ⟨r,rfl,hr⟩
  refine ⟨_,hS.later he,?_⟩
  refine ax oP ?_;refine gE ?_
  refine gC (fun hc=>?_) fun hc=>?_
  ·
   have h2:0≤r:=by simpa using hc
   refine gS (gR ?_);refine ai ?_;refine gE ?_
   refine gT func22 fun w' hS=>?_
   exact ⟨hS.ext,by rw [Fa h1 (hr.1 h2).2];rfl⟩
  have h2:¬0≤r:=by simpa using hc
  have h3:∀(k:Nat) (hk:k<ss.length),ey l b (dE ss) k ss[k].d:=Classical.byContradiction fun h=>h2 (hr.2 ⟨Classical.byContradiction fun e=>h1 e,h⟩)
  refine gK (gS (gR ?_));refine ai ?_;refine gE ?_
  refine gT func22 fun w' hS=>?_
  exact ⟨hS.ext,by rw [Fb h1 h3];rfl⟩
end Go.Proofs.YtnfmegcknckahaaGreatDoor
namespace Go.Proofs.YtnfmegcknckahaaGreatDoor
open Go.RowKit Go.Proofs.Wit Tryz
/-! extracting: bits, nodes, agents, sources: the program -/
theorem gX (i:Int) (w:World) (hi:0≤i):Cn Tryz.prog 111 [.int .i64 i] w (fun v _=>v=U (bW i)):=by
 refine Cn.of func111 rfl rfl ?_
 refine gS (gR ?_)
 refine ab.v (ae.fC (v:=U 0#64) rfl rfl rfl rfl) ?_
 refine gE (gS (gR ?_));refine ah ?_
 refine ab.v (ae.bin (a:=U 1#64) rfl rfl rfl rfl (l4 i.toNat (by omega)) rfl) ?_
 refine ai ?_;refine gE ?_
 refine gT func111 fun w' hS=>?_
 exact ⟨hS.ext,rfl⟩
def iw (s:aB) (k:Nat):List Nat:=(List.range k).filter (fun i=>s.getLsbD i)
theorem pA {s:aB} {k:Nat}:iw s (k+1)=iw s k++(if s.getLsbD k=true then [k] else []):=by
 unfold iw
 rw [List.range_succ,List.filter_append]
 by_cases h:s.getLsbD k=true<;>simp [h]
theorem lN {s:aB} {k:Nat}:(iw s k).length≤k:=by
 have:=List.length_filter_le (fun i=>s.getLsbD i) (List.range k)
 simpa [iw] using this
theorem kX (s:aB) (w:World):Cn Tryz.prog 85 [U s] w (fun v w'=>nE bM 3 w w' v (iL (dY s))):=by
  obtain ⟨i2,hi2,hz2,hsz2,hby2⟩:=info_parts uO
  refine Cn.of func85 rfl rfl ?_
  refine gS (gR ?_);refine ai ?_;refine gE (gS (gR ?_));refine ai ?_;refine gE (gS (gS (gR ?_)));refine ah ?_;refine gE (gB ?_)
  refine ab.cS (ob bM 3 [] []) ?_
  refine ab.loop (σ:=Nat×Option Nat×Nat×List Value×Hl) (fun z=>[(0,U s),(3,cR z.2.1 (iL (iw s z.1)).length z.2.2.1),(5,.int .i64 z.1)])
    (fun z=>[(z.2.1,ob bM 3 (iL (iw s z.1)) z.2.2.2.1)]++z.2.2.2.2)
    (fun z=>z.1≤64∧(z.2.1=none→(iL (iw s z.1)).length=0∧z.2.2.1=0)∧((iL (iw s z.1)).map bM++z.2.2.2.1).length=z.2.2.1)
    (fun z=>64 - z.1) (0,none,0,[],[]) ⟨Nat.zero_le _,fun _=>⟨rfl,rfl⟩,rfl⟩ ⟨rfl,rfl,rfl,trivial⟩ (List.Sublist.refl _) (fun z hZ IH=>?_)
  obtain ⟨k,q,cap,sp,H⟩:=z
  obtain ⟨hk,hq,ao⟩:=hZ
  dsimp only at hk hq ao IH⊢
  have hln:=@lN s k
  have hil:=@iG (iw s k)
  refine gS (gR ?_);refine ax iJ ?_;refine gE (gS ?_)
  refine gC (fun hc=>?_) fun hc=>?_
  ·
   have hlt:k<64:=by simp at hc;omega
   refine gK (gS (gB (gS (gR ?_))));refine ah ?_;refine ai ?_;refine gE (gS (gR ?_))
   iterate 2 refine ah ?_
   refine cU rfl rfl rfl rfl (B1 k rfl) ?_
   refine ab.v (ae.bin (b:=U 1#64) rfl rfl rfl rfl Ej rfl) ?_
   refine ab.v (ae.bin (b:=U 1#64) rfl rfl rfl rfl xm rfl) ?_
   refine gE ?_
   refine gC (fun hc=>?_) fun hc=>?_
   ·
    have hb:s.getLsbD k=true:=by rw [←rY];exact hc
    have hsn:iw s (k+1)=iw s k++[k]:=by rw [pA,if_pos hb]
    have hsi:iL (iw s (k+1))=iL (iw s k)++[(k:Int)]:=by rw [hsn];simp [iL]
    refine gR ?_
    iterate 2 refine ah ?_
    refine ab.ew (c:=[_]) rfl rfl rfl rfl Jt Jm JJ rfl rfl (fun b15=>?_)
    refine ab.oh bM (news:=[(k:Int)]) (spn:=[]) (xs:=iL (iw s k)) (sp:=sp) (q:=q) rfl rfl rfl rfl rfl Jt hi2 hz2 hsz2 rfl hq 1 rfl 0 rfl ao rfl (by decide) (fun _=>rfl) (by unfold maxLen;omega) (by rw [hby2];omega) (fun b' sp' cap' hlen=>?_)
    refine ai ?_;refine gE (dN (gR ?_));refine cU rfl rfl rfl rfl (cC (by omega)) ?_;refine ah ?_;refine gE ?_
    refine ab.aX (pre:=[_,_]) (pre':=[_]) H [1] (by decide) rfl ?_
    rw [←hsi] at hlen⊢
    exact IH (k+1,some b',cap',sp',H) _ _ ⟨hlt,(fun e=>by cases e),hlen⟩ (by dsimp only;omega) ⟨rfl,by dsimp only;rw [hsi,List.length_append];rfl,rfl,trivial⟩ (List.Sublist.refl _)
   have hb:¬s.getLsbD k=true:=by rw [←rY,show (s>>>k &&& 1#64==1#64)=false from hc];decide
   have hsn:iw s (k+1)=iw s k:=by rw [pA,if_neg hb,List.append_nil]
   refine gK (dN (gR ?_));refine cU rfl rfl rfl rfl (cC (by omega)) ?_;refine ah ?_;refine gE ?_
   exact IH (k+1,q,cap,sp,H) _ _ ⟨hlt,by dsimp only;rw [hsn];exact hq,by dsimp only;rw [hsn];exact ao⟩ (by dsimp only;omega) ⟨rfl,by dsimp only;rw [hsn];rfl,rfl,trivial⟩ (by dsimp only;rw [hsn];exact List.Sublist.refl _)
  have hge:¬k<64:=by simp at hc;omega
  obtain rfl:k=64:=by omega
  refine ab.exit rfl (gS (gR ?_))
  refine ah ?_;refine ai ?_;refine gE ?_
  refine gT func85 fun w' hS=>?_
  exact ⟨hS.ext,nE.mk hS 0 rfl rfl hq ao⟩
end Go.Proofs.YtnfmegcknckahaaGreatDoor
