/- What calls of the program return, under the conditions that each theorem states. -/
import Derived.Test.YtnfmegcknckahaaGreatDoorXA31
import Derived.Test.YtnfmegcknckahaaGreatDoorXA32
import Derived.Test.YtnfmegcknckahaaGreatDoorXA03
import Derived.Test.YtnfmegcknckahaaGreatDoorXA04
import Derived.Test.YtnfmegcknckahaaGreatDoorXA20
namespace Go.Proofs.YtnfmegcknckahaaGreatDoor
open Go.RowKit Go.Proofs.Wit Tryz
theorem mg (bc:Nat) (l:Int) (A:Option Addr) (nA cA:Nat) (B:Option Addr) (nB cB:Nat) (O:Option Addr) (cO:Nat) (os:List Int) (node other:Int) (w:World) (hb:w.heap[bc]?=some (.cells (oR l A nA cA B nB cB O os.length cO) 116 (0,0))) (hO:jP w O os):
    Cn Tryz.prog 144 [.pointer (some ⟨bc,0,none⟩),.int .i64 node,.int .i64 other] w (fun v _=>v=.bool (kN os node other)):=by
  have HB:∀{w':World} {j:Nat} {u:Value},Ex [] w w'→(oR l A nA cA B nB cB O os.length cO)[j]?=some u→w'.cell? ⟨bc,j,none⟩=some u:=fun e h=>Ex.cell e hb h
  refine Cn.of func144 rfl rfl ?_
  refine gS (gR ?_);refine ai ?_;refine gE (gS (gR ?_));refine ah ?_;refine aw oT ?_;refine ah ?_
  refine eC 9 (fun hc=>?_) fun hc=>?_
  ·
   have h1:0≤node:=by simpa using hc
   iterate 2 refine ah ?_
   refine ku ?_;refine al J7 JY 3 ?_
   refine ab.v (ae.ld (p:=⟨bc,3,none⟩) rfl rfl rfl rfl J1 (fun w _ hS=>HB hS.ext rfl)) ?_
   refine dM Jp ?_;refine aw iX ?_;refine cF ?_;refine ah ?_
   refine eC 18 (fun hc=>?_) fun hc=>?_
   ·
    have h2:node<os.length:=by simpa using hc
    obtain ⟨k,rfl⟩:∃k:Nat,node=(k:Int):=⟨node.toNat,by omega⟩
    have hk:k<os.length:=by omega
    refine ah ?_;refine aw oT ?_;refine cF ?_;refine ah ?_
    refine eC 22 (fun hc=>?_) fun hc=>?_
    ·
     have h3:0≤other:=by simpa using hc
     refine ah ?_;refine ku ?_;refine al J7 JY 3 ?_
     refine ab.v (ae.ld (p:=⟨bc,3,none⟩) rfl rfl rfl rfl J1 (fun w _ hS=>HB hS.ext rfl)) ?_
     refine ah ?_
     refine ab.v (ae.idx rfl rfl rfl rfl rfl Jp Ji ⟨_,hO⟩ (by simp) (k) ⟨rfl,by simpa using hk⟩) ?_
     refine ab.v (ae.ld rfl rfl rfl rfl Jj (fun w _ hS=>(jP.ay hO hS.ext).at (k) hk)) ?_
     refine ah ?_;refine aw bd ?_;refine cF ?_;refine ai ?_;refine gE ?_
     refine gT func144 fun w' hS=>?_
     exact ⟨hS.ext,by simp [j8,kN,hk,h3,List.getD_eq_getElem?_getD];rfl⟩
    have h3:¬0≤other:=by simpa using hc
    iterate 9 refine cD ?_
    refine bB ?_;refine ai ?_;refine gE ?_
    refine gT func144 fun w' hS=>?_
    exact ⟨hS.ext,by rw [kN,decide_eq_false (by omega)];rfl⟩
   have h2:¬node<os.length:=by simpa using hc
   iterate 2 refine cD ?_
   refine bB ?_;refine ah ?_
   iterate 9 refine cD ?_
   refine bB ?_;refine ai ?_;refine gE ?_
   refine gT func144 fun w' hS=>?_
   exact ⟨hS.ext,by rw [kN,decide_eq_false (by omega)];rfl⟩
  have h1:¬0≤node:=by simpa using hc
  iterate 7 refine cD ?_
  refine bB ?_;refine ah ?_
  iterate 2 refine cD ?_
  refine bB ?_;refine ah ?_
  iterate 9 refine cD ?_
  refine bB ?_;refine ai ?_;refine gE ?_
  refine gT func144 fun w' hS=>?_
  exact ⟨hS.ext,by rw [kN,decide_eq_false (by omega)];rfl⟩
set_option maxRecDepth 8000 in
theorem sU (bc:Nat) (l:Int) (A:Option Addr) (cA:Nat) (b:List NV) (B:Option Addr) (nB cB:Nat) (O:Option Addr) (nO cO:Nat) (x:SV) (op:Int) (w:World) (hb:w.heap[bc]?=some (.cells (oR l A b.length cA B nB cB O nO cO) 116 (0,0))) (hA:FA w A b):
    Cn Tryz.prog 146 [.pointer (some ⟨bc,0,none⟩),.agg x.cells.toArray,.int .i64 op] w (fun v _=>v=.tuple #[(if kJ b x.d op=true then nd b x.d.on else EC).v,.bool (kJ b x.d op)]):=by
  have HB:∀{w':World} {j:Nat} {u:Value},Ex [] w w'→(oR l A b.length cA B nB cB O nO cO)[j]?=some u→w'.cell? ⟨bc,j,none⟩=some u:=fun e h=>Ex.cell e hb h
  refine Cn.of func146 rfl rfl ?_
  refine gS (gR ?_)
  refine ab.bx rfl rfl rfl rfl (fun b4=>?_)
  refine ab.eO rfl rfl rfl (fun _=>JA _) (fun b6=>?_)
  refine ai ?_;refine gE (gS (gS ?_))
  refine ab.dS 32 mixed ?_
  refine cV 0 (ae.aG rfl rfl rfl rfl Jq rfl (by exact Ji) 2 rfl) ?_
  refine cV 1 (ae.dw rfl rfl rfl rfl Jj 1 rfl rfl) ?_
  refine cV 2 (ae.mv rfl rfl rfl rfl) ?_
  refine cV 3 (ae.ep rfl rfl rfl rfl) ?_
  refine cV 4 (ae.aG rfl rfl rfl rfl J7 rfl (by exact Jz) 0 rfl) ?_
  refine cV 5 (ae.aG rfl rfl rfl rfl Jv rfl (by exact Js) 1 rfl) ?_
  refine cV 6 (ae.ld (p:=⟨bc,1,none⟩) rfl rfl rfl rfl Jx (fun w _ hS=>HB hS.ext rfl)) ?_
  refine cV 7 (ae.blt rfl rfl rfl (eX Jr) rfl) ?_
  refine cV 8 (ae.bin rfl rfl rfl rfl oT rfl) ?_
  refine cV 9 (ae.mv rfl rfl rfl rfl) ?_
  refine aF.cases (d:=17) rfl (fun hc=>?_) (fun hc=>?_)
  ·
   have h1:¬x.d.on<b.length:=by simp at hc;omega
   have ho:kJ b x.d op=false:=by rw [kJ,decide_eq_false h1,Bool.false_and]
   refine cN 10 ?_
   refine cN 11 ?_
   refine cN 12 ?_
   refine cN 13 ?_
   refine cN 14 ?_
   refine cN 15 ?_
   refine cV 16 (ae.aS rfl rfl rfl rfl rfl) ?_
   refine cV 17 (ae.mv rfl rfl rfl rfl) ?_
   refine cN 18 ?_
   refine cN 19 ?_
   refine cN 20 ?_
   refine cN 21 ?_
   refine cN 22 ?_
   refine cN 23 ?_
   refine cN 24 ?_
   refine cN 25 ?_
   refine cN 26 ?_
   refine cN 27 ?_
   refine cN 28 ?_
   refine cN 29 ?_
   refine cV 30 (ae.aS rfl rfl rfl rfl rfl) ?_
   refine aF.done rfl ?_
   refine gE (ab.bV rfl (gS (gR ?_)))
   refine ab.v (ae.eN rfl rfl rfl rfl (bd66 (c:=[_,_,_,_,_,_]) rfl)) ?_
   refine ab.dF rfl rfl rfl rfl Jm 0 rfl rfl rfl rfl ?_
   refine ai ?_;refine gE ?_
   refine ab.fJ Tryz.f146 func146 _ (aO.cell rfl JD Jm (j:=0) rfl rfl (aO.tmp rfl aO.nil)) (fun w' hS=>?_)
   exact ⟨hS.ext,by rw [ho];rfl⟩
  have h1:x.d.on<b.length:=by simp at hc;omega
  refine cV 10 (ae.aG rfl rfl rfl rfl Jq rfl (by exact JC) 0 rfl) ?_
  refine cV 11 (ae.dw rfl rfl rfl rfl JI 1 rfl rfl) ?_
  refine cV 12 (ae.aG rfl rfl rfl rfl Jq rfl (by exact Ji) 2 rfl) ?_
  refine cV 13 (ae.dw rfl rfl rfl rfl Jj 1 rfl rfl) ?_
  refine aF.cR (i:=14) rfl rfl rfl rfl rfl rfl (fun _ _=>call63 _ _) (fun w _ hS=>(by exact py x.d.set x.d.on w)) sL ?_
  refine cV 15 (ae.un rfl rfl rfl bG rfl) ?_
  refine cV 16 (ae.dQ rfl rfl rfl rfl rfl) ?_
  refine cV 17 (ae.mv rfl rfl rfl rfl) ?_
  refine aF.cases (d:=25) rfl (fun hc=>?_) (fun hc=>?_)
  ·
   have h2:eT x.d.set x.d.on=false:=by simpa using hc
   have ho:kJ b x.d op=false:=by rw [kJ,h2,Bool.false_and,Bool.and_false]
   refine cN 18 ?_
   refine cN 19 ?_
   refine cN 20 ?_
   refine cN 21 ?_
   refine cN 22 ?_
   refine cN 23 ?_
   refine cN 24 ?_
   refine cN 25 ?_
   refine cN 26 ?_
   refine cN 27 ?_
   refine cN 28 ?_
   refine cN 29 ?_
   refine cV 30 (ae.aS rfl rfl rfl rfl rfl) ?_
   refine aF.done rfl ?_
   refine gE (ab.bV rfl (gS (gR ?_)))
   refine ab.v (ae.eN rfl rfl rfl rfl (bd66 (c:=[_,_,_,_,_,_]) rfl)) ?_
   refine ab.dF rfl rfl rfl rfl Jm 0 rfl rfl rfl rfl ?_
   refine ai ?_;refine gE ?_
   refine ab.fJ Tryz.f146 func146 _ (aO.cell rfl JD Jm (j:=0) rfl rfl (aO.tmp rfl aO.nil)) (fun w' hS=>?_)
   exact ⟨hS.ext,by rw [ho];rfl⟩
  have h2:eT x.d.set x.d.on=true:=by simpa using hc
  obtain ⟨k,hk,_,_⟩:=fU.1 h2
  have hkl:k<b.length:=by omega
  have hnd:nd b x.d.on=b[k]:=by rw [hk,dH hkl]
  refine cV 18 (ae.mv rfl rfl rfl rfl) ?_
  refine cV 19 (ae.ep rfl rfl rfl rfl) ?_
  refine cV 20 (ae.aG rfl rfl rfl rfl J7 rfl (by exact Jz) 0 rfl) ?_
  refine cV 21 (ae.aG rfl rfl rfl rfl Jv rfl (by exact Js) 1 rfl) ?_
  refine cV 22 (ae.ld (p:=⟨bc,1,none⟩) rfl rfl rfl rfl Jx (fun w _ hS=>HB hS.ext rfl)) ?_
  refine cV 23 (ae.aG rfl rfl rfl rfl Jq rfl (by exact Ji) 2 rfl) ?_
  refine cV 24 (ae.dw rfl rfl rfl rfl Jj 1 rfl rfl) ?_
  refine cV 25 (ae.ed rfl rfl rfl rfl rfl Jr Jm ⟨_,(hA).at_⟩ (ax (enc:=NV.cells) (sz:=6) (fun _=>rfl)) (by decide) (k) ⟨hk,hkl⟩) ?_
  refine cV 26 (ae.fM rfl rfl rfl rfl Jk rfl Ji ((k)*6+0) rfl) ?_
  refine cV 27 (ae.ld rfl rfl rfl rfl Jj (fun w _ hS=>Sl.kU (enc:=NV.cells) (sz:=6) ((hA).ay hS.ext).at_ (fun _=>rfl) hkl rfl)) ?_
  refine cV 28 (ae.mv rfl rfl rfl rfl) ?_
  refine cV 29 (ae.bin rfl rfl rfl rfl gJ rfl) ?_
  refine cV 30 (ae.dQ rfl rfl rfl rfl rfl) ?_
  refine aF.done rfl ?_
  refine gE ?_
  refine gC (fun hc=>?_) fun hc=>?_
  ·
   have h3:b[k].op≠op:=by simpa using hc
   have ho:kJ b x.d op=false:=by rw [kJ,hnd,decide_eq_false h3,Bool.and_false,Bool.and_false]
   refine gS (gR ?_)
   refine ab.v (ae.eN rfl rfl rfl rfl (bd66 (c:=[_,_,_,_,_,_]) rfl)) ?_
   refine ab.dF rfl rfl rfl rfl Jm 0 rfl rfl rfl rfl ?_
   refine ai ?_;refine gE ?_
   refine ab.fJ Tryz.f146 func146 _ (aO.cell rfl JD Jm (j:=0) rfl rfl (aO.tmp rfl aO.nil)) (fun w' hS=>?_)
   exact ⟨hS.ext,by rw [ho];rfl⟩
  have h3:b[k].op=op:=by simpa using hc
  have ho:kJ b x.d op=true:=by rw [kJ,hnd,decide_eq_true h3,h2,decide_eq_true h1];rfl
  refine gK (gS ?_)
  refine ab.zo 12 9 [] mixed ?_
  refine eP.v (i:=0) (ae.mv rfl rfl rfl rfl) (List.nil_sublist _) rfl rfl rfl rfl sL ?_
  refine eP.v (i:=1) (ae.ep rfl rfl rfl rfl) (List.nil_sublist _) rfl rfl rfl rfl sL ?_
  refine eP.v (i:=2) (ae.aG rfl rfl rfl rfl J7 rfl (by exact Jz) 0 rfl) (List.nil_sublist _) rfl rfl rfl rfl sL ?_
  refine eP.v (i:=3) (ae.aG rfl rfl rfl rfl Jv rfl (by exact Js) 1 rfl) (List.nil_sublist _) rfl rfl rfl rfl sL ?_
  refine eP.v (i:=4) (ae.ld (p:=⟨bc,1,none⟩) rfl rfl rfl rfl Jx (fun w _ hS=>HB hS.ext rfl)) (List.nil_sublist _) rfl rfl rfl rfl sL ?_
  refine eP.v (i:=5) (ae.aG rfl rfl rfl rfl Jq rfl (by exact Ji) 2 rfl) (List.nil_sublist _) rfl rfl rfl rfl sL ?_
  refine eP.v (i:=6) (ae.dw rfl rfl rfl rfl Jj 1 rfl rfl) (List.nil_sublist _) rfl rfl rfl rfl sL ?_
  refine eP.v (i:=7) (ae.ed rfl rfl rfl rfl rfl Jr Jm ⟨_,(hA).at_⟩ (ax (enc:=NV.cells) (sz:=6) (fun _=>rfl)) (by decide) (k) ⟨hk,hkl⟩) (List.nil_sublist _) rfl rfl rfl rfl sL ?_
  refine eP.v (i:=8) (ae.nV (cs:=NV.cells b[k]) rfl rfl rfl rfl JD Jm (fun w _ hS=>Sl.many (enc:=NV.cells) (sz:=6) (hA.ay hS.ext).at_ (fun _=>rfl) hkl)) (List.nil_sublist _) rfl rfl rfl rfl sL ?_
  refine eP.dF (i:=9) (v:=.agg (NV.cells b[k]).toArray) rfl rfl rfl rfl rfl Jm 0 rfl rfl rfl rfl (by rw [je rfl];exact List.nil_sublist _) ?_
  refine eP.u (i:=10) (ae.fD rfl rfl rfl rfl) (List.nil_sublist _) rfl rfl rfl (by rw [je rfl];exact List.nil_sublist _) ?_
  refine eP.done rfl ?_
  refine gE ?_
  refine ab.fJ Tryz.f146 func146 _ (aO.cell rfl JD Jm (j:=0) rfl rfl (aO.tmp rfl aO.nil)) (fun w' hS=>?_)
  exact ⟨hS.ext,by rw [ho,hnd];rfl⟩
set_option maxRecDepth 8000 in
theorem cP (bc:Nat) (l:Int) (A:Option Addr) (nA cA:Nat) (B:Option Addr) (cB:Nat) (ss:List SV) (O:Option Addr) (nO cO:Nat) (k:Nat) (Z:Option Addr) (cZ:Nat) (us:List aB) (w:World) (hb:w.heap[bc]?=some (.cells (oR l A nA cA B ss.length cB O nO cO) 116 (0,0))) (hB:ue w B ss) (hk:k<ss.length) (hZ:xo w Z us) (_hu:us.length≤maxLen):
    Cn Tryz.prog 145 [.pointer (some ⟨bc,0,none⟩),.int .i64 k,.slice Z us.length cZ] w (fun v _=>∃r,v=.bool r∧(r=true↔eH (ec ss) k ss[k].d.fr us)):=by
  have HB:∀{w':World} {j:Nat} {u:Value},Ex [] w w'→(oR l A nA cA B ss.length cB O nO cO)[j]?=some u→w'.cell? ⟨bc,j,none⟩=some u:=fun e h=>Ex.cell e hb h
  obtain ⟨hfr,hfl⟩:=hB.y5 ss[k] (List.getElem_mem hk)
  unfold maxLen at hfl
  refine Cn.of func145 rfl rfl ?_
  refine gS (gR ?_);refine ai ?_;refine gE (gS (gR ?_));refine ah ?_;refine ku ?_;refine al J7 Jz 0 ?_;refine al Jv JM 2 ?_
  refine ab.v (ae.ld (p:=⟨bc,2,none⟩) rfl rfl rfl rfl JO (fun w _ hS=>HB hS.ext rfl)) ?_
  refine ah ?_
  refine ab.v (ae.ed rfl rfl rfl rfl rfl JG Jw ⟨_,(hB).at_⟩ (ax (enc:=SV.cells) (sz:=5) (fun _=>rfl)) (by decide) (k) ⟨rfl,hk⟩) ?_
  refine ab.v (ae.fM rfl rfl rfl rfl Jq rfl JY ((k)*5+4) rfl) ?_
  refine ab.v (ae.ld rfl rfl rfl rfl J1 (fun w _ hS=>Sl.kU (enc:=SV.cells) (sz:=5) ((hB).ay hS.ext).at_ (fun _=>rfl) hk rfl)) ?_
  refine ai ?_;refine gE (gS (gS (gR ?_)));refine ah ?_;refine dM Jp ?_;refine ah ?_;refine dM J5 ?_;refine aw gJ ?_;refine gE ?_
  refine gC (fun hc=>?_) fun hc=>?_
  ·
   have h1:ss[k].d.fr.length≠us.length:=by simp at hc;omega
   refine gS (gR ?_);refine ai ?_;refine gE ?_
   refine gT func145 fun w' hS=>?_
   exact ⟨hS.ext,_,rfl,by rw [iy];exact ⟨fun h=>(by cases h),fun h=>absurd h.1 h1⟩⟩
  have h1:ss[k].d.fr.length=us.length:=by simp at hc;omega
  refine gK (gS (gS (gR ?_)));refine ah ?_;refine dM J5 ?_;refine ah ?_;refine gE (gB ?_)
  refine ab.loop (σ:=Nat) (fun j=>[(0,.pointer (some ⟨bc,0,none⟩)),(1,.int .i64 k),(7,.slice ss[k].fa ss[k].d.fr.length ss[k].fc),(24,.slice Z us.length cZ),(25,.int .i64 us.length),(26,.int .i64 j)]) (fun _=>[]) (fun j=>j≤us.length∧∀i,i<j→(0≤ss[k].d.fr.getD i 0∧ss[k].d.fr.getD i 0<k)∧cu (ec ss) (ss[k].d.fr.getD i 0) &&& ~~~ us.getD i 0#64=0#64) (fun j=>us.length - j) 0 ⟨Nat.zero_le _,fun i h=>absurd h (Nat.not_lt_zero _)⟩ ⟨rfl,rfl,rfl,rfl,rfl,rfl,trivial⟩ .slnil (fun j hI IH=>?_)
  obtain ⟨hj,hpre⟩:=hI
  refine gS (gR ?_);refine aw iX ?_;refine gE (gS ?_)
  refine gC (fun hc=>?_) fun hc=>?_
  ·
   have hlt:j<us.length:=by simp at hc;omega
   have hjf:j<ss[k].d.fr.length:=by omega
   have hgf:ss[k].d.fr.getD j 0=ss[k].d.fr[j]:=by simp [List.getD_eq_getElem?_getD,hjf]
   have hgu:us.getD j 0#64=us[j]:=by simp [List.getD_eq_getElem?_getD,hlt]
   have hno:∀{r:Bool},r=false→¬((0≤ss[k].d.fr[j]∧ss[k].d.fr[j]<k)∧cu (ec ss) ss[k].d.fr[j] &&& ~~~ us[j]=0#64)→(r=true↔eH (ec ss) k ss[k].d.fr us):=fun hr h=>by
     rw [iy]
     exact ⟨fun e=>(by rw [hr] at e;cases e),fun e=>absurd (by have:=e.2 j hlt;rwa [hgf,hgu] at this) h⟩
   refine gK (gS (gB (gS (gR ?_))));refine ah ?_
   refine ab.v (ae.idx rfl rfl rfl rfl rfl J5 JC ⟨_,hZ⟩ (by simp) (j) ⟨rfl,by simpa using hlt⟩) ?_
   refine ab.v (ae.ld rfl rfl rfl rfl JI (fun w _ hS=>(xo.ay hZ hS.ext).at (j) hlt)) ?_
   iterate 2 refine ai ?_
   refine gE (gS ?_)
   refine ab.draw 30 mixed rfl ?_
   iterate 2 refine mO ?_
   refine aM.v (ae.idx rfl rfl rfl rfl rfl Jp Ji ⟨_,hfr⟩ (by simp) (j) ⟨rfl,by simpa using hjf⟩) ?_
   refine aM.v (ae.ld rfl rfl rfl rfl Jj (fun w _ hS=>(jP.ay hfr hS.ext).at (j) hjf)) ?_
   refine C7 iX ?_;refine mO ?_
   refine aM.cases (d:=36) rfl (fun hc=>?_) (fun hc=>?_)
   ·
    have e1:ss[k].d.fr[j]<0:=by simpa using hc
    iterate 6 refine GN ?_
    refine GM ?_;refine mO ?_
    iterate 15 refine GN ?_
    refine GM ?_
    refine aM.nil ?_
    refine gE (ab.bV rfl (gS (gR ?_)));refine ai ?_;refine gE ?_
    refine gT func145 fun w' hS=>?_
    exact ⟨hS.ext,_,rfl,hno rfl (by omega)⟩
   have e1:¬ss[k].d.fr[j]<0:=by simpa using hc
   iterate 2 refine mO ?_
   refine aM.v (ae.idx rfl rfl rfl rfl rfl Jp Ji ⟨_,hfr⟩ (by simp) (j) ⟨rfl,by simpa using hjf⟩) ?_
   refine aM.v (ae.ld rfl rfl rfl rfl Jj (fun w _ hS=>(jP.ay hfr hS.ext).at (j) hjf)) ?_
   refine mO ?_;refine C7 oT ?_;refine HQ ?_;refine mO ?_
   refine aM.cases (d:=44) rfl (fun hc=>?_) (fun hc=>?_)
   ·
    have e2:(k:Int)≤ss[k].d.fr[j]:=by simpa using hc
    iterate 15 refine GN ?_
    refine GM ?_
    refine aM.nil ?_
    refine gE (ab.bV rfl (gS (gR ?_)));refine ai ?_;refine gE ?_
    refine gT func145 fun w' hS=>?_
    exact ⟨hS.ext,_,rfl,hno rfl (by omega)⟩
   have e2:¬(k:Int)≤ss[k].d.fr[j]:=by simpa using hc
   obtain ⟨p,hp⟩:∃p:Nat,ss[k].d.fr[j]=(p:Int):=⟨ss[k].d.fr[j].toNat,by omega⟩
   have hps:p<ss.length:=by omega
   have ml:cu (ec ss) ss[k].d.fr[j]=ss[p].d.set:=by rw [hp,dL (by rw [cW];exact hps),kI hps]
   refine mO ?_;refine xq ?_;refine mP J7 Jz 0 ?_;refine mP Jv JM 2 ?_
   refine aM.v (ae.ld (p:=⟨bc,2,none⟩) rfl rfl rfl rfl JO (fun w _ hS=>HB hS.ext rfl)) ?_
   iterate 2 refine mO ?_
   refine aM.v (ae.idx rfl rfl rfl rfl rfl Jp Ji ⟨_,hfr⟩ (by simp) (j) ⟨rfl,by simpa using hjf⟩) ?_
   refine aM.v (ae.ld rfl rfl rfl rfl Jj (fun w _ hS=>(jP.ay hfr hS.ext).at (j) hjf)) ?_
   refine aM.v (ae.ed rfl rfl rfl rfl rfl JG Jw ⟨_,(hB).at_⟩ (ax (enc:=SV.cells) (sz:=5) (fun _=>rfl)) (by decide) (p) ⟨hp,hps⟩) ?_
   refine aM.v (ae.fM rfl rfl rfl rfl Jq rfl JC ((p)*5+0) rfl) ?_
   refine aM.v (ae.ld rfl rfl rfl rfl JI (fun w _ hS=>Sl.kU (enc:=SV.cells) (sz:=5) ((hB).ay hS.ext).at_ (fun _=>rfl) hps rfl)) ?_
   refine mO ?_;refine C7 iu ?_
   refine aM.v (ae.bin (b:=U 0#64) rfl rfl rfl rfl Gd rfl) ?_
   refine HQ ?_
   refine aM.nil ?_
   refine gE ?_
   refine gC (fun hc=>?_) fun hc=>?_
   ·
    have e3:¬ss[p].d.set &&& ~~~ us[j]=0#64:=by rw [←hgu];simpa using hc
    refine gS (gR ?_);refine ai ?_;refine gE ?_
    refine gT func145 fun w' hS=>?_
    exact ⟨hS.ext,_,rfl,hno rfl (by rw [ml];exact fun h=>e3 h.2)⟩
   have e3:ss[p].d.set &&& ~~~ us[j]=0#64:=by rw [←hgu];simpa using hc
   refine gK (dO (gR ?_));refine db rfl rfl rfl rfl (cz (by omega)) ?_;refine ah ?_;refine gE ?_
   refine IH (j+1) _ _ ⟨hlt,fun i hi=>?_⟩ (by omega) ⟨rfl,rfl,rfl,rfl,rfl,rfl,trivial⟩ (List.nil_sublist _)
   by_cases e:i=j
   · subst e;rw [hgf,hgu,ml];exact ⟨by omega,e3⟩
   exact hpre i (by omega)
  have hge:¬j<us.length:=by simp at hc;omega
  refine ab.exit rfl (gS (gR ?_))
  refine ai ?_;refine gE ?_
  refine gT func145 fun w' hS=>?_
  exact ⟨hS.ext,_,rfl,by rw [iy];exact ⟨fun _=>⟨h1,fun i hi=>hpre i (by omega)⟩,fun _=>rfl⟩⟩
end Go.Proofs.YtnfmegcknckahaaGreatDoor
namespace Go.Proofs.YtnfmegcknckahaaGreatDoor
open Go.RowKit Go.Proofs.Wit Tryz
set_option maxRecDepth 8000 in
theorem wB (bc:Nat) (l:Int) (A:Option Addr) (cA:Nat) (b:List NV) (B:Option Addr) (cB:Nat) (ss:List SV) (O:Option Addr) (cO:Nat) (k:Nat) (w:World) (hC:Gs w 116 bc l A cA b B cB ss O cO) (hk:k<ss.length):
    Cn Tryz.prog 143 [.pointer (some ⟨bc,0,none⟩),.int .i64 k] w (fun v _=>∃r,v=.bool r∧(r=true↔xp b ss[k].d)):=by
  have HB:∀{w':World} {j:Nat} {u:Value},Ex [] w w'→(oR l A b.length cA B ss.length cB O (dk b).length cO)[j]?=some u→w'.cell? ⟨bc,j,none⟩=some u:=fun e h=>Ex.cell e hC.di h
  have hB:=hC.sa
  refine Cn.of func143 rfl rfl ?_
  refine gS (gR ?_);refine ai ?_;refine gE (gS (gR ?_));refine ah ?_;refine ku ?_;refine al J7 Jz 0 ?_;refine al Jv JM 2 ?_
  refine ab.v (ae.ld (p:=⟨bc,2,none⟩) rfl rfl rfl rfl JO (fun w _ hS=>HB hS.ext rfl)) ?_
  refine ah ?_
  refine ab.v (ae.ed rfl rfl rfl rfl rfl JG Jw ⟨_,(hB).at_⟩ (ax (enc:=SV.cells) (sz:=5) (fun _=>rfl)) (by decide) (k) ⟨rfl,hk⟩) ?_
  refine ab.v (ae.nV (cs:=SV.cells ss[k]) rfl rfl rfl rfl J4 Jw (fun w _ hS=>Sl.many (enc:=SV.cells) (sz:=5) (hB.ay hS.ext).at_ (fun _=>rfl) hk)) ?_
  refine ab.eO rfl rfl rfl (fun _=>Kd _) (fun b5=>?_)
  refine ab.dF rfl rfl rfl rfl Jw 0 rfl rfl rfl rfl ?_
  refine gE (gS (gS (gR ?_)));refine ah ?_
  refine ab.v (ae.iA rfl rfl rfl rfl J4 0 rfl Jw rfl) ?_
  refine gP rfl rfl rfl rfl rfl call146 (fun w _ hS=>(by exact sU bc l A cA b B ss.length cB O (dk b).length cO ss[k] 2 w (hS.ext.gH hC.di) (hC.fa.ay hS.ext))) ?_
  refine ah ?_
  iterate 2 refine fZ ?_
  refine ab.eO rfl rfl rfl (fun _=>JA _) (fun b6=>?_)
  refine ab.dF rfl rfl rfl rfl Jm 0 rfl rfl rfl rfl ?_
  refine ai ?_;refine gE (gS (gR ?_))
  iterate 2 refine ah ?_
  refine eC 23 (fun hc=>?_) fun hc=>?_
  ·
   have ho:kJ b ss[k].d 2=true:=hc
   refine al Jq Ji 3 ?_;refine aq Jj 1 ?_;refine aw bd ?_;refine cF ?_;refine gE ?_
   refine gC (fun hc=>?_) fun hc=>?_
   ·
    have he:ss[k].d.e=0:=by simpa using hc
    refine gS (gR ?_)
    iterate 2 refine ah ?_
    refine gM rfl rfl rfl rfl rfl call145 (fun w _ hS=>(by exact cP bc l A b.length cA B cB ss O (dk b).length cO k none 0 [] w (hS.ext.gH hC.di) (hC.sa.ay hS.ext) hk (Sl.nil _ _) (by decide))) ?_
    rintro v w1 w2 Y' hS he' ⟨r,rfl,hr⟩
    refine ⟨_,hS.later he',?_⟩
    refine ai ?_;refine gE ?_
    refine gT func143 fun w' hS=>?_
    exact ⟨hS.ext,r,rfl,by rw [hr,pE,xp];exact ⟨fun h=>⟨h,.inl ⟨ho,he⟩⟩,fun h=>h.1⟩⟩
   have he:¬ss[k].d.e=0:=by simpa using hc
   have hno:kJ b ss[k].d 2=true∧ss[k].d.e=0→False:=fun h=>he h.2
   refine gK (gS (gR ?_));refine al Jq JC 0 ?_;refine aq JI 1 ?_;refine al Jq Ji 2 ?_;refine aq Jj 1 ?_
   refine gP rfl rfl rfl rfl rfl call63 (fun w _ hS=>(by exact py ss[k].d.set ss[k].d.on w)) ?_
   refine ah ?_
   refine eC 36 (fun hc=>?_) fun hc=>?_
   ·
    have h1:eT ss[k].d.set ss[k].d.on=true:=hc
    refine al Jq JC 0 ?_;refine aq JI 1 ?_;refine al Jq Ji 3 ?_;refine aq Jj 1 ?_
    refine gP rfl rfl rfl rfl rfl call63 (fun w _ hS=>(by exact py ss[k].d.set ss[k].d.e w)) ?_
    refine cF ?_;refine ah ?_
    refine eC 43 (fun hc=>?_) fun hc=>?_
    ·
     have h2:eT ss[k].d.set ss[k].d.e=true:=hc
     refine ah ?_;refine al Jq Ji 2 ?_;refine aq Jj 1 ?_;refine al Jq Ji 3 ?_;refine aq Jj 1 ?_
     refine gP rfl rfl rfl rfl rfl call144 (fun w _ hS=>(by exact mg bc l A b.length cA B ss.length cB O cO (dk b) ss[k].d.on ss[k].d.e w (hS.ext.gH hC.di) (hC.oa.ay hS.ext))) ?_
     refine cF ?_;refine ah ?_
     refine eC 51 (fun hc=>?_) fun hc=>?_
     ·
      have h3:kN (dk b) ss[k].d.on ss[k].d.e=true:=hc
      iterate 2 refine ah ?_
      refine gM rfl rfl rfl rfl rfl call145 (fun w _ hS=>(by exact cP bc l A b.length cA B cB ss O (dk b).length cO k none 0 [] w (hS.ext.gH hC.di) (hC.sa.ay hS.ext) hk (Sl.nil _ _) (by decide))) ?_
      rintro v w1 w2 Y' hS he ⟨r,rfl,hr⟩
      refine ⟨_,hS.later he,?_⟩
      refine cF ?_;refine ai ?_;refine gE ?_
      refine gT func143 fun w' hS=>?_
      exact ⟨hS.ext,r,rfl,by rw [hr,pE,xp];exact ⟨fun h=>⟨h,.inr ⟨h1,h2,h3⟩⟩,fun h=>h.1⟩⟩
     have h3:¬kN (dk b) ss[k].d.on ss[k].d.e=true:=by rw [show kN (dk b) ss[k].d.on ss[k].d.e=false from hc];decide
     iterate 3 refine cD ?_
     refine bB ?_;refine ai ?_;refine gE ?_
     refine gT func143 fun w' hS=>?_
     exact ⟨hS.ext,false,rfl,by rw [xp];exact ⟨fun h=>(by cases h),fun h=>(h.2.elim hno (fun g=>h3 g.2.2)).elim⟩⟩
    have h2:¬eT ss[k].d.set ss[k].d.e=true:=by rw [show eT ss[k].d.set ss[k].d.e=false from hc];decide
    iterate 6 refine cD ?_
    refine bB ?_;refine ah ?_
    iterate 3 refine cD ?_
    refine bB ?_;refine ai ?_;refine gE ?_
    refine gT func143 fun w' hS=>?_
    exact ⟨hS.ext,false,rfl,by rw [xp];exact ⟨fun h=>(by cases h),fun h=>(h.2.elim hno (fun g=>h2 g.2.1)).elim⟩⟩
   have h1:¬eT ss[k].d.set ss[k].d.on=true:=by rw [show eT ss[k].d.set ss[k].d.on=false from hc];decide
   iterate 5 refine cD ?_
   refine bB ?_;refine ah ?_
   iterate 6 refine cD ?_
   refine bB ?_;refine ah ?_
   iterate 3 refine cD ?_
   refine bB ?_;refine ai ?_;refine gE ?_
   refine gT func143 fun w' hS=>?_
   exact ⟨hS.ext,false,rfl,by rw [xp];exact ⟨fun h=>(by cases h),fun h=>(h.2.elim hno (fun g=>h1 g.1)).elim⟩⟩
  have ho:¬kJ b ss[k].d 2=true:=by rw [show kJ b ss[k].d 2=false from hc];decide
  have hno:kJ b ss[k].d 2=true∧ss[k].d.e=0→False:=fun h=>ho h.1
  iterate 3 refine cD ?_
  refine bB ?_;refine gE (ab.gD rfl (gK (gS (gR ?_))));refine al Jq JC 0 ?_;refine aq JI 1 ?_;refine al Jq Ji 2 ?_;refine aq Jj 1 ?_
  refine gP rfl rfl rfl rfl rfl call63 (fun w _ hS=>(by exact py ss[k].d.set ss[k].d.on w)) ?_
  refine ah ?_
  refine eC 36 (fun hc=>?_) fun hc=>?_
  ·
   have h1:eT ss[k].d.set ss[k].d.on=true:=hc
   refine al Jq JC 0 ?_;refine aq JI 1 ?_;refine al Jq Ji 3 ?_;refine aq Jj 1 ?_
   refine gP rfl rfl rfl rfl rfl call63 (fun w _ hS=>(by exact py ss[k].d.set ss[k].d.e w)) ?_
   refine cF ?_;refine ah ?_
   refine eC 43 (fun hc=>?_) fun hc=>?_
   ·
    have h2:eT ss[k].d.set ss[k].d.e=true:=hc
    refine ah ?_;refine al Jq Ji 2 ?_;refine aq Jj 1 ?_;refine al Jq Ji 3 ?_;refine aq Jj 1 ?_
    refine gP rfl rfl rfl rfl rfl call144 (fun w _ hS=>(by exact mg bc l A b.length cA B ss.length cB O cO (dk b) ss[k].d.on ss[k].d.e w (hS.ext.gH hC.di) (hC.oa.ay hS.ext))) ?_
    refine cF ?_;refine ah ?_
    refine eC 51 (fun hc=>?_) fun hc=>?_
    ·
     have h3:kN (dk b) ss[k].d.on ss[k].d.e=true:=hc
     iterate 2 refine ah ?_
     refine gM rfl rfl rfl rfl rfl call145 (fun w _ hS=>(by exact cP bc l A b.length cA B cB ss O (dk b).length cO k none 0 [] w (hS.ext.gH hC.di) (hC.sa.ay hS.ext) hk (Sl.nil _ _) (by decide))) ?_
     rintro v w1 w2 Y' hS he ⟨r,rfl,hr⟩
     refine ⟨_,hS.later he,?_⟩
     refine cF ?_;refine ai ?_;refine gE ?_
     refine gT func143 fun w' hS=>?_
     exact ⟨hS.ext,r,rfl,by rw [hr,pE,xp];exact ⟨fun h=>⟨h,.inr ⟨h1,h2,h3⟩⟩,fun h=>h.1⟩⟩
    have h3:¬kN (dk b) ss[k].d.on ss[k].d.e=true:=by rw [show kN (dk b) ss[k].d.on ss[k].d.e=false from hc];decide
    iterate 3 refine cD ?_
    refine bB ?_;refine ai ?_;refine gE ?_
    refine gT func143 fun w' hS=>?_
    exact ⟨hS.ext,false,rfl,by rw [xp];exact ⟨fun h=>(by cases h),fun h=>(h.2.elim hno (fun g=>h3 g.2.2)).elim⟩⟩
   have h2:¬eT ss[k].d.set ss[k].d.e=true:=by rw [show eT ss[k].d.set ss[k].d.e=false from hc];decide
   iterate 6 refine cD ?_
   refine bB ?_;refine ah ?_
   iterate 3 refine cD ?_
   refine bB ?_;refine ai ?_;refine gE ?_
   refine gT func143 fun w' hS=>?_
   exact ⟨hS.ext,false,rfl,by rw [xp];exact ⟨fun h=>(by cases h),fun h=>(h.2.elim hno (fun g=>h2 g.2.1)).elim⟩⟩
  have h1:¬eT ss[k].d.set ss[k].d.on=true:=by rw [show eT ss[k].d.set ss[k].d.on=false from hc];decide
  iterate 5 refine cD ?_
  refine bB ?_;refine ah ?_
  iterate 6 refine cD ?_
  refine bB ?_;refine ah ?_
  iterate 3 refine cD ?_
  refine bB ?_;refine ai ?_;refine gE ?_
  refine gT func143 fun w' hS=>?_
  exact ⟨hS.ext,false,rfl,by rw [xp];exact ⟨fun h=>(by cases h),fun h=>(h.2.elim hno (fun g=>h1 g.1)).elim⟩⟩
end Go.Proofs.YtnfmegcknckahaaGreatDoor
namespace Go.Proofs.YtnfmegcknckahaaGreatDoor
open Go.RowKit Go.Proofs.Wit Tryz
set_option maxRecDepth 8000 in
set_option maxHeartbeats 1000000 in
theorem ur (bc:Nat) (l:Int) (A:Option Addr) (cA:Nat) (b:List NV) (B:Option Addr) (cB:Nat) (ss:List SV) (O:Option Addr) (cO:Nat) (k:Nat) (w:World) (hC:Gs w 116 bc l A cA b B cB ss O cO) (hk:k<ss.length):
    Cn Tryz.prog 101 [.pointer (some ⟨bc,0,none⟩),.int .i64 k] w (fun v _=>∃r,v=.bool r∧(r=true↔ey l b (ec ss) k ss[k].d)):=by
  have HB:∀{w':World} {j:Nat} {u:Value},Ex [] w w'→(oR l A b.length cA B ss.length cB O (dk b).length cO)[j]?=some u→w'.cell? ⟨bc,j,none⟩=some u:=fun e h=>Ex.cell e hC.di h
  have hB:=hC.sa
  have hlen:=hC.base.len
  have hpos:=(aA.1 hC.base.jD).pos
  refine Cn.of JR rfl rfl ?_
  refine gS (gR ?_);refine ai ?_;refine gE (gS (gR ?_));refine ah ?_;refine ku ?_;refine al J7 Jz 0 ?_;refine al Jv JM 2 ?_
  refine ab.v (ae.ld (p:=⟨bc,2,none⟩) rfl rfl rfl rfl JO (fun w _ hS=>HB hS.ext rfl)) ?_
  refine ah ?_
  refine ab.v (ae.ed rfl rfl rfl rfl rfl JG Jw ⟨_,(hB).at_⟩ (ax (enc:=SV.cells) (sz:=5) (fun _=>rfl)) (by decide) (k) ⟨rfl,hk⟩) ?_
  refine ab.v (ae.nV (cs:=SV.cells ss[k]) rfl rfl rfl rfl J4 Jw (fun w _ hS=>Sl.many (enc:=SV.cells) (sz:=5) (hB.ay hS.ext).at_ (fun _=>rfl) hk)) ?_
  refine ab.eO rfl rfl rfl (fun _=>Kd _) (fun b5=>?_)
  refine ab.dF rfl rfl rfl rfl Jw 0 rfl rfl rfl rfl ?_
  refine gE (gS (gR ?_));refine ah ?_;refine ku ?_;refine al J7 Jz 0 ?_;refine al Jv Ji 0 ?_
  refine ab.v (ae.ld (p:=⟨bc,0,none⟩) rfl rfl rfl rfl Jj (fun w _ hS=>HB hS.ext rfl)) ?_
  refine ai ?_;refine gE (gS (gS ?_))
  refine ab.dS 10 mixed ?_
  refine cV 0 (ae.mv rfl rfl rfl rfl) ?_
  refine cV 1 (ae.ep rfl rfl rfl rfl) ?_
  refine cV 2 (ae.aG rfl rfl rfl rfl J7 rfl (by exact Jz) 0 rfl) ?_
  refine cV 3 (ae.aG rfl rfl rfl rfl Jv rfl (by exact Js) 1 rfl) ?_
  refine cV 4 (ae.ld (p:=⟨bc,1,none⟩) rfl rfl rfl rfl Jx (fun w _ hS=>HB hS.ext rfl)) ?_
  refine cV 5 (ae.aG rfl rfl rfl rfl Jq rfl (by exact JC) 0 rfl) ?_
  refine cV 6 (ae.dw rfl rfl rfl rfl JI 0 rfl rfl) ?_
  refine aF.cR (i:=7) rfl rfl rfl rfl rfl rfl (fun _ _=>call142 _ _) (fun w _ hS=>(by exact wA A cA b ss[k].d.set w hpos hlen)) sL ?_
  refine cV 8 (ae.un rfl rfl rfl bG rfl) ?_
  refine aF.done rfl ?_
  refine gE ?_
  refine gC (fun hc=>?_) fun hc=>?_
  ·
   have hi:¬iM b ss[k].d.set:=fun h=>by have:=(tI hpos hlen).2 h;rw [this] at hc;cases hc
   refine gS (gR ?_);refine ai ?_;refine gE ?_
   refine gT JR fun w' hS=>?_
   exact ⟨hS.ext,false,rfl,iff_of_false Bool.false_ne_true (BL hi)⟩
  have hi:iM b ss[k].d.set:=(tI hpos hlen).1 (by simpa using hc)
  refine gK (gS (gS (gR ?_)));refine al Jq Ji 1 ?_;refine aq Jj 0 ?_;refine gE (gB (gS (gR ?_)));refine aw bd ?_;refine ai ?_;refine gE ?_
  refine gC (fun hc=>?_) fun hc=>?_
  ·
   have r1:ss[k].d.av=1:=by simpa using hc
   refine gS (gR ?_)
   iterate 2 refine ah ?_
   refine gM rfl rfl rfl rfl rfl call143 (fun w _ hS=>(by exact wB bc l A cA b B cB ss O cO k w (hC.ex hS.ext) hk)) ?_
   rintro v w1 w2 Y' hS he' ⟨r,rfl,hr⟩
   refine ⟨_,hS.later he',?_⟩
   refine ai ?_;refine gE ?_
   refine gT JR fun w' hS=>?_
   exact ⟨hS.ext,r,rfl,by rw [hr,u0 hi r1]⟩
  have r1:¬ss[k].d.av=1:=by simpa using hc
  refine gS (gR ?_);refine aw bd ?_;refine ai ?_;refine gE ?_
  refine gC (fun hc=>?_) fun hc=>?_
  ·
   have r4:ss[k].d.av=4:=by simpa using hc
   refine gS ?_
   refine ab.dS 31 mixed ?_
   refine cV 0 (ae.aG rfl rfl rfl rfl Jq rfl (by exact Ji) 3 rfl) ?_
   refine cV 1 (ae.dw rfl rfl rfl rfl Jj 0 rfl rfl) ?_
   refine cV 2 (ae.bin rfl rfl rfl rfl oT rfl) ?_
   refine cV 3 (ae.mv rfl rfl rfl rfl) ?_
   refine aF.cases (d:=49) rfl (fun hc=>?_) (fun hc=>?_)
   ·
    have he:0≤ss[k].d.e:=by simpa using hc
    refine cV 4 (ae.mv rfl rfl rfl rfl) ?_
    refine cV 5 (ae.aG rfl rfl rfl rfl Jq rfl (by exact Ji) 2 rfl) ?_
    refine cV 6 (ae.dw rfl rfl rfl rfl Jj 0 rfl rfl) ?_
    refine cV 7 (ae.aG rfl rfl rfl rfl Jq rfl (by exact Ji) 3 rfl) ?_
    refine cV 8 (ae.dw rfl rfl rfl rfl Jj 0 rfl rfl) ?_
    refine aF.cR (i:=9) rfl rfl rfl rfl rfl rfl (fun _ _=>call144 _ _) (fun w _ hS=>(by exact mg bc l A b.length cA B ss.length cB O cO (dk b) ss[k].d.on ss[k].d.e w (hS.ext.gH hC.di) (hC.oa.ay hS.ext))) sL ?_
    refine cV 10 (ae.aS rfl rfl rfl rfl rfl) ?_
    refine cV 11 (ae.mv rfl rfl rfl rfl) ?_
    refine aF.cases (d:=57) rfl (fun hc=>?_) (fun hc=>?_)
    ·
     have ho:kN (dk b) ss[k].d.on ss[k].d.e=true:=hc
     obtain ⟨⟨o0,o1⟩,e0,e1⟩:=o7.1 ho
     refine cV 12 (ae.mv rfl rfl rfl rfl) ?_
     refine cV 13 (ae.mv rfl rfl rfl rfl) ?_
     refine cV 14 (ae.aG rfl rfl rfl rfl Jq rfl (by exact JC) 0 rfl) ?_
     refine cV 15 (ae.dw rfl rfl rfl rfl JI 0 rfl rfl) ?_
     refine cV 16 (ae.aG rfl rfl rfl rfl Jq rfl (by exact Ji) 2 rfl) ?_
     refine cV 17 (ae.dw rfl rfl rfl rfl Jj 0 rfl rfl) ?_
     refine cV 18 (ae.bin (a:=U 1#64) rfl rfl rfl rfl (lY ss[k].d.on.toNat (by omega)) rfl) ?_
     refine cV 19 (ae.bin rfl rfl rfl rfl qv rfl) ?_
     refine cV 20 (ae.aG rfl rfl rfl rfl Jq rfl (by exact JC) 0 rfl) ?_
     refine cV 21 (ae.dw rfl rfl rfl rfl JI 0 rfl rfl) ?_
     refine cV 22 (ae.aG rfl rfl rfl rfl Jq rfl (by exact Ji) 3 rfl) ?_
     refine cV 23 (ae.dw rfl rfl rfl rfl Jj 0 rfl rfl) ?_
     refine cV 24 (ae.bin (a:=U 1#64) rfl rfl rfl rfl (lY ss[k].d.e.toNat (by omega)) rfl) ?_
     refine cV 25 (ae.bin rfl rfl rfl rfl qv rfl) ?_
     refine aF.one (i:=26) rfl (dq.ew (c:=[_,_]) rfl rfl rfl rfl J5 JC Ka rfl rfl (fun b72=>⟨sL,?_⟩)) rfl
     refine aF.call (i:=27) _ rfl rfl rfl rfl rfl rfl (fun _ _=>call145 _ _) (fun w _ hS=>(by exact cP bc l A b.length cA B cB ss O (dk b).length cO k (some ⟨b72,0,none⟩) 2 [HOr.hOr (ss[k].d.set) (bW ss[k].d.on),HOr.hOr (ss[k].d.set) (bW ss[k].d.e)] w (hS.ext.gH hC.di) (hC.sa.ay hS.ext) hk (Sl.di (hS.get (j:=0) rfl)) (by simp [maxLen]))) ?_
     rintro v w1 w2 Y' hS he' ⟨r,rfl,hr⟩
     refine ⟨_,hS.later he',sM,?_⟩
     refine cV 28 (ae.aS rfl rfl rfl rfl rfl) ?_
     refine cV 29 (ae.fD rfl rfl rfl rfl) ?_
     refine aF.done rfl ?_
     refine gE ?_
     refine gT JR fun w' hS=>?_
     exact ⟨hS.ext,r,rfl,by rw [hr];exact ⟨fun h=>(nm hi r4).2 ⟨he,ho,h⟩,fun h=>((nm hi r4).1 h).2.2⟩⟩
    have ho:¬kN (dk b) ss[k].d.on ss[k].d.e=true:=by rw [show kN (dk b) ss[k].d.on ss[k].d.e=false from hc];decide
    refine cN 12 ?_
    refine cN 13 ?_
    refine cN 14 ?_
    refine cN 15 ?_
    refine cN 16 ?_
    refine cN 17 ?_
    refine cN 18 ?_
    refine cN 19 ?_
    refine cN 20 ?_
    refine cN 21 ?_
    refine cN 22 ?_
    refine cN 23 ?_
    refine cN 24 ?_
    refine cN 25 ?_
    refine cN 26 ?_
    refine cN 27 ?_
    refine cV 28 (ae.dQ rfl rfl rfl rfl rfl) ?_
    refine cV 29 (ae.fD rfl rfl rfl rfl) ?_
    refine aF.done rfl ?_
    refine gE ?_
    refine gT JR fun w' hS=>?_
    exact ⟨hS.ext,false,rfl,iff_of_false Bool.false_ne_true (fun h=>ho ((nm hi r4).1 h).2.1)⟩
   have he:¬0≤ss[k].d.e:=by simpa using hc
   refine cN 4 ?_
   refine cN 5 ?_
   refine cN 6 ?_
   refine cN 7 ?_
   refine cN 8 ?_
   refine cN 9 ?_
   refine cV 10 (ae.dQ rfl rfl rfl rfl rfl) ?_
   refine cV 11 (ae.mv rfl rfl rfl rfl) ?_
   refine cN 12 ?_
   refine cN 13 ?_
   refine cN 14 ?_
   refine cN 15 ?_
   refine cN 16 ?_
   refine cN 17 ?_
   refine cN 18 ?_
   refine cN 19 ?_
   refine cN 20 ?_
   refine cN 21 ?_
   refine cN 22 ?_
   refine cN 23 ?_
   refine cN 24 ?_
   refine cN 25 ?_
   refine cN 26 ?_
   refine cN 27 ?_
   refine cV 28 (ae.dQ rfl rfl rfl rfl rfl) ?_
   refine cV 29 (ae.fD rfl rfl rfl rfl) ?_
   refine aF.done rfl ?_
   refine gE ?_
   refine gT JR fun w' hS=>?_
   exact ⟨hS.ext,false,rfl,iff_of_false Bool.false_ne_true (fun h=>he ((nm hi r4).1 h).1)⟩
  have r4:¬ss[k].d.av=4:=by simpa using hc
  refine gK (dO (gS (gS (gR ?_))));refine al Jq Ji 3 ?_;refine aq Jj 0 ?_;refine aw gJ ?_;refine gE ?_
  refine gC (fun hc=>?_) fun hc=>?_
  ·
   have he:¬ss[k].d.e=0:=by simpa using hc
   refine gS (gR ?_);refine ai ?_;refine gE ?_
   refine gT JR fun w' hS=>?_
   exact ⟨hS.ext,false,rfl,iff_of_false Bool.false_ne_true (FW r1 r4 he)⟩
  have he:ss[k].d.e=0:=by simpa using hc
  refine gK (gS (gS (gR ?_)));refine al Jq Ji 1 ?_;refine aq Jj 0 ?_;refine gE (gB (gS (gR ?_)));refine aw bd ?_;refine ai ?_;refine gE ?_
  refine gC (fun hc=>?_) fun hc=>?_
  ·
   have r2:ss[k].d.av=2:=by simpa using hc
   obtain ⟨nv,hnv⟩:∃nv,nv=(if kJ b ss[k].d 5=true then nd b ss[k].d.on else EC):=⟨_,rfl⟩
   refine gS (gR ?_);refine ah ?_
   refine ab.v (ae.iA rfl rfl rfl rfl J4 0 rfl Jw rfl) ?_
   refine gP rfl rfl rfl rfl rfl call146 (fun w _ hS=>(by have:=sU bc l A cA b B ss.length cB O (dk b).length cO ss[k] 5 w (hS.ext.gH hC.di) (hC.fa.ay hS.ext);rw [←hnv] at this;exact this)) ?_
   refine ah ?_
   iterate 2 refine fZ ?_
   refine ab.eO rfl rfl rfl (fun _=>JA _) (fun b7=>?_)
   refine ab.dF rfl rfl rfl rfl Jm 0 rfl rfl rfl rfl ?_
   refine ai ?_;refine gE (gS ?_)
   refine ab.dS 19 mixed ?_
   refine cV 0 (ae.mv rfl rfl rfl rfl) ?_
   refine cV 1 (ae.mv rfl rfl rfl rfl) ?_
   refine aF.cases (d:=89) rfl (fun hc=>?_) (fun hc=>?_)
   ·
    have ho:kJ b ss[k].d 5=true:=hc
    rw [if_pos ho] at hnv
    obtain ⟨q,q1,q2,q3,q4⟩:=(iS.1 ho).nat hC.base
    rw [q1] at q4 hnv
    have hx:=hC.base.x q2 (by omega)
    have hy:=hC.base.y q2 (by omega)
    rw [←hnv] at hx hy q4
    have hnd:nd b ss[k].d.on=nv:=by rw [hnv,q1]
    refine cV 2 (ae.mv rfl rfl rfl rfl) ?_
    refine cV 3 (ae.mv rfl rfl rfl rfl) ?_
    refine cV 4 (ae.aG rfl rfl rfl rfl Jq rfl (by exact JC) 0 rfl) ?_
    refine cV 5 (ae.dw rfl rfl rfl rfl JI 1 rfl rfl) ?_
    refine cV 6 (ae.aG rfl rfl rfl rfl Jk rfl (by exact Ji) 4 rfl) ?_
    refine cV 7 (ae.dw rfl rfl rfl rfl Jj 0 rfl rfl) ?_
    refine cV 8 (ae.bin (a:=U 1#64) rfl rfl rfl rfl (lY nv.x.toNat (by omega)) rfl) ?_
    refine cV 9 (ae.bin rfl rfl rfl rfl qv rfl) ?_
    refine cV 10 (ae.aG rfl rfl rfl rfl Jk rfl (by exact Ji) 5 rfl) ?_
    refine cV 11 (ae.dw rfl rfl rfl rfl Jj 0 rfl rfl) ?_
    refine cV 12 (ae.bin (a:=U 1#64) rfl rfl rfl rfl (lY nv.y.toNat (by omega)) rfl) ?_
    refine cV 13 (ae.bin rfl rfl rfl rfl qv rfl) ?_
    refine aF.one (i:=14) rfl (dq.ew (c:=[_]) rfl rfl rfl rfl J5 JC Ka rfl rfl (fun b102=>⟨sL,?_⟩)) rfl
    refine aF.call (i:=15) _ rfl rfl rfl rfl rfl rfl (fun _ _=>call145 _ _) (fun w _ hS=>(by exact cP bc l A b.length cA B cB ss O (dk b).length cO k (some ⟨b102,0,none⟩) 1 [HOr.hOr (HOr.hOr (ss[k].d.set) (bW nv.x)) (bW nv.y)] w (hS.ext.gH hC.di) (hC.sa.ay hS.ext) hk (Sl.di (hS.get (j:=0) rfl)) (by simp [maxLen]))) ?_
    rintro v w1 w2 Y' hS he' ⟨r,rfl,hr⟩
    refine ⟨_,hS.later he',sM,?_⟩
    refine cV 16 (ae.aS rfl rfl rfl rfl rfl) ?_
    refine cV 17 (ae.fD rfl rfl rfl rfl) ?_
    refine aF.done rfl ?_
    refine gE ?_
    refine gT JR fun w' hS=>?_
    exact ⟨hS.ext,r,rfl,by rw [hr];exact ⟨fun h=>(zv hi he r2).2 ⟨ho,by rw [hnd];exact h⟩,fun h=>by have:=((zv hi he r2).1 h).2;rwa [hnd] at this⟩⟩
   have ho:¬kJ b ss[k].d 5=true:=by rw [show kJ b ss[k].d 5=false from hc];decide
   refine cN 2 ?_
   refine cN 3 ?_
   refine cN 4 ?_
   refine cN 5 ?_
   refine cN 6 ?_
   refine cN 7 ?_
   refine cN 8 ?_
   refine cN 9 ?_
   refine cN 10 ?_
   refine cN 11 ?_
   refine cN 12 ?_
   refine cN 13 ?_
   refine cN 14 ?_
   refine cN 15 ?_
   refine cV 16 (ae.dQ rfl rfl rfl rfl rfl) ?_
   refine cV 17 (ae.fD rfl rfl rfl rfl) ?_
   refine aF.done rfl ?_
   refine gE ?_
   refine gT JR fun w' hS=>?_
   exact ⟨hS.ext,false,rfl,iff_of_false Bool.false_ne_true (fun h=>ho ((zv hi he r2).1 h).1)⟩
  have r2:¬ss[k].d.av=2:=by simpa using hc
  refine gS (gR ?_);refine aw bd ?_;refine ai ?_;refine gE ?_
  refine gC (fun hc=>?_) fun hc=>?_
  ·
   have r3:ss[k].d.av=3:=by simpa using hc
   obtain ⟨nv,hnv⟩:∃nv,nv=(if kJ b ss[k].d 6=true then nd b ss[k].d.on else EC):=⟨_,rfl⟩
   refine gS (gR ?_);refine ah ?_
   refine ab.v (ae.iA rfl rfl rfl rfl J4 0 rfl Jw rfl) ?_
   refine gP rfl rfl rfl rfl rfl call146 (fun w _ hS=>(by have:=sU bc l A cA b B ss.length cB O (dk b).length cO ss[k] 6 w (hS.ext.gH hC.di) (hC.fa.ay hS.ext);rw [←hnv] at this;exact this)) ?_
   refine ah ?_
   iterate 2 refine fZ ?_
   refine ab.eO rfl rfl rfl (fun _=>JA _) (fun b9=>?_)
   refine ab.dF rfl rfl rfl rfl Jm 0 rfl rfl rfl rfl ?_
   refine ai ?_;refine gE (gS ?_)
   refine ab.dS 21 mixed ?_
   refine cV 0 (ae.mv rfl rfl rfl rfl) ?_
   refine cV 1 (ae.mv rfl rfl rfl rfl) ?_
   refine aF.cases (d:=114) rfl (fun hc=>?_) (fun hc=>?_)
   ·
    have ho:kJ b ss[k].d 6=true:=hc
    rw [if_pos ho] at hnv
    obtain ⟨q,q1,q2,q3,q4⟩:=(iS.1 ho).nat hC.base
    rw [q1] at q4 hnv
    have hx:=hC.base.x q2 (by omega)
    have hy:=hC.base.y q2 (by omega)
    rw [←hnv] at hx hy q4
    have hnd:nd b ss[k].d.on=nv:=by rw [hnv,q1]
    refine cV 2 (ae.mv rfl rfl rfl rfl) ?_
    refine cV 3 (ae.mv rfl rfl rfl rfl) ?_
    refine cV 4 (ae.aG rfl rfl rfl rfl Jq rfl (by exact JC) 0 rfl) ?_
    refine cV 5 (ae.dw rfl rfl rfl rfl JI 1 rfl rfl) ?_
    refine cV 6 (ae.aG rfl rfl rfl rfl Jk rfl (by exact Ji) 4 rfl) ?_
    refine cV 7 (ae.dw rfl rfl rfl rfl Jj 0 rfl rfl) ?_
    refine cV 8 (ae.bin (a:=U 1#64) rfl rfl rfl rfl (lY nv.x.toNat (by omega)) rfl) ?_
    refine cV 9 (ae.bin rfl rfl rfl rfl qv rfl) ?_
    refine cV 10 (ae.aG rfl rfl rfl rfl Jq rfl (by exact JC) 0 rfl) ?_
    refine cV 11 (ae.dw rfl rfl rfl rfl JI 1 rfl rfl) ?_
    refine cV 12 (ae.aG rfl rfl rfl rfl Jk rfl (by exact Ji) 5 rfl) ?_
    refine cV 13 (ae.dw rfl rfl rfl rfl Jj 0 rfl rfl) ?_
    refine cV 14 (ae.bin (a:=U 1#64) rfl rfl rfl rfl (lY nv.y.toNat (by omega)) rfl) ?_
    refine cV 15 (ae.bin rfl rfl rfl rfl qv rfl) ?_
    refine aF.one (i:=16) rfl (dq.ew (c:=[_,_]) rfl rfl rfl rfl J5 JC Ka rfl rfl (fun b129=>⟨sL,?_⟩)) rfl
    refine aF.call (i:=17) _ rfl rfl rfl rfl rfl rfl (fun _ _=>call145 _ _) (fun w _ hS=>(by exact cP bc l A b.length cA B cB ss O (dk b).length cO k (some ⟨b129,0,none⟩) 2 [HOr.hOr (ss[k].d.set) (bW nv.x),HOr.hOr (ss[k].d.set) (bW nv.y)] w (hS.ext.gH hC.di) (hC.sa.ay hS.ext) hk (Sl.di (hS.get (j:=0) rfl)) (by simp [maxLen]))) ?_
    rintro v w1 w2 Y' hS he' ⟨r,rfl,hr⟩
    refine ⟨_,hS.later he',sM,?_⟩
    refine cV 18 (ae.aS rfl rfl rfl rfl rfl) ?_
    refine cV 19 (ae.fD rfl rfl rfl rfl) ?_
    refine aF.done rfl ?_
    refine gE ?_
    refine gT JR fun w' hS=>?_
    exact ⟨hS.ext,r,rfl,by rw [hr];exact ⟨fun h=>(zu hi he r3).2 ⟨ho,by rw [hnd];exact h⟩,fun h=>by have:=((zu hi he r3).1 h).2;rwa [hnd] at this⟩⟩
   have ho:¬kJ b ss[k].d 6=true:=by rw [show kJ b ss[k].d 6=false from hc];decide
   refine cN 2 ?_
   refine cN 3 ?_
   refine cN 4 ?_
   refine cN 5 ?_
   refine cN 6 ?_
   refine cN 7 ?_
   refine cN 8 ?_
   refine cN 9 ?_
   refine cN 10 ?_
   refine cN 11 ?_
   refine cN 12 ?_
   refine cN 13 ?_
   refine cN 14 ?_
   refine cN 15 ?_
   refine cN 16 ?_
   refine cN 17 ?_
   refine cV 18 (ae.dQ rfl rfl rfl rfl rfl) ?_
   refine cV 19 (ae.fD rfl rfl rfl rfl) ?_
   refine aF.done rfl ?_
   refine gE ?_
   refine gT JR fun w' hS=>?_
   exact ⟨hS.ext,false,rfl,iff_of_false Bool.false_ne_true (fun h=>ho ((zu hi he r3).1 h).1)⟩
  have r3:¬ss[k].d.av=3:=by simpa using hc
  refine gS (gR ?_);refine aw bd ?_;refine ai ?_;refine gE ?_
  refine gC (fun hc=>?_) fun hc=>?_
  ·
   have r5:ss[k].d.av=5:=by simpa using hc
   obtain ⟨nv,hnv⟩:∃nv,nv=(if kJ b ss[k].d 9=true then nd b ss[k].d.on else EC):=⟨_,rfl⟩
   refine gS (gR ?_);refine ah ?_
   refine ab.v (ae.iA rfl rfl rfl rfl J4 0 rfl Jw rfl) ?_
   refine gP rfl rfl rfl rfl rfl call146 (fun w _ hS=>(by have:=sU bc l A cA b B ss.length cB O (dk b).length cO ss[k] 9 w (hS.ext.gH hC.di) (hC.fa.ay hS.ext);rw [←hnv] at this;exact this)) ?_
   refine ah ?_
   iterate 2 refine fZ ?_
   refine ab.eO rfl rfl rfl (fun _=>JA _) (fun b11=>?_)
   refine ab.dF rfl rfl rfl rfl Jm 0 rfl rfl rfl rfl ?_
   refine ai ?_;refine gE (gS ?_)
   refine ab.dS 27 mixed ?_
   refine cV 0 (ae.mv rfl rfl rfl rfl) ?_
   refine cV 1 (ae.mv rfl rfl rfl rfl) ?_
   refine aF.cases (d:=141) rfl (fun hc=>?_) (fun hc=>?_)
   ·
    have ho:kJ b ss[k].d 9=true:=hc
    rw [if_pos ho] at hnv
    obtain ⟨q,q1,q2,q3,q4⟩:=(iS.1 ho).nat hC.base
    rw [q1] at q4 hnv
    have hx:=hC.base.x q2 (by omega)
    rw [←hnv] at hx q4
    have hnd:nd b ss[k].d.on=nv:=by rw [hnv,q1]
    refine cV 2 (ae.mv rfl rfl rfl rfl) ?_
    refine cV 3 (ae.bin rfl rfl rfl rfl bd rfl) ?_
    refine cV 4 (ae.mv rfl rfl rfl rfl) ?_
    refine aF.cases (d:=144) rfl (fun hc=>?_) (fun hc=>?_)
    ·
     have e2:l=2:=by simpa using hc
     have hlg:l=2∨l=4∨l=6:=by omega
     refine cN 5 ?_
     refine cN 6 ?_
     refine cV 7 (ae.aS rfl rfl rfl rfl rfl) ?_
     refine cV 8 (ae.mv rfl rfl rfl rfl) ?_
     refine cN 9 ?_
     refine cN 10 ?_
     refine cV 11 (ae.aS rfl rfl rfl rfl rfl) ?_
     refine cV 12 (ae.aS rfl rfl rfl rfl rfl) ?_
     refine cV 13 (ae.mv rfl rfl rfl rfl) ?_
     refine cV 14 (ae.mv rfl rfl rfl rfl) ?_
     refine cV 15 (ae.mv rfl rfl rfl rfl) ?_
     refine cV 16 (ae.aG rfl rfl rfl rfl Jq rfl (by exact JC) 0 rfl) ?_
     refine cV 17 (ae.dw rfl rfl rfl rfl JI 1 rfl rfl) ?_
     refine cV 18 (ae.aG rfl rfl rfl rfl Jk rfl (by exact Ji) 4 rfl) ?_
     refine cV 19 (ae.dw rfl rfl rfl rfl Jj 0 rfl rfl) ?_
     refine cV 20 (ae.bin (a:=U 1#64) rfl rfl rfl rfl (lY nv.x.toNat (by omega)) rfl) ?_
     refine cV 21 (ae.bin rfl rfl rfl rfl qv rfl) ?_
     refine aF.one (i:=22) rfl (dq.ew (c:=[_]) rfl rfl rfl rfl J5 JC Ka rfl rfl (fun b162=>⟨sL,?_⟩)) rfl
     refine aF.call (i:=23) _ rfl rfl rfl rfl rfl rfl (fun _ _=>call145 _ _) (fun w _ hS=>(by exact cP bc l A b.length cA B cB ss O (dk b).length cO k (some ⟨b162,0,none⟩) 1 [HOr.hOr (ss[k].d.set) (bW nv.x)] w (hS.ext.gH hC.di) (hC.sa.ay hS.ext) hk (Sl.di (hS.get (j:=0) rfl)) (by simp [maxLen]))) ?_
     rintro v w1 w2 Y' hS he' ⟨r,rfl,hr⟩
     refine ⟨_,hS.later he',sM,?_⟩
     refine cV 24 (ae.aS rfl rfl rfl rfl rfl) ?_
     refine cV 25 (ae.fD rfl rfl rfl rfl) ?_
     refine aF.done rfl ?_
     refine gE ?_
     refine gT JR fun w' hS=>?_
     exact ⟨hS.ext,r,rfl,by rw [hr];exact ⟨fun h=>(oC hi he r5).2 ⟨ho,hlg,by rw [hnd];exact h⟩,fun h=>by have:=((oC hi he r5).1 h).2.2;rwa [hnd] at this⟩⟩
    have e2:¬l=2:=by simpa using hc
    refine cV 5 (ae.mv rfl rfl rfl rfl) ?_
    refine cV 6 (ae.bin rfl rfl rfl rfl bd rfl) ?_
    refine cV 7 (ae.dQ rfl rfl rfl rfl rfl) ?_
    refine cV 8 (ae.mv rfl rfl rfl rfl) ?_
    refine aF.cases (d:=148) rfl (fun hc=>?_) (fun hc=>?_)
    ·
     have e4:l=4:=by simpa using hc
     have hlg:l=2∨l=4∨l=6:=by omega
     refine cN 9 ?_
     refine cN 10 ?_
     refine cV 11 (ae.aS rfl rfl rfl rfl rfl) ?_
     refine cV 12 (ae.aS rfl rfl rfl rfl rfl) ?_
     refine cV 13 (ae.mv rfl rfl rfl rfl) ?_
     refine cV 14 (ae.mv rfl rfl rfl rfl) ?_
     refine cV 15 (ae.mv rfl rfl rfl rfl) ?_
     refine cV 16 (ae.aG rfl rfl rfl rfl Jq rfl (by exact JC) 0 rfl) ?_
     refine cV 17 (ae.dw rfl rfl rfl rfl JI 1 rfl rfl) ?_
     refine cV 18 (ae.aG rfl rfl rfl rfl Jk rfl (by exact Ji) 4 rfl) ?_
     refine cV 19 (ae.dw rfl rfl rfl rfl Jj 0 rfl rfl) ?_
     refine cV 20 (ae.bin (a:=U 1#64) rfl rfl rfl rfl (lY nv.x.toNat (by omega)) rfl) ?_
     refine cV 21 (ae.bin rfl rfl rfl rfl qv rfl) ?_
     refine aF.one (i:=22) rfl (dq.ew (c:=[_]) rfl rfl rfl rfl J5 JC Ka rfl rfl (fun b162=>⟨sL,?_⟩)) rfl
     refine aF.call (i:=23) _ rfl rfl rfl rfl rfl rfl (fun _ _=>call145 _ _) (fun w _ hS=>(by exact cP bc l A b.length cA B cB ss O (dk b).length cO k (some ⟨b162,0,none⟩) 1 [HOr.hOr (ss[k].d.set) (bW nv.x)] w (hS.ext.gH hC.di) (hC.sa.ay hS.ext) hk (Sl.di (hS.get (j:=0) rfl)) (by simp [maxLen]))) ?_
     rintro v w1 w2 Y' hS he' ⟨r,rfl,hr⟩
     refine ⟨_,hS.later he',sM,?_⟩
     refine cV 24 (ae.aS rfl rfl rfl rfl rfl) ?_
     refine cV 25 (ae.fD rfl rfl rfl rfl) ?_
     refine aF.done rfl ?_
     refine gE ?_
     refine gT JR fun w' hS=>?_
     exact ⟨hS.ext,r,rfl,by rw [hr];exact ⟨fun h=>(oC hi he r5).2 ⟨ho,hlg,by rw [hnd];exact h⟩,fun h=>by have:=((oC hi he r5).1 h).2.2;rwa [hnd] at this⟩⟩
    have e4:¬l=4:=by simpa using hc
    refine cV 9 (ae.mv rfl rfl rfl rfl) ?_
    refine cV 10 (ae.bin rfl rfl rfl rfl bd rfl) ?_
    refine cV 11 (ae.dQ rfl rfl rfl rfl rfl) ?_
    refine cV 12 (ae.aS rfl rfl rfl rfl rfl) ?_
    refine cV 13 (ae.mv rfl rfl rfl rfl) ?_
    refine aF.cases (d:=153) rfl (fun hc=>?_) (fun hc=>?_)
    ·
     have e6:l=6:=by simpa using hc
     have hlg:l=2∨l=4∨l=6:=by omega
     refine cV 14 (ae.mv rfl rfl rfl rfl) ?_
     refine cV 15 (ae.mv rfl rfl rfl rfl) ?_
     refine cV 16 (ae.aG rfl rfl rfl rfl Jq rfl (by exact JC) 0 rfl) ?_
     refine cV 17 (ae.dw rfl rfl rfl rfl JI 1 rfl rfl) ?_
     refine cV 18 (ae.aG rfl rfl rfl rfl Jk rfl (by exact Ji) 4 rfl) ?_
     refine cV 19 (ae.dw rfl rfl rfl rfl Jj 0 rfl rfl) ?_
     refine cV 20 (ae.bin (a:=U 1#64) rfl rfl rfl rfl (lY nv.x.toNat (by omega)) rfl) ?_
     refine cV 21 (ae.bin rfl rfl rfl rfl qv rfl) ?_
     refine aF.one (i:=22) rfl (dq.ew (c:=[_]) rfl rfl rfl rfl J5 JC Ka rfl rfl (fun b162=>⟨sL,?_⟩)) rfl
     refine aF.call (i:=23) _ rfl rfl rfl rfl rfl rfl (fun _ _=>call145 _ _) (fun w _ hS=>(by exact cP bc l A b.length cA B cB ss O (dk b).length cO k (some ⟨b162,0,none⟩) 1 [HOr.hOr (ss[k].d.set) (bW nv.x)] w (hS.ext.gH hC.di) (hC.sa.ay hS.ext) hk (Sl.di (hS.get (j:=0) rfl)) (by simp [maxLen]))) ?_
     rintro v w1 w2 Y' hS he' ⟨r,rfl,hr⟩
     refine ⟨_,hS.later he',sM,?_⟩
     refine cV 24 (ae.aS rfl rfl rfl rfl rfl) ?_
     refine cV 25 (ae.fD rfl rfl rfl rfl) ?_
     refine aF.done rfl ?_
     refine gE ?_
     refine gT JR fun w' hS=>?_
     exact ⟨hS.ext,r,rfl,by rw [hr];exact ⟨fun h=>(oC hi he r5).2 ⟨ho,hlg,by rw [hnd];exact h⟩,fun h=>by have:=((oC hi he r5).1 h).2.2;rwa [hnd] at this⟩⟩
    have e6:¬l=6:=by simpa using hc
    refine cN 14 ?_
    refine cN 15 ?_
    refine cN 16 ?_
    refine cN 17 ?_
    refine cN 18 ?_
    refine cN 19 ?_
    refine cN 20 ?_
    refine cN 21 ?_
    refine cN 22 ?_
    refine cN 23 ?_
    refine cV 24 (ae.dQ rfl rfl rfl rfl rfl) ?_
    refine cV 25 (ae.fD rfl rfl rfl rfl) ?_
    refine aF.done rfl ?_
    refine gE ?_
    refine gT JR fun w' hS=>?_
    exact ⟨hS.ext,false,rfl,iff_of_false Bool.false_ne_true (fun h=>by have:=((oC hi he r5).1 h).2.1;omega)⟩
   have ho:¬kJ b ss[k].d 9=true:=by rw [show kJ b ss[k].d 9=false from hc];decide
   refine cN 2 ?_
   refine cN 3 ?_
   refine cN 4 ?_
   refine cN 5 ?_
   refine cN 6 ?_
   refine cN 7 ?_
   refine cN 8 ?_
   refine cN 9 ?_
   refine cN 10 ?_
   refine cN 11 ?_
   refine cV 12 (ae.dQ rfl rfl rfl rfl rfl) ?_
   refine cV 13 (ae.mv rfl rfl rfl rfl) ?_
   refine cN 14 ?_
   refine cN 15 ?_
   refine cN 16 ?_
   refine cN 17 ?_
   refine cN 18 ?_
   refine cN 19 ?_
   refine cN 20 ?_
   refine cN 21 ?_
   refine cN 22 ?_
   refine cN 23 ?_
   refine cV 24 (ae.dQ rfl rfl rfl rfl rfl) ?_
   refine cV 25 (ae.fD rfl rfl rfl rfl) ?_
   refine aF.done rfl ?_
   refine gE ?_
   refine gT JR fun w' hS=>?_
   exact ⟨hS.ext,false,rfl,iff_of_false Bool.false_ne_true (fun h=>ho ((oC hi he r5).1 h).1)⟩
  have r5:¬ss[k].d.av=5:=by simpa using hc
  refine gS (gR ?_);refine aw bd ?_;refine ai ?_;refine gE ?_
  refine gC (fun hc=>?_) fun hc=>?_
  ·
   have r6:ss[k].d.av=6:=by simpa using hc
   obtain ⟨nv,hnv⟩:∃nv,nv=(if kJ b ss[k].d 10=true then nd b ss[k].d.on else EC):=⟨_,rfl⟩
   refine gS (gR ?_);refine ah ?_
   refine ab.v (ae.iA rfl rfl rfl rfl J4 0 rfl Jw rfl) ?_
   refine gP rfl rfl rfl rfl rfl call146 (fun w _ hS=>(by have:=sU bc l A cA b B ss.length cB O (dk b).length cO ss[k] 10 w (hS.ext.gH hC.di) (hC.fa.ay hS.ext);rw [←hnv] at this;exact this)) ?_
   refine ah ?_
   iterate 2 refine fZ ?_
   refine ab.eO rfl rfl rfl (fun _=>JA _) (fun b13=>?_)
   refine ab.dF rfl rfl rfl rfl Jm 0 rfl rfl rfl rfl ?_
   refine ai ?_;refine gE (gS ?_)
   refine ab.dS 24 mixed ?_
   refine cV 0 (ae.mv rfl rfl rfl rfl) ?_
   refine cV 1 (ae.mv rfl rfl rfl rfl) ?_
   refine aF.cases (d:=174) rfl (fun hc=>?_) (fun hc=>?_)
   ·
    have ho:kJ b ss[k].d 10=true:=hc
    rw [if_pos ho] at hnv
    obtain ⟨q,q1,q2,q3,q4⟩:=(iS.1 ho).nat hC.base
    rw [q1] at q4 hnv
    have hx:=hC.base.x q2 (by omega)
    rw [←hnv] at hx q4
    have hnd:nd b ss[k].d.on=nv:=by rw [hnv,q1]
    refine cV 2 (ae.mv rfl rfl rfl rfl) ?_
    refine cV 3 (ae.mv rfl rfl rfl rfl) ?_
    refine cV 4 (ae.aG rfl rfl rfl rfl Jk rfl (by exact Ji) 4 rfl) ?_
    refine cV 5 (ae.dw rfl rfl rfl rfl Jj 0 rfl rfl) ?_
    refine cV 6 (ae.bin (a:=U 1#64) rfl rfl rfl rfl (lY nv.x.toNat (by omega)) rfl) ?_
    refine cV 7 (ae.mv rfl rfl rfl rfl) ?_
    refine cV 8 (ae.mv rfl rfl rfl rfl) ?_
    refine cV 9 (ae.ep rfl rfl rfl rfl) ?_
    refine cV 10 (ae.aG rfl rfl rfl rfl J7 rfl (by exact Jz) 0 rfl) ?_
    refine cV 11 (ae.aG rfl rfl rfl rfl Jv rfl (by exact Js) 1 rfl) ?_
    refine cV 12 (ae.ld (p:=⟨bc,1,none⟩) rfl rfl rfl rfl Jx (fun w _ hS=>HB hS.ext rfl)) ?_
    refine cV 13 (ae.aG rfl rfl rfl rfl Jq rfl (by exact JC) 0 rfl) ?_
    refine cV 14 (ae.dw rfl rfl rfl rfl JI 1 rfl rfl) ?_
    refine cV 15 (ae.aG rfl rfl rfl rfl Jk rfl (by exact Ji) 1 rfl) ?_
    refine cV 16 (ae.dw rfl rfl rfl rfl Jj 0 rfl rfl) ?_
    refine aF.cR (i:=17) rfl rfl rfl rfl rfl rfl (fun _ _=>call147 _ _) (fun w _ hS=>(by exact pA l A cA b ss[k].d.set nv.i w (hC.fa.ay hS.ext) hC.base)) sL ?_
    refine cV 18 (ae.bin rfl rfl rfl rfl qv rfl) ?_
    refine aF.one (i:=19) rfl (dq.ew (c:=[_]) rfl rfl rfl rfl J5 JC Ka rfl rfl (fun b192=>⟨sL,?_⟩)) rfl
    refine aF.call (i:=20) _ rfl rfl rfl rfl rfl rfl (fun _ _=>call145 _ _) (fun w _ hS=>(by exact cP bc l A b.length cA B cB ss O (dk b).length cO k (some ⟨b192,0,none⟩) 1 [HOr.hOr (bW nv.x) (lG l b ss[k].d.set nv.i)] w (hS.ext.gH hC.di) (hC.sa.ay hS.ext) hk (Sl.di (hS.get (j:=0) rfl)) (by simp [maxLen]))) ?_
    rintro v w1 w2 Y' hS he' ⟨r,rfl,hr⟩
    refine ⟨_,hS.later he',sM,?_⟩
    refine cV 21 (ae.aS rfl rfl rfl rfl rfl) ?_
    refine cV 22 (ae.fD rfl rfl rfl rfl) ?_
    refine aF.done rfl ?_
    refine gE ?_
    refine gT JR fun w' hS=>?_
    exact ⟨hS.ext,r,rfl,by rw [hr];exact ⟨fun h=>(zt hi he r6).2 ⟨ho,by rw [hnd];exact h⟩,fun h=>by have:=((zt hi he r6).1 h).2;rwa [hnd] at this⟩⟩
   have ho:¬kJ b ss[k].d 10=true:=by rw [show kJ b ss[k].d 10=false from hc];decide
   refine cN 2 ?_
   refine cN 3 ?_
   refine cN 4 ?_
   refine cN 5 ?_
   refine cN 6 ?_
   refine cN 7 ?_
   refine cN 8 ?_
   refine cN 9 ?_
   refine cN 10 ?_
   refine cN 11 ?_
   refine cN 12 ?_
   refine cN 13 ?_
   refine cN 14 ?_
   refine cN 15 ?_
   refine cN 16 ?_
   refine cN 17 ?_
   refine cN 18 ?_
   refine cN 19 ?_
   refine cN 20 ?_
   refine cV 21 (ae.dQ rfl rfl rfl rfl rfl) ?_
   refine cV 22 (ae.fD rfl rfl rfl rfl) ?_
   refine aF.done rfl ?_
   refine gE ?_
   refine gT JR fun w' hS=>?_
   exact ⟨hS.ext,false,rfl,iff_of_false Bool.false_ne_true (fun h=>ho ((zt hi he r6).1 h).1)⟩
  have r6:¬ss[k].d.av=6:=by simpa using hc
  refine gS (gR ?_);refine aw bd ?_;refine ai ?_;refine gE ?_
  refine gC (fun hc=>?_) fun hc=>?_
  ·
   have r7:ss[k].d.av=7:=by simpa using hc
   refine gS ?_
   refine ab.dS 35 mixed ?_
   refine cV 0 (ae.mv rfl rfl rfl rfl) ?_
   refine cV 1 (ae.bin rfl rfl rfl rfl bd rfl) ?_
   refine cV 2 (ae.mv rfl rfl rfl rfl) ?_
   refine aF.cases (d:=199) rfl (fun hc=>?_) (fun hc=>?_)
   ·
    have e1:l=1:=by simpa using hc
    have hlg:l=1∨l=5:=by omega
    refine cN 3 ?_
    refine cN 4 ?_
    refine cV 5 (ae.aS rfl rfl rfl rfl rfl) ?_
    refine cV 6 (ae.mv rfl rfl rfl rfl) ?_
    refine cV 7 (ae.aG rfl rfl rfl rfl Jq rfl (by exact Ji) 2 rfl) ?_
    refine cV 8 (ae.dw rfl rfl rfl rfl Jj 0 rfl rfl) ?_
    refine cV 9 (ae.bin rfl rfl rfl rfl oT rfl) ?_
    refine cV 10 (ae.aS rfl rfl rfl rfl rfl) ?_
    refine cV 11 (ae.mv rfl rfl rfl rfl) ?_
    refine aF.cases (d:=208) rfl (fun hc=>?_) (fun hc=>?_)
    ·
     have o0:0≤ss[k].d.on:=by simpa using hc
     refine cV 12 (ae.aG rfl rfl rfl rfl Jq rfl (by exact Ji) 2 rfl) ?_
     refine cV 13 (ae.dw rfl rfl rfl rfl Jj 0 rfl rfl) ?_
     refine cV 14 (ae.bin rfl rfl rfl rfl iX rfl) ?_
     refine cV 15 (ae.aS rfl rfl rfl rfl rfl) ?_
     refine cV 16 (ae.mv rfl rfl rfl rfl) ?_
     refine aF.cases (d:=213) rfl (fun hc=>?_) (fun hc=>?_)
     ·
      have o1:ss[k].d.on<4:=by simpa using hc
      refine cV 17 (ae.mv rfl rfl rfl rfl) ?_
      refine cV 18 (ae.mv rfl rfl rfl rfl) ?_
      refine cV 19 (ae.mv rfl rfl rfl rfl) ?_
      refine cV 20 (ae.mv rfl rfl rfl rfl) ?_
      refine cV 21 (ae.ep rfl rfl rfl rfl) ?_
      refine cV 22 (ae.aG rfl rfl rfl rfl J7 rfl (by exact Jz) 0 rfl) ?_
      refine cV 23 (ae.aG rfl rfl rfl rfl Jv rfl (by exact Js) 1 rfl) ?_
      refine cV 24 (ae.ld (p:=⟨bc,1,none⟩) rfl rfl rfl rfl Jx (fun w _ hS=>HB hS.ext rfl)) ?_
      refine cV 25 (ae.aG rfl rfl rfl rfl Jq rfl (by exact JC) 0 rfl) ?_
      refine cV 26 (ae.dw rfl rfl rfl rfl JI 0 rfl rfl) ?_
      refine cV 27 (ae.aG rfl rfl rfl rfl Jq rfl (by exact Ji) 2 rfl) ?_
      refine cV 28 (ae.dw rfl rfl rfl rfl Jj 0 rfl rfl) ?_
      refine aF.cR (i:=29) rfl rfl rfl rfl rfl rfl (fun _ _=>call147 _ _) (fun w _ hS=>(by exact pA l A cA b ss[k].d.set ss[k].d.on w (hC.fa.ay hS.ext) hC.base)) sL ?_
      refine aF.one (i:=30) rfl (dq.ew (c:=[_]) rfl rfl rfl rfl J5 JC Ka rfl rfl (fun b227=>⟨sL,?_⟩)) rfl
      refine aF.call (i:=31) _ rfl rfl rfl rfl rfl rfl (fun _ _=>call145 _ _) (fun w _ hS=>(by exact cP bc l A b.length cA B cB ss O (dk b).length cO k (some ⟨b227,0,none⟩) 1 [lG l b ss[k].d.set ss[k].d.on] w (hS.ext.gH hC.di) (hC.sa.ay hS.ext) hk (Sl.di (hS.get (j:=0) rfl)) (by simp [maxLen]))) ?_
      rintro v w1 w2 Y' hS he' ⟨r,rfl,hr⟩
      refine ⟨_,hS.later he',sM,?_⟩
      refine cV 32 (ae.aS rfl rfl rfl rfl rfl) ?_
      refine cV 33 (ae.fD rfl rfl rfl rfl) ?_
      refine aF.done rfl ?_
      refine gE ?_
      refine gT JR fun w' hS=>?_
      exact ⟨hS.ext,r,rfl,by rw [hr];exact ⟨fun h=>(np hi he r7).2 ⟨hlg,o0,o1,h⟩,fun h=>((np hi he r7).1 h).2.2.2⟩⟩
     have o1:¬ss[k].d.on<4:=by simpa using hc
     refine cN 17 ?_
     refine cN 18 ?_
     refine cN 19 ?_
     refine cN 20 ?_
     refine cN 21 ?_
     refine cN 22 ?_
     refine cN 23 ?_
     refine cN 24 ?_
     refine cN 25 ?_
     refine cN 26 ?_
     refine cN 27 ?_
     refine cN 28 ?_
     refine cN 29 ?_
     refine cN 30 ?_
     refine cN 31 ?_
     refine cV 32 (ae.dQ rfl rfl rfl rfl rfl) ?_
     refine cV 33 (ae.fD rfl rfl rfl rfl) ?_
     refine aF.done rfl ?_
     refine gE ?_
     refine gT JR fun w' hS=>?_
     exact ⟨hS.ext,false,rfl,iff_of_false Bool.false_ne_true (fun h=>o1 ((np hi he r7).1 h).2.2.1)⟩
    have o0:¬0≤ss[k].d.on:=by simpa using hc
    refine cN 12 ?_
    refine cN 13 ?_
    refine cN 14 ?_
    refine cV 15 (ae.dQ rfl rfl rfl rfl rfl) ?_
    refine cV 16 (ae.mv rfl rfl rfl rfl) ?_
    refine cN 17 ?_
    refine cN 18 ?_
    refine cN 19 ?_
    refine cN 20 ?_
    refine cN 21 ?_
    refine cN 22 ?_
    refine cN 23 ?_
    refine cN 24 ?_
    refine cN 25 ?_
    refine cN 26 ?_
    refine cN 27 ?_
    refine cN 28 ?_
    refine cN 29 ?_
    refine cN 30 ?_
    refine cN 31 ?_
    refine cV 32 (ae.dQ rfl rfl rfl rfl rfl) ?_
    refine cV 33 (ae.fD rfl rfl rfl rfl) ?_
    refine aF.done rfl ?_
    refine gE ?_
    refine gT JR fun w' hS=>?_
    exact ⟨hS.ext,false,rfl,iff_of_false Bool.false_ne_true (fun h=>o0 ((np hi he r7).1 h).2.1)⟩
   have e1:¬l=1:=by simpa using hc
   refine cV 3 (ae.mv rfl rfl rfl rfl) ?_
   refine cV 4 (ae.bin rfl rfl rfl rfl bd rfl) ?_
   refine cV 5 (ae.dQ rfl rfl rfl rfl rfl) ?_
   refine cV 6 (ae.mv rfl rfl rfl rfl) ?_
   refine aF.cases (d:=203) rfl (fun hc=>?_) (fun hc=>?_)
   ·
    have e5:l=5:=by simpa using hc
    have hlg:l=1∨l=5:=by omega
    refine cV 7 (ae.aG rfl rfl rfl rfl Jq rfl (by exact Ji) 2 rfl) ?_
    refine cV 8 (ae.dw rfl rfl rfl rfl Jj 0 rfl rfl) ?_
    refine cV 9 (ae.bin rfl rfl rfl rfl oT rfl) ?_
    refine cV 10 (ae.aS rfl rfl rfl rfl rfl) ?_
    refine cV 11 (ae.mv rfl rfl rfl rfl) ?_
    refine aF.cases (d:=208) rfl (fun hc=>?_) (fun hc=>?_)
    ·
     have o0:0≤ss[k].d.on:=by simpa using hc
     refine cV 12 (ae.aG rfl rfl rfl rfl Jq rfl (by exact Ji) 2 rfl) ?_
     refine cV 13 (ae.dw rfl rfl rfl rfl Jj 0 rfl rfl) ?_
     refine cV 14 (ae.bin rfl rfl rfl rfl iX rfl) ?_
     refine cV 15 (ae.aS rfl rfl rfl rfl rfl) ?_
     refine cV 16 (ae.mv rfl rfl rfl rfl) ?_
     refine aF.cases (d:=213) rfl (fun hc=>?_) (fun hc=>?_)
     ·
      have o1:ss[k].d.on<4:=by simpa using hc
      refine cV 17 (ae.mv rfl rfl rfl rfl) ?_
      refine cV 18 (ae.mv rfl rfl rfl rfl) ?_
      refine cV 19 (ae.mv rfl rfl rfl rfl) ?_
      refine cV 20 (ae.mv rfl rfl rfl rfl) ?_
      refine cV 21 (ae.ep rfl rfl rfl rfl) ?_
      refine cV 22 (ae.aG rfl rfl rfl rfl J7 rfl (by exact Jz) 0 rfl) ?_
      refine cV 23 (ae.aG rfl rfl rfl rfl Jv rfl (by exact Js) 1 rfl) ?_
      refine cV 24 (ae.ld (p:=⟨bc,1,none⟩) rfl rfl rfl rfl Jx (fun w _ hS=>HB hS.ext rfl)) ?_
      refine cV 25 (ae.aG rfl rfl rfl rfl Jq rfl (by exact JC) 0 rfl) ?_
      refine cV 26 (ae.dw rfl rfl rfl rfl JI 0 rfl rfl) ?_
      refine cV 27 (ae.aG rfl rfl rfl rfl Jq rfl (by exact Ji) 2 rfl) ?_
      refine cV 28 (ae.dw rfl rfl rfl rfl Jj 0 rfl rfl) ?_
      refine aF.cR (i:=29) rfl rfl rfl rfl rfl rfl (fun _ _=>call147 _ _) (fun w _ hS=>(by exact pA l A cA b ss[k].d.set ss[k].d.on w (hC.fa.ay hS.ext) hC.base)) sL ?_
      refine aF.one (i:=30) rfl (dq.ew (c:=[_]) rfl rfl rfl rfl J5 JC Ka rfl rfl (fun b227=>⟨sL,?_⟩)) rfl
      refine aF.call (i:=31) _ rfl rfl rfl rfl rfl rfl (fun _ _=>call145 _ _) (fun w _ hS=>(by exact cP bc l A b.length cA B cB ss O (dk b).length cO k (some ⟨b227,0,none⟩) 1 [lG l b ss[k].d.set ss[k].d.on] w (hS.ext.gH hC.di) (hC.sa.ay hS.ext) hk (Sl.di (hS.get (j:=0) rfl)) (by simp [maxLen]))) ?_
      rintro v w1 w2 Y' hS he' ⟨r,rfl,hr⟩
      refine ⟨_,hS.later he',sM,?_⟩
      refine cV 32 (ae.aS rfl rfl rfl rfl rfl) ?_
      refine cV 33 (ae.fD rfl rfl rfl rfl) ?_
      refine aF.done rfl ?_
      refine gE ?_
      refine gT JR fun w' hS=>?_
      exact ⟨hS.ext,r,rfl,by rw [hr];exact ⟨fun h=>(np hi he r7).2 ⟨hlg,o0,o1,h⟩,fun h=>((np hi he r7).1 h).2.2.2⟩⟩
     have o1:¬ss[k].d.on<4:=by simpa using hc
     refine cN 17 ?_
     refine cN 18 ?_
     refine cN 19 ?_
     refine cN 20 ?_
     refine cN 21 ?_
     refine cN 22 ?_
     refine cN 23 ?_
     refine cN 24 ?_
     refine cN 25 ?_
     refine cN 26 ?_
     refine cN 27 ?_
     refine cN 28 ?_
     refine cN 29 ?_
     refine cN 30 ?_
     refine cN 31 ?_
     refine cV 32 (ae.dQ rfl rfl rfl rfl rfl) ?_
     refine cV 33 (ae.fD rfl rfl rfl rfl) ?_
     refine aF.done rfl ?_
     refine gE ?_
     refine gT JR fun w' hS=>?_
     exact ⟨hS.ext,false,rfl,iff_of_false Bool.false_ne_true (fun h=>o1 ((np hi he r7).1 h).2.2.1)⟩
    have o0:¬0≤ss[k].d.on:=by simpa using hc
    refine cN 12 ?_
    refine cN 13 ?_
    refine cN 14 ?_
    refine cV 15 (ae.dQ rfl rfl rfl rfl rfl) ?_
    refine cV 16 (ae.mv rfl rfl rfl rfl) ?_
    refine cN 17 ?_
    refine cN 18 ?_
    refine cN 19 ?_
    refine cN 20 ?_
    refine cN 21 ?_
    refine cN 22 ?_
    refine cN 23 ?_
    refine cN 24 ?_
    refine cN 25 ?_
    refine cN 26 ?_
    refine cN 27 ?_
    refine cN 28 ?_
    refine cN 29 ?_
    refine cN 30 ?_
    refine cN 31 ?_
    refine cV 32 (ae.dQ rfl rfl rfl rfl rfl) ?_
    refine cV 33 (ae.fD rfl rfl rfl rfl) ?_
    refine aF.done rfl ?_
    refine gE ?_
    refine gT JR fun w' hS=>?_
    exact ⟨hS.ext,false,rfl,iff_of_false Bool.false_ne_true (fun h=>o0 ((np hi he r7).1 h).2.1)⟩
   have e5:¬l=5:=by simpa using hc
   refine cN 7 ?_
   refine cN 8 ?_
   refine cN 9 ?_
   refine cV 10 (ae.dQ rfl rfl rfl rfl rfl) ?_
   refine cV 11 (ae.mv rfl rfl rfl rfl) ?_
   refine cN 12 ?_
   refine cN 13 ?_
   refine cN 14 ?_
   refine cV 15 (ae.dQ rfl rfl rfl rfl rfl) ?_
   refine cV 16 (ae.mv rfl rfl rfl rfl) ?_
   refine cN 17 ?_
   refine cN 18 ?_
   refine cN 19 ?_
   refine cN 20 ?_
   refine cN 21 ?_
   refine cN 22 ?_
   refine cN 23 ?_
   refine cN 24 ?_
   refine cN 25 ?_
   refine cN 26 ?_
   refine cN 27 ?_
   refine cN 28 ?_
   refine cN 29 ?_
   refine cN 30 ?_
   refine cN 31 ?_
   refine cV 32 (ae.dQ rfl rfl rfl rfl rfl) ?_
   refine cV 33 (ae.fD rfl rfl rfl rfl) ?_
   refine aF.done rfl ?_
   refine gE ?_
   refine gT JR fun w' hS=>?_
   exact ⟨hS.ext,false,rfl,iff_of_false Bool.false_ne_true (fun h=>by have:=((np hi he r7).1 h).1;omega)⟩
  have r7:¬ss[k].d.av=7:=by simpa using hc
  refine gK (dO (gS (gR ?_)));refine ai ?_;refine gE ?_
  refine gT JR fun w' hS=>?_
  exact ⟨hS.ext,false,rfl,iff_of_false Bool.false_ne_true (D6 r1 r2 r3 r4 r5 r6 r7)⟩
end Go.Proofs.YtnfmegcknckahaaGreatDoor
namespace Go.Proofs.YtnfmegcknckahaaGreatDoor
open Go.RowKit Go.Proofs.Wit Tryz
theorem uQ:(Tryz.prog.info? 3).map (fun i=>(i.zero,i.size,i.bytes))=some (some (bK 0),1,8):=by kernel_rfl
theorem vx (l:Int) (A:Option Addr) (cA:Nat) (b:List NV) (B:Option Addr) (m cB:Nat) (w:World) (hA:FA w A b) (hl:b.length≤maxLen):
    Cn Tryz.prog 52 [.agg (bL l A b.length cA B m cB)] w (fun v _=>v=.int .i64 (eJ l b m)):=by
  refine Cn.of func52 rfl rfl ?_
  refine gS (gR ?_)
  refine ab.bx rfl rfl rfl rfl (fun b1=>?_)
  refine ai ?_;refine gE (gS (gS (gR ?_)));refine al Jv Ji 0 ?_;refine aq Jj 0 ?_
  refine gP rfl rfl rfl rfl rfl call96 (fun w _ hS=>(by exact xX l w)) ?_
  refine eZ bG ?_;refine gE ?_
  refine gC (fun hc=>?_) fun hc=>?_
  ·
   have h1:¬(0≤l∧l≤6):=by simp at hc;omega
   refine gS (gR ?_);refine ai ?_;refine gE ?_
   refine gT func52 fun w' hS=>?_
   exact ⟨hS.ext,by rw [eJ,if_pos h1];rfl⟩
  have h1:0≤l∧l≤6:=by simp at hc;omega
  have h1':¬¬(0≤l∧l≤6):=fun h=>h h1
  refine gK (gS (gS (gR ?_)));refine al Jv Js 1 ?_;refine aq Jx 0 ?_
  refine gP rfl rfl rfl rfl rfl call97 (fun w _ hS=>(by exact AM A cA b w (hA.ay hS.ext) hl)) ?_
  refine ai ?_;refine gE (gS (gR ?_));refine ah ?_;refine aw gJ ?_;refine gE ?_
  refine gC (fun hc=>?_) fun hc=>?_
  ·
   have h2:ko b≠0:=by simpa using hc
   refine gS (gR ?_);refine ah ?_;refine ai ?_;refine gE ?_
   refine gT func52 fun w' hS=>?_
   exact ⟨hS.ext,by rw [eJ,if_neg h1',if_pos h2];rfl⟩
  have h2:¬ko b≠0:=by simpa using hc
  refine gK (gS (gS (gR ?_)));refine al Jv JM 2 ?_;refine aq JO 0 ?_;refine dM JG ?_;refine aw bd ?_;refine ah ?_
  refine eC 18 (fun hc=>?_) fun hc=>?_
  ·
   have h3:m=0:=by simp at hc;omega
   iterate 4 refine cD ?_
   refine cF ?_;refine gE (ab.bV rfl (gS (gR ?_)));refine ai ?_;refine gE ?_
   refine gT func52 fun w' hS=>?_
   exact ⟨hS.ext,by rw [eJ,if_neg h1',if_neg h2,if_pos (.inl h3)];rfl⟩
  have h3:¬m=0:=by simp at hc;omega
  refine al Jv JM 2 ?_;refine aq JO 0 ?_;refine dM JG ?_;refine aw vf ?_;refine bB ?_;refine gE ?_
  refine gC (fun hc=>?_) fun hc=>?_
  ·
   have h4:4096<m:=by simp at hc;omega
   refine gS (gR ?_);refine ai ?_;refine gE ?_
   refine gT func52 fun w' hS=>?_
   exact ⟨hS.ext,by rw [eJ,if_neg h1',if_neg h2,if_pos (.inr h4)];rfl⟩
  have h4:¬4096<m:=by simp at hc;omega
  refine gK (gS (gR ?_));refine ai ?_;refine gE ?_
  refine gT func52 fun w' hS=>?_
  exact ⟨hS.ext,by rw [eJ,if_neg h1',if_neg h2,if_neg (by omega)];rfl⟩
theorem DJ (b7:Nat) (_t:Tr) (x:FV) (q:Option Nat) (gs:List FV) (cap:Nat) (b:List NV) (i:Nat) (w:World) (hb:aX b) (hi:i<b.length) (hgs:gs.map FV.f=(List.range b.length).map (fun i=>bT (aa b i))) (ha:qM w (q.map (fun b=>⟨b,0,none⟩)) gs) (hfa:∀g∈gs,FA w g.a g.f) (h7:w.heap[b7]?=some (.cells #[x.v] 22 (0,0))) (hx:FA w x.a x.f) (hxf:x.f=bT (fg (aa b i))):
  Cn Tryz.prog 99 [cQ q gs.length cap,.func (.func 100) #[] #[.pointer (some ⟨b7,0,none⟩)]] w (fun v _=>v=.int .i64 (jC b i)):=by
 have hlen:gs.length=b.length:=by have:=congrArg List.length hgs;simpa using this
 refine Cn.mono (FD b7 x (q.map (fun b=>⟨b,0,none⟩)) cap gs w ha (by have:=hb.len;unfold maxLen;omega) hfa h7 hx (by rw [hxf];exact zL _)) (fun v w' _ h=>?_)
 obtain ⟨j,rfl,hj⟩:=h
 rw [Du hb hi hxf hgs hj]
set_option maxRecDepth 8000 in
theorem wC (l:Int) (A:Option Addr) (cA:Nat) (b:List NV) (B:Option Addr) (cB:Nat) (ss:List SV) (w:World) (hA:FA w A b) (hB:ue w B ss) (hl:b.length≤maxLen) (_hsl:ss.length≤maxLen):
    Cn Tryz.prog 53 [.agg (bL l A b.length cA B ss.length cB)] w (fun v _=>∃r:Int,v=.int .i64 r∧(0≤r↔eJ l b ss.length=0∧¬∀(k:Nat) (hk:k<ss.length),ey l b (ec ss) k ss[k].d)):=by
  obtain ⟨i2,hi2,hz2,hsz2,hby2⟩:=info_parts uQ
  refine Cn.of func53 rfl rfl ?_
  refine gS (gR ?_)
  refine ab.bx rfl rfl rfl rfl (fun b1=>?_)
  refine ai ?_;refine gE (gS (gS (gR ?_)))
  refine ab.v (ae.iA rfl rfl rfl rfl JS 0 rfl Jz rfl) ?_
  refine gP rfl rfl rfl rfl rfl call52 (fun w _ hS=>(by exact vx l A cA b B ss.length cB w (hA.ay hS.ext) hl)) ?_
  refine aw gJ ?_;refine gE ?_
  refine gC (fun hc=>?_) fun hc=>?_
  ·
   have h1:eJ l b ss.length≠0:=by simpa using hc
   refine gS (gR ?_);refine ai ?_;refine gE ?_
   refine gT func53 fun w' hS=>?_
   exact ⟨hS.ext,-1,rfl,⟨fun h=>absurd h (by decide),fun h=>absurd h.1 h1⟩⟩
  have h1:eJ l b ss.length=0:=by simpa using hc
  obtain ⟨hlo,hbe,hs0,hs4⟩:=mn.1 h1
  have hb:aX b:=by have:=mw.1 hbe;exact ⟨this.1,this.2.1,this.2.2⟩
  have hlen:=hb.len
  refine gK (gS (gR ?_))
  refine ab.v (ae.iA rfl rfl rfl rfl JS 0 rfl Jz rfl) ?_
  refine ab.v (ae.eN rfl rfl rfl rfl (bd116 (c:=[_,_,_,_]) rfl)) ?_
  refine ab.bx rfl rfl rfl rfl (fun b14=>?_)
  refine ai ?_;refine gE (gS (gR ?_));refine al Jv Js 1 ?_;refine aq Jx 1 ?_
  refine gM rfl rfl rfl rfl rfl call62 (fun w _ hS=>(by exact sV A cA b w (hA.ay hS.ext) hb)) ?_
  rintro v w1 w2 Y' hS he ⟨gs,⟨q,cap,sp,H,rfl,hq,ao,hnew,hin⟩,hgs⟩
  refine ⟨_,hS.fi (pre:=[_]) he hnew,?_⟩
  refine ai ?_;refine gE (gS (gS (gR ?_)));refine ah ?_;refine dM Jy ?_;refine ah ?_;refine gE (gB ?_)
  have hgl:gs.length=b.length:=by have:=congrArg List.length hgs;simpa using this
  have hpos:=(aA.1 hb.jD).pos
  obtain ⟨bq,rfl⟩:∃b,q=some b:=by
    cases q with
    |none=>have:=(hq rfl).1;omega
    |some b=>exact ⟨b,rfl⟩
  refine ab.cJ (ob bK 3 [] []) ?_
  refine ab.loop (σ:=Nat×Option Nat×Nat×List Value×Hl) (fun z=>[(1,.pointer (some ⟨b1,0,none⟩)),(3,.pointer (some ⟨b14,0,none⟩)),(4,cQ (some bq) gs.length cap),(18,cQ (some bq) gs.length cap),(19,.int .i64 gs.length),(20,.int .i64 z.1)])
    (fun z=>[(z.2.1,ob bK 3 ((dk b).take z.1) z.2.2.2.1),(some bq,ob FV.v 22 gs sp),(some b14,.cells (oR l A b.length cA B ss.length cB (z.2.1.map (fun b=>⟨b,0,none⟩)) z.1 z.2.2.1) 116 (0,0)),(some b1,.cells (bL l A b.length cA B ss.length cB) 25 (0,0))]++z.2.2.2.2)
    (fun z=>z.1≤b.length∧(z.2.1=none→z.1=0∧z.2.2.1=0)∧(((dk b).take z.1).map bK++z.2.2.2.1).length=z.2.2.1∧∀g∈gs,g.In 66 z.2.2.2.2)
    (fun z=>b.length - z.1) (0,none,0,[],H) ⟨Nat.zero_le _,fun _=>⟨rfl,rfl⟩,rfl,hin⟩ ⟨rfl,rfl,rfl,rfl,rfl,rfl,trivial⟩ (List.Sublist.refl _) (fun z hZ IH=>?_)
  obtain ⟨i,qo,co,spo,H1⟩:=z
  obtain ⟨hi,hqo,hco,hin1⟩:=hZ
  dsimp only at hi hqo hco hin1 IH⊢
  refine gS (gR ?_);refine aw iX ?_;refine gE (gS ?_)
  refine gC (fun hc=>?_) fun hc=>?_
  ·
   have hig:i<gs.length:=by simp at hc;omega
   have hib:i<b.length:=by omega
   have hfi:gs[i].f=bT (aa b i):=by
     have h1:(gs.map FV.f)[i]?=some gs[i].f:=by rw [List.getElem?_map,List.getElem?_eq_getElem hig];rfl
     rw [hgs,List.getElem?_map,List.getElem?_range hib] at h1
     exact (Option.some.inj h1).symm
   have hgi:gs.getD i FV.z=gs[i]:=by simp [List.getD_eq_getElem?_getD,hig]
   obtain ⟨x,hx⟩:∃x,x=gs[i]:=⟨_,rfl⟩
   have hxin:x∈gs:=by rw [hx];exact List.getElem_mem hig
   rw [←hx] at hfi hgi
   have htk:((dk b).take i).map bK++[bK (jC b i)]=((dk b).take (i+1)).map bK:=by
     have hin:i<(dk b).length:=by rw [kf];exact hib
     have h2:(dk b)[i]=jC b i:=by have:=rP hib;rwa [List.getD_eq_getElem?_getD,List.getElem?_eq_getElem hin] at this
     rw [List.take_succ_eq_append_getElem hin,List.map_append,h2];rfl
   have hil:((dk b).take i).length=i:=by rw [List.length_take,kf];omega
   refine gK (gS (gB (gS (gR ?_))))
   refine ab.v (ae.dX rfl rfl rfl rfl rfl Jy Js (i) ⟨rfl,hig⟩) ?_
   refine ab.v (ae.qH FV.v FV.z rfl rfl rfl rfl Jx 1 rfl hig) ?_
   refine ai ?_;refine gE (gS (gR ?_));refine ah ?_
   refine gM rfl rfl rfl rfl rfl call98 (fun w _ hS=>(by rw [hgi];exact C2 x (aa b i) w (((hin1 x hxin).mono (List.subset_append_right _ H1)).at hS) hfi (hb.ok hib))) ?_
   rintro v w1 w2 Y' hS he ho
   obtain ⟨q2,jV,oY,rfl,hq2,gO,hS'⟩:=ak hS he ho
   refine ⟨_,hS',?_⟩
   refine ab.eO rfl rfl rfl (fun _=>JF _) (fun b7=>?_)
   refine ab.st rfl rfl rfl rfl Js rfl 0 rfl rfl ?_
   refine gE ?_
   refine ab.sf 7 14 [(some b7,.cells #[cQ q2 (bT (fg (aa b i))).length jV] 22 (0,0)),(some bq,ob FV.v 22 gs sp),(some b14,.cells (oR l A b.length cA B ss.length cB (qo.map (fun b=>⟨b,0,none⟩)) i co) 116 (0,0)),(some b1,.cells (bL l A b.length cA B ss.length cB) 25 (0,0))] sL mixed rfl ?_
   iterate 2 refine lZ.v (ae.mv rfl rfl rfl rfl) ?_
   refine lZ.v (ae.ep rfl rfl rfl rfl) ?_
   refine lZ.v (ae.aG rfl rfl rfl rfl J7 rfl (by exact JY) 3 rfl) ?_
   refine lZ.v (ae.dw rfl rfl rfl rfl J1 2 rfl rfl) ?_
   refine lZ.v (ae.mv rfl rfl rfl rfl) ?_
   refine lZ.v (ae.uF rfl rfl rfl rfl rfl) ?_
   refine lZ.nil ?_
   refine Tl.one (d:=33) rfl ?_
   refine dq.call _ rfl rfl rfl rfl rfl (fun _ _=>call99 _ _) (fun w _ hS=>(by exact DJ b7 (aa b i) ⟨q2.map (fun b=>⟨b,0,none⟩),jV,bT (fg (aa b i))⟩ (some bq) gs cap b i w hb hib hgs (vu hS 3 rfl (fun e=>by cases e)) (fun g hg=>((hin1 g hg).mono (fun z hz=>by simp [hz])).at hS) (hS.get (j:=0) rfl) (aL hS 1 rfl (fun e=>(hq2 e).1)) rfl)) ?_
   rintro v w1 w2 Y' hS he rfl
   refine ⟨_,hS.later he,sL,?_⟩
   refine Tl.one (d:=34) rfl ?_
   refine dq.ew (c:=[_]) rfl rfl rfl rfl Jp Ji JE rfl rfl (fun b34=>⟨by repeat (first|exact List.Sublist.refl _|exact List.nil_sublist _|refine List.Sublist.cons_cons _ ?_|refine List.Sublist.cons _ ?_),?_⟩)
   refine Tl.one (d:=35) rfl ?_
   refine dq.app 1 (xs:=((dk b).take i).map bK) (sp:=spo) (nx:=i) (q:=qo) (news:=[bK (jC b i)]) (spn:=[]) rfl rfl rfl rfl rfl Jp hi2 hz2 hsz2 rfl hqo 3 rfl 0 rfl (by rw [List.length_map,hil,Nat.mul_one]) (by rw [hco,Nat.mul_one]) rfl (by decide) (fun u hu=>by rw [List.mem_singleton.1 hu];rfl) (by unfold maxLen;omega) (by rw [hby2];omega) (fun b' sp' cap' hlen'=>⟨sL,?_⟩)
   rw [htk] at hlen'⊢
   refine Tl.sw [10,11,12] rfl rfl ?_
   refine ku ?_;refine al J7 JY 3 ?_
   refine ab.st rfl rfl rfl rfl JY rfl 5 rfl rfl ?_
   refine gE (dO (gR ?_));refine db rfl rfl rfl rfl (cz (by omega)) ?_;refine ah ?_;refine gE ?_
   refine ab.aS (pre:=[_,_,_,_,_,_,_]) (pre':=[_,_,_,_]) H1 [3,4,5,6] (by decide) rfl ?_
   exact IH (i+1,some b',cap',sp',H1) _ _ ⟨hib,(fun e=>by cases e),by rw [hlen',Nat.mul_one],hin1⟩ (by dsimp only;omega) ⟨rfl,rfl,rfl,rfl,rfl,rfl,trivial⟩ (List.Sublist.refl _)
  have hge:¬i<gs.length:=by simp at hc;omega
  obtain rfl:i=b.length:=by omega
  have htn:(dk b).take b.length=dk b:=List.take_of_length_le (by rw [kf];exact Nat.le_refl _)
  rw [htn]
  rw [htn] at hco
  refine ab.exit rfl (gS (gS (gR ?_)))
  refine al Jv JM 2 ?_;refine aq JO 3 ?_;refine dM JG ?_;refine ah ?_;refine gE (gB ?_)
  refine ab.loop (σ:=Nat) (fun k=>[(1,.pointer (some ⟨b1,0,none⟩)),(3,.pointer (some ⟨b14,0,none⟩)),(41,.int .i64 ss.length),(42,.int .i64 k)])
    (fun _=>[(qo,ob bK 3 (dk b) spo),(some bq,ob FV.v 22 gs sp),(some b14,.cells (oR l A b.length cA B ss.length cB (qo.map (fun b=>⟨b,0,none⟩)) b.length co) 116 (0,0)),(some b1,.cells (bL l A b.length cA B ss.length cB) 25 (0,0))]++H1)
    (fun k=>k≤ss.length∧∀(j:Nat) (hj:j<ss.length),j<k→ey l b (ec ss) j ss[j].d) (fun k=>ss.length - k) 0 ⟨Nat.zero_le _,fun j _ h=>absurd h (Nat.not_lt_zero _)⟩ ⟨rfl,rfl,rfl,rfl,trivial⟩ (List.Sublist.refl _) (fun k hK IH=>?_)
  obtain ⟨hk,hpre⟩:=hK
  refine gS (gR ?_);refine aw iX ?_;refine gE (gS ?_)
  refine gC (fun hc=>?_) fun hc=>?_
  ·
   have hlt:k<ss.length:=by simpa using hc
   refine gK (gS (gB (gS (gR ?_))));refine ah ?_;refine ai ?_;refine gE (gS (gR ?_))
   iterate 2 refine ah ?_
   refine gM rfl rfl rfl rfl rfl call101 (fun w _ hS=>(by exact ur b14 l A cA b B cB ss (qo.map (fun b=>⟨b,0,none⟩)) co k w ⟨by rw [kf];exact hS.get (j:=2) rfl,hA.ay hS.ext,hB.ay hS.ext,E3 hS 0 rfl (fun e=>by rw [kf];exact (hqo e).1),hb⟩ hlt)) ?_
   rintro v w1 w2 Y' hS he ⟨r,rfl,hr⟩
   refine ⟨_,hS.later he,?_⟩
   refine eZ bG ?_;refine gE ?_
   refine gC (fun hc=>?_) fun hc=>?_
   ·
    have hrf:r=false:=by simpa using hc
    refine gS (gR ?_);refine ah ?_;refine ai ?_;refine gE ?_
    refine gT func53 fun w' hS=>?_
    exact ⟨hS.ext,k,rfl,⟨fun _=>⟨h1,fun hall=>by have:=hr.2 (hall k hlt);rw [hrf] at this;cases this⟩,fun _=>by omega⟩⟩
   have hrt:r=true:=by simpa using hc
   refine gK (dO (gR ?_));refine db rfl rfl rfl rfl (cz (by omega)) ?_;refine ah ?_;refine gE ?_
   refine IH (k+1) _ _ ⟨hlt,fun j hj hjk=>?_⟩ (by omega) ⟨rfl,rfl,rfl,rfl,trivial⟩ (List.Sublist.refl _)
   by_cases e:j=k
   · subst e;exact hr.1 hrt
   exact hpre j hj (by omega)
  have hge2:¬k<ss.length:=by simpa using hc
  refine ab.exit rfl (gS (gR ?_))
  refine ai ?_;refine gE ?_
  refine gT func53 fun w' hS=>?_
  exact ⟨hS.ext,-1,rfl,⟨fun h=>absurd h (by decide),fun h=>absurd (fun j hj=>hpre j hj (by omega)) h.2⟩⟩
end Go.Proofs.YtnfmegcknckahaaGreatDoor
namespace Go.Proofs.YtnfmegcknckahaaGreatDoor
open Go.RowKit Go.Proofs.Wit Tryz
theorem vX {l:Int} {b:List NV} {ss:List SV}:(∀(k:Nat) (hk:k<(ec ss).length),ey l b (ec ss) k (ec ss)[k])↔∀(k:Nat) (hk:k<ss.length),ey l b (ec ss) k ss[k].d:=by
 constructor
 ·intro h k hk
  have:=h k (by rw [cW];exact hk)
  rwa [kI hk] at this
 intro h k hk
 rw [cW] at hk
 rw [kI hk];exact h k hk
theorem E9 {l:Int} {b:List NV} {ss:List SV} (h:eJ l b ss.length≠0):nH l b (ec ss)=eJ l b ss.length:=by
 have e:eJ l b (ec ss).length=eJ l b ss.length:=by rw [cW]
 unfold nH
 rw [if_pos (by rw [e];exact h),e]
theorem E8 {l:Int} {b:List NV} {ss:List SV} (h:¬eJ l b ss.length≠0) (h2:∀(k:Nat) (hk:k<ss.length),ey l b (ec ss) k ss[k].d):nH l b (ec ss)=0:=by
 have e:eJ l b (ec ss).length=eJ l b ss.length:=by rw [cW]
 unfold nH
 rw [if_neg (by rw [e];exact h),if_pos (vX.2 h2)]
theorem E7 {l:Int} {b:List NV} {ss:List SV} (h:¬eJ l b ss.length≠0) (h2:¬∀(k:Nat) (hk:k<ss.length),ey l b (ec ss) k ss[k].d):nH l b (ec ss)=13:=by
 have e:eJ l b (ec ss).length=eJ l b ss.length:=by rw [cW]
 unfold nH
 rw [if_neg (by rw [e];exact h),if_neg (fun g=>h2 (vX.1 g))]
theorem nP (l:Int) (A:Option Addr) (cA:Nat) (b:List NV) (B:Option Addr) (cB:Nat) (ss:List SV) (w:World) (hA:FA w A b) (hB:ue w B ss) (hl:b.length≤maxLen) (hsl:ss.length≤maxLen):
    Cn Tryz.prog 22 [.agg (bL l A b.length cA B ss.length cB)] w (fun v _=>v=.int .i64 (nH l b (ec ss))):=by
  refine Cn.of func22 rfl rfl ?_
  refine gS (gR ?_)
  refine ab.bx rfl rfl rfl rfl (fun b1=>?_)
  refine ai ?_;refine gE (gS (gS (gR ?_)))
  refine ab.v (ae.iA rfl rfl rfl rfl JS 0 rfl Jz rfl) ?_
  refine gP rfl rfl rfl rfl rfl call52 (fun w _ hS=>(by exact vx l A cA b B ss.length cB w (hA.ay hS.ext) hl)) ?_
  refine ai ?_;refine gE (gS (gR ?_));refine ah ?_;refine aw gJ ?_;refine gE ?_
  refine gC (fun hc=>?_) fun hc=>?_
  ·
   have h1:eJ l b ss.length≠0:=by simpa using hc
   refine gS (gR ?_);refine ah ?_;refine ai ?_;refine gE ?_
   refine gT func22 fun w' hS=>?_
   exact ⟨hS.ext,by rw [E9 h1];rfl⟩
  have h1:¬eJ l b ss.length≠0:=by simpa using hc
  refine gK (gS (gS (gR ?_)))
  refine ab.v (ae.iA rfl rfl rfl rfl JS 0 rfl Jz rfl) ?_
  refine gM rfl rfl rfl rfl rfl call53 (fun w _ hS=>(by exact wC l A cA b B cB ss w (hA.ay hS.ext) (hB.ay hS.ext) hl hsl)) ?_
  rintro v w1 w2 Y' hS he ⟨r,rfl,hr⟩
  refine ⟨_,hS.later he,?_⟩
  refine aw oT ?_;refine gE ?_
  refine gC (fun hc=>?_) fun hc=>?_
  ·
   have h2:0≤r:=by simpa using hc
   refine gS (gR ?_);refine ai ?_;refine gE ?_
   refine gT func22 fun w' hS=>?_
   exact ⟨hS.ext,by rw [E7 h1 (hr.1 h2).2];rfl⟩
  have h2:¬0≤r:=by simpa using hc
  have h3:∀(k:Nat) (hk:k<ss.length),ey l b (ec ss) k ss[k].d:=Classical.byContradiction fun h=>h2 (hr.2 ⟨Classical.byContradiction fun e=>h1 e,h⟩)
  refine gK (gS (gR ?_));refine ai ?_;refine gE ?_
  refine gT func22 fun w' hS=>?_
  exact ⟨hS.ext,by rw [E8 h1 h3];rfl⟩
end Go.Proofs.YtnfmegcknckahaaGreatDoor
namespace Go.Proofs.YtnfmegcknckahaaGreatDoor
open Go.RowKit Go.Proofs.Wit Tryz
theorem gU (i:Int) (w:World) (hi:0≤i):Cn Tryz.prog 111 [.int .i64 i] w (fun v _=>v=U (bW i)):=by
 refine Cn.of func111 rfl rfl ?_
 refine gS (gR ?_)
 refine ab.v (ae.fD (v:=U 0#64) rfl rfl rfl rfl) ?_
 refine gE (gS (gR ?_));refine ah ?_
 refine ab.v (ae.bin (a:=U 1#64) rfl rfl rfl rfl (lY i.toNat (by omega)) rfl) ?_
 refine ai ?_;refine gE ?_
 refine gT func111 fun w' hS=>?_
 exact ⟨hS.ext,rfl⟩
def eR (s:aB) (k:Nat):List Nat:=(List.range k).filter (fun i=>s.getLsbD i)
theorem jk {s:aB} {k:Nat}:eR s (k+1)=eR s k++(if s.getLsbD k=true then [k] else []):=by
 unfold eR
 rw [List.range_succ,List.filter_append]
 by_cases h:s.getLsbD k=true<;>simp [h]
theorem jd {s:aB} {k:Nat}:(eR s k).length≤k:=by
 have:=List.length_filter_le (fun i=>s.getLsbD i) (List.range k)
 simpa [eR] using this
theorem kY (s:aB) (w:World):Cn Tryz.prog 85 [U s] w (fun v w'=>nE bK 3 w w' v (iL (dG s))):=by
  obtain ⟨i2,hi2,hz2,hsz2,hby2⟩:=info_parts uQ
  refine Cn.of func85 rfl rfl ?_
  refine gS (gR ?_);refine ai ?_;refine gE (gS (gR ?_));refine ai ?_;refine gE (gS (gS (gR ?_)));refine ah ?_;refine gE (gB ?_)
  refine ab.cJ (ob bK 3 [] []) ?_
  refine ab.loop (σ:=Nat×Option Nat×Nat×List Value×Hl) (fun z=>[(0,U s),(3,cQ z.2.1 (iL (eR s z.1)).length z.2.2.1),(5,.int .i64 z.1)])
    (fun z=>[(z.2.1,ob bK 3 (iL (eR s z.1)) z.2.2.2.1)]++z.2.2.2.2)
    (fun z=>z.1≤64∧(z.2.1=none→(iL (eR s z.1)).length=0∧z.2.2.1=0)∧((iL (eR s z.1)).map bK++z.2.2.2.1).length=z.2.2.1)
    (fun z=>64 - z.1) (0,none,0,[],[]) ⟨Nat.zero_le _,fun _=>⟨rfl,rfl⟩,rfl⟩ ⟨rfl,rfl,rfl,trivial⟩ (List.Sublist.refl _) (fun z hZ IH=>?_)
  obtain ⟨k,q,cap,sp,H⟩:=z
  obtain ⟨hk,hq,ao⟩:=hZ
  dsimp only at hk hq ao IH⊢
  have hln:=@jd s k
  have hil:=@iJ (eR s k)
  refine gS (gR ?_);refine aw iX ?_;refine gE (gS ?_)
  refine gC (fun hc=>?_) fun hc=>?_
  ·
   have hlt:k<64:=by simp at hc;omega
   refine gK (gS (gB (gS (gR ?_))));refine ah ?_;refine ai ?_;refine gE (gS (gR ?_))
   iterate 2 refine ah ?_
   refine db rfl rfl rfl rfl (B1 k rfl) ?_
   refine ab.v (ae.bin (b:=U 1#64) rfl rfl rfl rfl Ef rfl) ?_
   refine ab.v (ae.bin (b:=U 1#64) rfl rfl rfl rfl xk rfl) ?_
   refine gE ?_
   refine gC (fun hc=>?_) fun hc=>?_
   ·
    have hb:s.getLsbD k=true:=by rw [←rW];exact hc
    have hsn:eR s (k+1)=eR s k++[k]:=by rw [jk,if_pos hb]
    have hsi:iL (eR s (k+1))=iL (eR s k)++[(k:Int)]:=by rw [hsn];simp [iL]
    refine gR ?_
    iterate 2 refine ah ?_
    refine ab.ew (c:=[_]) rfl rfl rfl rfl Jp Ji JE rfl rfl (fun b15=>?_)
    refine ab.nC bK (news:=[(k:Int)]) (spn:=[]) (xs:=iL (eR s k)) (sp:=sp) (q:=q) rfl rfl rfl rfl rfl Jp hi2 hz2 hsz2 rfl hq 1 rfl 0 rfl ao rfl (by decide) (fun _=>rfl) (by unfold maxLen;omega) (by rw [hby2];omega) (fun b' sp' cap' hlen=>?_)
    refine ai ?_;refine gE (dO (gR ?_));refine db rfl rfl rfl rfl (cz (by omega)) ?_;refine ah ?_;refine gE ?_
    refine ab.aS (pre:=[_,_]) (pre':=[_]) H [1] (by decide) rfl ?_
    rw [←hsi] at hlen⊢
    exact IH (k+1,some b',cap',sp',H) _ _ ⟨hlt,(fun e=>by cases e),hlen⟩ (by dsimp only;omega) ⟨rfl,by dsimp only;rw [hsi,List.length_append];rfl,rfl,trivial⟩ (List.Sublist.refl _)
   have hb:¬s.getLsbD k=true:=by rw [←rW,show (s>>>k &&& 1#64==1#64)=false from hc];decide
   have hsn:eR s (k+1)=eR s k:=by rw [jk,if_neg hb,List.append_nil]
   refine gK (dO (gR ?_));refine db rfl rfl rfl rfl (cz (by omega)) ?_;refine ah ?_;refine gE ?_
   exact IH (k+1,q,cap,sp,H) _ _ ⟨hlt,by dsimp only;rw [hsn];exact hq,by dsimp only;rw [hsn];exact ao⟩ (by dsimp only;omega) ⟨rfl,by dsimp only;rw [hsn];rfl,rfl,trivial⟩ (by dsimp only;rw [hsn];exact List.Sublist.refl _)
  have hge:¬k<64:=by simp at hc;omega
  obtain rfl:k=64:=by omega
  refine ab.exit rfl (gS (gR ?_))
  refine ah ?_;refine ai ?_;refine gE ?_
  refine gT func85 fun w' hS=>?_
  exact ⟨hS.ext,nE.mk hS 0 rfl rfl hq ao⟩
end Go.Proofs.YtnfmegcknckahaaGreatDoor
