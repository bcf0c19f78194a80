/- What calls of the program return, under the conditions that each theorem states. -/
import Derived.Test.YtnfmegcknckahaaGreatDoorXA18
import Derived.Test.YtnfmegcknckahaaGreatDoorXA15
import Derived.Test.YtnfmegcknckahaaGreatDoorXA27
import Derived.Test.YtnfmegcknckahaaGreatDoorXA03
import Derived.Test.YtnfmegcknckahaaGreatDoorXA04
namespace Go.Proofs.YtnfmegcknckahaaGreatDoor
open Go.RowKit Go.Proofs.Wit Tryz
abbrev GV (bk:Nat):Value:=.pointer (some ⟨bk,0,none⟩)
abbrev z7 (c:List NV) (na:Option Addr) (nc bk m0 m1:Nat) (w:World) (L0 L1:Nm):Prop:=mz 66 89 c na nc bk m0 m1 w L0 L1
def Cb (c:List NV) (na:Option Addr) (nc bk m0 m1 i:Nat):Prop:=∀(no:Bool) (w:World) (L0 L1:Nm),z7 c na nc bk m0 m1 w L0 L1→qC Tryz.prog 57 [GV bk,.int .i64 i,.bool no] w (jZ m0 L0 m1 L1) (jz 66 c m0 m1 (i+1) (pn no (aN (aa c i))) L0 L1)
def Er (c:List NV) (na:Option Addr) (nc bk m0 m1 i:Nat) (hi:i<c.length):Prop:=∀(w:World) (L0 L1:Nm),z7 c na nc bk m0 m1 w L0 L1→qC Tryz.prog 104 [GV bk,c[i].v] w (jZ m0 L0 m1 L1) (jz 66 c m0 m1 i (aN (aa c i)).1 L0 L1)
def Gp (c:List NV) (na:Option Addr) (nc bk m0 m1 i:Nat) (hi:i<c.length):Prop:=∀(w:World) (L0 L1:Nm),z7 c na nc bk m0 m1 w L0 L1→qC Tryz.prog 103 [GV bk,c[i].v] w (jZ m0 L0 m1 L1) (jz 66 c m0 m1 i (aN (aa c i)).2 L0 L1)
set_option maxRecDepth 8000 in
theorem Fe {c:List NV} {na:Option Addr} {nc bk m0 m1 i:Nat} (hi:i<c.length) (hO:aZ c) (hOf:∀j,j<i→Cb c na nc bk m0 m1 j):Er c na nc bk m0 m1 i hi:=by
  intro w L0 L1 hp
  have hok:=hO i hi
  have hop:=hok.op
  have hfl:=hok.kU
  have hF:=gz hfl
  have hK:=dE hi hO
  have hch:∀k:Nat,k<i→(aN (aa c k)).1.ok∧(aN (aa c k)).2.ok:=fun k hk=>lq (hO.tree k (by omega))
  have g0:cS 66 c i L0 L1 L0 L1 []:=cS.refl hp.kE
  refine qC.of hp.has func104 rfl rfl ?_
  rw [show cM (jZ m0 L0 m1 L1)=[m0,m1] from rfl]
  refine ab.dN (h':=jZ m0 L0 m1 L1++[]) (List.Sublist.refl _) ?_
  refine gS (gR ?_)
  refine ab.bx rfl rfl rfl rfl (fun b3=>?_)
  refine ai ?_;refine gE (gS (gS (gR ?_)));refine al Jk Ji 0 ?_;refine aq Jj 0 ?_;refine gE (gB (gS (gR ?_)));refine aw bd ?_;refine ai ?_;refine gE ?_
  refine gC (fun hc=>?_) fun hc=>?_
  ·
   have ho:c[i].op=4:=by simpa using hc
   have hX:cG c[i].op=true:=by rw [ho];rfl
   have hY:ct c[i].op=false:=by rw [ho];rfl
   have hT:aa c i=.un c[i].op c[i].i c[i].e c[i].g (aa c c[i].x.toNat):=by
     rcases hK with ⟨h1,_⟩|⟨_,_,h1⟩|⟨h1,_⟩
     · rw [hX] at h1;cases h1
     · exact h1
     rw [hY] at h1;cases h1
   have hrx:=hok.x hX
   obtain ⟨kx,hkx⟩:∃k:Nat,c[i].x=(k:Int):=⟨c[i].x.toNat,by omega⟩
   have htx:c[i].x.toNat=kx:=by omega
   rw [htx,ho] at hT
   refine gS (gR ?_);refine ah ?_;refine al Jk Ji 4 ?_;refine aq Jj 0 ?_
   refine ab.eA (D':=kx+1) (u:=(aN (aa c kx)).2) hp g0 (by omega) rfl rfl rfl rfl rfl (fun _ _=>JW _ _) (fun w L0 L1 h=>by have:=hOf kx (by omega) true w L0 L1 h;rw [nQ,←hkx] at this;exact this) (fun fv1 La1 Lb1 F1 g1 hs1 hf1 hh1=>?_)
   have ho1:(aN (aa c kx)).2.ok:=(hch kx (by omega)).2
   refine ai ?_;refine gE ?_
   refine gT func104 fun w' hS=>?_
   refine kR g1 ?_ hh1 hS
   rw [hf1,hT];rfl
  have n4:¬c[i].op=4:=by simpa using hc
  refine gS (gR ?_);refine aw bd ?_;refine ai ?_;refine gE ?_
  refine gC (fun hc=>?_) fun hc=>?_
  ·
   have ho:c[i].op=7:=by simpa using hc
   have hY:ct c[i].op=true:=by rw [ho];rfl
   have hX:=ez hY
   have hT:aa c i=.bin c[i].op c[i].i c[i].e c[i].g (aa c c[i].x.toNat) (aa c c[i].y.toNat):=by
     rcases hK with ⟨h1,_⟩|⟨_,h1,_⟩|⟨_,h1⟩
     · rw [hX] at h1;cases h1
     · rw [hY] at h1;cases h1
     exact h1
   have hrx:=hok.x hX
   obtain ⟨kx,hkx⟩:∃k:Nat,c[i].x=(k:Int):=⟨c[i].x.toNat,by omega⟩
   have htx:c[i].x.toNat=kx:=by omega
   have hry:=hok.y hY
   obtain ⟨ky,hky⟩:∃k:Nat,c[i].y=(k:Int):=⟨c[i].y.toNat,by omega⟩
   have hty:c[i].y.toNat=ky:=by omega
   rw [htx,hty,ho] at hT
   refine gS ?_
   refine ab.nY [0,1,2,4,5,6] 3 [7,8,9] mixed rfl ?_
   refine dA.v (fun _=>(ae.mv rfl rfl rfl rfl)) ?_
   refine dA.v (fun _=>(ae.aG rfl rfl rfl rfl Jk rfl (by exact Ji) 4 rfl)) ?_
   refine dA.v (fun _=>(ae.dw rfl rfl rfl rfl Jj 0 rfl rfl)) ?_
   refine dA.v (fun _=>(ae.mv rfl rfl rfl rfl)) ?_
   refine dA.v (fun _=>(ae.aG rfl rfl rfl rfl Jk rfl (by exact Ji) 5 rfl)) ?_
   refine dA.v (fun _=>(ae.dw rfl rfl rfl rfl Jj 0 rfl rfl)) ?_
   refine dA.eA (D':=kx+1) (u:=(aN (aa c kx)).2) hp g0 (by omega) rfl rfl rfl rfl rfl (fun _ _=>JW _ _) (fun w L0 L1 h=>by have:=hOf kx (by omega) true w L0 L1 h;rw [nQ,←hkx] at this;exact this) (fun fv1 La1 Lb1 F1 g1 hs1 hf1 hh1=>?_)
   have ho1:(aN (aa c kx)).2.ok:=(hch kx (by omega)).2
   refine ab.eA (D':=ky+1) (u:=(aN (aa c ky)).1) hp g1 (by omega) rfl rfl rfl rfl rfl (fun _ _=>JW _ _) (fun w L0 L1 h=>by have:=hOf ky (by omega) false w L0 L1 h;rw [qE,←hky] at this;exact this) (fun fv2 La2 Lb2 F2 g2 hs2 hf2 hh2=>?_)
   replace hh1:=hs2 _ hh1
   have ho2:(aN (aa c ky)).1.ok:=(hch ky (by omega)).1
   refine ab.rQ (u:=.bin 6 0 0 0 (aN (aa c kx)).2 (aN (aa c ky)).1) g2 rfl rfl rfl rfl rfl (fun _ _=>call28 _ _) (fun w _ hS=>?_) (fun fv3 F3 g3 hs3 hf3 hh3=>?_)
   · have:=wJ fv1.a fv1.c fv1.f fv2.a fv2.c fv2.f w (hh1.fa hp g2 hS.ext hS (fun _ h=>List.mem_cons_of_mem _ (List.mem_append_right _ h))) (aD hf1) (hh2.fa hp g2 hS.ext hS (fun _ h=>List.mem_cons_of_mem _ (List.mem_append_right _ h))) (aD hf2)
     rw [show aR ⟨6,0,0,0,0,0⟩ [fv1.f,fv2.f]=bT (.bin 6 0 0 0 (aN (aa c kx)).2 (aN (aa c ky)).1) from by rw [hf1,hf2];exact dz ho1 ho2 (by decide) rfl rfl] at this;exact this
   replace hh1:=hs3 _ hh1
   replace hh2:=hs3 _ hh2
   have ho3:(Tr.bin 6 0 0 0 (aN (aa c kx)).2 (aN (aa c ky)).1).ok:=jI ho1 ho2
   refine ai ?_;refine gE ?_
   refine gT func104 fun w' hS=>?_
   refine kR g3 ?_ hh3 hS
   rw [hf3,hT];rfl
  have n7:¬c[i].op=7:=by simpa using hc
  refine gS (gR ?_);refine aw bd ?_;refine ai ?_;refine gE ?_
  refine gC (fun hc=>?_) fun hc=>?_
  ·
   have ho:c[i].op=8:=by simpa using hc
   have hY:ct c[i].op=true:=by rw [ho];rfl
   have hX:=ez hY
   have hT:aa c i=.bin c[i].op c[i].i c[i].e c[i].g (aa c c[i].x.toNat) (aa c c[i].y.toNat):=by
     rcases hK with ⟨h1,_⟩|⟨_,h1,_⟩|⟨_,h1⟩
     · rw [hX] at h1;cases h1
     · rw [hY] at h1;cases h1
     exact h1
   have hrx:=hok.x hX
   obtain ⟨kx,hkx⟩:∃k:Nat,c[i].x=(k:Int):=⟨c[i].x.toNat,by omega⟩
   have htx:c[i].x.toNat=kx:=by omega
   have hry:=hok.y hY
   obtain ⟨ky,hky⟩:∃k:Nat,c[i].y=(k:Int):=⟨c[i].y.toNat,by omega⟩
   have hty:c[i].y.toNat=ky:=by omega
   rw [htx,hty,ho] at hT
   refine gS ?_
   refine ab.zp 21 mixed ?_
   refine cV 0 (ae.mv rfl rfl rfl rfl) ?_
   refine cV 1 (ae.aG rfl rfl rfl rfl Jk rfl (by exact Ji) 4 rfl) ?_
   refine cV 2 (ae.dw rfl rfl rfl rfl Jj 0 rfl rfl) ?_
   refine cV 4 (ae.mv rfl rfl rfl rfl) ?_
   refine cV 5 (ae.aG rfl rfl rfl rfl Jk rfl (by exact Ji) 5 rfl) ?_
   refine cV 6 (ae.dw rfl rfl rfl rfl Jj 0 rfl rfl) ?_
   refine cV 9 (ae.mv rfl rfl rfl rfl) ?_
   refine cV 10 (ae.aG rfl rfl rfl rfl Jk rfl (by exact Ji) 4 rfl) ?_
   refine cV 11 (ae.dw rfl rfl rfl rfl Jj 0 rfl rfl) ?_
   refine cV 13 (ae.mv rfl rfl rfl rfl) ?_
   refine cV 14 (ae.aG rfl rfl rfl rfl Jk rfl (by exact Ji) 5 rfl) ?_
   refine cV 15 (ae.dw rfl rfl rfl rfl Jj 0 rfl rfl) ?_
   refine aF.eA (i:=3) (D':=kx+1) (u:=(aN (aa c kx)).2) hp g0 (by omega) rfl rfl rfl rfl rfl rfl (fun _ _=>JW _ _) (fun w L0 L1 h=>by have:=hOf kx (by omega) true w L0 L1 h;rw [nQ,←hkx] at this;exact this) (fun fv1 La1 Lb1 F1 g1 hs1 hf1 hh1=>?_)
   have ho1:(aN (aa c kx)).2.ok:=(hch kx (by omega)).2
   refine aF.eA (i:=7) (D':=ky+1) (u:=(aN (aa c ky)).1) hp g1 (by omega) rfl rfl rfl rfl rfl rfl (fun _ _=>JW _ _) (fun w L0 L1 h=>by have:=hOf ky (by omega) false w L0 L1 h;rw [qE,←hky] at this;exact this) (fun fv2 La2 Lb2 F2 g2 hs2 hf2 hh2=>?_)
   replace hh1:=hs2 _ hh1
   have ho2:(aN (aa c ky)).1.ok:=(hch ky (by omega)).1
   refine aF.rQ (i:=8) (u:=.bin 6 0 0 0 (aN (aa c kx)).2 (aN (aa c ky)).1) g2 rfl rfl rfl rfl rfl rfl (fun _ _=>call28 _ _) (fun w _ hS=>?_) (fun fv3 F3 g3 hs3 hf3 hh3=>?_)
   · have:=wJ fv1.a fv1.c fv1.f fv2.a fv2.c fv2.f w (hh1.fa hp g2 hS.ext hS (fun _ h=>List.mem_cons_of_mem _ (List.mem_append_right _ h))) (aD hf1) (hh2.fa hp g2 hS.ext hS (fun _ h=>List.mem_cons_of_mem _ (List.mem_append_right _ h))) (aD hf2)
     rw [show aR ⟨6,0,0,0,0,0⟩ [fv1.f,fv2.f]=bT (.bin 6 0 0 0 (aN (aa c kx)).2 (aN (aa c ky)).1) from by rw [hf1,hf2];exact dz ho1 ho2 (by decide) rfl rfl] at this;exact this
   replace hh1:=hs3 _ hh1
   replace hh2:=hs3 _ hh2
   have ho3:(Tr.bin 6 0 0 0 (aN (aa c kx)).2 (aN (aa c ky)).1).ok:=jI ho1 ho2
   refine aF.eA (i:=12) (D':=kx+1) (u:=(aN (aa c kx)).1) hp g3 (by omega) rfl rfl rfl rfl rfl rfl (fun _ _=>JW _ _) (fun w L0 L1 h=>by have:=hOf kx (by omega) false w L0 L1 h;rw [qE,←hkx] at this;exact this) (fun fv4 La4 Lb4 F4 g4 hs4 hf4 hh4=>?_)
   replace hh1:=hs4 _ hh1
   replace hh2:=hs4 _ hh2
   replace hh3:=hs4 _ hh3
   have ho4:(aN (aa c kx)).1.ok:=(hch kx (by omega)).1
   refine aF.eA (i:=16) (D':=ky+1) (u:=(aN (aa c ky)).2) hp g4 (by omega) rfl rfl rfl rfl rfl rfl (fun _ _=>JW _ _) (fun w L0 L1 h=>by have:=hOf ky (by omega) true w L0 L1 h;rw [nQ,←hky] at this;exact this) (fun fv5 La5 Lb5 F5 g5 hs5 hf5 hh5=>?_)
   replace hh1:=hs5 _ hh1
   replace hh2:=hs5 _ hh2
   replace hh3:=hs5 _ hh3
   replace hh4:=hs5 _ hh4
   have ho5:(aN (aa c ky)).2.ok:=(hch ky (by omega)).2
   refine aF.rQ (i:=17) (u:=.bin 6 0 0 0 (aN (aa c kx)).1 (aN (aa c ky)).2) g5 rfl rfl rfl rfl rfl rfl (fun _ _=>call28 _ _) (fun w _ hS=>?_) (fun fv6 F6 g6 hs6 hf6 hh6=>?_)
   · have:=wJ fv4.a fv4.c fv4.f fv5.a fv5.c fv5.f w (hh4.fa hp g5 hS.ext hS (fun _ h=>List.mem_cons_of_mem _ (List.mem_append_right _ h))) (aD hf4) (hh5.fa hp g5 hS.ext hS (fun _ h=>List.mem_cons_of_mem _ (List.mem_append_right _ h))) (aD hf5)
     rw [show aR ⟨6,0,0,0,0,0⟩ [fv4.f,fv5.f]=bT (.bin 6 0 0 0 (aN (aa c kx)).1 (aN (aa c ky)).2) from by rw [hf4,hf5];exact dz ho4 ho5 (by decide) rfl rfl] at this;exact this
   replace hh1:=hs6 _ hh1
   replace hh2:=hs6 _ hh2
   replace hh3:=hs6 _ hh3
   replace hh4:=hs6 _ hh4
   replace hh5:=hs6 _ hh5
   have ho6:(Tr.bin 6 0 0 0 (aN (aa c kx)).1 (aN (aa c ky)).2).ok:=jI ho4 ho5
   refine aF.rQ (i:=18) (u:=.bin 5 0 0 0 (.bin 6 0 0 0 (aN (aa c kx)).2 (aN (aa c ky)).1) (.bin 6 0 0 0 (aN (aa c kx)).1 (aN (aa c ky)).2)) g6 rfl rfl rfl rfl rfl rfl (fun _ _=>call27 _ _) (fun w _ hS=>?_) (fun fv7 F7 g7 hs7 hf7 hh7=>?_)
   · have:=oG fv3.a fv3.c fv3.f fv6.a fv6.c fv6.f w (hh3.fa hp g6 hS.ext hS (fun _ h=>List.mem_cons_of_mem _ (List.mem_append_right _ h))) (aD hf3) (hh6.fa hp g6 hS.ext hS (fun _ h=>List.mem_cons_of_mem _ (List.mem_append_right _ h))) (aD hf6)
     rw [show aR ⟨5,0,0,0,0,0⟩ [fv3.f,fv6.f]=bT (.bin 5 0 0 0 (.bin 6 0 0 0 (aN (aa c kx)).2 (aN (aa c ky)).1) (.bin 6 0 0 0 (aN (aa c kx)).1 (aN (aa c ky)).2)) from by rw [hf3,hf6];exact dz ho3 ho6 (by decide) rfl rfl] at this;exact this
   replace hh1:=hs7 _ hh1
   replace hh2:=hs7 _ hh2
   replace hh3:=hs7 _ hh3
   replace hh4:=hs7 _ hh4
   replace hh5:=hs7 _ hh5
   replace hh6:=hs7 _ hh6
   have ho7:(Tr.bin 5 0 0 0 (.bin 6 0 0 0 (aN (aa c kx)).2 (aN (aa c ky)).1) (.bin 6 0 0 0 (aN (aa c kx)).1 (aN (aa c ky)).2)).ok:=jw ho3 ho6
   refine cV 19 (ae.fD rfl rfl rfl rfl) ?_
   refine aF.done rfl ?_
   refine gE ?_
   refine gT func104 fun w' hS=>?_
   refine kR g7 ?_ hh7 hS
   rw [hf7,hT];rfl
  have n8:¬c[i].op=8:=by simpa using hc
  refine gK (dO (gS (gR ?_)))
  iterate 2 refine ai ?_
  refine gE (gS (gS (gR ?_)));refine al Jk Ji 0 ?_;refine aq Jj 0 ?_;refine aw oT ?_;refine gE ?_
  refine gC (fun hc=>?_) fun hc=>?_
  ·
   have hX:cG c[i].op=true:=by rw [vj hop];simpa using hc
   have hrx:=hok.x hX
   obtain ⟨kx,hkx⟩:∃k:Nat,c[i].x=(k:Int):=⟨c[i].x.toNat,by omega⟩
   have htx:c[i].x.toNat=kx:=by omega
   refine gR ?_;refine ah ?_;refine al Jk Ji 4 ?_;refine aq Jj 0 ?_
   refine ab.eA (D':=kx+1) (u:=(aN (aa c kx)).1) hp g0 (by omega) rfl rfl rfl rfl rfl (fun _ _=>JW _ _) (fun w L0 L1 h=>by have:=hOf kx (by omega) false w L0 L1 h;rw [qE,←hkx] at this;exact this) (fun fv1 La1 Lb1 F1 g1 hs1 hf1 hh1=>?_)
   have ho1:(aN (aa c kx)).1.ok:=(hch kx (by omega)).1
   refine ai ?_;refine gE (gS (gS (gR ?_)));refine al Jk Ji 0 ?_;refine aq Jj 0 ?_
   refine gP rfl rfl rfl rfl rfl call151 (fun w _ hS=>(by exact tW c[i].op w hop)) ?_
   refine gE ?_
   refine gC (fun hc=>?_) fun hc=>?_
   ·
    have hY:ct c[i].op=true:=hc
    have hT:aa c i=.bin c[i].op c[i].i c[i].e c[i].g (aa c c[i].x.toNat) (aa c c[i].y.toNat):=by
      rcases hK with ⟨h1,_⟩|⟨_,h1,_⟩|⟨_,h1⟩
      · rw [hX] at h1;cases h1
      · rw [hY] at h1;cases h1
      exact h1
    have hry:=hok.y hY
    obtain ⟨ky,hky⟩:∃k:Nat,c[i].y=(k:Int):=⟨c[i].y.toNat,by omega⟩
    have hty:c[i].y.toNat=ky:=by omega
    rw [htx,hty] at hT
    refine gR ?_;refine ah ?_;refine al Jk Ji 5 ?_;refine aq Jj 0 ?_
    refine ab.eA (D':=ky+1) (u:=(aN (aa c ky)).1) hp g1 (by omega) rfl rfl rfl rfl rfl (fun _ _=>JW _ _) (fun w L0 L1 h=>by have:=hOf ky (by omega) false w L0 L1 h;rw [qE,←hky] at this;exact this) (fun fv2 La2 Lb2 F2 g2 hs2 hf2 hh2=>?_)
    replace hh1:=hs2 _ hh1
    have ho2:(aN (aa c ky)).1.ok:=(hch ky (by omega)).1
    refine ai ?_;refine gE (gS (gR ?_))
    refine ab.v (ae.iA rfl rfl rfl rfl JD 0 rfl Jm rfl) ?_
    iterate 2 refine ah ?_
    refine ab.rQ (u:=j5 c[i].op c[i].i c[i].e c[i].g (aN (aa c kx)).1 (aN (aa c ky)).1) g2 rfl rfl rfl rfl rfl (fun _ _=>call152 _ _) (fun w _ hS=>?_) (fun fv3 F3 g3 hs3 hf3 hh3=>?_)
    · exact pD c[i] fv1 fv2 (aN (aa c kx)).1 (aN (aa c ky)).1 w hop hfl (fun _=>⟨(hh1.fa hp g2 hS.ext hS (fun _ h=>List.mem_cons_of_mem _ (List.mem_append_right _ h))),hf1,ho1⟩) (fun _=>⟨(hh2.fa hp g2 hS.ext hS (fun _ h=>List.mem_cons_of_mem _ (List.mem_append_right _ h))),hf2,ho2⟩)
    replace hh1:=hs3 _ hh1
    replace hh2:=hs3 _ hh2
    refine ai ?_;refine gE ?_
    refine gT func104 fun w' hS=>?_
    refine kR g3 ?_ hh3 hS
    rw [hf3,hT,A8 n7 n8,vM hY]
   have hY:ct c[i].op=false:=hc
   have hT:aa c i=.un c[i].op c[i].i c[i].e c[i].g (aa c c[i].x.toNat):=by
     rcases hK with ⟨h1,_⟩|⟨_,_,h1⟩|⟨h1,_⟩
     · rw [hX] at h1;cases h1
     · exact h1
     rw [hY] at h1;cases h1
   rw [htx] at hT
   refine gK (gS (gR ?_))
   refine ab.v (ae.iA rfl rfl rfl rfl JD 0 rfl Jm rfl) ?_
   iterate 2 refine ah ?_
   refine ab.rQ (u:=j5 c[i].op c[i].i c[i].e c[i].g (aN (aa c kx)).1 l6) g1 rfl rfl rfl rfl rfl (fun _ _=>call152 _ _) (fun w _ hS=>?_) (fun fv2 F2 g2 hs2 hf2 hh2=>?_)
   · exact pD c[i] fv1 FV.z (aN (aa c kx)).1 l6 w hop hfl (fun _=>⟨(hh1.fa hp g1 hS.ext hS (fun _ h=>List.mem_cons_of_mem _ (List.mem_append_right _ h))),hf1,ho1⟩) (fun e=>absurd (hY.symm.trans e) (by decide))
   replace hh1:=hs2 _ hh1
   refine ai ?_;refine gE ?_
   refine gT func104 fun w' hS=>?_
   refine kR g2 ?_ hh2 hS
   rw [hf2,hT,Dp n4,yI hX hY]
  have hX:cG c[i].op=false:=by rw [vj hop];simpa using hc
  have hY:=xJ hX
  have hT:aa c i=.leaf c[i].op c[i].i c[i].e c[i].g:=by
    rcases hK with ⟨_,h1⟩|⟨h1,_,_⟩|⟨h1,_⟩
    · exact h1
    · rw [hX] at h1;cases h1
    rw [hY] at h1;cases h1
  refine gK (gS (gS (gR ?_)));refine al Jk Ji 0 ?_;refine aq Jj 0 ?_
  refine gP rfl rfl rfl rfl rfl call151 (fun w _ hS=>(by exact tW c[i].op w hop)) ?_
  refine gE ?_
  refine gC (fun hc=>?_) fun hc=>?_
  ·
   exact absurd (hY.symm.trans hc) (by decide)
  refine gK (gS (gR ?_))
  refine ab.v (ae.iA rfl rfl rfl rfl JD 0 rfl Jm rfl) ?_
  iterate 2 refine ah ?_
  refine ab.rQ (u:=j5 c[i].op c[i].i c[i].e c[i].g l6 l6) g0 rfl rfl rfl rfl rfl (fun _ _=>call152 _ _) (fun w _ hS=>?_) (fun fv1 F1 g1 hs1 hf1 hh1=>?_)
  · exact pD c[i] FV.z FV.z l6 l6 w hop hfl (fun e=>absurd (hX.symm.trans e) (by decide)) (fun e=>absurd (hY.symm.trans e) (by decide))
  refine ai ?_;refine gE ?_
  refine gT func104 fun w' hS=>?_
  refine kR g1 ?_ hh1 hS
  rw [hf1,hT,tp hX];rfl
set_option maxRecDepth 8000 in
theorem Ft {c:List NV} {na:Option Addr} {nc bk m0 m1 i:Nat} (hi:i<c.length) (hO:aZ c) (hOf:∀j,j<i→Cb c na nc bk m0 m1 j) (hPs:Er c na nc bk m0 m1 i hi):Gp c na nc bk m0 m1 i hi:=by
  intro w L0 L1 hp
  have hok:=hO i hi
  have hop:=hok.op
  have hfl:=hok.kU
  have hF:=gz hfl
  have hK:=dE hi hO
  have hch:∀k:Nat,k<i→(aN (aa c k)).1.ok∧(aN (aa c k)).2.ok:=fun k hk=>lq (hO.tree k (by omega))
  have g0:cS 66 c i L0 L1 L0 L1 []:=cS.refl hp.kE
  refine qC.of hp.has func103 rfl rfl ?_
  rw [show cM (jZ m0 L0 m1 L1)=[m0,m1] from rfl]
  refine ab.dN (h':=jZ m0 L0 m1 L1++[]) (List.Sublist.refl _) ?_
  refine gS (gR ?_)
  refine ab.bx rfl rfl rfl rfl (fun b3=>?_)
  refine ai ?_;refine gE (gS (gS (gR ?_)));refine al Jk Ji 0 ?_;refine aq Jj 0 ?_;refine gE (gB (gS (gR ?_)));refine aw bd ?_;refine ai ?_;refine gE ?_
  refine gC (fun hc=>?_) fun hc=>?_
  ·
   have ho:c[i].op=1:=by simpa using hc
   have hX:cG c[i].op=false:=by rw [ho];rfl
   have hY:ct c[i].op=false:=by rw [ho];rfl
   have hT:aa c i=.leaf c[i].op c[i].i c[i].e c[i].g:=by
     rcases hK with ⟨_,h1⟩|⟨h1,_,_⟩|⟨h1,_⟩
     · exact h1
     · rw [hX] at h1;cases h1
     rw [hY] at h1;cases h1
   rw [ho] at hT
   refine gS (gR ?_)
   refine ab.rQ (u:=cT 2) g0 rfl rfl rfl rfl rfl (fun _ _=>call150 _ _) (fun w _ hS=>?_) (fun fv1 F1 g1 hs1 hf1 hh1=>?_)
   · have:=vS w
     rw [Cx (.inr rfl)] at this;exact this
   refine ai ?_;refine gE ?_
   refine gT func103 fun w' hS=>?_
   refine kR g1 ?_ hh1 hS
   rw [hf1,hT];rfl
  have n1:¬c[i].op=1:=by simpa using hc
  refine gS (gR ?_);refine aw bd ?_;refine ai ?_;refine gE ?_
  refine gC (fun hc=>?_) fun hc=>?_
  ·
   have ho:c[i].op=2:=by simpa using hc
   have hX:cG c[i].op=false:=by rw [ho];rfl
   have hY:ct c[i].op=false:=by rw [ho];rfl
   have hT:aa c i=.leaf c[i].op c[i].i c[i].e c[i].g:=by
     rcases hK with ⟨_,h1⟩|⟨h1,_,_⟩|⟨h1,_⟩
     · exact h1
     · rw [hX] at h1;cases h1
     rw [hY] at h1;cases h1
   rw [ho] at hT
   refine gS (gR ?_)
   refine ab.rQ (u:=cT 1) g0 rfl rfl rfl rfl rfl (fun _ _=>call65 _ _) (fun w _ hS=>?_) (fun fv1 F1 g1 hs1 hf1 hh1=>?_)
   · have:=uh w
     rw [Cx (.inl rfl)] at this;exact this
   refine ai ?_;refine gE ?_
   refine gT func103 fun w' hS=>?_
   refine kR g1 ?_ hh1 hS
   rw [hf1,hT];rfl
  have n2:¬c[i].op=2:=by simpa using hc
  refine gS (gR ?_);refine aw bd ?_;refine ai ?_;refine gE ?_
  refine gC (fun hc=>?_) fun hc=>?_
  ·
   have ho:c[i].op=4:=by simpa using hc
   have hX:cG c[i].op=true:=by rw [ho];rfl
   have hY:ct c[i].op=false:=by rw [ho];rfl
   have hT:aa c i=.un c[i].op c[i].i c[i].e c[i].g (aa c c[i].x.toNat):=by
     rcases hK with ⟨h1,_⟩|⟨_,_,h1⟩|⟨h1,_⟩
     · rw [hX] at h1;cases h1
     · exact h1
     rw [hY] at h1;cases h1
   have hrx:=hok.x hX
   obtain ⟨kx,hkx⟩:∃k:Nat,c[i].x=(k:Int):=⟨c[i].x.toNat,by omega⟩
   have htx:c[i].x.toNat=kx:=by omega
   rw [htx,ho] at hT
   refine gS (gR ?_);refine ah ?_;refine al Jk Ji 4 ?_;refine aq Jj 0 ?_
   refine ab.eA (D':=kx+1) (u:=(aN (aa c kx)).1) hp g0 (by omega) rfl rfl rfl rfl rfl (fun _ _=>JW _ _) (fun w L0 L1 h=>by have:=hOf kx (by omega) false w L0 L1 h;rw [qE,←hkx] at this;exact this) (fun fv1 La1 Lb1 F1 g1 hs1 hf1 hh1=>?_)
   have ho1:(aN (aa c kx)).1.ok:=(hch kx (by omega)).1
   refine ai ?_;refine gE ?_
   refine gT func103 fun w' hS=>?_
   refine kR g1 ?_ hh1 hS
   rw [hf1,hT];rfl
  have n4:¬c[i].op=4:=by simpa using hc
  refine gS (gR ?_);refine aw bd ?_;refine ai ?_;refine gE ?_
  refine gC (fun hc=>?_) fun hc=>?_
  ·
   have ho:c[i].op=5:=by simpa using hc
   have hY:ct c[i].op=true:=by rw [ho];rfl
   have hX:=ez hY
   have hT:aa c i=.bin c[i].op c[i].i c[i].e c[i].g (aa c c[i].x.toNat) (aa c c[i].y.toNat):=by
     rcases hK with ⟨h1,_⟩|⟨_,h1,_⟩|⟨_,h1⟩
     · rw [hX] at h1;cases h1
     · rw [hY] at h1;cases h1
     exact h1
   have hrx:=hok.x hX
   obtain ⟨kx,hkx⟩:∃k:Nat,c[i].x=(k:Int):=⟨c[i].x.toNat,by omega⟩
   have htx:c[i].x.toNat=kx:=by omega
   have hry:=hok.y hY
   obtain ⟨ky,hky⟩:∃k:Nat,c[i].y=(k:Int):=⟨c[i].y.toNat,by omega⟩
   have hty:c[i].y.toNat=ky:=by omega
   rw [htx,hty,ho] at hT
   refine gS ?_
   refine ab.nY [0,1,2,4,5,6] 3 [7,8,9] mixed rfl ?_
   refine dA.v (fun _=>(ae.mv rfl rfl rfl rfl)) ?_
   refine dA.v (fun _=>(ae.aG rfl rfl rfl rfl Jk rfl (by exact Ji) 4 rfl)) ?_
   refine dA.v (fun _=>(ae.dw rfl rfl rfl rfl Jj 0 rfl rfl)) ?_
   refine dA.v (fun _=>(ae.mv rfl rfl rfl rfl)) ?_
   refine dA.v (fun _=>(ae.aG rfl rfl rfl rfl Jk rfl (by exact Ji) 5 rfl)) ?_
   refine dA.v (fun _=>(ae.dw rfl rfl rfl rfl Jj 0 rfl rfl)) ?_
   refine dA.eA (D':=kx+1) (u:=(aN (aa c kx)).2) hp g0 (by omega) rfl rfl rfl rfl rfl (fun _ _=>JW _ _) (fun w L0 L1 h=>by have:=hOf kx (by omega) true w L0 L1 h;rw [nQ,←hkx] at this;exact this) (fun fv1 La1 Lb1 F1 g1 hs1 hf1 hh1=>?_)
   have ho1:(aN (aa c kx)).2.ok:=(hch kx (by omega)).2
   refine ab.eA (D':=ky+1) (u:=(aN (aa c ky)).2) hp g1 (by omega) rfl rfl rfl rfl rfl (fun _ _=>JW _ _) (fun w L0 L1 h=>by have:=hOf ky (by omega) true w L0 L1 h;rw [nQ,←hky] at this;exact this) (fun fv2 La2 Lb2 F2 g2 hs2 hf2 hh2=>?_)
   replace hh1:=hs2 _ hh1
   have ho2:(aN (aa c ky)).2.ok:=(hch ky (by omega)).2
   refine ab.rQ (u:=.bin 6 0 0 0 (aN (aa c kx)).2 (aN (aa c ky)).2) g2 rfl rfl rfl rfl rfl (fun _ _=>call28 _ _) (fun w _ hS=>?_) (fun fv3 F3 g3 hs3 hf3 hh3=>?_)
   · have:=wJ fv1.a fv1.c fv1.f fv2.a fv2.c fv2.f w (hh1.fa hp g2 hS.ext hS (fun _ h=>List.mem_cons_of_mem _ (List.mem_append_right _ h))) (aD hf1) (hh2.fa hp g2 hS.ext hS (fun _ h=>List.mem_cons_of_mem _ (List.mem_append_right _ h))) (aD hf2)
     rw [show aR ⟨6,0,0,0,0,0⟩ [fv1.f,fv2.f]=bT (.bin 6 0 0 0 (aN (aa c kx)).2 (aN (aa c ky)).2) from by rw [hf1,hf2];exact dz ho1 ho2 (by decide) rfl rfl] at this;exact this
   replace hh1:=hs3 _ hh1
   replace hh2:=hs3 _ hh2
   have ho3:(Tr.bin 6 0 0 0 (aN (aa c kx)).2 (aN (aa c ky)).2).ok:=jI ho1 ho2
   refine ai ?_;refine gE ?_
   refine gT func103 fun w' hS=>?_
   refine kR g3 ?_ hh3 hS
   rw [hf3,hT];rfl
  have n5:¬c[i].op=5:=by simpa using hc
  refine gS (gR ?_);refine aw bd ?_;refine ai ?_;refine gE ?_
  refine gC (fun hc=>?_) fun hc=>?_
  ·
   have ho:c[i].op=6:=by simpa using hc
   have hY:ct c[i].op=true:=by rw [ho];rfl
   have hX:=ez hY
   have hT:aa c i=.bin c[i].op c[i].i c[i].e c[i].g (aa c c[i].x.toNat) (aa c c[i].y.toNat):=by
     rcases hK with ⟨h1,_⟩|⟨_,h1,_⟩|⟨_,h1⟩
     · rw [hX] at h1;cases h1
     · rw [hY] at h1;cases h1
     exact h1
   have hrx:=hok.x hX
   obtain ⟨kx,hkx⟩:∃k:Nat,c[i].x=(k:Int):=⟨c[i].x.toNat,by omega⟩
   have htx:c[i].x.toNat=kx:=by omega
   have hry:=hok.y hY
   obtain ⟨ky,hky⟩:∃k:Nat,c[i].y=(k:Int):=⟨c[i].y.toNat,by omega⟩
   have hty:c[i].y.toNat=ky:=by omega
   rw [htx,hty,ho] at hT
   refine gS ?_
   refine ab.nY [0,1,2,4,5,6] 3 [7,8,9] mixed rfl ?_
   refine dA.v (fun _=>(ae.mv rfl rfl rfl rfl)) ?_
   refine dA.v (fun _=>(ae.aG rfl rfl rfl rfl Jk rfl (by exact Ji) 4 rfl)) ?_
   refine dA.v (fun _=>(ae.dw rfl rfl rfl rfl Jj 0 rfl rfl)) ?_
   refine dA.v (fun _=>(ae.mv rfl rfl rfl rfl)) ?_
   refine dA.v (fun _=>(ae.aG rfl rfl rfl rfl Jk rfl (by exact Ji) 5 rfl)) ?_
   refine dA.v (fun _=>(ae.dw rfl rfl rfl rfl Jj 0 rfl rfl)) ?_
   refine dA.eA (D':=kx+1) (u:=(aN (aa c kx)).2) hp g0 (by omega) rfl rfl rfl rfl rfl (fun _ _=>JW _ _) (fun w L0 L1 h=>by have:=hOf kx (by omega) true w L0 L1 h;rw [nQ,←hkx] at this;exact this) (fun fv1 La1 Lb1 F1 g1 hs1 hf1 hh1=>?_)
   have ho1:(aN (aa c kx)).2.ok:=(hch kx (by omega)).2
   refine ab.eA (D':=ky+1) (u:=(aN (aa c ky)).2) hp g1 (by omega) rfl rfl rfl rfl rfl (fun _ _=>JW _ _) (fun w L0 L1 h=>by have:=hOf ky (by omega) true w L0 L1 h;rw [nQ,←hky] at this;exact this) (fun fv2 La2 Lb2 F2 g2 hs2 hf2 hh2=>?_)
   replace hh1:=hs2 _ hh1
   have ho2:(aN (aa c ky)).2.ok:=(hch ky (by omega)).2
   refine ab.rQ (u:=.bin 5 0 0 0 (aN (aa c kx)).2 (aN (aa c ky)).2) g2 rfl rfl rfl rfl rfl (fun _ _=>call27 _ _) (fun w _ hS=>?_) (fun fv3 F3 g3 hs3 hf3 hh3=>?_)
   · have:=oG fv1.a fv1.c fv1.f fv2.a fv2.c fv2.f w (hh1.fa hp g2 hS.ext hS (fun _ h=>List.mem_cons_of_mem _ (List.mem_append_right _ h))) (aD hf1) (hh2.fa hp g2 hS.ext hS (fun _ h=>List.mem_cons_of_mem _ (List.mem_append_right _ h))) (aD hf2)
     rw [show aR ⟨5,0,0,0,0,0⟩ [fv1.f,fv2.f]=bT (.bin 5 0 0 0 (aN (aa c kx)).2 (aN (aa c ky)).2) from by rw [hf1,hf2];exact dz ho1 ho2 (by decide) rfl rfl] at this;exact this
   replace hh1:=hs3 _ hh1
   replace hh2:=hs3 _ hh2
   have ho3:(Tr.bin 5 0 0 0 (aN (aa c kx)).2 (aN (aa c ky)).2).ok:=jw ho1 ho2
   refine ai ?_;refine gE ?_
   refine gT func103 fun w' hS=>?_
   refine kR g3 ?_ hh3 hS
   rw [hf3,hT];rfl
  have n6:¬c[i].op=6:=by simpa using hc
  refine gS (gR ?_);refine aw bd ?_;refine ai ?_;refine gE ?_
  refine gC (fun hc=>?_) fun hc=>?_
  ·
   have ho:c[i].op=7:=by simpa using hc
   have hY:ct c[i].op=true:=by rw [ho];rfl
   have hX:=ez hY
   have hT:aa c i=.bin c[i].op c[i].i c[i].e c[i].g (aa c c[i].x.toNat) (aa c c[i].y.toNat):=by
     rcases hK with ⟨h1,_⟩|⟨_,h1,_⟩|⟨_,h1⟩
     · rw [hX] at h1;cases h1
     · rw [hY] at h1;cases h1
     exact h1
   have hrx:=hok.x hX
   obtain ⟨kx,hkx⟩:∃k:Nat,c[i].x=(k:Int):=⟨c[i].x.toNat,by omega⟩
   have htx:c[i].x.toNat=kx:=by omega
   have hry:=hok.y hY
   obtain ⟨ky,hky⟩:∃k:Nat,c[i].y=(k:Int):=⟨c[i].y.toNat,by omega⟩
   have hty:c[i].y.toNat=ky:=by omega
   rw [htx,hty,ho] at hT
   refine gS ?_
   refine ab.nY [0,1,2,4,5,6] 3 [7,8,9] mixed rfl ?_
   refine dA.v (fun _=>(ae.mv rfl rfl rfl rfl)) ?_
   refine dA.v (fun _=>(ae.aG rfl rfl rfl rfl Jk rfl (by exact Ji) 4 rfl)) ?_
   refine dA.v (fun _=>(ae.dw rfl rfl rfl rfl Jj 0 rfl rfl)) ?_
   refine dA.v (fun _=>(ae.mv rfl rfl rfl rfl)) ?_
   refine dA.v (fun _=>(ae.aG rfl rfl rfl rfl Jk rfl (by exact Ji) 5 rfl)) ?_
   refine dA.v (fun _=>(ae.dw rfl rfl rfl rfl Jj 0 rfl rfl)) ?_
   refine dA.eA (D':=kx+1) (u:=(aN (aa c kx)).1) hp g0 (by omega) rfl rfl rfl rfl rfl (fun _ _=>JW _ _) (fun w L0 L1 h=>by have:=hOf kx (by omega) false w L0 L1 h;rw [qE,←hkx] at this;exact this) (fun fv1 La1 Lb1 F1 g1 hs1 hf1 hh1=>?_)
   have ho1:(aN (aa c kx)).1.ok:=(hch kx (by omega)).1
   refine ab.eA (D':=ky+1) (u:=(aN (aa c ky)).2) hp g1 (by omega) rfl rfl rfl rfl rfl (fun _ _=>JW _ _) (fun w L0 L1 h=>by have:=hOf ky (by omega) true w L0 L1 h;rw [nQ,←hky] at this;exact this) (fun fv2 La2 Lb2 F2 g2 hs2 hf2 hh2=>?_)
   replace hh1:=hs2 _ hh1
   have ho2:(aN (aa c ky)).2.ok:=(hch ky (by omega)).2
   refine ab.rQ (u:=.bin 5 0 0 0 (aN (aa c kx)).1 (aN (aa c ky)).2) g2 rfl rfl rfl rfl rfl (fun _ _=>call27 _ _) (fun w _ hS=>?_) (fun fv3 F3 g3 hs3 hf3 hh3=>?_)
   · have:=oG fv1.a fv1.c fv1.f fv2.a fv2.c fv2.f w (hh1.fa hp g2 hS.ext hS (fun _ h=>List.mem_cons_of_mem _ (List.mem_append_right _ h))) (aD hf1) (hh2.fa hp g2 hS.ext hS (fun _ h=>List.mem_cons_of_mem _ (List.mem_append_right _ h))) (aD hf2)
     rw [show aR ⟨5,0,0,0,0,0⟩ [fv1.f,fv2.f]=bT (.bin 5 0 0 0 (aN (aa c kx)).1 (aN (aa c ky)).2) from by rw [hf1,hf2];exact dz ho1 ho2 (by decide) rfl rfl] at this;exact this
   replace hh1:=hs3 _ hh1
   replace hh2:=hs3 _ hh2
   have ho3:(Tr.bin 5 0 0 0 (aN (aa c kx)).1 (aN (aa c ky)).2).ok:=jw ho1 ho2
   refine ai ?_;refine gE ?_
   refine gT func103 fun w' hS=>?_
   refine kR g3 ?_ hh3 hS
   rw [hf3,hT];rfl
  have n7:¬c[i].op=7:=by simpa using hc
  refine gS (gR ?_);refine aw bd ?_;refine ai ?_;refine gE ?_
  refine gC (fun hc=>?_) fun hc=>?_
  ·
   have ho:c[i].op=8:=by simpa using hc
   have hY:ct c[i].op=true:=by rw [ho];rfl
   have hX:=ez hY
   have hT:aa c i=.bin c[i].op c[i].i c[i].e c[i].g (aa c c[i].x.toNat) (aa c c[i].y.toNat):=by
     rcases hK with ⟨h1,_⟩|⟨_,h1,_⟩|⟨_,h1⟩
     · rw [hX] at h1;cases h1
     · rw [hY] at h1;cases h1
     exact h1
   have hrx:=hok.x hX
   obtain ⟨kx,hkx⟩:∃k:Nat,c[i].x=(k:Int):=⟨c[i].x.toNat,by omega⟩
   have htx:c[i].x.toNat=kx:=by omega
   have hry:=hok.y hY
   obtain ⟨ky,hky⟩:∃k:Nat,c[i].y=(k:Int):=⟨c[i].y.toNat,by omega⟩
   have hty:c[i].y.toNat=ky:=by omega
   rw [htx,hty,ho] at hT
   refine gS ?_
   refine ab.zp 21 mixed ?_
   refine cV 0 (ae.mv rfl rfl rfl rfl) ?_
   refine cV 1 (ae.aG rfl rfl rfl rfl Jk rfl (by exact Ji) 4 rfl) ?_
   refine cV 2 (ae.dw rfl rfl rfl rfl Jj 0 rfl rfl) ?_
   refine cV 4 (ae.mv rfl rfl rfl rfl) ?_
   refine cV 5 (ae.aG rfl rfl rfl rfl Jk rfl (by exact Ji) 5 rfl) ?_
   refine cV 6 (ae.dw rfl rfl rfl rfl Jj 0 rfl rfl) ?_
   refine cV 9 (ae.mv rfl rfl rfl rfl) ?_
   refine cV 10 (ae.aG rfl rfl rfl rfl Jk rfl (by exact Ji) 4 rfl) ?_
   refine cV 11 (ae.dw rfl rfl rfl rfl Jj 0 rfl rfl) ?_
   refine cV 13 (ae.mv rfl rfl rfl rfl) ?_
   refine cV 14 (ae.aG rfl rfl rfl rfl Jk rfl (by exact Ji) 5 rfl) ?_
   refine cV 15 (ae.dw rfl rfl rfl rfl Jj 0 rfl rfl) ?_
   refine aF.eA (i:=3) (D':=kx+1) (u:=(aN (aa c kx)).1) hp g0 (by omega) rfl rfl rfl rfl rfl rfl (fun _ _=>JW _ _) (fun w L0 L1 h=>by have:=hOf kx (by omega) false w L0 L1 h;rw [qE,←hkx] at this;exact this) (fun fv1 La1 Lb1 F1 g1 hs1 hf1 hh1=>?_)
   have ho1:(aN (aa c kx)).1.ok:=(hch kx (by omega)).1
   refine aF.eA (i:=7) (D':=ky+1) (u:=(aN (aa c ky)).2) hp g1 (by omega) rfl rfl rfl rfl rfl rfl (fun _ _=>JW _ _) (fun w L0 L1 h=>by have:=hOf ky (by omega) true w L0 L1 h;rw [nQ,←hky] at this;exact this) (fun fv2 La2 Lb2 F2 g2 hs2 hf2 hh2=>?_)
   replace hh1:=hs2 _ hh1
   have ho2:(aN (aa c ky)).2.ok:=(hch ky (by omega)).2
   refine aF.rQ (i:=8) (u:=.bin 5 0 0 0 (aN (aa c kx)).1 (aN (aa c ky)).2) g2 rfl rfl rfl rfl rfl rfl (fun _ _=>call27 _ _) (fun w _ hS=>?_) (fun fv3 F3 g3 hs3 hf3 hh3=>?_)
   · have:=oG fv1.a fv1.c fv1.f fv2.a fv2.c fv2.f w (hh1.fa hp g2 hS.ext hS (fun _ h=>List.mem_cons_of_mem _ (List.mem_append_right _ h))) (aD hf1) (hh2.fa hp g2 hS.ext hS (fun _ h=>List.mem_cons_of_mem _ (List.mem_append_right _ h))) (aD hf2)
     rw [show aR ⟨5,0,0,0,0,0⟩ [fv1.f,fv2.f]=bT (.bin 5 0 0 0 (aN (aa c kx)).1 (aN (aa c ky)).2) from by rw [hf1,hf2];exact dz ho1 ho2 (by decide) rfl rfl] at this;exact this
   replace hh1:=hs3 _ hh1
   replace hh2:=hs3 _ hh2
   have ho3:(Tr.bin 5 0 0 0 (aN (aa c kx)).1 (aN (aa c ky)).2).ok:=jw ho1 ho2
   refine aF.eA (i:=12) (D':=kx+1) (u:=(aN (aa c kx)).2) hp g3 (by omega) rfl rfl rfl rfl rfl rfl (fun _ _=>JW _ _) (fun w L0 L1 h=>by have:=hOf kx (by omega) true w L0 L1 h;rw [nQ,←hkx] at this;exact this) (fun fv4 La4 Lb4 F4 g4 hs4 hf4 hh4=>?_)
   replace hh1:=hs4 _ hh1
   replace hh2:=hs4 _ hh2
   replace hh3:=hs4 _ hh3
   have ho4:(aN (aa c kx)).2.ok:=(hch kx (by omega)).2
   refine aF.eA (i:=16) (D':=ky+1) (u:=(aN (aa c ky)).1) hp g4 (by omega) rfl rfl rfl rfl rfl rfl (fun _ _=>JW _ _) (fun w L0 L1 h=>by have:=hOf ky (by omega) false w L0 L1 h;rw [qE,←hky] at this;exact this) (fun fv5 La5 Lb5 F5 g5 hs5 hf5 hh5=>?_)
   replace hh1:=hs5 _ hh1
   replace hh2:=hs5 _ hh2
   replace hh3:=hs5 _ hh3
   replace hh4:=hs5 _ hh4
   have ho5:(aN (aa c ky)).1.ok:=(hch ky (by omega)).1
   refine aF.rQ (i:=17) (u:=.bin 5 0 0 0 (aN (aa c kx)).2 (aN (aa c ky)).1) g5 rfl rfl rfl rfl rfl rfl (fun _ _=>call27 _ _) (fun w _ hS=>?_) (fun fv6 F6 g6 hs6 hf6 hh6=>?_)
   · have:=oG fv4.a fv4.c fv4.f fv5.a fv5.c fv5.f w (hh4.fa hp g5 hS.ext hS (fun _ h=>List.mem_cons_of_mem _ (List.mem_append_right _ h))) (aD hf4) (hh5.fa hp g5 hS.ext hS (fun _ h=>List.mem_cons_of_mem _ (List.mem_append_right _ h))) (aD hf5)
     rw [show aR ⟨5,0,0,0,0,0⟩ [fv4.f,fv5.f]=bT (.bin 5 0 0 0 (aN (aa c kx)).2 (aN (aa c ky)).1) from by rw [hf4,hf5];exact dz ho4 ho5 (by decide) rfl rfl] at this;exact this
   replace hh1:=hs6 _ hh1
   replace hh2:=hs6 _ hh2
   replace hh3:=hs6 _ hh3
   replace hh4:=hs6 _ hh4
   replace hh5:=hs6 _ hh5
   have ho6:(Tr.bin 5 0 0 0 (aN (aa c kx)).2 (aN (aa c ky)).1).ok:=jw ho4 ho5
   refine aF.rQ (i:=18) (u:=.bin 6 0 0 0 (.bin 5 0 0 0 (aN (aa c kx)).1 (aN (aa c ky)).2) (.bin 5 0 0 0 (aN (aa c kx)).2 (aN (aa c ky)).1)) g6 rfl rfl rfl rfl rfl rfl (fun _ _=>call28 _ _) (fun w _ hS=>?_) (fun fv7 F7 g7 hs7 hf7 hh7=>?_)
   · have:=wJ fv3.a fv3.c fv3.f fv6.a fv6.c fv6.f w (hh3.fa hp g6 hS.ext hS (fun _ h=>List.mem_cons_of_mem _ (List.mem_append_right _ h))) (aD hf3) (hh6.fa hp g6 hS.ext hS (fun _ h=>List.mem_cons_of_mem _ (List.mem_append_right _ h))) (aD hf6)
     rw [show aR ⟨6,0,0,0,0,0⟩ [fv3.f,fv6.f]=bT (.bin 6 0 0 0 (.bin 5 0 0 0 (aN (aa c kx)).1 (aN (aa c ky)).2) (.bin 5 0 0 0 (aN (aa c kx)).2 (aN (aa c ky)).1)) from by rw [hf3,hf6];exact dz ho3 ho6 (by decide) rfl rfl] at this;exact this
   replace hh1:=hs7 _ hh1
   replace hh2:=hs7 _ hh2
   replace hh3:=hs7 _ hh3
   replace hh4:=hs7 _ hh4
   replace hh5:=hs7 _ hh5
   replace hh6:=hs7 _ hh6
   have ho7:(Tr.bin 6 0 0 0 (.bin 5 0 0 0 (aN (aa c kx)).1 (aN (aa c ky)).2) (.bin 5 0 0 0 (aN (aa c kx)).2 (aN (aa c ky)).1)).ok:=jI ho3 ho6
   refine cV 19 (ae.fD rfl rfl rfl rfl) ?_
   refine aF.done rfl ?_
   refine gE ?_
   refine gT func103 fun w' hS=>?_
   refine kR g7 ?_ hh7 hS
   rw [hf7,hT];rfl
  have n8:¬c[i].op=8:=by simpa using hc
  refine gS (gR ?_);refine aw bd ?_;refine ai ?_;refine gE ?_
  refine gC (fun hc=>?_) fun hc=>?_
  ·
   have ho:c[i].op=9:=by simpa using hc
   have hX:cG c[i].op=true:=by rw [ho];rfl
   have hY:ct c[i].op=false:=by rw [ho];rfl
   have hT:aa c i=.un c[i].op c[i].i c[i].e c[i].g (aa c c[i].x.toNat):=by
     rcases hK with ⟨h1,_⟩|⟨_,_,h1⟩|⟨h1,_⟩
     · rw [hX] at h1;cases h1
     · exact h1
     rw [hY] at h1;cases h1
   have hrx:=hok.x hX
   obtain ⟨kx,hkx⟩:∃k:Nat,c[i].x=(k:Int):=⟨c[i].x.toNat,by omega⟩
   have htx:c[i].x.toNat=kx:=by omega
   rw [htx,ho] at hT
   have hag:=hF.ag (by rw [ho];rfl)
   refine gS ?_
   refine ab.nY [0,1,2,3,4] 5 [6,7] mixed rfl ?_
   refine dA.v (fun _=>(ae.aG rfl rfl rfl rfl Jk rfl (by exact Ji) 1 rfl)) ?_
   refine dA.v (fun _=>(ae.dw rfl rfl rfl rfl Jj 0 rfl rfl)) ?_
   refine dA.v (fun _=>(ae.mv rfl rfl rfl rfl)) ?_
   refine dA.v (fun _=>(ae.aG rfl rfl rfl rfl Jk rfl (by exact Ji) 4 rfl)) ?_
   refine dA.v (fun _=>(ae.dw rfl rfl rfl rfl Jj 0 rfl rfl)) ?_
   refine dA.eA (D':=kx+1) (u:=(aN (aa c kx)).2) hp g0 (by omega) rfl rfl rfl rfl rfl (fun _ _=>JW _ _) (fun w L0 L1 h=>by have:=hOf kx (by omega) true w L0 L1 h;rw [nQ,←hkx] at this;exact this) (fun fv1 La1 Lb1 F1 g1 hs1 hf1 hh1=>?_)
   have ho1:(aN (aa c kx)).2.ok:=(hch kx (by omega)).2
   refine ab.rQ (u:=.un 10 c[i].i 0 0 (aN (aa c kx)).2) g1 rfl rfl rfl rfl rfl (fun _ _=>call35 _ _) (fun w _ hS=>?_) (fun fv2 F2 g2 hs2 hf2 hh2=>?_)
   · have:=uy c[i].i fv1.a fv1.c fv1.f w (hh1.fa hp g1 hS.ext hS (fun _ h=>List.mem_cons_of_mem _ (List.mem_append_right _ h))) (aD hf1)
     rw [show aR ⟨10,c[i].i,0,0,0,0⟩ [fv1.f]=bT (.un 10 c[i].i 0 0 (aN (aa c kx)).2) from by rw [hf1];exact jW ho1 (by decide) rfl rfl (gX (.inr rfl) hag ho1).2.2.2.1] at this;exact this
   replace hh1:=hs2 _ hh1
   refine ai ?_;refine gE ?_
   refine gT func103 fun w' hS=>?_
   refine kR g2 ?_ hh2 hS
   rw [hf2,hT];rfl
  have n9:¬c[i].op=9:=by simpa using hc
  refine gS (gR ?_);refine aw bd ?_;refine ai ?_;refine gE ?_
  refine gC (fun hc=>?_) fun hc=>?_
  ·
   have ho:c[i].op=10:=by simpa using hc
   have hX:cG c[i].op=true:=by rw [ho];rfl
   have hY:ct c[i].op=false:=by rw [ho];rfl
   have hT:aa c i=.un c[i].op c[i].i c[i].e c[i].g (aa c c[i].x.toNat):=by
     rcases hK with ⟨h1,_⟩|⟨_,_,h1⟩|⟨h1,_⟩
     · rw [hX] at h1;cases h1
     · exact h1
     rw [hY] at h1;cases h1
   have hrx:=hok.x hX
   obtain ⟨kx,hkx⟩:∃k:Nat,c[i].x=(k:Int):=⟨c[i].x.toNat,by omega⟩
   have htx:c[i].x.toNat=kx:=by omega
   rw [htx,ho] at hT
   have hag:=hF.ag (by rw [ho];rfl)
   refine gS ?_
   refine ab.nY [0,1,2,3,4] 5 [6,7] mixed rfl ?_
   refine dA.v (fun _=>(ae.aG rfl rfl rfl rfl Jk rfl (by exact Ji) 1 rfl)) ?_
   refine dA.v (fun _=>(ae.dw rfl rfl rfl rfl Jj 0 rfl rfl)) ?_
   refine dA.v (fun _=>(ae.mv rfl rfl rfl rfl)) ?_
   refine dA.v (fun _=>(ae.aG rfl rfl rfl rfl Jk rfl (by exact Ji) 4 rfl)) ?_
   refine dA.v (fun _=>(ae.dw rfl rfl rfl rfl Jj 0 rfl rfl)) ?_
   refine dA.eA (D':=kx+1) (u:=(aN (aa c kx)).2) hp g0 (by omega) rfl rfl rfl rfl rfl (fun _ _=>JW _ _) (fun w L0 L1 h=>by have:=hOf kx (by omega) true w L0 L1 h;rw [nQ,←hkx] at this;exact this) (fun fv1 La1 Lb1 F1 g1 hs1 hf1 hh1=>?_)
   have ho1:(aN (aa c kx)).2.ok:=(hch kx (by omega)).2
   refine ab.rQ (u:=.un 9 c[i].i 0 0 (aN (aa c kx)).2) g1 rfl rfl rfl rfl rfl (fun _ _=>JK _ _) (fun w _ hS=>?_) (fun fv2 F2 g2 hs2 hf2 hh2=>?_)
   · have:=rU c[i].i fv1.a fv1.c fv1.f w (hh1.fa hp g1 hS.ext hS (fun _ h=>List.mem_cons_of_mem _ (List.mem_append_right _ h))) (aD hf1)
     rw [show aR ⟨9,c[i].i,0,0,0,0⟩ [fv1.f]=bT (.un 9 c[i].i 0 0 (aN (aa c kx)).2) from by rw [hf1];exact jW ho1 (by decide) rfl rfl (gX (.inl rfl) hag ho1).2.2.2.1] at this;exact this
   replace hh1:=hs2 _ hh1
   refine ai ?_;refine gE ?_
   refine gT func103 fun w' hS=>?_
   refine kR g2 ?_ hh2 hS
   rw [hf2,hT];rfl
  have n10:¬c[i].op=10:=by simpa using hc
  have hng:(aN (aa c i)).2=aE (aN (aa c i)).1:=by
    rcases hK with ⟨_,h1⟩|⟨_,_,h1⟩|⟨_,h1⟩
    · rw [h1,aN];simp [n1,n2]
    · rw [h1,aN];simp [n4,n9,n10]
    rw [h1,aN];simp [n5,n6,n7,n8]
  have hpk:=(lq (hO.tree i hi)).1
  refine gK (dO (gS (gR ?_)));refine ah ?_
  refine ab.v (ae.iA rfl rfl rfl rfl JD 0 rfl Jm rfl) ?_
  refine ab.eA (D':=i) (u:=(aN (aa c i)).1) hp g0 (Nat.le_refl _) rfl rfl rfl rfl rfl (fun _ _=>call104 _ _) (fun w L0 L1 h=>hPs w L0 L1 h) (fun fv1 La1 Lb1 F1 g1 hs1 hf1 hh1=>?_)
  refine ab.rQ (u:=aE (aN (aa c i)).1) g1 rfl rfl rfl rfl rfl (fun _ _=>JJ _ _) (fun w _ hS=>?_) (fun fv2 F2 g2 hs2 hf2 hh2=>?_)
  · have:=yw fv1.a fv1.c fv1.f w (hh1.fa hp g1 hS.ext hS (fun _ h=>List.mem_cons_of_mem _ (List.mem_append_right _ h))) (aD hf1)
    rw [show aR ⟨4,0,0,0,0,0⟩ [fv1.f]=bT (aE (aN (aa c i)).1) from by rw [hf1];exact jW hpk (by decide) rfl rfl rfl] at this;exact this
  replace hh1:=hs2 _ hh1
  refine ai ?_;refine gE ?_
  refine gT func103 fun w' hS=>?_
  refine kR g2 ?_ hh2 hS
  rw [hf2,hng]
end Go.Proofs.YtnfmegcknckahaaGreatDoor
namespace Go.Proofs.YtnfmegcknckahaaGreatDoor
open Go.RowKit Go.Proofs.Wit Tryz
set_option maxRecDepth 8000 in
theorem Fm {c:List NV} {na:Option Addr} {nc bk m0 m1 i:Nat} (hi:i<c.length) (hPs:Er c na nc bk m0 m1 i hi) (hNg:Gp c na nc bk m0 m1 i hi):Cb c na nc bk m0 m1 i:=by
  intro no w L0 L1 hp
  have hK:jQ Tryz.prog 3 (Value.int .i64) iq:=jQ.int underlying3
  have HB:∀{w':World} {j:Nat} {v:Value},Ex [m0,m1] w w'→(Ba na c.length nc m0 m1)[j]?=some v→w'.cell? ⟨bk,j,none⟩=some v:=fun e h=>Ex.FZ e hp.ne hp.di h
  have has:CI [m0,m1] w na c:=⟨hp.fa.at_,pK hp.maps hp.fa.at_ (by rw [oz];omega)⟩
  refine qC.of hp.has func57 rfl rfl ?_
  rw [show cM (jZ m0 L0 m1 L1)=[m0,m1] from rfl]
  refine gS (gR ?_);refine ai ?_;refine gE (gS (gR ?_));refine ai ?_;refine gE (gS (gS (gR ?_)));refine ah ?_;refine gE ?_
  refine gC (fun hc=>?_) fun hc=>?_
  ·
   obtain rfl:no=true:=hc
   refine gR ?_;refine ai ?_;refine gE (gS (gS (gR ?_)))
   iterate 2 refine ah ?_
   refine ku ?_;refine al Kc sizeOf87 1 ?_
   refine ab.v (ae.wZ rfl rfl rfl rfl rfl underlying87 sizeOf86 1 rfl (by decide)) ?_
   refine ab.v (ae.ld rfl rfl rfl rfl isAgg86 (fun w _ hS=>HB (j:=2) hS.ext rfl)) ?_
   refine ah ?_
   refine ab.v (ae.Bk (ev:=FV.v) (a:=(i:Int)) (z:=.slice none 0 0) (L:=L1) hK rfl rfl rfl rfl rfl underlying86 (fun _=>JF _) 1 rfl) ?_
   refine ah ?_
   iterate 2 refine fZ ?_
   iterate 2 refine ai ?_
   refine gE (gS (gR ?_));refine ah ?_;refine gE ?_
   refine gC (fun hc=>?_) fun hc=>?_
   ·
    obtain ⟨fv,hfv⟩:∃fv,cI iq L1 (i:Int)=some fv:=by
      cases h:cI iq L1 (i:Int) with
      |none=>rw [h] at hc;simp at hc
      |some fv=>exact ⟨fv,rfl⟩
    obtain ⟨k,hk,hfe⟩:=hp.kE.e1 _ (kh hfv)
    obtain rfl:i=k:=by simp only [] at hk;omega
    refine gS (gR ?_);refine ah ?_;refine ai ?_;refine gE ?_
    refine gT func57 fun w' hS=>?_
    exact ⟨_,⟨fv,L0,L1,[],by rw [hfv];rfl,rfl,cS.refl hp.kE,hfe,.inr (.inr ⟨i,kh hfv⟩)⟩,hS⟩
   have hno:cI iq L1 (i:Int)=none:=by
     cases h:cI iq L1 (i:Int) with
     |none=>rfl
     |some fv=>rw [h] at hc;simp at hc
   refine gK (gS (gR ?_));refine ah ?_;refine ku ?_;refine al Kc Js 0 ?_
   refine ab.v (ae.ld (p:=⟨bk,0,none⟩) rfl rfl rfl rfl Jx (fun w _ hS=>HB hS.ext rfl)) ?_
   refine ah ?_
   refine ab.v (ae.ed rfl rfl rfl rfl rfl Jr Jm ⟨_,(has).at_⟩ (ax (enc:=NV.cells) (sz:=6) (fun _=>rfl)) (by decide) (i) ⟨rfl,hi⟩) ?_
   refine ab.v (ae.nV (cs:=NV.cells c[i]) rfl rfl rfl rfl JD Jm (fun w _ hS=>Sl.many (enc:=NV.cells) (sz:=6) (has.ay hS.ext).at_ (fun _=>rfl) hi)) ?_
   refine ab.eO rfl rfl rfl (fun _=>JA _) (fun b10=>?_)
   refine ab.dF rfl rfl rfl rfl Jm 0 rfl rfl rfl rfl ?_
   refine gE (gS (gR ?_));refine ai ?_;refine gE (gS (gS (gR ?_)));refine ah ?_;refine gE ?_
   refine gC (fun hc=>?_) fun hc=>?_
   ·
    refine gR ?_;refine ah ?_
    refine ab.v (ae.iA rfl rfl rfl rfl JD 0 rfl Jm rfl) ?_
    refine ab.dN (h':=(some b10,.cells (NV.cells c[i]).toArray 66 (0,0))::(jZ m0 L0 m1 L1++[])) (List.Sublist.refl _) ?_
    refine ab.eA (D':=i) (D:=i) (u:=(aN (aa c i)).2) hp (cS.refl hp.kE) (Nat.le_refl _) rfl rfl rfl rfl rfl (fun _ _=>call103 _ _) (fun w L0 L1 h=>hNg w L0 L1 h) (fun fv1 La1 Lb1 F1 g1 hs1 hf1 hh1=>?_)
    have hno2:cI iq Lb1 (i:Int)=none:=jm.2 (fun e he=>by
      rcases g1.n1 e he with h|h
      · exact jm.1 hno e h
      omega)
    refine ai ?_;refine gE (gS (gR ?_))
    iterate 2 refine ah ?_
    refine ku ?_;refine al Kc sizeOf87 1 ?_
    refine ab.v (ae.wZ rfl rfl rfl rfl rfl underlying87 sizeOf86 1 rfl (by decide)) ?_
    refine ab.v (ae.ld rfl rfl rfl rfl isAgg86 (fun w _ hS=>HB (j:=2) hS.ext rfl)) ?_
    iterate 2 refine ah ?_
    refine ab.pQ hK rfl (.inl rfl) rfl rfl rfl (a:=(i:Int)) (v:=fv1) rfl rfl underlying86 2 rfl hno2 ?_
    refine gE (gS (gR ?_));refine ah ?_;refine ai ?_;refine gE ?_
    refine gT func57 fun w' hS=>?_
    exact kR (u:=(aN (aa c i)).2) (F:=F1) (g1.Ht hf1 hh1) hf1 (hh1.mono (fun _ h=>h) (fun _ h=>List.mem_append_left _ h) (fun _ h=>h)) hS
   exact absurd hc (by decide)
  obtain rfl:no=false:=hc
  refine gK (gS (gS (gR ?_)))
  iterate 2 refine ah ?_
  refine ku ?_;refine al Kc sizeOf87 1 ?_
  refine ab.v (ae.wZ rfl rfl rfl rfl rfl underlying87 sizeOf86 0 rfl (by decide)) ?_
  refine ab.v (ae.ld rfl rfl rfl rfl isAgg86 (fun w _ hS=>HB (j:=1) hS.ext rfl)) ?_
  refine ah ?_
  refine ab.v (ae.Bk (ev:=FV.v) (a:=(i:Int)) (z:=.slice none 0 0) (L:=L0) hK rfl rfl rfl rfl rfl underlying86 (fun _=>JF _) 0 rfl) ?_
  refine ah ?_
  iterate 2 refine fZ ?_
  iterate 2 refine ai ?_
  refine gE (gS (gR ?_));refine ah ?_;refine gE ?_
  refine gC (fun hc=>?_) fun hc=>?_
  ·
   obtain ⟨fv,hfv⟩:∃fv,cI iq L0 (i:Int)=some fv:=by
     cases h:cI iq L0 (i:Int) with
     |none=>rw [h] at hc;simp at hc
     |some fv=>exact ⟨fv,rfl⟩
   obtain ⟨k,hk,hfe⟩:=hp.kE.e0 _ (kh hfv)
   obtain rfl:i=k:=by simp only [] at hk;omega
   refine gS (gR ?_);refine ah ?_;refine ai ?_;refine gE ?_
   refine gT func57 fun w' hS=>?_
   exact ⟨_,⟨fv,L0,L1,[],by rw [hfv];rfl,rfl,cS.refl hp.kE,hfe,.inr (.inl ⟨i,kh hfv⟩)⟩,hS⟩
  have hno:cI iq L0 (i:Int)=none:=by
    cases h:cI iq L0 (i:Int) with
    |none=>rfl
    |some fv=>rw [h] at hc;simp at hc
  refine gK (gS (gR ?_));refine ah ?_;refine ku ?_;refine al Kc Js 0 ?_
  refine ab.v (ae.ld (p:=⟨bk,0,none⟩) rfl rfl rfl rfl Jx (fun w _ hS=>HB hS.ext rfl)) ?_
  refine ah ?_
  refine ab.v (ae.ed rfl rfl rfl rfl rfl Jr Jm ⟨_,(has).at_⟩ (ax (enc:=NV.cells) (sz:=6) (fun _=>rfl)) (by decide) (i) ⟨rfl,hi⟩) ?_
  refine ab.v (ae.nV (cs:=NV.cells c[i]) rfl rfl rfl rfl JD Jm (fun w _ hS=>Sl.many (enc:=NV.cells) (sz:=6) (has.ay hS.ext).at_ (fun _=>rfl) hi)) ?_
  refine ab.eO rfl rfl rfl (fun _=>JA _) (fun b10=>?_)
  refine ab.dF rfl rfl rfl rfl Jm 0 rfl rfl rfl rfl ?_
  refine gE (gS (gR ?_));refine ai ?_;refine gE (gS (gS (gR ?_)));refine ah ?_;refine gE ?_
  refine gC (fun hc=>?_) fun hc=>?_
  ·
   exact absurd hc (by decide)
  refine gR ?_;refine ah ?_
  refine ab.v (ae.iA rfl rfl rfl rfl JD 0 rfl Jm rfl) ?_
  refine ab.dN (h':=(some b10,.cells (NV.cells c[i]).toArray 66 (0,0))::(jZ m0 L0 m1 L1++[])) (List.Sublist.refl _) ?_
  refine ab.eA (D':=i) (D:=i) (u:=(aN (aa c i)).1) hp (cS.refl hp.kE) (Nat.le_refl _) rfl rfl rfl rfl rfl (fun _ _=>call104 _ _) (fun w L0 L1 h=>hPs w L0 L1 h) (fun fv1 La1 Lb1 F1 g1 hs1 hf1 hh1=>?_)
  have hno2:cI iq La1 (i:Int)=none:=jm.2 (fun e he=>by
    rcases g1.n0 e he with h|h
    · exact jm.1 hno e h
    omega)
  refine ai ?_;refine gE (gS (gR ?_))
  iterate 2 refine ah ?_
  refine ku ?_;refine al Kc sizeOf87 1 ?_
  refine ab.v (ae.wZ rfl rfl rfl rfl rfl underlying87 sizeOf86 0 rfl (by decide)) ?_
  refine ab.v (ae.ld rfl rfl rfl rfl isAgg86 (fun w _ hS=>HB (j:=1) hS.ext rfl)) ?_
  iterate 2 refine ah ?_
  refine ab.pQ hK rfl (.inl rfl) rfl rfl rfl (a:=(i:Int)) (v:=fv1) rfl rfl underlying86 1 rfl hno2 ?_
  refine gE (gS (gR ?_));refine ah ?_;refine ai ?_;refine gE ?_
  refine gT func57 fun w' hS=>?_
  exact kR (u:=(aN (aa c i)).1) (F:=F1) (g1.Hu hf1 hh1) hf1 (hh1.mono (fun _ h=>List.mem_append_left _ h) (fun _ h=>h) (fun _ h=>h)) hS
theorem Fk {c:List NV} {na:Option Addr} {nc bk m0 m1:Nat} (hO:aZ c):∀i,i<c.length→Cb c na nc bk m0 m1 i:=by
 intro i
 induction i using Nat.strongRecOn with
 |_ i ih=>
  intro hi
  have h1:=Fe (na:=na) (nc:=nc) (bk:=bk) (m0:=m0) (m1:=m1) hi hO (fun j hj=>ih j hj (by omega))
  exact Fm hi h1 (Ft hi hO (fun j hj=>ih j hj (by omega)) h1)
set_option maxRecDepth 8000 in
theorem Cm (a:Option Addr) (ca:Nat) (f:List NV) (w:World) (ha:FA w a f) (hl:f.length≤maxLen):Cn Tryz.prog 23 [.slice a f.length ca] w (fun v w'=>∃sv o e,v=.tuple #[sv,.int .i64 e]∧aH 66 w w' sv o∧Gn f o e):=by
  refine Cn.of func23 rfl rfl ?_
  refine gS (gR ?_)
  iterate 2 refine ai ?_
  refine gE (gS (gS (gR ?_)));refine ah ?_
  refine gP rfl rfl rfl rfl rfl call54 (fun w _ hS=>(by exact fV a ca f w (ha.ay hS.ext) hl)) ?_
  refine ai ?_;refine gE (gS (gR ?_));refine ah ?_;refine aw gJ ?_;refine gE ?_
  refine gC (fun hc=>?_) fun hc=>?_
  ·
   have h1:aW f≠0:=by simpa using hc
   refine gS (gR ?_);refine ah ?_
   iterate 2 refine ai ?_
   refine gE ?_
   refine gT func23 fun w' hS=>?_
   exact ⟨hS.ext,_,[],_,rfl,aH.oN,.inl ⟨h1,rfl,rfl⟩⟩
  have h0:aW f=0:=by simpa using hc
  have hT:=(aA.1 h0).top
  have hce:=dv h0
  have hcp:=(iB h0).pos
  have hcl:=(iB h0).len
  have hNd:=oD f
  refine gK (gS (gR ?_));refine ah ?_
  refine gM rfl rfl rfl rfl rfl call55 (fun w _ hS=>(by exact eg a ca f w (ha.ay hS.ext) hl)) ?_
  rintro v w1 w2 Y' hS he ho
  rw [fR] at ho
  obtain ⟨qc,capc,spc,rfl,hqc,hcapc,hS'⟩:=ak hS he ho
  refine ⟨_,hS',?_⟩
  refine ab.v (ae.eN rfl rfl rfl rfl (bd89 (c:=[_,_,_]) rfl)) ?_
  refine ab.bx rfl rfl rfl rfl (fun b15=>?_)
  refine ai ?_;refine gE (gS (gS (gR ?_)));refine ah ?_;refine gE (gB ?_)
  obtain ⟨sl,hsl⟩:∃sl,sl=cQ qc (aj f).length capc:=⟨_,rfl⟩
  rw [←hsl]
  refine ab.loop (σ:=List Nat) (fun ms=>[(5,.pointer (some ⟨b15,0,none⟩)),(16,.int .i64 ms.length)]) (fun ms=>(some b15,.cells (qX sl ms) 89 (0,0))::(qc,eW 66 (aj f) spc)::ms.map (fun m=>(some m,ly (Value.int .i64) FV.v ([]:Nm)))) (fun ms=>ms.length≤2) (fun ms=>2 - ms.length) [] (Nat.zero_le _) ⟨rfl,rfl,trivial⟩ (List.Sublist.refl _) (fun ms hms IH=>?_)
  refine gS (gR ?_);refine aw iX ?_;refine gE (gS ?_)
  refine gC (fun hc=>?_) fun hc=>?_
  ·
   have hlt:ms.length<2:=by simp at hc;omega
   refine gK (gS (gB (gS (gR ?_))));refine ah ?_;refine ai ?_;refine gE (gR ?_)
   iterate 2 refine ah ?_
   refine ab.mkMap (Value.int .i64) FV.v rfl rfl rfl (fun bm=>?_)
   refine ku ?_;refine al Kc sizeOf87 1 ?_
   refine ab.v (ae.wZ rfl rfl rfl rfl rfl underlying87 sizeOf86 ms.length rfl hlt) ?_
   refine ab.st (cs:=qX sl ms) rfl rfl rfl rfl sizeOf86 rfl 1 rfl (by simp [qX,Nat.blt_eq];omega) ?_
   refine gE (dO (gR ?_));refine db rfl rfl rfl rfl (cz (by omega)) ?_;refine ah ?_;refine gE ?_
   refine ab.mR (h':=(some b15,.cells (qX sl (ms++[bm])) 89 (0,0))::(qc,eW 66 (aj f) spc)::((ms++[bm]).map (fun m=>(some m,ly (Value.int .i64) FV.v ([]:Nm))))) (by rw [←wO hlt,List.map_append];exact (List.perm_append_singleton _ (_::_::_)).symm) ?_
   exact IH (ms++[bm]) _ _ (by simp;omega) (by simp;omega) ⟨rfl,by rw [show (ms++[bm]).length=ms.length+1 from by simp];rfl,trivial⟩ (List.Sublist.refl _)
  have hge:ms.length=2:=by simp at hc;omega
  obtain ⟨m0,m1,rfl⟩:=CR hge
  subst hsl
  refine ab.exit rfl (gS (gR ?_))
  iterate 2 refine ah ?_
  refine ku ?_;refine al Kc Js 0 ?_;refine aq Jx 0 ?_;refine dM Jr ?_
  refine db rfl rfl rfl rfl (iQ (c:=(((aj f).length - 1:Nat):Int)) (by omega) (by omega)) ?_
  refine ab.pick (pre:=[_,_,_,_]) (pre':=jZ m0 [] m1 []++[(some b15,.cells (Ba (qc.map (fun b=>⟨b,0,none⟩)) (aj f).length capc m0 m1) 89 (0,0)),(qc,eW 66 (aj f) spc)]) [2,3,0,1] (by decide) rfl ?_
  refine ab.iP (h:=jZ m0 [] m1 []) (hF:=[(some b15,.cells (Ba (qc.map (fun b=>⟨b,0,none⟩)) (aj f).length capc m0 m1) 89 (0,0)),(qc,eW 66 (aj f) spc)]) (fs:=[]) (cs:=[]) (fun _=>jz 66 (aj f) m0 m1 ((aj f).length - 1+1) (aN (aa (aj f) ((aj f).length - 1))).1 [] []) rfl rfl rfl rfl rfl (fun _ _=>JW _ _) (fun w1 Y' hS=>?_) (fun w1 u1 h1 hR=>?_)
  · have:=Fk (na:=qc.map (fun b=>⟨b,0,none⟩)) (nc:=capc) (bk:=b15) (m0:=m0) (m1:=m1) hNd ((aj f).length - 1) (by omega) false w1 [] [] ⟨(hS.dN (List.sublist_append_left _ _)).has,hS.get (j:=2) rfl,aL hS 3 rfl (fun e=>(hqc e).1),(fun _ h=>by cases h),(fun _ h=>by cases h),⟨(fun _ h=>by cases h),(fun _ h=>by cases h)⟩⟩
    rw [qE] at this;exact this
  obtain ⟨fv,L0',L1',F,rfl,rfl,g,hf,hh⟩:=hR
  have hin:fv.In 66 F:=(hh.base g).resolve_right (by rintro (⟨_,h⟩|⟨_,h⟩)<;>cases h)
  have hres:fv.f=bT (aN (bh f)).1:=by
    rw [hf]
    congr 2
    have:=xj hT
    rw [←hce] at this
    rw [this]
  refine gP rfl rfl rfl rfl rfl call56 (fun w _ hS=>(by exact Dz fv.a fv.c fv.f w)) ?_
  iterate 2 refine fZ ?_
  iterate 2 refine ai ?_
  refine gE ?_
  refine gT func23 fun w' hS=>?_
  by_cases h5:fv.f=[]
  · rw [if_pos h5,if_pos h5]
    exact ⟨hS.ext,_,[],_,rfl,aH.oN,.inr ⟨h0,by rw [←hres];exact h5.symm,rfl⟩⟩
  rw [if_neg h5,if_neg h5]
  exact ⟨hS.ext,_,_,_,rfl,(hin.mono (fun _ h=>List.mem_append_left _ (List.mem_append_right _ h))).own hS,.inr ⟨h0,hres,by rw [if_neg h5]⟩⟩
end Go.Proofs.YtnfmegcknckahaaGreatDoor
