/- What calls of the program return, under the conditions that each theorem states. -/
import Derived.Test.YtnfmegcknckahaaGreatDoorXO18
import Derived.Test.YtnfmegcknckahaaGreatDoorXO15
import Derived.Test.YtnfmegcknckahaaGreatDoorXO27
import Derived.Test.YtnfmegcknckahaaGreatDoorXO03
import Derived.Test.YtnfmegcknckahaaGreatDoorXO04
namespace Go.Proofs.YtnfmegcknckahaaGreatDoor
open Go.RowKit Go.Proofs.Wit Tryz
abbrev GK (bk:Nat):Value:=.pointer (some ⟨bk,0,none⟩)
abbrev zN (c:List NV) (na:Option Addr) (nc bk m0 m1:Nat) (w:World) (L0 L1:Nm):Prop:=mq 66 89 c na nc bk m0 m1 w L0 L1
def BX (c:List NV) (na:Option Addr) (nc bk m0 m1 i:Nat):Prop:=∀(no:Bool) (w:World) (L0 L1:Nm),zN c na nc bk m0 m1 w L0 L1→qv Tryz.prog 57 [GK bk,.int .i64 i,.bool no] w (jS m0 L0 m1 L1) (jr 66 c m0 m1 (i+1) (pn no (aN (aa c i))) L0 L1)
def Ef (c:List NV) (na:Option Addr) (nc bk m0 m1 i:Nat) (hi:i<c.length):Prop:=∀(w:World) (L0 L1:Nm),zN c na nc bk m0 m1 w L0 L1→qv Tryz.prog 104 [GK bk,c[i].v] w (jS m0 L0 m1 L1) (jr 66 c m0 m1 i (aN (aa c i)).1 L0 L1)
def Gc (c:List NV) (na:Option Addr) (nc bk m0 m1 i:Nat) (hi:i<c.length):Prop:=∀(w:World) (L0 L1:Nm),zN c na nc bk m0 m1 w L0 L1→qv Tryz.prog 103 [GK bk,c[i].v] w (jS m0 L0 m1 L1) (jr 66 c m0 m1 i (aN (aa c i)).2 L0 L1)
set_option maxRecDepth 8000 in
theorem E3 {c:List NV} {na:Option Addr} {nc bk m0 m1 i:Nat} (hi:i<c.length) (hO:bd c) (hOf:∀j,j<i→BX c na nc bk m0 m1 j):Ef c na nc bk m0 m1 i hi:=by
  intro w L0 L1 hp
  have hok:=hO i hi
  have hop:=hok.op
  have hfl:=hok.kO
  have hF:=gx hfl
  have hK:=dE hi hO
  have hch:∀k:Nat,k<i→(aN (aa c k)).1.ok∧(aN (aa c k)).2.ok:=fun k hk=>k0 (hO.tree k (by omega))
  have g0:cM 66 c i L0 L1 L0 L1 []:=cM.refl hp.kv
  refine qv.of hp.has func104 rfl rfl ?_
  rw [show cI (jS m0 L0 m1 L1)=[m0,m1] from rfl]
  refine ab.dH (h':=jS m0 L0 m1 L1++[]) (List.Sublist.refl _) ?_
  refine gS (gR ?_)
  refine ab.bx rfl rfl rfl rfl (fun b3=>?_)
  refine ai ?_;refine gE (gS (gS (gR ?_)));refine al Jb I9 0 ?_;refine aq Ja 0 ?_;refine gE (gB (gS (gR ?_)));refine aw bh ?_;refine ai ?_;refine gE ?_
  refine gC (fun hc=>?_) fun hc=>?_
  ·
   have ho:c[i].op=4:=by simpa using hc
   have hX:cF c[i].op=true:=by rw [ho];rfl
   have hY:cm c[i].op=false:=by rw [ho];rfl
   have hT:aa c i=.un c[i].op c[i].i c[i].e c[i].g (aa c c[i].x.toNat):=by
     rcases hK with ⟨h1,_⟩|⟨_,_,h1⟩|⟨h1,_⟩
     · rw [hX] at h1;cases h1
     · exact h1
     rw [hY] at h1;cases h1
   have hrx:=hok.x hX
   obtain ⟨kx,hkx⟩:∃k:Nat,c[i].x=(k:Int):=⟨c[i].x.toNat,by omega⟩
   have htx:c[i].x.toNat=kx:=by omega
   rw [htx,ho] at hT
   refine gS (gR ?_);refine ah ?_;refine al Jb I9 4 ?_;refine aq Ja 0 ?_
   refine ab.ey (D':=kx+1) (u:=(aN (aa c kx)).2) hp g0 (by omega) rfl rfl rfl rfl rfl (fun _ _=>JL _ _) (fun w L0 L1 h=>by have:=hOf kx (by omega) true w L0 L1 h;rw [nK,←hkx] at this;exact this) (fun fv1 La1 Lb1 F1 g1 hs1 hf1 hh1=>?_)
   have ho1:(aN (aa c kx)).2.ok:=(hch kx (by omega)).2
   refine ai ?_;refine gE ?_
   refine gT func104 fun w' hS=>?_
   refine kL g1 ?_ hh1 hS
   rw [hf1,hT];rfl
  have n4:¬c[i].op=4:=by simpa using hc
  refine gS (gR ?_);refine aw bh ?_;refine ai ?_;refine gE ?_
  refine gC (fun hc=>?_) fun hc=>?_
  ·
   have ho:c[i].op=7:=by simpa using hc
   have hY:cm c[i].op=true:=by rw [ho];rfl
   have hX:=ep hY
   have hT:aa c i=.bin c[i].op c[i].i c[i].e c[i].g (aa c c[i].x.toNat) (aa c c[i].y.toNat):=by
     rcases hK with ⟨h1,_⟩|⟨_,h1,_⟩|⟨_,h1⟩
     · rw [hX] at h1;cases h1
     · rw [hY] at h1;cases h1
     exact h1
   have hrx:=hok.x hX
   obtain ⟨kx,hkx⟩:∃k:Nat,c[i].x=(k:Int):=⟨c[i].x.toNat,by omega⟩
   have htx:c[i].x.toNat=kx:=by omega
   have hry:=hok.y hY
   obtain ⟨ky,hky⟩:∃k:Nat,c[i].y=(k:Int):=⟨c[i].y.toNat,by omega⟩
   have hty:c[i].y.toNat=ky:=by omega
   rw [htx,hty,ho] at hT
   refine gS ?_
   refine ab.nU [0,1,2,4,5,6] 3 [7,8,9] mixed rfl ?_
   refine dy.v (fun _=>(ae.mv rfl rfl rfl rfl)) ?_
   refine dy.v (fun _=>(ae.aH rfl rfl rfl rfl Jb rfl (by exact I9) 4 rfl)) ?_
   refine dy.v (fun _=>(ae.dw rfl rfl rfl rfl Ja 0 rfl rfl)) ?_
   refine dy.v (fun _=>(ae.mv rfl rfl rfl rfl)) ?_
   refine dy.v (fun _=>(ae.aH rfl rfl rfl rfl Jb rfl (by exact I9) 5 rfl)) ?_
   refine dy.v (fun _=>(ae.dw rfl rfl rfl rfl Ja 0 rfl rfl)) ?_
   refine dy.ey (D':=kx+1) (u:=(aN (aa c kx)).2) hp g0 (by omega) rfl rfl rfl rfl rfl (fun _ _=>JL _ _) (fun w L0 L1 h=>by have:=hOf kx (by omega) true w L0 L1 h;rw [nK,←hkx] at this;exact this) (fun fv1 La1 Lb1 F1 g1 hs1 hf1 hh1=>?_)
   have ho1:(aN (aa c kx)).2.ok:=(hch kx (by omega)).2
   refine ab.ey (D':=ky+1) (u:=(aN (aa c ky)).1) hp g1 (by omega) rfl rfl rfl rfl rfl (fun _ _=>JL _ _) (fun w L0 L1 h=>by have:=hOf ky (by omega) false w L0 L1 h;rw [qz,←hky] at this;exact this) (fun fv2 La2 Lb2 F2 g2 hs2 hf2 hh2=>?_)
   replace hh1:=hs2 _ hh1
   have ho2:(aN (aa c ky)).1.ok:=(hch ky (by omega)).1
   refine ab.rM (u:=.bin 6 0 0 0 (aN (aa c kx)).2 (aN (aa c ky)).1) g2 rfl rfl rfl rfl rfl (fun _ _=>call28 _ _) (fun w _ hS=>?_) (fun fv3 F3 g3 hs3 hf3 hh3=>?_)
   · have:=uo fv1.a fv1.c fv1.f fv2.a fv2.c fv2.f w (hh1.fa hp g2 hS.ext hS (fun _ h=>List.mem_cons_of_mem _ (List.mem_append_right _ h))) (aC hf1) (hh2.fa hp g2 hS.ext hS (fun _ h=>List.mem_cons_of_mem _ (List.mem_append_right _ h))) (aC hf2)
     rw [show aQ ⟨6,0,0,0,0,0⟩ [fv1.f,fv2.f]=bT (.bin 6 0 0 0 (aN (aa c kx)).2 (aN (aa c ky)).1) from by rw [hf1,hf2];exact dx ho1 ho2 (by decide) rfl rfl] at this;exact this
   replace hh1:=hs3 _ hh1
   replace hh2:=hs3 _ hh2
   have ho3:(Tr.bin 6 0 0 0 (aN (aa c kx)).2 (aN (aa c ky)).1).ok:=jD ho1 ho2
   refine ai ?_;refine gE ?_
   refine gT func104 fun w' hS=>?_
   refine kL g3 ?_ hh3 hS
   rw [hf3,hT];rfl
  have n7:¬c[i].op=7:=by simpa using hc
  refine gS (gR ?_);refine aw bh ?_;refine ai ?_;refine gE ?_
  refine gC (fun hc=>?_) fun hc=>?_
  ·
   have ho:c[i].op=8:=by simpa using hc
   have hY:cm c[i].op=true:=by rw [ho];rfl
   have hX:=ep hY
   have hT:aa c i=.bin c[i].op c[i].i c[i].e c[i].g (aa c c[i].x.toNat) (aa c c[i].y.toNat):=by
     rcases hK with ⟨h1,_⟩|⟨_,h1,_⟩|⟨_,h1⟩
     · rw [hX] at h1;cases h1
     · rw [hY] at h1;cases h1
     exact h1
   have hrx:=hok.x hX
   obtain ⟨kx,hkx⟩:∃k:Nat,c[i].x=(k:Int):=⟨c[i].x.toNat,by omega⟩
   have htx:c[i].x.toNat=kx:=by omega
   have hry:=hok.y hY
   obtain ⟨ky,hky⟩:∃k:Nat,c[i].y=(k:Int):=⟨c[i].y.toNat,by omega⟩
   have hty:c[i].y.toNat=ky:=by omega
   rw [htx,hty,ho] at hT
   refine gS ?_
   refine ab.zc 21 mixed ?_
   refine cV 0 (ae.mv rfl rfl rfl rfl) ?_
   refine cV 1 (ae.aH rfl rfl rfl rfl Jb rfl (by exact I9) 4 rfl) ?_
   refine cV 2 (ae.dw rfl rfl rfl rfl Ja 0 rfl rfl) ?_
   refine cV 4 (ae.mv rfl rfl rfl rfl) ?_
   refine cV 5 (ae.aH rfl rfl rfl rfl Jb rfl (by exact I9) 5 rfl) ?_
   refine cV 6 (ae.dw rfl rfl rfl rfl Ja 0 rfl rfl) ?_
   refine cV 9 (ae.mv rfl rfl rfl rfl) ?_
   refine cV 10 (ae.aH rfl rfl rfl rfl Jb rfl (by exact I9) 4 rfl) ?_
   refine cV 11 (ae.dw rfl rfl rfl rfl Ja 0 rfl rfl) ?_
   refine cV 13 (ae.mv rfl rfl rfl rfl) ?_
   refine cV 14 (ae.aH rfl rfl rfl rfl Jb rfl (by exact I9) 5 rfl) ?_
   refine cV 15 (ae.dw rfl rfl rfl rfl Ja 0 rfl rfl) ?_
   refine aG.ey (i:=3) (D':=kx+1) (u:=(aN (aa c kx)).2) hp g0 (by omega) rfl rfl rfl rfl rfl rfl (fun _ _=>JL _ _) (fun w L0 L1 h=>by have:=hOf kx (by omega) true w L0 L1 h;rw [nK,←hkx] at this;exact this) (fun fv1 La1 Lb1 F1 g1 hs1 hf1 hh1=>?_)
   have ho1:(aN (aa c kx)).2.ok:=(hch kx (by omega)).2
   refine aG.ey (i:=7) (D':=ky+1) (u:=(aN (aa c ky)).1) hp g1 (by omega) rfl rfl rfl rfl rfl rfl (fun _ _=>JL _ _) (fun w L0 L1 h=>by have:=hOf ky (by omega) false w L0 L1 h;rw [qz,←hky] at this;exact this) (fun fv2 La2 Lb2 F2 g2 hs2 hf2 hh2=>?_)
   replace hh1:=hs2 _ hh1
   have ho2:(aN (aa c ky)).1.ok:=(hch ky (by omega)).1
   refine aG.rM (i:=8) (u:=.bin 6 0 0 0 (aN (aa c kx)).2 (aN (aa c ky)).1) g2 rfl rfl rfl rfl rfl rfl (fun _ _=>call28 _ _) (fun w _ hS=>?_) (fun fv3 F3 g3 hs3 hf3 hh3=>?_)
   · have:=uo fv1.a fv1.c fv1.f fv2.a fv2.c fv2.f w (hh1.fa hp g2 hS.ext hS (fun _ h=>List.mem_cons_of_mem _ (List.mem_append_right _ h))) (aC hf1) (hh2.fa hp g2 hS.ext hS (fun _ h=>List.mem_cons_of_mem _ (List.mem_append_right _ h))) (aC hf2)
     rw [show aQ ⟨6,0,0,0,0,0⟩ [fv1.f,fv2.f]=bT (.bin 6 0 0 0 (aN (aa c kx)).2 (aN (aa c ky)).1) from by rw [hf1,hf2];exact dx ho1 ho2 (by decide) rfl rfl] at this;exact this
   replace hh1:=hs3 _ hh1
   replace hh2:=hs3 _ hh2
   have ho3:(Tr.bin 6 0 0 0 (aN (aa c kx)).2 (aN (aa c ky)).1).ok:=jD ho1 ho2
   refine aG.ey (i:=12) (D':=kx+1) (u:=(aN (aa c kx)).1) hp g3 (by omega) rfl rfl rfl rfl rfl rfl (fun _ _=>JL _ _) (fun w L0 L1 h=>by have:=hOf kx (by omega) false w L0 L1 h;rw [qz,←hkx] at this;exact this) (fun fv4 La4 Lb4 F4 g4 hs4 hf4 hh4=>?_)
   replace hh1:=hs4 _ hh1
   replace hh2:=hs4 _ hh2
   replace hh3:=hs4 _ hh3
   have ho4:(aN (aa c kx)).1.ok:=(hch kx (by omega)).1
   refine aG.ey (i:=16) (D':=ky+1) (u:=(aN (aa c ky)).2) hp g4 (by omega) rfl rfl rfl rfl rfl rfl (fun _ _=>JL _ _) (fun w L0 L1 h=>by have:=hOf ky (by omega) true w L0 L1 h;rw [nK,←hky] at this;exact this) (fun fv5 La5 Lb5 F5 g5 hs5 hf5 hh5=>?_)
   replace hh1:=hs5 _ hh1
   replace hh2:=hs5 _ hh2
   replace hh3:=hs5 _ hh3
   replace hh4:=hs5 _ hh4
   have ho5:(aN (aa c ky)).2.ok:=(hch ky (by omega)).2
   refine aG.rM (i:=17) (u:=.bin 6 0 0 0 (aN (aa c kx)).1 (aN (aa c ky)).2) g5 rfl rfl rfl rfl rfl rfl (fun _ _=>call28 _ _) (fun w _ hS=>?_) (fun fv6 F6 g6 hs6 hf6 hh6=>?_)
   · have:=uo fv4.a fv4.c fv4.f fv5.a fv5.c fv5.f w (hh4.fa hp g5 hS.ext hS (fun _ h=>List.mem_cons_of_mem _ (List.mem_append_right _ h))) (aC hf4) (hh5.fa hp g5 hS.ext hS (fun _ h=>List.mem_cons_of_mem _ (List.mem_append_right _ h))) (aC hf5)
     rw [show aQ ⟨6,0,0,0,0,0⟩ [fv4.f,fv5.f]=bT (.bin 6 0 0 0 (aN (aa c kx)).1 (aN (aa c ky)).2) from by rw [hf4,hf5];exact dx ho4 ho5 (by decide) rfl rfl] at this;exact this
   replace hh1:=hs6 _ hh1
   replace hh2:=hs6 _ hh2
   replace hh3:=hs6 _ hh3
   replace hh4:=hs6 _ hh4
   replace hh5:=hs6 _ hh5
   have ho6:(Tr.bin 6 0 0 0 (aN (aa c kx)).1 (aN (aa c ky)).2).ok:=jD ho4 ho5
   refine aG.rM (i:=18) (u:=.bin 5 0 0 0 (.bin 6 0 0 0 (aN (aa c kx)).2 (aN (aa c ky)).1) (.bin 6 0 0 0 (aN (aa c kx)).1 (aN (aa c ky)).2)) g6 rfl rfl rfl rfl rfl rfl (fun _ _=>call27 _ _) (fun w _ hS=>?_) (fun fv7 F7 g7 hs7 hf7 hh7=>?_)
   · have:=nq fv3.a fv3.c fv3.f fv6.a fv6.c fv6.f w (hh3.fa hp g6 hS.ext hS (fun _ h=>List.mem_cons_of_mem _ (List.mem_append_right _ h))) (aC hf3) (hh6.fa hp g6 hS.ext hS (fun _ h=>List.mem_cons_of_mem _ (List.mem_append_right _ h))) (aC hf6)
     rw [show aQ ⟨5,0,0,0,0,0⟩ [fv3.f,fv6.f]=bT (.bin 5 0 0 0 (.bin 6 0 0 0 (aN (aa c kx)).2 (aN (aa c ky)).1) (.bin 6 0 0 0 (aN (aa c kx)).1 (aN (aa c ky)).2)) from by rw [hf3,hf6];exact dx ho3 ho6 (by decide) rfl rfl] at this;exact this
   replace hh1:=hs7 _ hh1
   replace hh2:=hs7 _ hh2
   replace hh3:=hs7 _ hh3
   replace hh4:=hs7 _ hh4
   replace hh5:=hs7 _ hh5
   replace hh6:=hs7 _ hh6
   have ho7:(Tr.bin 5 0 0 0 (.bin 6 0 0 0 (aN (aa c kx)).2 (aN (aa c ky)).1) (.bin 6 0 0 0 (aN (aa c kx)).1 (aN (aa c ky)).2)).ok:=jm ho3 ho6
   refine cV 19 (ae.fh rfl rfl rfl rfl) ?_
   refine aG.done rfl ?_
   refine gE ?_
   refine gT func104 fun w' hS=>?_
   refine kL g7 ?_ hh7 hS
   rw [hf7,hT];rfl
  have n8:¬c[i].op=8:=by simpa using hc
  refine gK (dQ (gS (gR ?_)))
  iterate 2 refine ai ?_
  refine gE (gS (gS (gR ?_)));refine al Jb I9 0 ?_;refine aq Ja 0 ?_;refine aw oN ?_;refine gE ?_
  refine gC (fun hc=>?_) fun hc=>?_
  ·
   have hX:cF c[i].op=true:=by rw [u5 hop];simpa using hc
   have hrx:=hok.x hX
   obtain ⟨kx,hkx⟩:∃k:Nat,c[i].x=(k:Int):=⟨c[i].x.toNat,by omega⟩
   have htx:c[i].x.toNat=kx:=by omega
   refine gR ?_;refine ah ?_;refine al Jb I9 4 ?_;refine aq Ja 0 ?_
   refine ab.ey (D':=kx+1) (u:=(aN (aa c kx)).1) hp g0 (by omega) rfl rfl rfl rfl rfl (fun _ _=>JL _ _) (fun w L0 L1 h=>by have:=hOf kx (by omega) false w L0 L1 h;rw [qz,←hkx] at this;exact this) (fun fv1 La1 Lb1 F1 g1 hs1 hf1 hh1=>?_)
   have ho1:(aN (aa c kx)).1.ok:=(hch kx (by omega)).1
   refine ai ?_;refine gE (gS (gS (gR ?_)));refine al Jb I9 0 ?_;refine aq Ja 0 ?_
   refine gP rfl rfl rfl rfl rfl call151 (fun w _ hS=>(by exact tQ c[i].op w hop)) ?_
   refine gE ?_
   refine gC (fun hc=>?_) fun hc=>?_
   ·
    have hY:cm c[i].op=true:=hc
    have hT:aa c i=.bin c[i].op c[i].i c[i].e c[i].g (aa c c[i].x.toNat) (aa c c[i].y.toNat):=by
      rcases hK with ⟨h1,_⟩|⟨_,h1,_⟩|⟨_,h1⟩
      · rw [hX] at h1;cases h1
      · rw [hY] at h1;cases h1
      exact h1
    have hry:=hok.y hY
    obtain ⟨ky,hky⟩:∃k:Nat,c[i].y=(k:Int):=⟨c[i].y.toNat,by omega⟩
    have hty:c[i].y.toNat=ky:=by omega
    rw [htx,hty] at hT
    refine gR ?_;refine ah ?_;refine al Jb I9 5 ?_;refine aq Ja 0 ?_
    refine ab.ey (D':=ky+1) (u:=(aN (aa c ky)).1) hp g1 (by omega) rfl rfl rfl rfl rfl (fun _ _=>JL _ _) (fun w L0 L1 h=>by have:=hOf ky (by omega) false w L0 L1 h;rw [qz,←hky] at this;exact this) (fun fv2 La2 Lb2 F2 g2 hs2 hf2 hh2=>?_)
    replace hh1:=hs2 _ hh1
    have ho2:(aN (aa c ky)).1.ok:=(hch ky (by omega)).1
    refine ai ?_;refine gE (gS (gR ?_))
    refine ab.v (ae.iR rfl rfl rfl rfl Jt 0 rfl Jd rfl) ?_
    iterate 2 refine ah ?_
    refine ab.rM (u:=jT c[i].op c[i].i c[i].e c[i].g (aN (aa c kx)).1 (aN (aa c ky)).1) g2 rfl rfl rfl rfl rfl (fun _ _=>call152 _ _) (fun w _ hS=>?_) (fun fv3 F3 g3 hs3 hf3 hh3=>?_)
    · exact px c[i] fv1 fv2 (aN (aa c kx)).1 (aN (aa c ky)).1 w hop hfl (fun _=>⟨(hh1.fa hp g2 hS.ext hS (fun _ h=>List.mem_cons_of_mem _ (List.mem_append_right _ h))),hf1,ho1⟩) (fun _=>⟨(hh2.fa hp g2 hS.ext hS (fun _ h=>List.mem_cons_of_mem _ (List.mem_append_right _ h))),hf2,ho2⟩)
    replace hh1:=hs3 _ hh1
    replace hh2:=hs3 _ hh2
    refine ai ?_;refine gE ?_
    refine gT func104 fun w' hS=>?_
    refine kL g3 ?_ hh3 hS
    rw [hf3,hT,AV n7 n8,vB hY]
   have hY:cm c[i].op=false:=hc
   have hT:aa c i=.un c[i].op c[i].i c[i].e c[i].g (aa c c[i].x.toNat):=by
     rcases hK with ⟨h1,_⟩|⟨_,_,h1⟩|⟨h1,_⟩
     · rw [hX] at h1;cases h1
     · exact h1
     rw [hY] at h1;cases h1
   rw [htx] at hT
   refine gK (gS (gR ?_))
   refine ab.v (ae.iR rfl rfl rfl rfl Jt 0 rfl Jd rfl) ?_
   iterate 2 refine ah ?_
   refine ab.rM (u:=jT c[i].op c[i].i c[i].e c[i].g (aN (aa c kx)).1 lV) g1 rfl rfl rfl rfl rfl (fun _ _=>call152 _ _) (fun w _ hS=>?_) (fun fv2 F2 g2 hs2 hf2 hh2=>?_)
   · exact px c[i] fv1 FV.z (aN (aa c kx)).1 lV w hop hfl (fun _=>⟨(hh1.fa hp g1 hS.ext hS (fun _ h=>List.mem_cons_of_mem _ (List.mem_append_right _ h))),hf1,ho1⟩) (fun e=>absurd (hY.symm.trans e) (by decide))
   replace hh1:=hs2 _ hh1
   refine ai ?_;refine gE ?_
   refine gT func104 fun w' hS=>?_
   refine kL g2 ?_ hh2 hS
   rw [hf2,hT,Da n4,yy hX hY]
  have hX:cF c[i].op=false:=by rw [u5 hop];simpa using hc
  have hY:=xz hX
  have hT:aa c i=.leaf c[i].op c[i].i c[i].e c[i].g:=by
    rcases hK with ⟨_,h1⟩|⟨h1,_,_⟩|⟨h1,_⟩
    · exact h1
    · rw [hX] at h1;cases h1
    rw [hY] at h1;cases h1
  refine gK (gS (gS (gR ?_)));refine al Jb I9 0 ?_;refine aq Ja 0 ?_
  refine gP rfl rfl rfl rfl rfl call151 (fun w _ hS=>(by exact tQ c[i].op w hop)) ?_
  refine gE ?_
  refine gC (fun hc=>?_) fun hc=>?_
  ·
   exact absurd (hY.symm.trans hc) (by decide)
  refine gK (gS (gR ?_))
  refine ab.v (ae.iR rfl rfl rfl rfl Jt 0 rfl Jd rfl) ?_
  iterate 2 refine ah ?_
  refine ab.rM (u:=jT c[i].op c[i].i c[i].e c[i].g lV lV) g0 rfl rfl rfl rfl rfl (fun _ _=>call152 _ _) (fun w _ hS=>?_) (fun fv1 F1 g1 hs1 hf1 hh1=>?_)
  · exact px c[i] FV.z FV.z lV lV w hop hfl (fun e=>absurd (hX.symm.trans e) (by decide)) (fun e=>absurd (hY.symm.trans e) (by decide))
  refine ai ?_;refine gE ?_
  refine gT func104 fun w' hS=>?_
  refine kL g1 ?_ hh1 hS
  rw [hf1,hT,sZ hX];rfl
set_option maxRecDepth 8000 in
theorem Ff {c:List NV} {na:Option Addr} {nc bk m0 m1 i:Nat} (hi:i<c.length) (hO:bd c) (hOf:∀j,j<i→BX c na nc bk m0 m1 j) (hPs:Ef c na nc bk m0 m1 i hi):Gc c na nc bk m0 m1 i hi:=by
  intro w L0 L1 hp
  have hok:=hO i hi
  have hop:=hok.op
  have hfl:=hok.kO
  have hF:=gx hfl
  have hK:=dE hi hO
  have hch:∀k:Nat,k<i→(aN (aa c k)).1.ok∧(aN (aa c k)).2.ok:=fun k hk=>k0 (hO.tree k (by omega))
  have g0:cM 66 c i L0 L1 L0 L1 []:=cM.refl hp.kv
  refine qv.of hp.has func103 rfl rfl ?_
  rw [show cI (jS m0 L0 m1 L1)=[m0,m1] from rfl]
  refine ab.dH (h':=jS m0 L0 m1 L1++[]) (List.Sublist.refl _) ?_
  refine gS (gR ?_)
  refine ab.bx rfl rfl rfl rfl (fun b3=>?_)
  refine ai ?_;refine gE (gS (gS (gR ?_)));refine al Jb I9 0 ?_;refine aq Ja 0 ?_;refine gE (gB (gS (gR ?_)));refine aw bh ?_;refine ai ?_;refine gE ?_
  refine gC (fun hc=>?_) fun hc=>?_
  ·
   have ho:c[i].op=1:=by simpa using hc
   have hX:cF c[i].op=false:=by rw [ho];rfl
   have hY:cm c[i].op=false:=by rw [ho];rfl
   have hT:aa c i=.leaf c[i].op c[i].i c[i].e c[i].g:=by
     rcases hK with ⟨_,h1⟩|⟨h1,_,_⟩|⟨h1,_⟩
     · exact h1
     · rw [hX] at h1;cases h1
     rw [hY] at h1;cases h1
   rw [ho] at hT
   refine gS (gR ?_)
   refine ab.rM (u:=cT 2) g0 rfl rfl rfl rfl rfl (fun _ _=>call150 _ _) (fun w _ hS=>?_) (fun fv1 F1 g1 hs1 hf1 hh1=>?_)
   · have:=vI w
     rw [Cj (.inr rfl)] at this;exact this
   refine ai ?_;refine gE ?_
   refine gT func103 fun w' hS=>?_
   refine kL g1 ?_ hh1 hS
   rw [hf1,hT];rfl
  have n1:¬c[i].op=1:=by simpa using hc
  refine gS (gR ?_);refine aw bh ?_;refine ai ?_;refine gE ?_
  refine gC (fun hc=>?_) fun hc=>?_
  ·
   have ho:c[i].op=2:=by simpa using hc
   have hX:cF c[i].op=false:=by rw [ho];rfl
   have hY:cm c[i].op=false:=by rw [ho];rfl
   have hT:aa c i=.leaf c[i].op c[i].i c[i].e c[i].g:=by
     rcases hK with ⟨_,h1⟩|⟨h1,_,_⟩|⟨h1,_⟩
     · exact h1
     · rw [hX] at h1;cases h1
     rw [hY] at h1;cases h1
   rw [ho] at hT
   refine gS (gR ?_)
   refine ab.rM (u:=cT 1) g0 rfl rfl rfl rfl rfl (fun _ _=>call65 _ _) (fun w _ hS=>?_) (fun fv1 F1 g1 hs1 hf1 hh1=>?_)
   · have:=ua w
     rw [Cj (.inl rfl)] at this;exact this
   refine ai ?_;refine gE ?_
   refine gT func103 fun w' hS=>?_
   refine kL g1 ?_ hh1 hS
   rw [hf1,hT];rfl
  have n2:¬c[i].op=2:=by simpa using hc
  refine gS (gR ?_);refine aw bh ?_;refine ai ?_;refine gE ?_
  refine gC (fun hc=>?_) fun hc=>?_
  ·
   have ho:c[i].op=4:=by simpa using hc
   have hX:cF c[i].op=true:=by rw [ho];rfl
   have hY:cm c[i].op=false:=by rw [ho];rfl
   have hT:aa c i=.un c[i].op c[i].i c[i].e c[i].g (aa c c[i].x.toNat):=by
     rcases hK with ⟨h1,_⟩|⟨_,_,h1⟩|⟨h1,_⟩
     · rw [hX] at h1;cases h1
     · exact h1
     rw [hY] at h1;cases h1
   have hrx:=hok.x hX
   obtain ⟨kx,hkx⟩:∃k:Nat,c[i].x=(k:Int):=⟨c[i].x.toNat,by omega⟩
   have htx:c[i].x.toNat=kx:=by omega
   rw [htx,ho] at hT
   refine gS (gR ?_);refine ah ?_;refine al Jb I9 4 ?_;refine aq Ja 0 ?_
   refine ab.ey (D':=kx+1) (u:=(aN (aa c kx)).1) hp g0 (by omega) rfl rfl rfl rfl rfl (fun _ _=>JL _ _) (fun w L0 L1 h=>by have:=hOf kx (by omega) false w L0 L1 h;rw [qz,←hkx] at this;exact this) (fun fv1 La1 Lb1 F1 g1 hs1 hf1 hh1=>?_)
   have ho1:(aN (aa c kx)).1.ok:=(hch kx (by omega)).1
   refine ai ?_;refine gE ?_
   refine gT func103 fun w' hS=>?_
   refine kL g1 ?_ hh1 hS
   rw [hf1,hT];rfl
  have n4:¬c[i].op=4:=by simpa using hc
  refine gS (gR ?_);refine aw bh ?_;refine ai ?_;refine gE ?_
  refine gC (fun hc=>?_) fun hc=>?_
  ·
   have ho:c[i].op=5:=by simpa using hc
   have hY:cm c[i].op=true:=by rw [ho];rfl
   have hX:=ep hY
   have hT:aa c i=.bin c[i].op c[i].i c[i].e c[i].g (aa c c[i].x.toNat) (aa c c[i].y.toNat):=by
     rcases hK with ⟨h1,_⟩|⟨_,h1,_⟩|⟨_,h1⟩
     · rw [hX] at h1;cases h1
     · rw [hY] at h1;cases h1
     exact h1
   have hrx:=hok.x hX
   obtain ⟨kx,hkx⟩:∃k:Nat,c[i].x=(k:Int):=⟨c[i].x.toNat,by omega⟩
   have htx:c[i].x.toNat=kx:=by omega
   have hry:=hok.y hY
   obtain ⟨ky,hky⟩:∃k:Nat,c[i].y=(k:Int):=⟨c[i].y.toNat,by omega⟩
   have hty:c[i].y.toNat=ky:=by omega
   rw [htx,hty,ho] at hT
   refine gS ?_
   refine ab.nU [0,1,2,4,5,6] 3 [7,8,9] mixed rfl ?_
   refine dy.v (fun _=>(ae.mv rfl rfl rfl rfl)) ?_
   refine dy.v (fun _=>(ae.aH rfl rfl rfl rfl Jb rfl (by exact I9) 4 rfl)) ?_
   refine dy.v (fun _=>(ae.dw rfl rfl rfl rfl Ja 0 rfl rfl)) ?_
   refine dy.v (fun _=>(ae.mv rfl rfl rfl rfl)) ?_
   refine dy.v (fun _=>(ae.aH rfl rfl rfl rfl Jb rfl (by exact I9) 5 rfl)) ?_
   refine dy.v (fun _=>(ae.dw rfl rfl rfl rfl Ja 0 rfl rfl)) ?_
   refine dy.ey (D':=kx+1) (u:=(aN (aa c kx)).2) hp g0 (by omega) rfl rfl rfl rfl rfl (fun _ _=>JL _ _) (fun w L0 L1 h=>by have:=hOf kx (by omega) true w L0 L1 h;rw [nK,←hkx] at this;exact this) (fun fv1 La1 Lb1 F1 g1 hs1 hf1 hh1=>?_)
   have ho1:(aN (aa c kx)).2.ok:=(hch kx (by omega)).2
   refine ab.ey (D':=ky+1) (u:=(aN (aa c ky)).2) hp g1 (by omega) rfl rfl rfl rfl rfl (fun _ _=>JL _ _) (fun w L0 L1 h=>by have:=hOf ky (by omega) true w L0 L1 h;rw [nK,←hky] at this;exact this) (fun fv2 La2 Lb2 F2 g2 hs2 hf2 hh2=>?_)
   replace hh1:=hs2 _ hh1
   have ho2:(aN (aa c ky)).2.ok:=(hch ky (by omega)).2
   refine ab.rM (u:=.bin 6 0 0 0 (aN (aa c kx)).2 (aN (aa c ky)).2) g2 rfl rfl rfl rfl rfl (fun _ _=>call28 _ _) (fun w _ hS=>?_) (fun fv3 F3 g3 hs3 hf3 hh3=>?_)
   · have:=uo fv1.a fv1.c fv1.f fv2.a fv2.c fv2.f w (hh1.fa hp g2 hS.ext hS (fun _ h=>List.mem_cons_of_mem _ (List.mem_append_right _ h))) (aC hf1) (hh2.fa hp g2 hS.ext hS (fun _ h=>List.mem_cons_of_mem _ (List.mem_append_right _ h))) (aC hf2)
     rw [show aQ ⟨6,0,0,0,0,0⟩ [fv1.f,fv2.f]=bT (.bin 6 0 0 0 (aN (aa c kx)).2 (aN (aa c ky)).2) from by rw [hf1,hf2];exact dx ho1 ho2 (by decide) rfl rfl] at this;exact this
   replace hh1:=hs3 _ hh1
   replace hh2:=hs3 _ hh2
   have ho3:(Tr.bin 6 0 0 0 (aN (aa c kx)).2 (aN (aa c ky)).2).ok:=jD ho1 ho2
   refine ai ?_;refine gE ?_
   refine gT func103 fun w' hS=>?_
   refine kL g3 ?_ hh3 hS
   rw [hf3,hT];rfl
  have n5:¬c[i].op=5:=by simpa using hc
  refine gS (gR ?_);refine aw bh ?_;refine ai ?_;refine gE ?_
  refine gC (fun hc=>?_) fun hc=>?_
  ·
   have ho:c[i].op=6:=by simpa using hc
   have hY:cm c[i].op=true:=by rw [ho];rfl
   have hX:=ep hY
   have hT:aa c i=.bin c[i].op c[i].i c[i].e c[i].g (aa c c[i].x.toNat) (aa c c[i].y.toNat):=by
     rcases hK with ⟨h1,_⟩|⟨_,h1,_⟩|⟨_,h1⟩
     · rw [hX] at h1;cases h1
     · rw [hY] at h1;cases h1
     exact h1
   have hrx:=hok.x hX
   obtain ⟨kx,hkx⟩:∃k:Nat,c[i].x=(k:Int):=⟨c[i].x.toNat,by omega⟩
   have htx:c[i].x.toNat=kx:=by omega
   have hry:=hok.y hY
   obtain ⟨ky,hky⟩:∃k:Nat,c[i].y=(k:Int):=⟨c[i].y.toNat,by omega⟩
   have hty:c[i].y.toNat=ky:=by omega
   rw [htx,hty,ho] at hT
   refine gS ?_
   refine ab.nU [0,1,2,4,5,6] 3 [7,8,9] mixed rfl ?_
   refine dy.v (fun _=>(ae.mv rfl rfl rfl rfl)) ?_
   refine dy.v (fun _=>(ae.aH rfl rfl rfl rfl Jb rfl (by exact I9) 4 rfl)) ?_
   refine dy.v (fun _=>(ae.dw rfl rfl rfl rfl Ja 0 rfl rfl)) ?_
   refine dy.v (fun _=>(ae.mv rfl rfl rfl rfl)) ?_
   refine dy.v (fun _=>(ae.aH rfl rfl rfl rfl Jb rfl (by exact I9) 5 rfl)) ?_
   refine dy.v (fun _=>(ae.dw rfl rfl rfl rfl Ja 0 rfl rfl)) ?_
   refine dy.ey (D':=kx+1) (u:=(aN (aa c kx)).2) hp g0 (by omega) rfl rfl rfl rfl rfl (fun _ _=>JL _ _) (fun w L0 L1 h=>by have:=hOf kx (by omega) true w L0 L1 h;rw [nK,←hkx] at this;exact this) (fun fv1 La1 Lb1 F1 g1 hs1 hf1 hh1=>?_)
   have ho1:(aN (aa c kx)).2.ok:=(hch kx (by omega)).2
   refine ab.ey (D':=ky+1) (u:=(aN (aa c ky)).2) hp g1 (by omega) rfl rfl rfl rfl rfl (fun _ _=>JL _ _) (fun w L0 L1 h=>by have:=hOf ky (by omega) true w L0 L1 h;rw [nK,←hky] at this;exact this) (fun fv2 La2 Lb2 F2 g2 hs2 hf2 hh2=>?_)
   replace hh1:=hs2 _ hh1
   have ho2:(aN (aa c ky)).2.ok:=(hch ky (by omega)).2
   refine ab.rM (u:=.bin 5 0 0 0 (aN (aa c kx)).2 (aN (aa c ky)).2) g2 rfl rfl rfl rfl rfl (fun _ _=>call27 _ _) (fun w _ hS=>?_) (fun fv3 F3 g3 hs3 hf3 hh3=>?_)
   · have:=nq fv1.a fv1.c fv1.f fv2.a fv2.c fv2.f w (hh1.fa hp g2 hS.ext hS (fun _ h=>List.mem_cons_of_mem _ (List.mem_append_right _ h))) (aC hf1) (hh2.fa hp g2 hS.ext hS (fun _ h=>List.mem_cons_of_mem _ (List.mem_append_right _ h))) (aC hf2)
     rw [show aQ ⟨5,0,0,0,0,0⟩ [fv1.f,fv2.f]=bT (.bin 5 0 0 0 (aN (aa c kx)).2 (aN (aa c ky)).2) from by rw [hf1,hf2];exact dx ho1 ho2 (by decide) rfl rfl] at this;exact this
   replace hh1:=hs3 _ hh1
   replace hh2:=hs3 _ hh2
   have ho3:(Tr.bin 5 0 0 0 (aN (aa c kx)).2 (aN (aa c ky)).2).ok:=jm ho1 ho2
   refine ai ?_;refine gE ?_
   refine gT func103 fun w' hS=>?_
   refine kL g3 ?_ hh3 hS
   rw [hf3,hT];rfl
  have n6:¬c[i].op=6:=by simpa using hc
  refine gS (gR ?_);refine aw bh ?_;refine ai ?_;refine gE ?_
  refine gC (fun hc=>?_) fun hc=>?_
  ·
   have ho:c[i].op=7:=by simpa using hc
   have hY:cm c[i].op=true:=by rw [ho];rfl
   have hX:=ep hY
   have hT:aa c i=.bin c[i].op c[i].i c[i].e c[i].g (aa c c[i].x.toNat) (aa c c[i].y.toNat):=by
     rcases hK with ⟨h1,_⟩|⟨_,h1,_⟩|⟨_,h1⟩
     · rw [hX] at h1;cases h1
     · rw [hY] at h1;cases h1
     exact h1
   have hrx:=hok.x hX
   obtain ⟨kx,hkx⟩:∃k:Nat,c[i].x=(k:Int):=⟨c[i].x.toNat,by omega⟩
   have htx:c[i].x.toNat=kx:=by omega
   have hry:=hok.y hY
   obtain ⟨ky,hky⟩:∃k:Nat,c[i].y=(k:Int):=⟨c[i].y.toNat,by omega⟩
   have hty:c[i].y.toNat=ky:=by omega
   rw [htx,hty,ho] at hT
   refine gS ?_
   refine ab.nU [0,1,2,4,5,6] 3 [7,8,9] mixed rfl ?_
   refine dy.v (fun _=>(ae.mv rfl rfl rfl rfl)) ?_
   refine dy.v (fun _=>(ae.aH rfl rfl rfl rfl Jb rfl (by exact I9) 4 rfl)) ?_
   refine dy.v (fun _=>(ae.dw rfl rfl rfl rfl Ja 0 rfl rfl)) ?_
   refine dy.v (fun _=>(ae.mv rfl rfl rfl rfl)) ?_
   refine dy.v (fun _=>(ae.aH rfl rfl rfl rfl Jb rfl (by exact I9) 5 rfl)) ?_
   refine dy.v (fun _=>(ae.dw rfl rfl rfl rfl Ja 0 rfl rfl)) ?_
   refine dy.ey (D':=kx+1) (u:=(aN (aa c kx)).1) hp g0 (by omega) rfl rfl rfl rfl rfl (fun _ _=>JL _ _) (fun w L0 L1 h=>by have:=hOf kx (by omega) false w L0 L1 h;rw [qz,←hkx] at this;exact this) (fun fv1 La1 Lb1 F1 g1 hs1 hf1 hh1=>?_)
   have ho1:(aN (aa c kx)).1.ok:=(hch kx (by omega)).1
   refine ab.ey (D':=ky+1) (u:=(aN (aa c ky)).2) hp g1 (by omega) rfl rfl rfl rfl rfl (fun _ _=>JL _ _) (fun w L0 L1 h=>by have:=hOf ky (by omega) true w L0 L1 h;rw [nK,←hky] at this;exact this) (fun fv2 La2 Lb2 F2 g2 hs2 hf2 hh2=>?_)
   replace hh1:=hs2 _ hh1
   have ho2:(aN (aa c ky)).2.ok:=(hch ky (by omega)).2
   refine ab.rM (u:=.bin 5 0 0 0 (aN (aa c kx)).1 (aN (aa c ky)).2) g2 rfl rfl rfl rfl rfl (fun _ _=>call27 _ _) (fun w _ hS=>?_) (fun fv3 F3 g3 hs3 hf3 hh3=>?_)
   · have:=nq fv1.a fv1.c fv1.f fv2.a fv2.c fv2.f w (hh1.fa hp g2 hS.ext hS (fun _ h=>List.mem_cons_of_mem _ (List.mem_append_right _ h))) (aC hf1) (hh2.fa hp g2 hS.ext hS (fun _ h=>List.mem_cons_of_mem _ (List.mem_append_right _ h))) (aC hf2)
     rw [show aQ ⟨5,0,0,0,0,0⟩ [fv1.f,fv2.f]=bT (.bin 5 0 0 0 (aN (aa c kx)).1 (aN (aa c ky)).2) from by rw [hf1,hf2];exact dx ho1 ho2 (by decide) rfl rfl] at this;exact this
   replace hh1:=hs3 _ hh1
   replace hh2:=hs3 _ hh2
   have ho3:(Tr.bin 5 0 0 0 (aN (aa c kx)).1 (aN (aa c ky)).2).ok:=jm ho1 ho2
   refine ai ?_;refine gE ?_
   refine gT func103 fun w' hS=>?_
   refine kL g3 ?_ hh3 hS
   rw [hf3,hT];rfl
  have n7:¬c[i].op=7:=by simpa using hc
  refine gS (gR ?_);refine aw bh ?_;refine ai ?_;refine gE ?_
  refine gC (fun hc=>?_) fun hc=>?_
  ·
   have ho:c[i].op=8:=by simpa using hc
   have hY:cm c[i].op=true:=by rw [ho];rfl
   have hX:=ep hY
   have hT:aa c i=.bin c[i].op c[i].i c[i].e c[i].g (aa c c[i].x.toNat) (aa c c[i].y.toNat):=by
     rcases hK with ⟨h1,_⟩|⟨_,h1,_⟩|⟨_,h1⟩
     · rw [hX] at h1;cases h1
     · rw [hY] at h1;cases h1
     exact h1
   have hrx:=hok.x hX
   obtain ⟨kx,hkx⟩:∃k:Nat,c[i].x=(k:Int):=⟨c[i].x.toNat,by omega⟩
   have htx:c[i].x.toNat=kx:=by omega
   have hry:=hok.y hY
   obtain ⟨ky,hky⟩:∃k:Nat,c[i].y=(k:Int):=⟨c[i].y.toNat,by omega⟩
   have hty:c[i].y.toNat=ky:=by omega
   rw [htx,hty,ho] at hT
   refine gS ?_
   refine ab.zc 21 mixed ?_
   refine cV 0 (ae.mv rfl rfl rfl rfl) ?_
   refine cV 1 (ae.aH rfl rfl rfl rfl Jb rfl (by exact I9) 4 rfl) ?_
   refine cV 2 (ae.dw rfl rfl rfl rfl Ja 0 rfl rfl) ?_
   refine cV 4 (ae.mv rfl rfl rfl rfl) ?_
   refine cV 5 (ae.aH rfl rfl rfl rfl Jb rfl (by exact I9) 5 rfl) ?_
   refine cV 6 (ae.dw rfl rfl rfl rfl Ja 0 rfl rfl) ?_
   refine cV 9 (ae.mv rfl rfl rfl rfl) ?_
   refine cV 10 (ae.aH rfl rfl rfl rfl Jb rfl (by exact I9) 4 rfl) ?_
   refine cV 11 (ae.dw rfl rfl rfl rfl Ja 0 rfl rfl) ?_
   refine cV 13 (ae.mv rfl rfl rfl rfl) ?_
   refine cV 14 (ae.aH rfl rfl rfl rfl Jb rfl (by exact I9) 5 rfl) ?_
   refine cV 15 (ae.dw rfl rfl rfl rfl Ja 0 rfl rfl) ?_
   refine aG.ey (i:=3) (D':=kx+1) (u:=(aN (aa c kx)).1) hp g0 (by omega) rfl rfl rfl rfl rfl rfl (fun _ _=>JL _ _) (fun w L0 L1 h=>by have:=hOf kx (by omega) false w L0 L1 h;rw [qz,←hkx] at this;exact this) (fun fv1 La1 Lb1 F1 g1 hs1 hf1 hh1=>?_)
   have ho1:(aN (aa c kx)).1.ok:=(hch kx (by omega)).1
   refine aG.ey (i:=7) (D':=ky+1) (u:=(aN (aa c ky)).2) hp g1 (by omega) rfl rfl rfl rfl rfl rfl (fun _ _=>JL _ _) (fun w L0 L1 h=>by have:=hOf ky (by omega) true w L0 L1 h;rw [nK,←hky] at this;exact this) (fun fv2 La2 Lb2 F2 g2 hs2 hf2 hh2=>?_)
   replace hh1:=hs2 _ hh1
   have ho2:(aN (aa c ky)).2.ok:=(hch ky (by omega)).2
   refine aG.rM (i:=8) (u:=.bin 5 0 0 0 (aN (aa c kx)).1 (aN (aa c ky)).2) g2 rfl rfl rfl rfl rfl rfl (fun _ _=>call27 _ _) (fun w _ hS=>?_) (fun fv3 F3 g3 hs3 hf3 hh3=>?_)
   · have:=nq fv1.a fv1.c fv1.f fv2.a fv2.c fv2.f w (hh1.fa hp g2 hS.ext hS (fun _ h=>List.mem_cons_of_mem _ (List.mem_append_right _ h))) (aC hf1) (hh2.fa hp g2 hS.ext hS (fun _ h=>List.mem_cons_of_mem _ (List.mem_append_right _ h))) (aC hf2)
     rw [show aQ ⟨5,0,0,0,0,0⟩ [fv1.f,fv2.f]=bT (.bin 5 0 0 0 (aN (aa c kx)).1 (aN (aa c ky)).2) from by rw [hf1,hf2];exact dx ho1 ho2 (by decide) rfl rfl] at this;exact this
   replace hh1:=hs3 _ hh1
   replace hh2:=hs3 _ hh2
   have ho3:(Tr.bin 5 0 0 0 (aN (aa c kx)).1 (aN (aa c ky)).2).ok:=jm ho1 ho2
   refine aG.ey (i:=12) (D':=kx+1) (u:=(aN (aa c kx)).2) hp g3 (by omega) rfl rfl rfl rfl rfl rfl (fun _ _=>JL _ _) (fun w L0 L1 h=>by have:=hOf kx (by omega) true w L0 L1 h;rw [nK,←hkx] at this;exact this) (fun fv4 La4 Lb4 F4 g4 hs4 hf4 hh4=>?_)
   replace hh1:=hs4 _ hh1
   replace hh2:=hs4 _ hh2
   replace hh3:=hs4 _ hh3
   have ho4:(aN (aa c kx)).2.ok:=(hch kx (by omega)).2
   refine aG.ey (i:=16) (D':=ky+1) (u:=(aN (aa c ky)).1) hp g4 (by omega) rfl rfl rfl rfl rfl rfl (fun _ _=>JL _ _) (fun w L0 L1 h=>by have:=hOf ky (by omega) false w L0 L1 h;rw [qz,←hky] at this;exact this) (fun fv5 La5 Lb5 F5 g5 hs5 hf5 hh5=>?_)
   replace hh1:=hs5 _ hh1
   replace hh2:=hs5 _ hh2
   replace hh3:=hs5 _ hh3
   replace hh4:=hs5 _ hh4
   have ho5:(aN (aa c ky)).1.ok:=(hch ky (by omega)).1
   refine aG.rM (i:=17) (u:=.bin 5 0 0 0 (aN (aa c kx)).2 (aN (aa c ky)).1) g5 rfl rfl rfl rfl rfl rfl (fun _ _=>call27 _ _) (fun w _ hS=>?_) (fun fv6 F6 g6 hs6 hf6 hh6=>?_)
   · have:=nq fv4.a fv4.c fv4.f fv5.a fv5.c fv5.f w (hh4.fa hp g5 hS.ext hS (fun _ h=>List.mem_cons_of_mem _ (List.mem_append_right _ h))) (aC hf4) (hh5.fa hp g5 hS.ext hS (fun _ h=>List.mem_cons_of_mem _ (List.mem_append_right _ h))) (aC hf5)
     rw [show aQ ⟨5,0,0,0,0,0⟩ [fv4.f,fv5.f]=bT (.bin 5 0 0 0 (aN (aa c kx)).2 (aN (aa c ky)).1) from by rw [hf4,hf5];exact dx ho4 ho5 (by decide) rfl rfl] at this;exact this
   replace hh1:=hs6 _ hh1
   replace hh2:=hs6 _ hh2
   replace hh3:=hs6 _ hh3
   replace hh4:=hs6 _ hh4
   replace hh5:=hs6 _ hh5
   have ho6:(Tr.bin 5 0 0 0 (aN (aa c kx)).2 (aN (aa c ky)).1).ok:=jm ho4 ho5
   refine aG.rM (i:=18) (u:=.bin 6 0 0 0 (.bin 5 0 0 0 (aN (aa c kx)).1 (aN (aa c ky)).2) (.bin 5 0 0 0 (aN (aa c kx)).2 (aN (aa c ky)).1)) g6 rfl rfl rfl rfl rfl rfl (fun _ _=>call28 _ _) (fun w _ hS=>?_) (fun fv7 F7 g7 hs7 hf7 hh7=>?_)
   · have:=uo fv3.a fv3.c fv3.f fv6.a fv6.c fv6.f w (hh3.fa hp g6 hS.ext hS (fun _ h=>List.mem_cons_of_mem _ (List.mem_append_right _ h))) (aC hf3) (hh6.fa hp g6 hS.ext hS (fun _ h=>List.mem_cons_of_mem _ (List.mem_append_right _ h))) (aC hf6)
     rw [show aQ ⟨6,0,0,0,0,0⟩ [fv3.f,fv6.f]=bT (.bin 6 0 0 0 (.bin 5 0 0 0 (aN (aa c kx)).1 (aN (aa c ky)).2) (.bin 5 0 0 0 (aN (aa c kx)).2 (aN (aa c ky)).1)) from by rw [hf3,hf6];exact dx ho3 ho6 (by decide) rfl rfl] at this;exact this
   replace hh1:=hs7 _ hh1
   replace hh2:=hs7 _ hh2
   replace hh3:=hs7 _ hh3
   replace hh4:=hs7 _ hh4
   replace hh5:=hs7 _ hh5
   replace hh6:=hs7 _ hh6
   have ho7:(Tr.bin 6 0 0 0 (.bin 5 0 0 0 (aN (aa c kx)).1 (aN (aa c ky)).2) (.bin 5 0 0 0 (aN (aa c kx)).2 (aN (aa c ky)).1)).ok:=jD ho3 ho6
   refine cV 19 (ae.fh rfl rfl rfl rfl) ?_
   refine aG.done rfl ?_
   refine gE ?_
   refine gT func103 fun w' hS=>?_
   refine kL g7 ?_ hh7 hS
   rw [hf7,hT];rfl
  have n8:¬c[i].op=8:=by simpa using hc
  refine gS (gR ?_);refine aw bh ?_;refine ai ?_;refine gE ?_
  refine gC (fun hc=>?_) fun hc=>?_
  ·
   have ho:c[i].op=9:=by simpa using hc
   have hX:cF c[i].op=true:=by rw [ho];rfl
   have hY:cm c[i].op=false:=by rw [ho];rfl
   have hT:aa c i=.un c[i].op c[i].i c[i].e c[i].g (aa c c[i].x.toNat):=by
     rcases hK with ⟨h1,_⟩|⟨_,_,h1⟩|⟨h1,_⟩
     · rw [hX] at h1;cases h1
     · exact h1
     rw [hY] at h1;cases h1
   have hrx:=hok.x hX
   obtain ⟨kx,hkx⟩:∃k:Nat,c[i].x=(k:Int):=⟨c[i].x.toNat,by omega⟩
   have htx:c[i].x.toNat=kx:=by omega
   rw [htx,ho] at hT
   have hag:=hF.ag (by rw [ho];rfl)
   refine gS ?_
   refine ab.nU [0,1,2,3,4] 5 [6,7] mixed rfl ?_
   refine dy.v (fun _=>(ae.aH rfl rfl rfl rfl Jb rfl (by exact I9) 1 rfl)) ?_
   refine dy.v (fun _=>(ae.dw rfl rfl rfl rfl Ja 0 rfl rfl)) ?_
   refine dy.v (fun _=>(ae.mv rfl rfl rfl rfl)) ?_
   refine dy.v (fun _=>(ae.aH rfl rfl rfl rfl Jb rfl (by exact I9) 4 rfl)) ?_
   refine dy.v (fun _=>(ae.dw rfl rfl rfl rfl Ja 0 rfl rfl)) ?_
   refine dy.ey (D':=kx+1) (u:=(aN (aa c kx)).2) hp g0 (by omega) rfl rfl rfl rfl rfl (fun _ _=>JL _ _) (fun w L0 L1 h=>by have:=hOf kx (by omega) true w L0 L1 h;rw [nK,←hkx] at this;exact this) (fun fv1 La1 Lb1 F1 g1 hs1 hf1 hh1=>?_)
   have ho1:(aN (aa c kx)).2.ok:=(hch kx (by omega)).2
   refine ab.rM (u:=.un 10 c[i].i 0 0 (aN (aa c kx)).2) g1 rfl rfl rfl rfl rfl (fun _ _=>call35 _ _) (fun w _ hS=>?_) (fun fv2 F2 g2 hs2 hf2 hh2=>?_)
   · have:=um c[i].i fv1.a fv1.c fv1.f w (hh1.fa hp g1 hS.ext hS (fun _ h=>List.mem_cons_of_mem _ (List.mem_append_right _ h))) (aC hf1)
     rw [show aQ ⟨10,c[i].i,0,0,0,0⟩ [fv1.f]=bT (.un 10 c[i].i 0 0 (aN (aa c kx)).2) from by rw [hf1];exact ji ho1 (by decide) rfl rfl (gX (.inr rfl) hag ho1).2.2.2.1] at this;exact this
   replace hh1:=hs2 _ hh1
   refine ai ?_;refine gE ?_
   refine gT func103 fun w' hS=>?_
   refine kL g2 ?_ hh2 hS
   rw [hf2,hT];rfl
  have n9:¬c[i].op=9:=by simpa using hc
  refine gS (gR ?_);refine aw bh ?_;refine ai ?_;refine gE ?_
  refine gC (fun hc=>?_) fun hc=>?_
  ·
   have ho:c[i].op=10:=by simpa using hc
   have hX:cF c[i].op=true:=by rw [ho];rfl
   have hY:cm c[i].op=false:=by rw [ho];rfl
   have hT:aa c i=.un c[i].op c[i].i c[i].e c[i].g (aa c c[i].x.toNat):=by
     rcases hK with ⟨h1,_⟩|⟨_,_,h1⟩|⟨h1,_⟩
     · rw [hX] at h1;cases h1
     · exact h1
     rw [hY] at h1;cases h1
   have hrx:=hok.x hX
   obtain ⟨kx,hkx⟩:∃k:Nat,c[i].x=(k:Int):=⟨c[i].x.toNat,by omega⟩
   have htx:c[i].x.toNat=kx:=by omega
   rw [htx,ho] at hT
   have hag:=hF.ag (by rw [ho];rfl)
   refine gS ?_
   refine ab.nU [0,1,2,3,4] 5 [6,7] mixed rfl ?_
   refine dy.v (fun _=>(ae.aH rfl rfl rfl rfl Jb rfl (by exact I9) 1 rfl)) ?_
   refine dy.v (fun _=>(ae.dw rfl rfl rfl rfl Ja 0 rfl rfl)) ?_
   refine dy.v (fun _=>(ae.mv rfl rfl rfl rfl)) ?_
   refine dy.v (fun _=>(ae.aH rfl rfl rfl rfl Jb rfl (by exact I9) 4 rfl)) ?_
   refine dy.v (fun _=>(ae.dw rfl rfl rfl rfl Ja 0 rfl rfl)) ?_
   refine dy.ey (D':=kx+1) (u:=(aN (aa c kx)).2) hp g0 (by omega) rfl rfl rfl rfl rfl (fun _ _=>JL _ _) (fun w L0 L1 h=>by have:=hOf kx (by omega) true w L0 L1 h;rw [nK,←hkx] at this;exact this) (fun fv1 La1 Lb1 F1 g1 hs1 hf1 hh1=>?_)
   have ho1:(aN (aa c kx)).2.ok:=(hch kx (by omega)).2
   refine ab.rM (u:=.un 9 c[i].i 0 0 (aN (aa c kx)).2) g1 rfl rfl rfl rfl rfl (fun _ _=>JA _ _) (fun w _ hS=>?_) (fun fv2 F2 g2 hs2 hf2 hh2=>?_)
   · have:=rP c[i].i fv1.a fv1.c fv1.f w (hh1.fa hp g1 hS.ext hS (fun _ h=>List.mem_cons_of_mem _ (List.mem_append_right _ h))) (aC hf1)
     rw [show aQ ⟨9,c[i].i,0,0,0,0⟩ [fv1.f]=bT (.un 9 c[i].i 0 0 (aN (aa c kx)).2) from by rw [hf1];exact ji ho1 (by decide) rfl rfl (gX (.inl rfl) hag ho1).2.2.2.1] at this;exact this
   replace hh1:=hs2 _ hh1
   refine ai ?_;refine gE ?_
   refine gT func103 fun w' hS=>?_
   refine kL g2 ?_ hh2 hS
   rw [hf2,hT];rfl
  have n10:¬c[i].op=10:=by simpa using hc
  have hng:(aN (aa c i)).2=aE (aN (aa c i)).1:=by
    rcases hK with ⟨_,h1⟩|⟨_,_,h1⟩|⟨_,h1⟩
    · rw [h1,aN];simp [n1,n2]
    · rw [h1,aN];simp [n4,n9,n10]
    rw [h1,aN];simp [n5,n6,n7,n8]
  have hpk:=(k0 (hO.tree i hi)).1
  refine gK (dQ (gS (gR ?_)));refine ah ?_
  refine ab.v (ae.iR rfl rfl rfl rfl Jt 0 rfl Jd rfl) ?_
  refine ab.ey (D':=i) (u:=(aN (aa c i)).1) hp g0 (Nat.le_refl _) rfl rfl rfl rfl rfl (fun _ _=>call104 _ _) (fun w L0 L1 h=>hPs w L0 L1 h) (fun fv1 La1 Lb1 F1 g1 hs1 hf1 hh1=>?_)
  refine ab.rM (u:=aE (aN (aa c i)).1) g1 rfl rfl rfl rfl rfl (fun _ _=>Jy _ _) (fun w _ hS=>?_) (fun fv2 F2 g2 hs2 hf2 hh2=>?_)
  · have:=sW fv1.a fv1.c fv1.f w (hh1.fa hp g1 hS.ext hS (fun _ h=>List.mem_cons_of_mem _ (List.mem_append_right _ h))) (aC hf1)
    rw [show aQ ⟨4,0,0,0,0,0⟩ [fv1.f]=bT (aE (aN (aa c i)).1) from by rw [hf1];exact ji hpk (by decide) rfl rfl rfl] at this;exact this
  replace hh1:=hs2 _ hh1
  refine ai ?_;refine gE ?_
  refine gT func103 fun w' hS=>?_
  refine kL g2 ?_ hh2 hS
  rw [hf2,hng]
end Go.Proofs.YtnfmegcknckahaaGreatDoor
namespace Go.Proofs.YtnfmegcknckahaaGreatDoor
open Go.RowKit Go.Proofs.Wit Tryz
set_option maxRecDepth 8000 in
theorem Fa {c:List NV} {na:Option Addr} {nc bk m0 m1 i:Nat} (hi:i<c.length) (hPs:Ef c na nc bk m0 m1 i hi) (hNg:Gc c na nc bk m0 m1 i hi):BX c na nc bk m0 m1 i:=by
  intro no w L0 L1 hp
  have hK:jJ Tryz.prog 3 (Value.int .i64) iq:=jJ.int underlying3
  have HB:∀{w':World} {j:Nat} {v:Value},Ex [m0,m1] w w'→(AX na c.length nc m0 m1)[j]?=some v→w'.cell? ⟨bk,j,none⟩=some v:=fun e h=>Ex.FO e hp.ne hp.dg h
  have has:Cv [m0,m1] w na c:=⟨hp.fa.at_,pE hp.maps hp.fa.at_ (by rw [ow];omega)⟩
  refine qv.of hp.has func57 rfl rfl ?_
  rw [show cI (jS m0 L0 m1 L1)=[m0,m1] from rfl]
  refine gS (gR ?_);refine ai ?_;refine gE (gS (gR ?_));refine ai ?_;refine gE (gS (gS (gR ?_)));refine ah ?_;refine gE ?_
  refine gC (fun hc=>?_) fun hc=>?_
  ·
   obtain rfl:no=true:=hc
   refine gR ?_;refine ai ?_;refine gE (gS (gS (gR ?_)))
   iterate 2 refine ah ?_
   refine kk ?_;refine al J3 sizeOf87 1 ?_
   refine ab.v (ae.wP rfl rfl rfl rfl rfl underlying87 sizeOf86 1 rfl (by decide)) ?_
   refine ab.v (ae.ld rfl rfl rfl rfl isAgg86 (fun w _ hS=>HB (j:=2) hS.ext rfl)) ?_
   refine ah ?_
   refine ab.v (ae.A7 (ev:=FV.v) (a:=(i:Int)) (z:=.slice none 0 0) (L:=L1) hK rfl rfl rfl rfl rfl underlying86 (fun _=>Jx _) 1 rfl) ?_
   refine ah ?_
   iterate 2 refine fW ?_
   iterate 2 refine ai ?_
   refine gE (gS (gR ?_));refine ah ?_;refine gE ?_
   refine gC (fun hc=>?_) fun hc=>?_
   ·
    obtain ⟨fv,hfv⟩:∃fv,cG iq L1 (i:Int)=some fv:=by
      cases h:cG iq L1 (i:Int) with
      |none=>rw [h] at hc;simp at hc
      |some fv=>exact ⟨fv,rfl⟩
    obtain ⟨k,hk,hfe⟩:=hp.kv.e1 _ (j6 hfv)
    obtain rfl:i=k:=by simp only [] at hk;omega
    refine gS (gR ?_);refine ah ?_;refine ai ?_;refine gE ?_
    refine gT func57 fun w' hS=>?_
    exact ⟨_,⟨fv,L0,L1,[],by rw [hfv];rfl,rfl,cM.refl hp.kv,hfe,.inr (.inr ⟨i,j6 hfv⟩)⟩,hS⟩
   have hno:cG iq L1 (i:Int)=none:=by
     cases h:cG iq L1 (i:Int) with
     |none=>rfl
     |some fv=>rw [h] at hc;simp at hc
   refine gK (gS (gR ?_));refine ah ?_;refine kk ?_;refine al J3 Jj 0 ?_
   refine ab.v (ae.ld (p:=⟨bk,0,none⟩) rfl rfl rfl rfl Jn (fun w _ hS=>HB hS.ext rfl)) ?_
   refine ah ?_
   refine ab.v (ae.ez rfl rfl rfl rfl rfl Ji Jd ⟨_,(has).at_⟩ (aD (enc:=NV.cells) (sz:=6) (fun _=>rfl)) (by decide) (i) ⟨rfl,hi⟩) ?_
   refine ab.v (ae.nR (cs:=NV.cells c[i]) rfl rfl rfl rfl Jt Jd (fun w _ hS=>Sl.many (enc:=NV.cells) (sz:=6) (has.ay hS.ext).at_ (fun _=>rfl) hi)) ?_
   refine ab.eN rfl rfl rfl (fun _=>Jq _) (fun b10=>?_)
   refine ab.dG rfl rfl rfl rfl Jd 0 rfl rfl rfl rfl ?_
   refine gE (gS (gR ?_));refine ai ?_;refine gE (gS (gS (gR ?_)));refine ah ?_;refine gE ?_
   refine gC (fun hc=>?_) fun hc=>?_
   ·
    refine gR ?_;refine ah ?_
    refine ab.v (ae.iR rfl rfl rfl rfl Jt 0 rfl Jd rfl) ?_
    refine ab.dH (h':=(some b10,.cells (NV.cells c[i]).toArray 66 (0,0))::(jS m0 L0 m1 L1++[])) (List.Sublist.refl _) ?_
    refine ab.ey (D':=i) (D:=i) (u:=(aN (aa c i)).2) hp (cM.refl hp.kv) (Nat.le_refl _) rfl rfl rfl rfl rfl (fun _ _=>call103 _ _) (fun w L0 L1 h=>hNg w L0 L1 h) (fun fv1 La1 Lb1 F1 g1 hs1 hf1 hh1=>?_)
    have hno2:cG iq Lb1 (i:Int)=none:=jc.2 (fun e he=>by
      rcases g1.n1 e he with h|h
      · exact jc.1 hno e h
      omega)
    refine ai ?_;refine gE (gS (gR ?_))
    iterate 2 refine ah ?_
    refine kk ?_;refine al J3 sizeOf87 1 ?_
    refine ab.v (ae.wP rfl rfl rfl rfl rfl underlying87 sizeOf86 1 rfl (by decide)) ?_
    refine ab.v (ae.ld rfl rfl rfl rfl isAgg86 (fun w _ hS=>HB (j:=2) hS.ext rfl)) ?_
    iterate 2 refine ah ?_
    refine ab.pK hK rfl (.inl rfl) rfl rfl rfl (a:=(i:Int)) (v:=fv1) rfl rfl underlying86 2 rfl hno2 ?_
    refine gE (gS (gR ?_));refine ah ?_;refine ai ?_;refine gE ?_
    refine gT func57 fun w' hS=>?_
    exact kL (u:=(aN (aa c i)).2) (F:=F1) (g1.Hg hf1 hh1) hf1 (hh1.mono (fun _ h=>h) (fun _ h=>List.mem_append_left _ h) (fun _ h=>h)) hS
   exact absurd hc (by decide)
  obtain rfl:no=false:=hc
  refine gK (gS (gS (gR ?_)))
  iterate 2 refine ah ?_
  refine kk ?_;refine al J3 sizeOf87 1 ?_
  refine ab.v (ae.wP rfl rfl rfl rfl rfl underlying87 sizeOf86 0 rfl (by decide)) ?_
  refine ab.v (ae.ld rfl rfl rfl rfl isAgg86 (fun w _ hS=>HB (j:=1) hS.ext rfl)) ?_
  refine ah ?_
  refine ab.v (ae.A7 (ev:=FV.v) (a:=(i:Int)) (z:=.slice none 0 0) (L:=L0) hK rfl rfl rfl rfl rfl underlying86 (fun _=>Jx _) 0 rfl) ?_
  refine ah ?_
  iterate 2 refine fW ?_
  iterate 2 refine ai ?_
  refine gE (gS (gR ?_));refine ah ?_;refine gE ?_
  refine gC (fun hc=>?_) fun hc=>?_
  ·
   obtain ⟨fv,hfv⟩:∃fv,cG iq L0 (i:Int)=some fv:=by
     cases h:cG iq L0 (i:Int) with
     |none=>rw [h] at hc;simp at hc
     |some fv=>exact ⟨fv,rfl⟩
   obtain ⟨k,hk,hfe⟩:=hp.kv.e0 _ (j6 hfv)
   obtain rfl:i=k:=by simp only [] at hk;omega
   refine gS (gR ?_);refine ah ?_;refine ai ?_;refine gE ?_
   refine gT func57 fun w' hS=>?_
   exact ⟨_,⟨fv,L0,L1,[],by rw [hfv];rfl,rfl,cM.refl hp.kv,hfe,.inr (.inl ⟨i,j6 hfv⟩)⟩,hS⟩
  have hno:cG iq L0 (i:Int)=none:=by
    cases h:cG iq L0 (i:Int) with
    |none=>rfl
    |some fv=>rw [h] at hc;simp at hc
  refine gK (gS (gR ?_));refine ah ?_;refine kk ?_;refine al J3 Jj 0 ?_
  refine ab.v (ae.ld (p:=⟨bk,0,none⟩) rfl rfl rfl rfl Jn (fun w _ hS=>HB hS.ext rfl)) ?_
  refine ah ?_
  refine ab.v (ae.ez rfl rfl rfl rfl rfl Ji Jd ⟨_,(has).at_⟩ (aD (enc:=NV.cells) (sz:=6) (fun _=>rfl)) (by decide) (i) ⟨rfl,hi⟩) ?_
  refine ab.v (ae.nR (cs:=NV.cells c[i]) rfl rfl rfl rfl Jt Jd (fun w _ hS=>Sl.many (enc:=NV.cells) (sz:=6) (has.ay hS.ext).at_ (fun _=>rfl) hi)) ?_
  refine ab.eN rfl rfl rfl (fun _=>Jq _) (fun b10=>?_)
  refine ab.dG rfl rfl rfl rfl Jd 0 rfl rfl rfl rfl ?_
  refine gE (gS (gR ?_));refine ai ?_;refine gE (gS (gS (gR ?_)));refine ah ?_;refine gE ?_
  refine gC (fun hc=>?_) fun hc=>?_
  ·
   exact absurd hc (by decide)
  refine gR ?_;refine ah ?_
  refine ab.v (ae.iR rfl rfl rfl rfl Jt 0 rfl Jd rfl) ?_
  refine ab.dH (h':=(some b10,.cells (NV.cells c[i]).toArray 66 (0,0))::(jS m0 L0 m1 L1++[])) (List.Sublist.refl _) ?_
  refine ab.ey (D':=i) (D:=i) (u:=(aN (aa c i)).1) hp (cM.refl hp.kv) (Nat.le_refl _) rfl rfl rfl rfl rfl (fun _ _=>call104 _ _) (fun w L0 L1 h=>hPs w L0 L1 h) (fun fv1 La1 Lb1 F1 g1 hs1 hf1 hh1=>?_)
  have hno2:cG iq La1 (i:Int)=none:=jc.2 (fun e he=>by
    rcases g1.n0 e he with h|h
    · exact jc.1 hno e h
    omega)
  refine ai ?_;refine gE (gS (gR ?_))
  iterate 2 refine ah ?_
  refine kk ?_;refine al J3 sizeOf87 1 ?_
  refine ab.v (ae.wP rfl rfl rfl rfl rfl underlying87 sizeOf86 0 rfl (by decide)) ?_
  refine ab.v (ae.ld rfl rfl rfl rfl isAgg86 (fun w _ hS=>HB (j:=1) hS.ext rfl)) ?_
  iterate 2 refine ah ?_
  refine ab.pK hK rfl (.inl rfl) rfl rfl rfl (a:=(i:Int)) (v:=fv1) rfl rfl underlying86 1 rfl hno2 ?_
  refine gE (gS (gR ?_));refine ah ?_;refine ai ?_;refine gE ?_
  refine gT func57 fun w' hS=>?_
  exact kL (u:=(aN (aa c i)).1) (F:=F1) (g1.Hh hf1 hh1) hf1 (hh1.mono (fun _ h=>List.mem_append_left _ h) (fun _ h=>h) (fun _ h=>h)) hS
theorem E9 {c:List NV} {na:Option Addr} {nc bk m0 m1:Nat} (hO:bd c):∀i,i<c.length→BX c na nc bk m0 m1 i:=by
 intro i
 induction i using Nat.strongRecOn with
 |_ i ih=>
  intro hi
  have h1:=E3 (na:=na) (nc:=nc) (bk:=bk) (m0:=m0) (m1:=m1) hi hO (fun j hj=>ih j hj (by omega))
  exact Fa hi h1 (Ff hi hO (fun j hj=>ih j hj (by omega)) h1)
set_option maxRecDepth 8000 in
theorem yq (a:Option Addr) (ca:Nat) (f:List NV) (w:World) (ha:FA w a f) (hl:f.length≤maxLen):Cn Tryz.prog 23 [.slice a f.length ca] w (fun v w'=>∃sv o e,v=.tuple #[sv,.int .i64 e]∧aI 66 w w' sv o∧BY f o e):=by
  refine Cn.of func23 rfl rfl ?_
  refine gS (gR ?_)
  iterate 2 refine ai ?_
  refine gE (gS (gS (gR ?_)));refine ah ?_
  refine gP rfl rfl rfl rfl rfl call54 (fun w _ hS=>(by exact fR a ca f w (ha.ay hS.ext) hl)) ?_
  refine ai ?_;refine gE (gS (gR ?_));refine ah ?_;refine aw gO ?_;refine gE ?_
  refine gC (fun hc=>?_) fun hc=>?_
  ·
   have h1:aV f≠0:=by simpa using hc
   refine gS (gR ?_);refine ah ?_
   iterate 2 refine ai ?_
   refine gE ?_
   refine gT func23 fun w' hS=>?_
   exact ⟨hS.ext,_,[],_,rfl,aI.oI,.inl ⟨h1,rfl,rfl⟩⟩
  have h0:aV f=0:=by simpa using hc
  have hT:=(aA.1 h0).top
  have hce:=dt h0
  have hcp:=(iy h0).pos
  have hcl:=(iy h0).len
  have hNd:=oA f
  refine gK (gS (gR ?_));refine ah ?_
  refine gM rfl rfl rfl rfl rfl call55 (fun w _ hS=>(by exact dZ a ca f w (ha.ay hS.ext) hl)) ?_
  rintro v w1 w2 Y' hS he ho
  rw [fN] at ho
  obtain ⟨qc,capc,spc,rfl,hqc,hcapc,hS'⟩:=ak hS he ho
  refine ⟨_,hS',?_⟩
  refine ab.v (ae.eM rfl rfl rfl rfl (bd89 (c:=[_,_,_]) rfl)) ?_
  refine ab.bx rfl rfl rfl rfl (fun b15=>?_)
  refine ai ?_;refine gE (gS (gS (gR ?_)));refine ah ?_;refine gE (gB ?_)
  obtain ⟨sl,hsl⟩:∃sl,sl=cK qc (aj f).length capc:=⟨_,rfl⟩
  rw [←hsl]
  refine ab.loop (σ:=List Nat) (fun ms=>[(5,.pointer (some ⟨b15,0,none⟩)),(16,.int .i64 ms.length)]) (fun ms=>(some b15,.cells (qS sl ms) 89 (0,0))::(qc,eO 66 (aj f) spc)::ms.map (fun m=>(some m,lh (Value.int .i64) FV.v ([]:Nm)))) (fun ms=>ms.length≤2) (fun ms=>2 - ms.length) [] (Nat.zero_le _) ⟨rfl,rfl,trivial⟩ (List.Sublist.refl _) (fun ms hms IH=>?_)
  refine gS (gR ?_);refine aw jl ?_;refine gE (gS ?_)
  refine gC (fun hc=>?_) fun hc=>?_
  ·
   have hlt:ms.length<2:=by simp at hc;omega
   refine gK (gS (gB (gS (gR ?_))));refine ah ?_;refine ai ?_;refine gE (gR ?_)
   iterate 2 refine ah ?_
   refine ab.mkMap (Value.int .i64) FV.v rfl rfl rfl (fun bm=>?_)
   refine kk ?_;refine al J3 sizeOf87 1 ?_
   refine ab.v (ae.wP rfl rfl rfl rfl rfl underlying87 sizeOf86 ms.length rfl hlt) ?_
   refine ab.st (cs:=qS sl ms) rfl rfl rfl rfl sizeOf86 rfl 1 rfl (by simp [qS,Nat.blt_eq];omega) ?_
   refine gE (dQ (gR ?_));refine df rfl rfl rfl rfl (cD (by omega)) ?_;refine ah ?_;refine gE ?_
   refine ab.mK (h':=(some b15,.cells (qS sl (ms++[bm])) 89 (0,0))::(qc,eO 66 (aj f) spc)::((ms++[bm]).map (fun m=>(some m,lh (Value.int .i64) FV.v ([]:Nm))))) (by rw [←wD hlt,List.map_append];exact (List.perm_append_singleton _ (_::_::_)).symm) ?_
   exact IH (ms++[bm]) _ _ (by simp;omega) (by simp;omega) ⟨rfl,by rw [show (ms++[bm]).length=ms.length+1 from by simp];rfl,trivial⟩ (List.Sublist.refl _)
  have hge:ms.length=2:=by simp at hc;omega
  obtain ⟨m0,m1,rfl⟩:=CD hge
  subst hsl
  refine ab.exit rfl (gS (gR ?_))
  iterate 2 refine ah ?_
  refine kk ?_;refine al J3 Jj 0 ?_;refine aq Jn 0 ?_;refine dY Ji ?_
  refine df rfl rfl rfl rfl (iH (c:=(((aj f).length - 1:Nat):Int)) (by omega) (by omega)) ?_
  refine ab.pick (pre:=[_,_,_,_]) (pre':=jS m0 [] m1 []++[(some b15,.cells (AX (qc.map (fun b=>⟨b,0,none⟩)) (aj f).length capc m0 m1) 89 (0,0)),(qc,eO 66 (aj f) spc)]) [2,3,0,1] (by decide) rfl ?_
  refine ab.iG (h:=jS m0 [] m1 []) (hF:=[(some b15,.cells (AX (qc.map (fun b=>⟨b,0,none⟩)) (aj f).length capc m0 m1) 89 (0,0)),(qc,eO 66 (aj f) spc)]) (fs:=[]) (cs:=[]) (fun _=>jr 66 (aj f) m0 m1 ((aj f).length - 1+1) (aN (aa (aj f) ((aj f).length - 1))).1 [] []) rfl rfl rfl rfl rfl (fun _ _=>JL _ _) (fun w1 Y' hS=>?_) (fun w1 u1 h1 hR=>?_)
  · have:=E9 (na:=qc.map (fun b=>⟨b,0,none⟩)) (nc:=capc) (bk:=b15) (m0:=m0) (m1:=m1) hNd ((aj f).length - 1) (by omega) false w1 [] [] ⟨(hS.dH (List.sublist_append_left _ _)).has,hS.get (j:=2) rfl,aL hS 3 rfl (fun e=>(hqc e).1),(fun _ h=>by cases h),(fun _ h=>by cases h),⟨(fun _ h=>by cases h),(fun _ h=>by cases h)⟩⟩
    rw [qz] at this;exact this
  obtain ⟨fv,L0',L1',F,rfl,rfl,g,hf,hh⟩:=hR
  have hin:fv.In 66 F:=(hh.base g).resolve_right (by rintro (⟨_,h⟩|⟨_,h⟩)<;>cases h)
  have hres:fv.f=bT (aN (aO f)).1:=by
    rw [hf]
    congr 2
    have:=w5 hT
    rw [←hce] at this
    rw [this]
  refine gP rfl rfl rfl rfl rfl call56 (fun w _ hS=>(by exact Dh fv.a fv.c fv.f w)) ?_
  iterate 2 refine fW ?_
  iterate 2 refine ai ?_
  refine gE ?_
  refine gT func23 fun w' hS=>?_
  by_cases h5:fv.f=[]
  · rw [if_pos h5,if_pos h5]
    exact ⟨hS.ext,_,[],_,rfl,aI.oI,.inr ⟨h0,by rw [←hres];exact h5.symm,rfl⟩⟩
  rw [if_neg h5,if_neg h5]
  exact ⟨hS.ext,_,_,_,rfl,(hin.mono (fun _ h=>List.mem_append_left _ (List.mem_append_right _ h))).own hS,.inr ⟨h0,hres,by rw [if_neg h5]⟩⟩
end Go.Proofs.YtnfmegcknckahaaGreatDoor
