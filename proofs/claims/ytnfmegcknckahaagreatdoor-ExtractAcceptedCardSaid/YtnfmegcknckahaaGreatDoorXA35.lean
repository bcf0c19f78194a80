/- What calls of the program return, under the conditions that each theorem states. -/
import Derived.Test.YtnfmegcknckahaaGreatDoorXA33
import Derived.Test.YtnfmegcknckahaaGreatDoorXA34
import Derived.Test.YtnfmegcknckahaaGreatDoorXA03
import Derived.Test.YtnfmegcknckahaaGreatDoorXA04
namespace Go.Proofs.YtnfmegcknckahaaGreatDoor
open Go.RowKit Go.Proofs.Wit Tryz
set_option maxRecDepth 8000 in
theorem sK (l:Int) (A:Option Addr) (cA:Nat) (b:List NV) (B:Option Addr) (nB cB:Nat) (x:SV) (w:World) (hA:FA w A b) (ho:x.d.av≠7→0≤x.d.on∧x.d.on<b.length):
    Cn Tryz.prog 128 [.agg (bL l A b.length cA B nB cB),.agg x.cells.toArray] w (fun v _=>v=.int .i64 (if x.d.av=7 then x.d.on else (nd b x.d.on).i)):=by
  refine Cn.of func128 rfl rfl ?_
  refine gS (gR ?_)
  refine ab.bx rfl rfl rfl rfl (fun b2=>?_)
  refine ab.bx rfl rfl rfl rfl (fun b3=>?_)
  refine ai ?_;refine gE (gS (gS (gR ?_)));refine al Jq Ji 1 ?_;refine aq Jj 0 ?_;refine aw bd ?_;refine gE ?_
  refine gC (fun hc=>?_) fun hc=>?_
  ·
   have h7:x.d.av=7:=by simpa using hc
   refine gS (gR ?_);refine al Jq Ji 2 ?_;refine aq Jj 0 ?_;refine ai ?_;refine gE ?_
   refine gT func128 fun w' hS=>?_
   exact ⟨hS.ext,by rw [if_pos h7];rfl⟩
  have h7:¬x.d.av=7:=by simpa using hc
  obtain ⟨o0,o1⟩:=ho h7
  obtain ⟨k,hk⟩:∃k:Nat,x.d.on=(k:Int):=⟨x.d.on.toNat,by omega⟩
  have hkl:k<b.length:=by omega
  have hnd:nd b x.d.on=b[k]:=by rw [hk,dH hkl]
  refine gK (gS (gR ?_));refine al Jv Js 1 ?_;refine aq Jx 1 ?_;refine al Jq Ji 2 ?_;refine aq Jj 0 ?_
  refine ab.v (ae.ed rfl rfl rfl rfl rfl Jr Jm ⟨_,(hA).at_⟩ (ax (enc:=NV.cells) (sz:=6) (fun _=>rfl)) (by decide) (k) ⟨hk,hkl⟩) ?_
  refine ab.v (ae.fM rfl rfl rfl rfl Jk rfl Ji ((k)*6+1) rfl) ?_
  refine ab.v (ae.ld rfl rfl rfl rfl Jj (fun w _ hS=>Sl.kU (enc:=NV.cells) (sz:=6) ((hA).ay hS.ext).at_ (fun _=>rfl) hkl rfl)) ?_
  refine ai ?_;refine gE ?_
  refine gT func128 fun w' hS=>?_
  exact ⟨hS.ext,by rw [if_neg h7,hnd];rfl⟩
set_option maxRecDepth 4000 in
theorem qO (A:Option Addr) (cA:Nat) (b:List NV) (s:aB) (ag:Int) (n:Nat) (w:World) (hA:FA w A b) (hs:iM b s):
    Cn Tryz.prog 130 [.slice A b.length cA,U s,.int .i64 ag,.int .i64 n] w (fun v _=>v=.int .i64 (fB b s ag n)):=by
  refine Cn.of func130 rfl rfl ?_
  refine gS (gR ?_);refine ai ?_;refine gE (gS (gS (gR ?_)));refine ah ?_
  refine gM rfl rfl rfl rfl rfl call85 (fun w _ hS=>(by exact kY s w)) ?_
  rintro v w1 w2 Y' hS he ho
  obtain ⟨q,cap,sp,rfl,hq,ao,hS'⟩:=rk hS he ho
  refine ⟨_,hS',?_⟩
  refine dM Jp ?_;refine ah ?_;refine gE (gB ?_)
  have hil:=@iJ (dG s)
  have hp64:(dG s).length≤64:=@jd s 64
  refine ab.loop (σ:=Nat) (fun k=>[(0,.slice A b.length cA),(2,.int .i64 ag),(3,.int .i64 n),(12,cQ q (iL (dG s)).length cap),(13,.int .i64 (iL (dG s)).length),(14,.int .i64 k)])
    (fun _=>[(q,ob bK 3 (iL (dG s)) sp)]) (fun k=>k≤(dG s).length∧∀(m:Nat) (hm:m<(dG s).length),m<k→wg b ag n (dG s)[m]) (fun k=>(dG s).length - k) 0 ⟨Nat.zero_le _,fun m _ h=>absurd h (Nat.not_lt_zero _)⟩ ⟨rfl,rfl,rfl,rfl,rfl,rfl,trivial⟩ (List.Sublist.refl _) (fun k hK IH=>?_)
  obtain ⟨hk,hpre⟩:=hK
  refine gS (gR ?_);refine aw iX ?_;refine gE (gS ?_)
  refine gC (fun hc=>?_) fun hc=>?_
  ·
   have hlt:k<(dG s).length:=by rw [hil] at hc;simpa using hc
   have hlt2:k<(iL (dG s)).length:=by rw [hil];exact hlt
   obtain ⟨p,hp⟩:∃p,p=(dG s)[k]:=⟨_,rfl⟩
   have hpm:s.getLsbD p=true:=cH.1 (by rw [hp];exact List.getElem_mem hlt)
   have hpl:p<b.length:=hs p hpm
   have hgp:(iL (dG s)).getD k 0=(p:Int):=by rw [nW hlt,←hp]
   have hnd:nd b p=b[p]:=dH hpl
   have hfirst:∀j,j<p→s.getLsbD j=true→(nd b j).op=9→(nd b j).i=ag→(nd b j).x≠n:=fun j hj hsj=>by
     obtain ⟨m,hm,h1,h2⟩:=uw hlt hsj (by rw [←hp];exact hj)
     have:=hpre m hm h1
     rwa [h2] at this
   obtain ⟨bq,rfl⟩:∃b,q=some b:=by
     cases q with
     |none=>have:=(hq rfl).1;omega
     |some b=>exact ⟨b,rfl⟩
   refine gK (gS (gB (gS (gR ?_))))
   refine ab.v (ae.dX rfl rfl rfl rfl rfl Jp Ji (k) ⟨rfl,hlt2⟩) ?_
   refine ab.v (ae.qH bK 0 rfl rfl rfl rfl Jj 0 rfl hlt2) ?_
   refine ai ?_;refine gE (gS (gR ?_))
   iterate 2 refine ah ?_
   refine ab.v (ae.ed rfl rfl rfl rfl rfl Jr Jm ⟨_,(hA).at_⟩ (ax (enc:=NV.cells) (sz:=6) (fun _=>rfl)) (by decide) (p) ⟨hgp,hpl⟩) ?_
   refine ab.v (ae.fM rfl rfl rfl rfl Jk rfl Ji ((p)*6+0) rfl) ?_
   refine ab.v (ae.ld rfl rfl rfl rfl Jj (fun w _ hS=>Sl.kU (enc:=NV.cells) (sz:=6) ((hA).ay hS.ext).at_ (fun _=>rfl) hpl rfl)) ?_
   refine aw bd ?_;refine ah ?_
   refine eC 24 (fun hc=>?_) fun hc=>?_
   ·
    have h9:b[p].op=9:=by simpa using hc
    iterate 2 refine ah ?_
    refine ab.v (ae.ed rfl rfl rfl rfl rfl Jr Jm ⟨_,(hA).at_⟩ (ax (enc:=NV.cells) (sz:=6) (fun _=>rfl)) (by decide) (p) ⟨hgp,hpl⟩) ?_
    refine ab.v (ae.fM rfl rfl rfl rfl Jk rfl Ji ((p)*6+1) rfl) ?_
    refine ab.v (ae.ld rfl rfl rfl rfl Jj (fun w _ hS=>Sl.kU (enc:=NV.cells) (sz:=6) ((hA).ay hS.ext).at_ (fun _=>rfl) hpl rfl)) ?_
    refine ah ?_;refine aw bd ?_;refine cF ?_;refine ah ?_
    refine eC 33 (fun hc=>?_) fun hc=>?_
    ·
     have h10:b[p].i=ag:=by simpa using hc
     iterate 2 refine ah ?_
     refine ab.v (ae.ed rfl rfl rfl rfl rfl Jr Jm ⟨_,(hA).at_⟩ (ax (enc:=NV.cells) (sz:=6) (fun _=>rfl)) (by decide) (p) ⟨hgp,hpl⟩) ?_
     refine ab.v (ae.fM rfl rfl rfl rfl Jk rfl Ji ((p)*6+4) rfl) ?_
     refine ab.v (ae.ld rfl rfl rfl rfl Jj (fun w _ hS=>Sl.kU (enc:=NV.cells) (sz:=6) ((hA).ay hS.ext).at_ (fun _=>rfl) hpl rfl)) ?_
     refine ah ?_;refine aw bd ?_;refine cF ?_;refine gE ?_
     refine gC (fun hc=>?_) fun hc=>?_
     ·
      have h11:b[p].x=n:=by simpa using hc
      refine gS (gR ?_);refine ah ?_;refine ai ?_;refine gE ?_
      refine gT func130 fun w' hS=>?_
      exact ⟨hS.ext,by rw [hgp,AK hpl hpm (by rw [hnd];exact h9) (by rw [hnd];exact h10) (by rw [hnd];exact h11) hfirst];rfl⟩
     have h11:¬b[p].x=n:=by simpa using hc
     have hns:wg b ag n p:=fun _ _=>by rw [hnd];exact h11
     refine gK (dO (gR ?_));refine db rfl rfl rfl rfl (cz (by omega)) ?_;refine ah ?_;refine gE ?_
     refine IH (k+1) _ _ ⟨hlt,fun m hm hmk=>?_⟩ (by omega) ⟨rfl,rfl,rfl,rfl,rfl,rfl,trivial⟩ (List.Sublist.refl _)
     by_cases e:m=k
     · subst e;rw [←hp];exact hns
     exact hpre m hm (by omega)
    have h10:¬b[p].i=ag:=by simpa using hc
    have hns:wg b ag n p:=fun _ h=>absurd (by rw [hnd] at h;exact h) h10
    iterate 7 refine cD ?_
    refine bB ?_;refine gE (ab.gD rfl (gK (dO (gR ?_))));refine db rfl rfl rfl rfl (cz (by omega)) ?_;refine ah ?_;refine gE ?_
    refine IH (k+1) _ _ ⟨hlt,fun m hm hmk=>?_⟩ (by omega) ⟨rfl,rfl,rfl,rfl,rfl,rfl,trivial⟩ (List.Sublist.refl _)
    by_cases e:m=k
    · subst e;rw [←hp];exact hns
    exact hpre m hm (by omega)
   have h9:¬b[p].op=9:=by simpa using hc
   have hns:wg b ag n p:=fun h=>absurd (by rw [hnd] at h;exact h) h9
   iterate 7 refine cD ?_
   refine bB ?_;refine ah ?_
   iterate 7 refine cD ?_
   refine bB ?_;refine gE (ab.gD rfl (gK (dO (gR ?_))));refine db rfl rfl rfl rfl (cz (by omega)) ?_;refine ah ?_;refine gE ?_
   refine IH (k+1) _ _ ⟨hlt,fun m hm hmk=>?_⟩ (by omega) ⟨rfl,rfl,rfl,rfl,rfl,rfl,trivial⟩ (List.Sublist.refl _)
   by_cases e:m=k
   · subst e;rw [←hp];exact hns
   exact hpre m hm (by omega)
  have hge:¬k<(dG s).length:=by rw [hil] at hc;simpa using hc
  refine ab.exit rfl (gS (gR ?_))
  refine ah ?_;refine ai ?_;refine gE ?_
  refine gT func130 fun w' hS=>?_
  exact ⟨hS.ext,by rw [AI (fun j _ hsj h1 h2=>by
  obtain ⟨m,hm,e⟩:=List.mem_iff_getElem.1 (cH.2 hsj)
  have:=hpre m hm (by omega)
  rw [e] at this
  exact this h1 h2)];rfl⟩
end Go.Proofs.YtnfmegcknckahaaGreatDoor
namespace Go.Proofs.YtnfmegcknckahaaGreatDoor
open Go.RowKit Go.Proofs.Wit Tryz
def sT (b:List NV) (s:aB) (ag:Int) (p:aB) (k:Nat):aB:=((dG p).take k).foldl (fun o n=>o|||1#64<<<fB b s ag n) 0#64
theorem uo {b:List NV} {s p:aB} {ag:Int} {k:Nat} (hk:k<(dG p).length):sT b s ag p (k+1)=sT b s ag p k|||1#64<<<fB b s ag (dG p)[k]:=by
 unfold sT;rw [List.take_succ_eq_append_getElem hk,List.foldl_append];rfl
set_option maxRecDepth 8000 in
theorem ph (l:Int) (A:Option Addr) (cA:Nat) (b:List NV) (B:Option Addr) (nB cB:Nat) (x:SV) (p:aB) (w:World) (hA:FA w A b) (hs:iM b x.d.set) (ho:x.d.av≠7→0≤x.d.on∧x.d.on<b.length):
    Cn Tryz.prog 112 [.agg (bL l A b.length cA B nB cB),.agg x.cells.toArray,U p] w (fun v _=>v=U (xT b x.d.set (if x.d.av=7 then x.d.on else (nd b x.d.on).i) p)):=by
  obtain ⟨ag,hag⟩:∃ag,ag=(if x.d.av=7 then x.d.on else (nd b x.d.on).i):=⟨_,rfl⟩
  rw [←hag]
  have hp64:(dG p).length≤64:=@jd p 64
  have hil:=@iJ (dG p)
  refine Cn.of func112 rfl rfl ?_
  refine gS (gR ?_)
  refine ab.bx rfl rfl rfl rfl (fun b3=>?_)
  refine ab.bx rfl rfl rfl rfl (fun b4=>?_)
  refine ab.v (ae.fD (v:=U 0#64) rfl rfl rfl rfl) ?_
  refine gE (gS (gR ?_))
  refine ab.v (ae.fD (v:=U 0#64) rfl rfl rfl rfl) ?_
  refine gE (gS (gS (gR ?_)));refine ah ?_
  refine gM rfl rfl rfl rfl rfl call85 (fun w _ hS=>(by exact kY p w)) ?_
  rintro v w1 w2 Y' hS he ho'
  obtain ⟨q,cap,sp,rfl,hq,ao,hS'⟩:=rk hS he ho'
  refine ⟨_,hS',?_⟩
  refine dM Jp ?_;refine ah ?_;refine gE (gB ?_)
  refine ab.loop (σ:=Nat) (fun k=>[(3,.pointer (some ⟨b3,0,none⟩)),(4,.pointer (some ⟨b4,0,none⟩)),(7,U (sT b x.d.set ag p k)),(11,cQ q (iL (dG p)).length cap),(12,.int .i64 (iL (dG p)).length),(13,.int .i64 k)])
    (fun _=>[(q,ob bK 3 (iL (dG p)) sp),(some b4,.cells (SV.cells x).toArray 41 (0,0)),(some b3,.cells (bL l A b.length cA B nB cB) 25 (0,0))]) (fun k=>k≤(dG p).length) (fun k=>(dG p).length - k) 0 (Nat.zero_le _) ⟨rfl,rfl,rfl,rfl,rfl,rfl,trivial⟩ (List.Sublist.refl _) (fun k hk IH=>?_)
  refine gS (gR ?_);refine aw iX ?_;refine gE (gS ?_)
  refine gC (fun hc=>?_) fun hc=>?_
  ·
   have hlt:k<(dG p).length:=by rw [hil] at hc;simpa using hc
   have hlt2:k<(iL (dG p)).length:=by rw [hil];exact hlt
   obtain ⟨n,hn⟩:∃n,n=(dG p)[k]:=⟨_,rfl⟩
   have hgp:(iL (dG p)).getD k 0=(n:Int):=by rw [nW hlt,←hn]
   have hbs:bW ((fB b x.d.set ag n:Nat):Int)=1#64<<<fB b x.d.set ag n:=by unfold bW;rw [Int.toNat_natCast]
   obtain ⟨bq,rfl⟩:∃b,q=some b:=by
     cases q with
     |none=>have:=(hq rfl).1;omega
     |some b=>exact ⟨b,rfl⟩
   refine gK (gS (gB (gS (gR ?_))))
   refine ab.v (ae.dX rfl rfl rfl rfl rfl Jp Ji (k) ⟨rfl,hlt2⟩) ?_
   refine ab.v (ae.qH bK 0 rfl rfl rfl rfl Jj 0 rfl hlt2) ?_
   refine ai ?_;refine gE ?_
   refine ab.dS 14 mixed ?_
   refine cV 0 (ae.mv rfl rfl rfl rfl) ?_
   refine cV 1 (ae.aG rfl rfl rfl rfl Jv rfl (by exact Js) 1 rfl) ?_
   refine cV 2 (ae.dw rfl rfl rfl rfl Jx 2 rfl rfl) ?_
   refine cV 3 (ae.aG rfl rfl rfl rfl Jq rfl (by exact JC) 0 rfl) ?_
   refine cV 4 (ae.dw rfl rfl rfl rfl JI 1 rfl rfl) ?_
   refine cV 5 (ae.iA rfl rfl rfl rfl JS 2 rfl Jz rfl) ?_
   refine cV 6 (ae.iA rfl rfl rfl rfl J4 1 rfl Jw rfl) ?_
   refine cV 8 (ae.mv rfl rfl rfl rfl) ?_
   refine aF.cR (i:=7) rfl rfl rfl rfl rfl rfl (fun _ _=>call128 _ _) (fun w _ hS=>(by have:=sK l A cA b B nB cB x w (hA.ay hS.ext) ho;rw [←hag] at this;exact this)) sL ?_
   refine aF.cR (i:=9) rfl rfl rfl rfl rfl rfl (fun _ _=>call130 _ _) (fun w _ hS=>(by rw [hgp];exact qO A cA b x.d.set ag n w (hA.ay hS.ext) hs)) sL ?_
   refine aF.cR (i:=10) rfl rfl rfl rfl rfl rfl (fun _ _=>call111 _ _) (fun w _ hS=>(by exact gU ((fB b x.d.set ag n:Nat):Int) w (by omega))) sL ?_
   refine cV 11 (ae.bin rfl rfl rfl rfl qv rfl) ?_
   refine cV 12 (ae.fD rfl rfl rfl rfl) ?_
   refine aF.done rfl ?_
   refine gE (dO (gR ?_));refine db rfl rfl rfl rfl (cz (by omega)) ?_;refine ah ?_;refine gE ?_
   exact IH (k+1) _ _ hlt (by omega) ⟨rfl,rfl,by rw [uo hlt,←hn,←hbs];rfl,rfl,rfl,rfl,trivial⟩ (List.Sublist.refl _)
  have hge:¬k<(dG p).length:=by rw [hil] at hc;simpa using hc
  obtain rfl:k=(dG p).length:=by omega
  refine ab.exit rfl (gS (gR ?_))
  refine ah ?_;refine ai ?_;refine gE ?_
  refine gT func112 fun w' hS=>?_
  exact ⟨hS.ext,by rw [sT,List.take_length];rfl⟩
end Go.Proofs.YtnfmegcknckahaaGreatDoor
namespace Go.Proofs.YtnfmegcknckahaaGreatDoor
open Go.RowKit Go.Proofs.Wit Tryz
theorem ir {l:Int} {b:List NV} {ss:List SD} {k:Nat} {x:SD} (h:ey l b ss k x) (h1:x.av≠1):0<x.fr.length:=by
 rcases h.2 with ⟨e,_⟩|⟨_,_,_,h⟩|⟨_,_,_,h⟩|⟨_,_,_,_,h⟩|⟨_,_,_,_,h⟩|⟨_,_,_,h⟩|⟨_,_,_,_,h⟩
 ·exact absurd e h1
 all_goals (rw [iy] at h;have:=h.1;simp at this;omega)
theorem nk {l:Int} {b:List NV} {ss:List SD} {k:Nat} {x:SD} (h:ey l b ss k x) (h1:x.av=3∨x.av=4):1<x.fr.length:=by
 rcases h.2 with ⟨e,_⟩|⟨e,_⟩|⟨_,_,_,h⟩|⟨_,_,_,_,h⟩|⟨e,_⟩|⟨e,_⟩|⟨e,_⟩
 ·omega
 ·omega
 ·rw [iy] at h;have:=h.1;simp at this;omega
 ·rw [iy] at h;have:=h.1;simp at this;omega
 all_goals omega
theorem sg {l:Int} {b:List NV} {ss:List SD} {k:Nat} {x:SD} (h:ey l b ss k x) (h1:x.av=2∨x.av=3∨x.av=5∨x.av=6):(nd b x.on).op=if x.av=2 then 5 else if x.av=3 then 6 else if x.av=5 then 9 else 10:=by
 rcases h.2 with ⟨e,_⟩|⟨e,_,g,_⟩|⟨e,_,g,_⟩|⟨e,_⟩|⟨e,_,_,g,_⟩|⟨e,_,g,_⟩|⟨e,_⟩
 ·omega
 ·rw [g.2.2,if_pos e]
 ·rw [g.2.2,if_neg (by omega),if_pos e]
 ·omega
 ·rw [g.2.2,if_neg (by omega),if_neg (by omega),if_pos e]
 ·rw [g.2.2,if_neg (by omega),if_neg (by omega),if_neg (by omega)]
 omega
set_option maxRecDepth 8000 in
theorem Ai (l:Int) (A:Option Addr) (cA:Nat) (b:List NV) (B:Option Addr) (nB cB:Nat) (x:SV) (ss:List SD) (k:Nat) (Z:Option Addr) (cZ:Nat) (bf:List aB) (w:World) (hA:FA w A b) (hb:aX b) (hfr:jP w x.fa x.d.fr) (hZ:xo w Z bf) (hbf:bf.length=k) (hco:ey l b ss k x.d) (hfl:x.d.fr.length≤2):
    Cn Tryz.prog 66 [.agg (bL l A b.length cA B nB cB),.agg x.cells.toArray,.slice Z bf.length cZ] w (fun v _=>v=U (jR b x.d bf)):=by
  have hfi:∀(j:Nat) (hj:j<x.d.fr.length),∃p:Nat,x.d.fr[j]=(p:Int)∧p<bf.length:=fun j hj=>by
    have:=hco.m8 (List.getElem_mem hj)
    exact ⟨x.d.fr[j].toNat,by omega,by omega⟩
  obtain ⟨p0,hp0⟩:∃p0,p0=(if 0<x.d.fr.length then bf.getD (x.d.fr.getD 0 0).toNat 0#64 else 0#64):=⟨_,rfl⟩
  obtain ⟨q0,hq0⟩:∃q0,q0=(if 1<x.d.fr.length then bf.getD (x.d.fr.getD 1 0).toNat 0#64 else 0#64):=⟨_,rfl⟩
  have hP:x.d.av≠1→bf.getD (x.d.fr.getD 0 0).toNat 0#64=p0:=fun h=>by rw [hp0,if_pos (ir hco h)]
  have hQ:x.d.av=3∨x.d.av=4→bf.getD (x.d.fr.getD 1 0).toNat 0#64=q0:=fun h=>by rw [hq0,if_pos (nk hco h)]
  refine Cn.of func66 rfl rfl ?_
  refine gS (gR ?_)
  refine ab.bx rfl rfl rfl rfl (fun b3=>?_)
  refine ab.bx rfl rfl rfl rfl (fun b4=>?_)
  refine ab.v (ae.fD (v:=U 0#64) rfl rfl rfl rfl) ?_
  refine gE (gS (gR ?_))
  iterate 2 refine ab.v (ae.fD (v:=U 0#64) rfl rfl rfl rfl) ?_
  refine gE (gS ?_)
  refine ab.jS (α:=Unit) (fun _=>[(2,.slice Z bf.length cZ),(3,.pointer (some ⟨b3,0,none⟩)),(4,.pointer (some ⟨b4,0,none⟩)),(7,U p0),(8,U 0#64)]) (fun _=>[(some b4,.cells (SV.cells x).toArray 41 (0,0)),(some b3,.cells (bL l A b.length cA B nB cB) 25 (0,0))]) (fun _=>?_) (fun K=>?_)
  · -- what comes behind
   refine gS ?_
   refine ab.jS (α:=Unit) (fun _=>[(2,.slice Z bf.length cZ),(3,.pointer (some ⟨b3,0,none⟩)),(4,.pointer (some ⟨b4,0,none⟩)),(7,U p0),(8,U q0)]) (fun _=>[(some b4,.cells (SV.cells x).toArray 41 (0,0)),(some b3,.cells (bL l A b.length cA B nB cB) 25 (0,0))]) (fun _=>?_) (fun K=>?_)
   · -- what comes behind
    refine gS (gS (gR ?_));refine al Jq Ji 1 ?_;refine aq Jj 0 ?_;refine aw bd ?_;refine gE ?_
    refine gC (fun hc=>?_) fun hc=>?_
    ·
     have r4:x.d.av=4:=by simpa using hc
     obtain ⟨e0,h3,_⟩:=(nm hco.1 r4).1 hco
     have ho:=(o7.1 h3).1
     refine gS ?_
     refine ab.dS 13 mixed ?_
     refine cV 0 (ae.mv rfl rfl rfl rfl) ?_
     refine cV 1 (ae.aG rfl rfl rfl rfl Jq rfl (by exact Ji) 2 rfl) ?_
     refine cV 2 (ae.dw rfl rfl rfl rfl Jj 0 rfl rfl) ?_
     refine cV 5 (ae.mv rfl rfl rfl rfl) ?_
     refine cV 6 (ae.aG rfl rfl rfl rfl Jq rfl (by exact Ji) 3 rfl) ?_
     refine cV 7 (ae.dw rfl rfl rfl rfl Jj 0 rfl rfl) ?_
     refine aF.cR (i:=3) rfl rfl rfl rfl rfl rfl (fun _ _=>call111 _ _) (fun w _ hS=>(by exact gU x.d.on w ho.1)) sL ?_
     refine cV 4 (ae.bin rfl rfl rfl rfl iu rfl) ?_
     refine aF.cR (i:=8) rfl rfl rfl rfl rfl rfl (fun _ _=>call111 _ _) (fun w _ hS=>(by exact gU x.d.e w e0)) sL ?_
     refine cV 9 (ae.bin rfl rfl rfl rfl iu rfl) ?_
     refine cV 10 (ae.bin rfl rfl rfl rfl qv rfl) ?_
     refine cV 11 (ae.fD rfl rfl rfl rfl) ?_
     refine aF.done rfl ?_
     refine gE ?_
     refine gT func66 fun w' hS=>?_
     exact ⟨hS.ext,by rw [jR,if_neg (show ¬x.d.av=1 by omega),if_pos r4,hP (by omega),hQ (.inr r4)];rfl⟩
    have r4:¬x.d.av=4:=by simpa using hc
    refine gK (gS (gS (gR ?_)));refine al Jq Ji 1 ?_;refine aq Jj 0 ?_;refine aw bd ?_;refine gE ?_
    refine gC (fun hc=>?_) fun hc=>?_
    ·
     have r7:x.d.av=7:=by simpa using hc
     refine gS (gR ?_)
     refine ab.v (ae.iA rfl rfl rfl rfl JS 1 rfl Jz rfl) ?_
     refine ab.v (ae.iA rfl rfl rfl rfl J4 0 rfl Jw rfl) ?_
     refine ah ?_
     refine gP rfl rfl rfl rfl rfl call112 (fun w _ hS=>(by exact ph l A cA b B nB cB x p0 w (hA.ay hS.ext) hco.1 (fun h=>absurd r7 h))) ?_
     refine ai ?_;refine gE ?_
     refine gT func66 fun w' hS=>?_
     exact ⟨hS.ext,by rw [if_pos r7,jR,if_neg (show ¬x.d.av=1 by omega),if_neg r4,if_pos r7,hP (by omega)];rfl⟩
    have r7:¬x.d.av=7:=by simpa using hc
    have hon:0≤x.d.on∧x.d.on<b.length:=by
      rcases hco.2 with ⟨_,_,h|h⟩|⟨_,_,h,_⟩|⟨_,_,h,_⟩|⟨e,_⟩|⟨_,_,_,h,_⟩|⟨_,_,h,_⟩|⟨e,_⟩
      · obtain ⟨o,q1,q2,_⟩:=h.1.nat hb;omega
      · obtain ⟨o,q1,_⟩:=fU.1 h.1;have:=h.2.1;omega
      · obtain ⟨o,q1,q2,_⟩:=h.nat hb;omega
      · obtain ⟨o,q1,q2,_⟩:=h.nat hb;omega
      · exact absurd e r4
      · obtain ⟨o,q1,q2,_⟩:=h.nat hb;omega
      · obtain ⟨o,q1,q2,_⟩:=h.nat hb;omega
      exact absurd e r7
    obtain ⟨o,ho⟩:∃o:Nat,x.d.on=(o:Int):=⟨x.d.on.toNat,by omega⟩
    have hol:o<b.length:=by omega
    have hnd:nd b x.d.on=b[o]:=by rw [ho,dH hol]
    refine gK (gS ?_)
    refine ab.mK (α:=Nat) [10,11] (fun q=>[(3,.pointer (some ⟨b3,0,none⟩)),(4,.pointer (some ⟨b4,0,none⟩)),(7,U p0),(8,U q0),(9,.pointer (some ⟨q,0,none⟩)),(59,.agg (NV.cells b[o]).toArray),(62,U (bW x.d.on))]) (fun q=>[(some q,.cells (NV.cells EC).toArray 66 (0,0)),(some b4,.cells (SV.cells x).toArray 41 (0,0)),(some b3,.cells (bL l A b.length cA B nB cB) 25 (0,0))]) (fun b9=>?_) (fun K=>?_)
    · -- what comes behind the region
     refine ab.dF rfl rfl rfl rfl Jm 0 rfl rfl rfl rfl ?_
     refine ai ?_;refine gE (gS (gS (gR ?_)));refine al Jq Ji 1 ?_;refine aq Jj 1 ?_;refine gE (gB (gS (gR ?_)));refine aw bd ?_;refine ai ?_;refine gE ?_
     refine gC (fun hc=>?_) fun hc=>?_
     ·
      have r2:x.d.av=2:=by simpa using hc
      have hop:=sg hco (.inl r2)
      rw [hnd,if_pos r2] at hop
      have hx:=hb.x hol (by rw [dH hol];omega)
      have hy:=hb.y hol (by rw [dH hol];omega)
      rw [dH hol] at hx hy
      refine gS ?_
      refine ab.dS 13 mixed ?_
      refine cV 0 (ae.mv rfl rfl rfl rfl) ?_
      refine cV 1 (ae.aG rfl rfl rfl rfl Jk rfl (by exact Ji) 4 rfl) ?_
      refine cV 2 (ae.dw rfl rfl rfl rfl Jj 0 rfl rfl) ?_
      refine cV 4 (ae.aG rfl rfl rfl rfl Jk rfl (by exact Ji) 5 rfl) ?_
      refine cV 5 (ae.dw rfl rfl rfl rfl Jj 0 rfl rfl) ?_
      refine cV 9 (ae.mv rfl rfl rfl rfl) ?_
      refine aF.cR (i:=3) rfl rfl rfl rfl rfl rfl (fun _ _=>call111 _ _) (fun w _ hS=>(by exact gU b[o].x w hx.1)) sL ?_
      refine aF.cR (i:=6) rfl rfl rfl rfl rfl rfl (fun _ _=>call111 _ _) (fun w _ hS=>(by exact gU b[o].y w hy.1)) sL ?_
      refine cV 7 (ae.bin rfl rfl rfl rfl qv rfl) ?_
      refine cV 8 (ae.bin rfl rfl rfl rfl iu rfl) ?_
      refine cV 10 (ae.bin rfl rfl rfl rfl qv rfl) ?_
      refine cV 11 (ae.fD rfl rfl rfl rfl) ?_
      refine aF.done rfl ?_
      refine gE ?_
      refine gT func66 fun w' hS=>?_
      exact ⟨hS.ext,by rw [jR,if_neg (show ¬x.d.av=1 by omega),if_neg r4,if_neg r7,if_pos r2,hP (by omega),hnd];rfl⟩
     have r2:¬x.d.av=2:=by simpa using hc
     refine gS (gR ?_);refine aw bd ?_;refine ai ?_;refine gE ?_
     refine gC (fun hc=>?_) fun hc=>?_
     ·
      have r3:x.d.av=3:=by simpa using hc
      have hop:=sg hco (.inr (.inl r3))
      rw [hnd,if_neg (show ¬x.d.av=2 by omega),if_pos r3] at hop
      have hx:=hb.x hol (by rw [dH hol];omega)
      have hy:=hb.y hol (by rw [dH hol];omega)
      rw [dH hol] at hx hy
      refine gS ?_
      refine ab.dS 15 mixed ?_
      refine cV 0 (ae.mv rfl rfl rfl rfl) ?_
      refine cV 1 (ae.aG rfl rfl rfl rfl Jk rfl (by exact Ji) 4 rfl) ?_
      refine cV 2 (ae.dw rfl rfl rfl rfl Jj 0 rfl rfl) ?_
      refine cV 5 (ae.mv rfl rfl rfl rfl) ?_
      refine cV 6 (ae.aG rfl rfl rfl rfl Jk rfl (by exact Ji) 5 rfl) ?_
      refine cV 7 (ae.dw rfl rfl rfl rfl Jj 0 rfl rfl) ?_
      refine cV 11 (ae.mv rfl rfl rfl rfl) ?_
      refine aF.cR (i:=3) rfl rfl rfl rfl rfl rfl (fun _ _=>call111 _ _) (fun w _ hS=>(by exact gU b[o].x w hx.1)) sL ?_
      refine cV 4 (ae.bin rfl rfl rfl rfl iu rfl) ?_
      refine aF.cR (i:=8) rfl rfl rfl rfl rfl rfl (fun _ _=>call111 _ _) (fun w _ hS=>(by exact gU b[o].y w hy.1)) sL ?_
      refine cV 9 (ae.bin rfl rfl rfl rfl iu rfl) ?_
      refine cV 10 (ae.bin rfl rfl rfl rfl qv rfl) ?_
      refine cV 12 (ae.bin rfl rfl rfl rfl qv rfl) ?_
      refine cV 13 (ae.fD rfl rfl rfl rfl) ?_
      refine aF.done rfl ?_
      refine gE ?_
      refine gT func66 fun w' hS=>?_
      exact ⟨hS.ext,by rw [jR,if_neg (show ¬x.d.av=1 by omega),if_neg r4,if_neg r7,if_neg r2,if_pos r3,hP (by omega),hQ (.inl r3),hnd];rfl⟩
     have r3:¬x.d.av=3:=by simpa using hc
     refine gS (gR ?_);refine aw bd ?_;refine ai ?_;refine gE ?_
     refine gC (fun hc=>?_) fun hc=>?_
     ·
      have r5:x.d.av=5:=by simpa using hc
      have hop:=sg hco (.inr (.inr (.inl r5)))
      rw [hnd,if_neg r2,if_neg r3,if_pos r5] at hop
      have hx:=hb.x hol (by rw [dH hol];omega)
      rw [dH hol] at hx
      refine gS (gR ?_);refine ah ?_;refine al Jk Ji 4 ?_;refine aq Jj 0 ?_
      refine gP rfl rfl rfl rfl rfl call111 (fun w _ hS=>(by exact gU b[o].x w hx.1)) ?_
      refine aw iu ?_;refine ah ?_;refine aw qv ?_;refine ai ?_;refine gE ?_
      refine gT func66 fun w' hS=>?_
      exact ⟨hS.ext,by rw [jR,if_neg (show ¬x.d.av=1 by omega),if_neg r4,if_neg r7,if_neg r2,if_neg r3,if_pos r5,hP (by omega),hnd];rfl⟩
     have r5:¬x.d.av=5:=by simpa using hc
     refine gS (gR ?_);refine aw bd ?_;refine ai ?_;refine gE ?_
     refine gC (fun hc=>?_) fun hc=>?_
     ·
      have r6:x.d.av=6:=by simpa using hc
      have hop:=sg hco (.inr (.inr (.inr r6)))
      rw [hnd,if_neg r2,if_neg r3,if_neg r5] at hop
      have hx:=hb.x hol (by rw [dH hol];omega)
      rw [dH hol] at hx
      refine gS ?_
      refine ab.dS 12 mixed ?_
      refine cV 0 (ae.iA rfl rfl rfl rfl JS 2 rfl Jz rfl) ?_
      refine cV 1 (ae.iA rfl rfl rfl rfl J4 1 rfl Jw rfl) ?_
      refine cV 2 (ae.mv rfl rfl rfl rfl) ?_
      refine cV 3 (ae.aG rfl rfl rfl rfl Jk rfl (by exact Ji) 4 rfl) ?_
      refine cV 4 (ae.dw rfl rfl rfl rfl Jj 0 rfl rfl) ?_
      refine cV 8 (ae.mv rfl rfl rfl rfl) ?_
      refine aF.cR (i:=5) rfl rfl rfl rfl rfl rfl (fun _ _=>call111 _ _) (fun w _ hS=>(by exact gU b[o].x w hx.1)) sL ?_
      refine cV 6 (ae.bin rfl rfl rfl rfl iu rfl) ?_
      refine aF.cR (i:=7) rfl rfl rfl rfl rfl rfl (fun _ _=>call112 _ _) (fun w _ hS=>(by have:=ph l A cA b B nB cB x (p0 &&& ~~~ bW b[o].x) w (hA.ay hS.ext) hco.1 (fun _=>hon);rw [if_neg r7,hnd] at this;exact this)) sL ?_
      refine cV 9 (ae.bin rfl rfl rfl rfl qv rfl) ?_
      refine cV 10 (ae.fD rfl rfl rfl rfl) ?_
      refine aF.done rfl ?_
      refine gE ?_
      refine gT func66 fun w' hS=>?_
      exact ⟨hS.ext,by rw [jR,if_neg (show ¬x.d.av=1 by omega),if_neg r4,if_neg r7,if_neg r2,if_neg r3,if_neg r5,hP (by omega),hnd];rfl⟩
     have r6:¬x.d.av=6:=by simpa using hc
     have r1:x.d.av=1:=by
       rcases hco.2 with ⟨e,_⟩|⟨e,_⟩|⟨e,_⟩|⟨e,_⟩|⟨e,_⟩|⟨e,_⟩|⟨e,_⟩<;>omega
     have hcl:=(u4.1 ((u0 hco.1 r1).1 hco)).2
     refine gK (dO (gS (gS (gR ?_))));refine al Jk Ji 0 ?_;refine aq Jj 0 ?_;refine aw bd ?_;refine gE ?_
     refine gC (fun hc=>?_) fun hc=>?_
     ·
      have h2:b[o].op=2:=by simpa using hc
      refine gS (gR ?_);refine ah ?_;refine ai ?_;refine gE ?_
      refine gT func66 fun w' hS=>?_
      exact ⟨hS.ext,by rw [jR,if_pos r1,hnd,if_pos h2];rfl⟩
     have h2:¬b[o].op=2:=by simpa using hc
     have he:0≤x.d.e:=by
       rcases hcl with h|h
       · omega
       obtain ⟨e,q1,_⟩:=fU.1 h.2.2.1;omega
     refine gK (gS (gR ?_));refine ah ?_;refine al Jq Ji 3 ?_;refine aq Jj 1 ?_
     refine gP rfl rfl rfl rfl rfl call111 (fun w _ hS=>(by exact gU x.d.e w he)) ?_
     refine aw qv ?_;refine ai ?_;refine gE ?_
     refine gT func66 fun w' hS=>?_
     exact ⟨hS.ext,by rw [jR,if_pos r1,hnd,if_neg h2];rfl⟩
    · -- the region
     refine ab.sf 8 13 [(some b4,.cells (SV.cells x).toArray 41 (0,0)),(some b3,.cells (bL l A b.length cA B nB cB) 25 (0,0))] sL mixed rfl ?_
     refine lZ.v (ae.aG rfl rfl rfl rfl Jv rfl (by exact Js) 1 rfl) ?_
     refine lZ.v (ae.dw rfl rfl rfl rfl Jx 1 rfl rfl) ?_
     refine lZ.v (ae.aG rfl rfl rfl rfl Jq rfl (by exact Ji) 2 rfl) ?_
     refine lZ.v (ae.dw rfl rfl rfl rfl Jj 0 rfl rfl) ?_
     refine lZ.v (ae.ed rfl rfl rfl rfl rfl Jr Jm ⟨_,(hA).at_⟩ (ax (enc:=NV.cells) (sz:=6) (fun _=>rfl)) (by decide) (o) ⟨ho,hol⟩) ?_
     refine lZ.v (ae.nV (cs:=NV.cells b[o]) rfl rfl rfl rfl JD Jm (fun w _ hS=>Sl.many (enc:=NV.cells) (sz:=6) (hA.ay hS.ext).at_ (fun _=>rfl) hol)) ?_
     refine lZ.v (ae.aG rfl rfl rfl rfl Jq rfl (by exact Ji) 2 rfl) ?_
     refine lZ.v (ae.dw rfl rfl rfl rfl Jj 0 rfl rfl) ?_
     refine lZ.nil ?_
     refine Tl.two (d:=62) (d2:=9) rfl ?_ ?_
     · -- operation 8 next
      refine dq.call _ rfl rfl rfl rfl rfl (fun _ _=>call111 _ _) (fun w _ hS=>(by exact gU x.d.on w hon.1)) ?_
      rintro v w1 w2 Y' hS he rfl
      refine ⟨_,hS.later he,sL,?_⟩
      refine Tl.one (d:=9) rfl ?_
      refine dq.eO rfl rfl rfl (fun _=>JA _) (fun b9=>⟨by repeat (first|exact List.Sublist.refl _|exact List.nil_sublist _|refine List.Sublist.cons_cons _ ?_|refine List.Sublist.cons _ ?_),?_⟩)
      refine Tl.sw [10,11] rfl rfl ?_
      exact K b9 _ _ sF (fun _ _ hS=>hS)
     · -- operation 9 next
      refine dq.eO rfl rfl rfl (fun _=>JA _) (fun b9=>⟨by repeat (first|exact List.Sublist.refl _|exact List.nil_sublist _|refine List.Sublist.cons_cons _ ?_|refine List.Sublist.cons _ ?_),?_⟩)
      refine Tl.one (d:=62) rfl ?_
      refine dq.call _ rfl rfl rfl rfl rfl (fun _ _=>call111 _ _) (fun w _ hS=>(by exact gU x.d.on w hon.1)) ?_
      rintro v w1 w2 Y' hS he rfl
      refine ⟨_,hS.later he,sL,?_⟩
      refine Tl.sw [10,11] rfl rfl ?_
      exact K b9 _ _ sF (fun _ _ hS=>hS)
   · -- the first part
    refine gS (gR ?_);refine al Jq JY 4 ?_;refine aq J1 0 ?_;refine dM Jp ?_;refine aw vf ?_;refine gE ?_
    refine gC (fun hc=>?_) fun hc=>?_
    ·
     have g1:1<x.d.fr.length:=by simp at hc;omega
     obtain ⟨i,i1,i2⟩:=hfi 1 g1
     have hq:q0=bf[i]:=by rw [hq0,if_pos g1];simp [List.getD_eq_getElem?_getD,g1,i1,i2]
     refine gR ?_;refine ah ?_;refine al Jq JY 4 ?_;refine aq J1 0 ?_
     refine ab.v (ae.idx rfl rfl rfl rfl rfl Jp Ji ⟨_,hfr⟩ (by simp) (1) ⟨rfl,by simpa using g1⟩) ?_
     refine ab.v (ae.ld rfl rfl rfl rfl Jj (fun w _ hS=>(jP.ay hfr hS.ext).at (1) g1)) ?_
     refine ab.v (ae.idx rfl rfl rfl rfl rfl J5 JC ⟨_,hZ⟩ (by simp) i ⟨i1,by simpa using i2⟩) ?_
     refine ab.v (ae.ld rfl rfl rfl rfl JI (fun w _ hS=>Sl.at (enc:=U) (xo.ay hZ hS.ext) i i2)) ?_
     refine ai ?_;refine gE ?_
     exact K () _ _ (by rw [hq];repeat (first|exact bC.nil|refine bC.cons rfl ?_)) (fun _ _ hS=>hS)
    have g1:¬1<x.d.fr.length:=by simp at hc;omega
    have hq:q0=0#64:=by rw [hq0,if_neg g1]
    refine gK ?_
    exact K () _ _ (by rw [hq];repeat (first|exact bC.nil|refine bC.cons rfl ?_)) (fun _ _ hS=>hS)
  · -- the first part
   refine gS (gR ?_);refine al Jq JY 4 ?_;refine aq J1 0 ?_;refine dM Jp ?_;refine aw vf ?_;refine gE ?_
   refine gC (fun hc=>?_) fun hc=>?_
   ·
    have g0:0<x.d.fr.length:=by simp at hc;omega
    obtain ⟨i,i1,i2⟩:=hfi 0 g0
    have hp:p0=bf[i]:=by rw [hp0,if_pos g0];simp [List.getD_eq_getElem?_getD,g0,i1,i2]
    refine gR ?_;refine ah ?_;refine al Jq JY 4 ?_;refine aq J1 0 ?_
    refine ab.v (ae.idx rfl rfl rfl rfl rfl Jp Ji ⟨_,hfr⟩ (by simp) (0) ⟨rfl,by simpa using g0⟩) ?_
    refine ab.v (ae.ld rfl rfl rfl rfl Jj (fun w _ hS=>(jP.ay hfr hS.ext).at (0) g0)) ?_
    refine ab.v (ae.idx rfl rfl rfl rfl rfl J5 JC ⟨_,hZ⟩ (by simp) i ⟨i1,by simpa using i2⟩) ?_
    refine ab.v (ae.ld rfl rfl rfl rfl JI (fun w _ hS=>Sl.at (enc:=U) (xo.ay hZ hS.ext) i i2)) ?_
    refine ai ?_;refine gE ?_
    exact K () _ _ (by rw [hp];repeat (first|exact bC.nil|refine bC.cons rfl ?_)) (fun _ _ hS=>hS)
   have g0:¬0<x.d.fr.length:=by simpa using hc
   have hp:p0=0#64:=by rw [hp0,if_neg g0]
   refine gK ?_
   exact K () _ _ (by rw [hp];repeat (first|exact bC.nil|refine bC.cons rfl ?_)) (fun _ _ hS=>hS)
end Go.Proofs.YtnfmegcknckahaaGreatDoor
