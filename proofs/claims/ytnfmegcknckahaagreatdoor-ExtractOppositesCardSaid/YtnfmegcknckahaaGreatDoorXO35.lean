/- What calls of the program return, under the conditions that each theorem states. -/
import Derived.Test.YtnfmegcknckahaaGreatDoorXO33
import Derived.Test.YtnfmegcknckahaaGreatDoorXO34
import Derived.Test.YtnfmegcknckahaaGreatDoorXO03
import Derived.Test.YtnfmegcknckahaaGreatDoorXO04
namespace Go.Proofs.YtnfmegcknckahaaGreatDoor
open Go.RowKit Go.Proofs.Wit Tryz
set_option maxRecDepth 8000 in
theorem sD (l:Int) (A:Option Addr) (cA:Nat) (b:List NV) (B:Option Addr) (nB cB:Nat) (x:SV) (w:World) (hA:FA w A b) (ho:x.d.av≠7→0≤x.d.on∧x.d.on<b.length):
    Cn Tryz.prog 128 [.agg (cn l A b.length cA B nB cB),.agg x.cells.toArray] w (fun v _=>v=.int .i64 (if x.d.av=7 then x.d.on else (nd b x.d.on).i)):=by
  refine Cn.of func128 rfl rfl ?_
  refine gS (gR ?_)
  refine ab.bx rfl rfl rfl rfl (fun b2=>?_)
  refine ab.bx rfl rfl rfl rfl (fun b3=>?_)
  refine ai ?_;refine gE (gS (gS (gR ?_)));refine al Jh I9 1 ?_;refine aq Ja 0 ?_;refine aw bh ?_;refine gE ?_
  refine gC (fun hc=>?_) fun hc=>?_
  ·
   have h7:x.d.av=7:=by simpa using hc
   refine gS (gR ?_);refine al Jh I9 2 ?_;refine aq Ja 0 ?_;refine ai ?_;refine gE ?_
   refine gT func128 fun w' hS=>?_
   exact ⟨hS.ext,by rw [if_pos h7];rfl⟩
  have h7:¬x.d.av=7:=by simpa using hc
  obtain ⟨o0,o1⟩:=ho h7
  obtain ⟨k,hk⟩:∃k:Nat,x.d.on=(k:Int):=⟨x.d.on.toNat,by omega⟩
  have hkl:k<b.length:=by omega
  have hnd:nd b x.d.on=b[k]:=by rw [hk,dI hkl]
  refine gK (gS (gR ?_));refine al Jr Jj 1 ?_;refine aq Jn 1 ?_;refine al Jh I9 2 ?_;refine aq Ja 0 ?_
  refine ab.v (ae.ez rfl rfl rfl rfl rfl Ji Jd ⟨_,(hA).at_⟩ (aD (enc:=NV.cells) (sz:=6) (fun _=>rfl)) (by decide) (k) ⟨hk,hkl⟩) ?_
  refine ab.v (ae.fQ rfl rfl rfl rfl Jb rfl I9 ((k)*6+1) rfl) ?_
  refine ab.v (ae.ld rfl rfl rfl rfl Ja (fun w _ hS=>Sl.kO (enc:=NV.cells) (sz:=6) ((hA).ay hS.ext).at_ (fun _=>rfl) hkl rfl)) ?_
  refine ai ?_;refine gE ?_
  refine gT func128 fun w' hS=>?_
  exact ⟨hS.ext,by rw [if_neg h7,hnd];rfl⟩
set_option maxRecDepth 4000 in
theorem qG (A:Option Addr) (cA:Nat) (b:List NV) (s:ax) (ag:Int) (n:Nat) (w:World) (hA:FA w A b) (hs:js b s):
    Cn Tryz.prog 130 [.slice A b.length cA,U s,.int .i64 ag,.int .i64 n] w (fun v _=>v=.int .i64 (fz b s ag n)):=by
  refine Cn.of func130 rfl rfl ?_
  refine gS (gR ?_);refine ai ?_;refine gE (gS (gS (gR ?_)));refine ah ?_
  refine gM rfl rfl rfl rfl rfl call85 (fun w _ hS=>(by exact kR s w)) ?_
  rintro v w1 w2 Y' hS he ho
  obtain ⟨q,cap,sp,rfl,hq,ao,hS'⟩:=re hS he ho
  refine ⟨_,hS',?_⟩
  refine dY Jg ?_;refine ah ?_;refine gE (gB ?_)
  have hil:=@iE (dX s)
  have hp64:(dX s).length≤64:=@lH s 64
  refine ab.loop (σ:=Nat) (fun k=>[(0,.slice A b.length cA),(2,.int .i64 ag),(3,.int .i64 n),(12,cK q (iL (dX s)).length cap),(13,.int .i64 (iL (dX s)).length),(14,.int .i64 k)])
    (fun _=>[(q,ob bK 3 (iL (dX s)) sp)]) (fun k=>k≤(dX s).length∧∀(m:Nat) (hm:m<(dX s).length),m<k→v3 b ag n (dX s)[m]) (fun k=>(dX s).length - k) 0 ⟨Nat.zero_le _,fun m _ h=>absurd h (Nat.not_lt_zero _)⟩ ⟨rfl,rfl,rfl,rfl,rfl,rfl,trivial⟩ (List.Sublist.refl _) (fun k hK IH=>?_)
  obtain ⟨hk,hpre⟩:=hK
  refine gS (gR ?_);refine aw jl ?_;refine gE (gS ?_)
  refine gC (fun hc=>?_) fun hc=>?_
  ·
   have hlt:k<(dX s).length:=by rw [hil] at hc;simpa using hc
   have hlt2:k<(iL (dX s)).length:=by rw [hil];exact hlt
   obtain ⟨p,hp⟩:∃p,p=(dX s)[k]:=⟨_,rfl⟩
   have hpm:s.getLsbD p=true:=cW.1 (by rw [hp];exact List.getElem_mem hlt)
   have hpl:p<b.length:=hs p hpm
   have hgp:(iL (dX s)).getD k 0=(p:Int):=by rw [nS hlt,←hp]
   have hnd:nd b p=b[p]:=dI hpl
   have hfirst:∀j,j<p→s.getLsbD j=true→(nd b j).op=9→(nd b j).i=ag→(nd b j).x≠n:=fun j hj hsj=>by
     obtain ⟨m,hm,h1,h2⟩:=uj hlt hsj (by rw [←hp];exact hj)
     have:=hpre m hm h1
     rwa [h2] at this
   obtain ⟨bq,rfl⟩:∃b,q=some b:=by
     cases q with
     |none=>have:=(hq rfl).1;omega
     |some b=>exact ⟨b,rfl⟩
   refine gK (gS (gB (gS (gR ?_))))
   refine ab.v (ae.dV rfl rfl rfl rfl rfl Jg I9 (k) ⟨rfl,hlt2⟩) ?_
   refine ab.v (ae.qY bK 0 rfl rfl rfl rfl Ja 0 rfl hlt2) ?_
   refine ai ?_;refine gE (gS (gR ?_))
   iterate 2 refine ah ?_
   refine ab.v (ae.ez rfl rfl rfl rfl rfl Ji Jd ⟨_,(hA).at_⟩ (aD (enc:=NV.cells) (sz:=6) (fun _=>rfl)) (by decide) (p) ⟨hgp,hpl⟩) ?_
   refine ab.v (ae.fQ rfl rfl rfl rfl Jb rfl I9 ((p)*6+0) rfl) ?_
   refine ab.v (ae.ld rfl rfl rfl rfl Ja (fun w _ hS=>Sl.kO (enc:=NV.cells) (sz:=6) ((hA).ay hS.ext).at_ (fun _=>rfl) hpl rfl)) ?_
   refine aw bh ?_;refine ah ?_
   refine eD 24 (fun hc=>?_) fun hc=>?_
   ·
    have h9:b[p].op=9:=by simpa using hc
    iterate 2 refine ah ?_
    refine ab.v (ae.ez rfl rfl rfl rfl rfl Ji Jd ⟨_,(hA).at_⟩ (aD (enc:=NV.cells) (sz:=6) (fun _=>rfl)) (by decide) (p) ⟨hgp,hpl⟩) ?_
    refine ab.v (ae.fQ rfl rfl rfl rfl Jb rfl I9 ((p)*6+1) rfl) ?_
    refine ab.v (ae.ld rfl rfl rfl rfl Ja (fun w _ hS=>Sl.kO (enc:=NV.cells) (sz:=6) ((hA).ay hS.ext).at_ (fun _=>rfl) hpl rfl)) ?_
    refine ah ?_;refine aw bh ?_;refine cz ?_;refine ah ?_
    refine eD 33 (fun hc=>?_) fun hc=>?_
    ·
     have h10:b[p].i=ag:=by simpa using hc
     iterate 2 refine ah ?_
     refine ab.v (ae.ez rfl rfl rfl rfl rfl Ji Jd ⟨_,(hA).at_⟩ (aD (enc:=NV.cells) (sz:=6) (fun _=>rfl)) (by decide) (p) ⟨hgp,hpl⟩) ?_
     refine ab.v (ae.fQ rfl rfl rfl rfl Jb rfl I9 ((p)*6+4) rfl) ?_
     refine ab.v (ae.ld rfl rfl rfl rfl Ja (fun w _ hS=>Sl.kO (enc:=NV.cells) (sz:=6) ((hA).ay hS.ext).at_ (fun _=>rfl) hpl rfl)) ?_
     refine ah ?_;refine aw bh ?_;refine cz ?_;refine gE ?_
     refine gC (fun hc=>?_) fun hc=>?_
     ·
      have h11:b[p].x=n:=by simpa using hc
      refine gS (gR ?_);refine ah ?_;refine ai ?_;refine gE ?_
      refine gT func130 fun w' hS=>?_
      exact ⟨hS.ext,by rw [hgp,Av hpl hpm (by rw [hnd];exact h9) (by rw [hnd];exact h10) (by rw [hnd];exact h11) hfirst];rfl⟩
     have h11:¬b[p].x=n:=by simpa using hc
     have hns:v3 b ag n p:=fun _ _=>by rw [hnd];exact h11
     refine gK (dQ (gR ?_));refine df rfl rfl rfl rfl (cD (by omega)) ?_;refine ah ?_;refine gE ?_
     refine IH (k+1) _ _ ⟨hlt,fun m hm hmk=>?_⟩ (by omega) ⟨rfl,rfl,rfl,rfl,rfl,rfl,trivial⟩ (List.Sublist.refl _)
     by_cases e:m=k
     · subst e;rw [←hp];exact hns
     exact hpre m hm (by omega)
    have h10:¬b[p].i=ag:=by simpa using hc
    have hns:v3 b ag n p:=fun _ h=>absurd (by rw [hnd] at h;exact h) h10
    iterate 7 refine cy ?_
    refine bE ?_;refine gE (ab.gj rfl (gK (dQ (gR ?_))));refine df rfl rfl rfl rfl (cD (by omega)) ?_;refine ah ?_;refine gE ?_
    refine IH (k+1) _ _ ⟨hlt,fun m hm hmk=>?_⟩ (by omega) ⟨rfl,rfl,rfl,rfl,rfl,rfl,trivial⟩ (List.Sublist.refl _)
    by_cases e:m=k
    · subst e;rw [←hp];exact hns
    exact hpre m hm (by omega)
   have h9:¬b[p].op=9:=by simpa using hc
   have hns:v3 b ag n p:=fun h=>absurd (by rw [hnd] at h;exact h) h9
   iterate 7 refine cy ?_
   refine bE ?_;refine ah ?_
   iterate 7 refine cy ?_
   refine bE ?_;refine gE (ab.gj rfl (gK (dQ (gR ?_))));refine df rfl rfl rfl rfl (cD (by omega)) ?_;refine ah ?_;refine gE ?_
   refine IH (k+1) _ _ ⟨hlt,fun m hm hmk=>?_⟩ (by omega) ⟨rfl,rfl,rfl,rfl,rfl,rfl,trivial⟩ (List.Sublist.refl _)
   by_cases e:m=k
   · subst e;rw [←hp];exact hns
   exact hpre m hm (by omega)
  have hge:¬k<(dX s).length:=by rw [hil] at hc;simpa using hc
  refine ab.exit rfl (gS (gR ?_))
  refine ah ?_;refine ai ?_;refine gE ?_
  refine gT func130 fun w' hS=>?_
  exact ⟨hS.ext,by rw [As (fun j _ hsj h1 h2=>by
  obtain ⟨m,hm,e⟩:=List.mem_iff_getElem.1 (cW.2 hsj)
  have:=hpre m hm (by omega)
  rw [e] at this
  exact this h1 h2)];rfl⟩
end Go.Proofs.YtnfmegcknckahaaGreatDoor
namespace Go.Proofs.YtnfmegcknckahaaGreatDoor
open Go.RowKit Go.Proofs.Wit Tryz
def sK (b:List NV) (s:ax) (ag:Int) (p:ax) (k:Nat):ax:=((dX p).take k).foldl (fun o n=>o|||1#64<<<fz b s ag n) 0#64
theorem uf {b:List NV} {s p:ax} {ag:Int} {k:Nat} (hk:k<(dX p).length):sK b s ag p (k+1)=sK b s ag p k|||1#64<<<fz b s ag (dX p)[k]:=by
 unfold sK;rw [List.take_succ_eq_append_getElem hk,List.foldl_append];rfl
set_option maxRecDepth 8000 in
theorem pb (l:Int) (A:Option Addr) (cA:Nat) (b:List NV) (B:Option Addr) (nB cB:Nat) (x:SV) (p:ax) (w:World) (hA:FA w A b) (hs:js b x.d.set) (ho:x.d.av≠7→0≤x.d.on∧x.d.on<b.length):
    Cn Tryz.prog 112 [.agg (cn l A b.length cA B nB cB),.agg x.cells.toArray,U p] w (fun v _=>v=U (xK b x.d.set (if x.d.av=7 then x.d.on else (nd b x.d.on).i) p)):=by
  obtain ⟨ag,hag⟩:∃ag,ag=(if x.d.av=7 then x.d.on else (nd b x.d.on).i):=⟨_,rfl⟩
  rw [←hag]
  have hp64:(dX p).length≤64:=@lH p 64
  have hil:=@iE (dX p)
  refine Cn.of func112 rfl rfl ?_
  refine gS (gR ?_)
  refine ab.bx rfl rfl rfl rfl (fun b3=>?_)
  refine ab.bx rfl rfl rfl rfl (fun b4=>?_)
  refine ab.v (ae.fh (v:=U 0#64) rfl rfl rfl rfl) ?_
  refine gE (gS (gR ?_))
  refine ab.v (ae.fh (v:=U 0#64) rfl rfl rfl rfl) ?_
  refine gE (gS (gS (gR ?_)));refine ah ?_
  refine gM rfl rfl rfl rfl rfl call85 (fun w _ hS=>(by exact kR p w)) ?_
  rintro v w1 w2 Y' hS he ho'
  obtain ⟨q,cap,sp,rfl,hq,ao,hS'⟩:=re hS he ho'
  refine ⟨_,hS',?_⟩
  refine dY Jg ?_;refine ah ?_;refine gE (gB ?_)
  refine ab.loop (σ:=Nat) (fun k=>[(3,.pointer (some ⟨b3,0,none⟩)),(4,.pointer (some ⟨b4,0,none⟩)),(7,U (sK b x.d.set ag p k)),(11,cK q (iL (dX p)).length cap),(12,.int .i64 (iL (dX p)).length),(13,.int .i64 k)])
    (fun _=>[(q,ob bK 3 (iL (dX p)) sp),(some b4,.cells (SV.cells x).toArray 41 (0,0)),(some b3,.cells (cn l A b.length cA B nB cB) 25 (0,0))]) (fun k=>k≤(dX p).length) (fun k=>(dX p).length - k) 0 (Nat.zero_le _) ⟨rfl,rfl,rfl,rfl,rfl,rfl,trivial⟩ (List.Sublist.refl _) (fun k hk IH=>?_)
  refine gS (gR ?_);refine aw jl ?_;refine gE (gS ?_)
  refine gC (fun hc=>?_) fun hc=>?_
  ·
   have hlt:k<(dX p).length:=by rw [hil] at hc;simpa using hc
   have hlt2:k<(iL (dX p)).length:=by rw [hil];exact hlt
   obtain ⟨n,hn⟩:∃n,n=(dX p)[k]:=⟨_,rfl⟩
   have hgp:(iL (dX p)).getD k 0=(n:Int):=by rw [nS hlt,←hn]
   have hbs:bW ((fz b x.d.set ag n:Nat):Int)=1#64<<<fz b x.d.set ag n:=by unfold bW;rw [Int.toNat_natCast]
   obtain ⟨bq,rfl⟩:∃b,q=some b:=by
     cases q with
     |none=>have:=(hq rfl).1;omega
     |some b=>exact ⟨b,rfl⟩
   refine gK (gS (gB (gS (gR ?_))))
   refine ab.v (ae.dV rfl rfl rfl rfl rfl Jg I9 (k) ⟨rfl,hlt2⟩) ?_
   refine ab.v (ae.qY bK 0 rfl rfl rfl rfl Ja 0 rfl hlt2) ?_
   refine ai ?_;refine gE ?_
   refine ab.dK 14 mixed ?_
   refine cV 0 (ae.mv rfl rfl rfl rfl) ?_
   refine cV 1 (ae.aH rfl rfl rfl rfl Jr rfl (by exact Jj) 1 rfl) ?_
   refine cV 2 (ae.dw rfl rfl rfl rfl Jn 2 rfl rfl) ?_
   refine cV 3 (ae.aH rfl rfl rfl rfl Jh rfl (by exact Ju) 0 rfl) ?_
   refine cV 4 (ae.dw rfl rfl rfl rfl Jz 1 rfl rfl) ?_
   refine cV 5 (ae.iR rfl rfl rfl rfl JR 2 rfl Jp rfl) ?_
   refine cV 6 (ae.iR rfl rfl rfl rfl JV 1 rfl Jm rfl) ?_
   refine cV 8 (ae.mv rfl rfl rfl rfl) ?_
   refine aG.cC (i:=7) rfl rfl rfl rfl rfl rfl (fun _ _=>call128 _ _) (fun w _ hS=>(by have:=sD l A cA b B nB cB x w (hA.ay hS.ext) ho;rw [←hag] at this;exact this)) sL ?_
   refine aG.cC (i:=9) rfl rfl rfl rfl rfl rfl (fun _ _=>call130 _ _) (fun w _ hS=>(by rw [hgp];exact qG A cA b x.d.set ag n w (hA.ay hS.ext) hs)) sL ?_
   refine aG.cC (i:=10) rfl rfl rfl rfl rfl rfl (fun _ _=>call111 _ _) (fun w _ hS=>(by exact gU ((fz b x.d.set ag n:Nat):Int) w (by omega))) sL ?_
   refine cV 11 (ae.bin rfl rfl rfl rfl ql rfl) ?_
   refine cV 12 (ae.fh rfl rfl rfl rfl) ?_
   refine aG.done rfl ?_
   refine gE (dQ (gR ?_));refine df rfl rfl rfl rfl (cD (by omega)) ?_;refine ah ?_;refine gE ?_
   exact IH (k+1) _ _ hlt (by omega) ⟨rfl,rfl,by rw [uf hlt,←hn,←hbs];rfl,rfl,rfl,rfl,trivial⟩ (List.Sublist.refl _)
  have hge:¬k<(dX p).length:=by rw [hil] at hc;simpa using hc
  obtain rfl:k=(dX p).length:=by omega
  refine ab.exit rfl (gS (gR ?_))
  refine ah ?_;refine ai ?_;refine gE ?_
  refine gT func112 fun w' hS=>?_
  exact ⟨hS.ext,by rw [sK,List.take_length];rfl⟩
end Go.Proofs.YtnfmegcknckahaaGreatDoor
namespace Go.Proofs.YtnfmegcknckahaaGreatDoor
open Go.RowKit Go.Proofs.Wit Tryz
theorem ij {l:Int} {b:List NV} {ss:List SD} {k:Nat} {x:SD} (h:ej l b ss k x) (h1:x.av≠1):0<x.fr.length:=by
 rcases h.2 with ⟨e,_⟩|⟨_,_,_,h⟩|⟨_,_,_,h⟩|⟨_,_,_,_,h⟩|⟨_,_,_,_,h⟩|⟨_,_,_,h⟩|⟨_,_,_,_,h⟩
 ·exact absurd e h1
 all_goals (rw [iv] at h;have:=h.1;simp at this;omega)
theorem m8 {l:Int} {b:List NV} {ss:List SD} {k:Nat} {x:SD} (h:ej l b ss k x) (h1:x.av=3∨x.av=4):1<x.fr.length:=by
 rcases h.2 with ⟨e,_⟩|⟨e,_⟩|⟨_,_,_,h⟩|⟨_,_,_,_,h⟩|⟨e,_⟩|⟨e,_⟩|⟨e,_⟩
 ·omega
 ·omega
 ·rw [iv] at h;have:=h.1;simp at this;omega
 ·rw [iv] at h;have:=h.1;simp at this;omega
 all_goals omega
theorem r9 {l:Int} {b:List NV} {ss:List SD} {k:Nat} {x:SD} (h:ej l b ss k x) (h1:x.av=2∨x.av=3∨x.av=5∨x.av=6):(nd b x.on).op=if x.av=2 then 5 else if x.av=3 then 6 else if x.av=5 then 9 else 10:=by
 rcases h.2 with ⟨e,_⟩|⟨e,_,g,_⟩|⟨e,_,g,_⟩|⟨e,_⟩|⟨e,_,_,g,_⟩|⟨e,_,g,_⟩|⟨e,_⟩
 ·omega
 ·rw [g.2.2,if_pos e]
 ·rw [g.2.2,if_neg (by omega),if_pos e]
 ·omega
 ·rw [g.2.2,if_neg (by omega),if_neg (by omega),if_pos e]
 ·rw [g.2.2,if_neg (by omega),if_neg (by omega),if_neg (by omega)]
 omega
set_option maxRecDepth 8000 in
theorem zY (l:Int) (A:Option Addr) (cA:Nat) (b:List NV) (B:Option Addr) (nB cB:Nat) (x:SV) (ss:List SD) (k:Nat) (Z:Option Addr) (cZ:Nat) (bf:List ax) (w:World) (hA:FA w A b) (hb:aY b) (hfr:jU w x.fa x.d.fr) (hZ:xg w Z bf) (hbf:bf.length=k) (hco:ej l b ss k x.d) (hfl:x.d.fr.length≤2):
    Cn Tryz.prog 66 [.agg (cn l A b.length cA B nB cB),.agg x.cells.toArray,.slice Z bf.length cZ] w (fun v _=>v=U (jK b x.d bf)):=by
  have hfi:∀(j:Nat) (hj:j<x.d.fr.length),∃p:Nat,x.d.fr[j]=(p:Int)∧p<bf.length:=fun j hj=>by
    have:=hco.mZ (List.getElem_mem hj)
    exact ⟨x.d.fr[j].toNat,by omega,by omega⟩
  obtain ⟨p0,hp0⟩:∃p0,p0=(if 0<x.d.fr.length then bf.getD (x.d.fr.getD 0 0).toNat 0#64 else 0#64):=⟨_,rfl⟩
  obtain ⟨q0,hq0⟩:∃q0,q0=(if 1<x.d.fr.length then bf.getD (x.d.fr.getD 1 0).toNat 0#64 else 0#64):=⟨_,rfl⟩
  have hP:x.d.av≠1→bf.getD (x.d.fr.getD 0 0).toNat 0#64=p0:=fun h=>by rw [hp0,if_pos (ij hco h)]
  have hQ:x.d.av=3∨x.d.av=4→bf.getD (x.d.fr.getD 1 0).toNat 0#64=q0:=fun h=>by rw [hq0,if_pos (m8 hco h)]
  refine Cn.of func66 rfl rfl ?_
  refine gS (gR ?_)
  refine ab.bx rfl rfl rfl rfl (fun b3=>?_)
  refine ab.bx rfl rfl rfl rfl (fun b4=>?_)
  refine ab.v (ae.fh (v:=U 0#64) rfl rfl rfl rfl) ?_
  refine gE (gS (gR ?_))
  iterate 2 refine ab.v (ae.fh (v:=U 0#64) rfl rfl rfl rfl) ?_
  refine gE (gS ?_)
  refine ab.jL (α:=Unit) (fun _=>[(2,.slice Z bf.length cZ),(3,.pointer (some ⟨b3,0,none⟩)),(4,.pointer (some ⟨b4,0,none⟩)),(7,U p0),(8,U 0#64)]) (fun _=>[(some b4,.cells (SV.cells x).toArray 41 (0,0)),(some b3,.cells (cn l A b.length cA B nB cB) 25 (0,0))]) (fun _=>?_) (fun K=>?_)
  · -- what comes behind
   refine gS ?_
   refine ab.jL (α:=Unit) (fun _=>[(2,.slice Z bf.length cZ),(3,.pointer (some ⟨b3,0,none⟩)),(4,.pointer (some ⟨b4,0,none⟩)),(7,U p0),(8,U q0)]) (fun _=>[(some b4,.cells (SV.cells x).toArray 41 (0,0)),(some b3,.cells (cn l A b.length cA B nB cB) 25 (0,0))]) (fun _=>?_) (fun K=>?_)
   · -- what comes behind
    refine gS (gS (gR ?_));refine al Jh I9 1 ?_;refine aq Ja 0 ?_;refine aw bh ?_;refine gE ?_
    refine gC (fun hc=>?_) fun hc=>?_
    ·
     have r4:x.d.av=4:=by simpa using hc
     obtain ⟨e0,h3,_⟩:=(m9 hco.1 r4).1 hco
     have ho:=(oV.1 h3).1
     refine gS ?_
     refine ab.dK 13 mixed ?_
     refine cV 0 (ae.mv rfl rfl rfl rfl) ?_
     refine cV 1 (ae.aH rfl rfl rfl rfl Jh rfl (by exact I9) 2 rfl) ?_
     refine cV 2 (ae.dw rfl rfl rfl rfl Ja 0 rfl rfl) ?_
     refine cV 5 (ae.mv rfl rfl rfl rfl) ?_
     refine cV 6 (ae.aH rfl rfl rfl rfl Jh rfl (by exact I9) 3 rfl) ?_
     refine cV 7 (ae.dw rfl rfl rfl rfl Ja 0 rfl rfl) ?_
     refine aG.cC (i:=3) rfl rfl rfl rfl rfl rfl (fun _ _=>call111 _ _) (fun w _ hS=>(by exact gU x.d.on w ho.1)) sL ?_
     refine cV 4 (ae.bin rfl rfl rfl rfl ik rfl) ?_
     refine aG.cC (i:=8) rfl rfl rfl rfl rfl rfl (fun _ _=>call111 _ _) (fun w _ hS=>(by exact gU x.d.e w e0)) sL ?_
     refine cV 9 (ae.bin rfl rfl rfl rfl ik rfl) ?_
     refine cV 10 (ae.bin rfl rfl rfl rfl ql rfl) ?_
     refine cV 11 (ae.fh rfl rfl rfl rfl) ?_
     refine aG.done rfl ?_
     refine gE ?_
     refine gT func66 fun w' hS=>?_
     exact ⟨hS.ext,by rw [jK,if_neg (show ¬x.d.av=1 by omega),if_pos r4,hP (by omega),hQ (.inr r4)];rfl⟩
    have r4:¬x.d.av=4:=by simpa using hc
    refine gK (gS (gS (gR ?_)));refine al Jh I9 1 ?_;refine aq Ja 0 ?_;refine aw bh ?_;refine gE ?_
    refine gC (fun hc=>?_) fun hc=>?_
    ·
     have r7:x.d.av=7:=by simpa using hc
     refine gS (gR ?_)
     refine ab.v (ae.iR rfl rfl rfl rfl JR 1 rfl Jp rfl) ?_
     refine ab.v (ae.iR rfl rfl rfl rfl JV 0 rfl Jm rfl) ?_
     refine ah ?_
     refine gP rfl rfl rfl rfl rfl call112 (fun w _ hS=>(by exact pb l A cA b B nB cB x p0 w (hA.ay hS.ext) hco.1 (fun h=>absurd r7 h))) ?_
     refine ai ?_;refine gE ?_
     refine gT func66 fun w' hS=>?_
     exact ⟨hS.ext,by rw [if_pos r7,jK,if_neg (show ¬x.d.av=1 by omega),if_neg r4,if_pos r7,hP (by omega)];rfl⟩
    have r7:¬x.d.av=7:=by simpa using hc
    have hon:0≤x.d.on∧x.d.on<b.length:=by
      rcases hco.2 with ⟨_,_,h|h⟩|⟨_,_,h,_⟩|⟨_,_,h,_⟩|⟨e,_⟩|⟨_,_,_,h,_⟩|⟨_,_,h,_⟩|⟨e,_⟩
      · obtain ⟨o,q1,q2,_⟩:=h.1.nat hb;omega
      · obtain ⟨o,q1,_⟩:=fP.1 h.1;have:=h.2.1;omega
      · obtain ⟨o,q1,q2,_⟩:=h.nat hb;omega
      · obtain ⟨o,q1,q2,_⟩:=h.nat hb;omega
      · exact absurd e r4
      · obtain ⟨o,q1,q2,_⟩:=h.nat hb;omega
      · obtain ⟨o,q1,q2,_⟩:=h.nat hb;omega
      exact absurd e r7
    obtain ⟨o,ho⟩:∃o:Nat,x.d.on=(o:Int):=⟨x.d.on.toNat,by omega⟩
    have hol:o<b.length:=by omega
    have hnd:nd b x.d.on=b[o]:=by rw [ho,dI hol]
    refine gK (gS ?_)
    refine ab.lF (α:=Nat) [10,11] (fun q=>[(3,.pointer (some ⟨b3,0,none⟩)),(4,.pointer (some ⟨b4,0,none⟩)),(7,U p0),(8,U q0),(9,.pointer (some ⟨q,0,none⟩)),(59,.agg (NV.cells b[o]).toArray),(62,U (bW x.d.on))]) (fun q=>[(some q,.cells (NV.cells Ep).toArray 66 (0,0)),(some b4,.cells (SV.cells x).toArray 41 (0,0)),(some b3,.cells (cn l A b.length cA B nB cB) 25 (0,0))]) (fun b9=>?_) (fun K=>?_)
    · -- what comes behind the region
     refine ab.dG rfl rfl rfl rfl Jd 0 rfl rfl rfl rfl ?_
     refine ai ?_;refine gE (gS (gS (gR ?_)));refine al Jh I9 1 ?_;refine aq Ja 1 ?_;refine gE (gB (gS (gR ?_)));refine aw bh ?_;refine ai ?_;refine gE ?_
     refine gC (fun hc=>?_) fun hc=>?_
     ·
      have r2:x.d.av=2:=by simpa using hc
      have hop:=r9 hco (.inl r2)
      rw [hnd,if_pos r2] at hop
      have hx:=hb.x hol (by rw [dI hol];omega)
      have hy:=hb.y hol (by rw [dI hol];omega)
      rw [dI hol] at hx hy
      refine gS ?_
      refine ab.dK 13 mixed ?_
      refine cV 0 (ae.mv rfl rfl rfl rfl) ?_
      refine cV 1 (ae.aH rfl rfl rfl rfl Jb rfl (by exact I9) 4 rfl) ?_
      refine cV 2 (ae.dw rfl rfl rfl rfl Ja 0 rfl rfl) ?_
      refine cV 4 (ae.aH rfl rfl rfl rfl Jb rfl (by exact I9) 5 rfl) ?_
      refine cV 5 (ae.dw rfl rfl rfl rfl Ja 0 rfl rfl) ?_
      refine cV 9 (ae.mv rfl rfl rfl rfl) ?_
      refine aG.cC (i:=3) rfl rfl rfl rfl rfl rfl (fun _ _=>call111 _ _) (fun w _ hS=>(by exact gU b[o].x w hx.1)) sL ?_
      refine aG.cC (i:=6) rfl rfl rfl rfl rfl rfl (fun _ _=>call111 _ _) (fun w _ hS=>(by exact gU b[o].y w hy.1)) sL ?_
      refine cV 7 (ae.bin rfl rfl rfl rfl ql rfl) ?_
      refine cV 8 (ae.bin rfl rfl rfl rfl ik rfl) ?_
      refine cV 10 (ae.bin rfl rfl rfl rfl ql rfl) ?_
      refine cV 11 (ae.fh rfl rfl rfl rfl) ?_
      refine aG.done rfl ?_
      refine gE ?_
      refine gT func66 fun w' hS=>?_
      exact ⟨hS.ext,by rw [jK,if_neg (show ¬x.d.av=1 by omega),if_neg r4,if_neg r7,if_pos r2,hP (by omega),hnd];rfl⟩
     have r2:¬x.d.av=2:=by simpa using hc
     refine gS (gR ?_);refine aw bh ?_;refine ai ?_;refine gE ?_
     refine gC (fun hc=>?_) fun hc=>?_
     ·
      have r3:x.d.av=3:=by simpa using hc
      have hop:=r9 hco (.inr (.inl r3))
      rw [hnd,if_neg (show ¬x.d.av=2 by omega),if_pos r3] at hop
      have hx:=hb.x hol (by rw [dI hol];omega)
      have hy:=hb.y hol (by rw [dI hol];omega)
      rw [dI hol] at hx hy
      refine gS ?_
      refine ab.dK 15 mixed ?_
      refine cV 0 (ae.mv rfl rfl rfl rfl) ?_
      refine cV 1 (ae.aH rfl rfl rfl rfl Jb rfl (by exact I9) 4 rfl) ?_
      refine cV 2 (ae.dw rfl rfl rfl rfl Ja 0 rfl rfl) ?_
      refine cV 5 (ae.mv rfl rfl rfl rfl) ?_
      refine cV 6 (ae.aH rfl rfl rfl rfl Jb rfl (by exact I9) 5 rfl) ?_
      refine cV 7 (ae.dw rfl rfl rfl rfl Ja 0 rfl rfl) ?_
      refine cV 11 (ae.mv rfl rfl rfl rfl) ?_
      refine aG.cC (i:=3) rfl rfl rfl rfl rfl rfl (fun _ _=>call111 _ _) (fun w _ hS=>(by exact gU b[o].x w hx.1)) sL ?_
      refine cV 4 (ae.bin rfl rfl rfl rfl ik rfl) ?_
      refine aG.cC (i:=8) rfl rfl rfl rfl rfl rfl (fun _ _=>call111 _ _) (fun w _ hS=>(by exact gU b[o].y w hy.1)) sL ?_
      refine cV 9 (ae.bin rfl rfl rfl rfl ik rfl) ?_
      refine cV 10 (ae.bin rfl rfl rfl rfl ql rfl) ?_
      refine cV 12 (ae.bin rfl rfl rfl rfl ql rfl) ?_
      refine cV 13 (ae.fh rfl rfl rfl rfl) ?_
      refine aG.done rfl ?_
      refine gE ?_
      refine gT func66 fun w' hS=>?_
      exact ⟨hS.ext,by rw [jK,if_neg (show ¬x.d.av=1 by omega),if_neg r4,if_neg r7,if_neg r2,if_pos r3,hP (by omega),hQ (.inl r3),hnd];rfl⟩
     have r3:¬x.d.av=3:=by simpa using hc
     refine gS (gR ?_);refine aw bh ?_;refine ai ?_;refine gE ?_
     refine gC (fun hc=>?_) fun hc=>?_
     ·
      have r5:x.d.av=5:=by simpa using hc
      have hop:=r9 hco (.inr (.inr (.inl r5)))
      rw [hnd,if_neg r2,if_neg r3,if_pos r5] at hop
      have hx:=hb.x hol (by rw [dI hol];omega)
      rw [dI hol] at hx
      refine gS (gR ?_);refine ah ?_;refine al Jb I9 4 ?_;refine aq Ja 0 ?_
      refine gP rfl rfl rfl rfl rfl call111 (fun w _ hS=>(by exact gU b[o].x w hx.1)) ?_
      refine aw ik ?_;refine ah ?_;refine aw ql ?_;refine ai ?_;refine gE ?_
      refine gT func66 fun w' hS=>?_
      exact ⟨hS.ext,by rw [jK,if_neg (show ¬x.d.av=1 by omega),if_neg r4,if_neg r7,if_neg r2,if_neg r3,if_pos r5,hP (by omega),hnd];rfl⟩
     have r5:¬x.d.av=5:=by simpa using hc
     refine gS (gR ?_);refine aw bh ?_;refine ai ?_;refine gE ?_
     refine gC (fun hc=>?_) fun hc=>?_
     ·
      have r6:x.d.av=6:=by simpa using hc
      have hop:=r9 hco (.inr (.inr (.inr r6)))
      rw [hnd,if_neg r2,if_neg r3,if_neg r5] at hop
      have hx:=hb.x hol (by rw [dI hol];omega)
      rw [dI hol] at hx
      refine gS ?_
      refine ab.dK 12 mixed ?_
      refine cV 0 (ae.iR rfl rfl rfl rfl JR 2 rfl Jp rfl) ?_
      refine cV 1 (ae.iR rfl rfl rfl rfl JV 1 rfl Jm rfl) ?_
      refine cV 2 (ae.mv rfl rfl rfl rfl) ?_
      refine cV 3 (ae.aH rfl rfl rfl rfl Jb rfl (by exact I9) 4 rfl) ?_
      refine cV 4 (ae.dw rfl rfl rfl rfl Ja 0 rfl rfl) ?_
      refine cV 8 (ae.mv rfl rfl rfl rfl) ?_
      refine aG.cC (i:=5) rfl rfl rfl rfl rfl rfl (fun _ _=>call111 _ _) (fun w _ hS=>(by exact gU b[o].x w hx.1)) sL ?_
      refine cV 6 (ae.bin rfl rfl rfl rfl ik rfl) ?_
      refine aG.cC (i:=7) rfl rfl rfl rfl rfl rfl (fun _ _=>call112 _ _) (fun w _ hS=>(by have:=pb l A cA b B nB cB x (p0 &&& ~~~ bW b[o].x) w (hA.ay hS.ext) hco.1 (fun _=>hon);rw [if_neg r7,hnd] at this;exact this)) sL ?_
      refine cV 9 (ae.bin rfl rfl rfl rfl ql rfl) ?_
      refine cV 10 (ae.fh rfl rfl rfl rfl) ?_
      refine aG.done rfl ?_
      refine gE ?_
      refine gT func66 fun w' hS=>?_
      exact ⟨hS.ext,by rw [jK,if_neg (show ¬x.d.av=1 by omega),if_neg r4,if_neg r7,if_neg r2,if_neg r3,if_neg r5,hP (by omega),hnd];rfl⟩
     have r6:¬x.d.av=6:=by simpa using hc
     have r1:x.d.av=1:=by
       rcases hco.2 with ⟨e,_⟩|⟨e,_⟩|⟨e,_⟩|⟨e,_⟩|⟨e,_⟩|⟨e,_⟩|⟨e,_⟩<;>omega
     have hcl:=(uU.1 ((uR hco.1 r1).1 hco)).2
     refine gK (dQ (gS (gS (gR ?_))));refine al Jb I9 0 ?_;refine aq Ja 0 ?_;refine aw bh ?_;refine gE ?_
     refine gC (fun hc=>?_) fun hc=>?_
     ·
      have h2:b[o].op=2:=by simpa using hc
      refine gS (gR ?_);refine ah ?_;refine ai ?_;refine gE ?_
      refine gT func66 fun w' hS=>?_
      exact ⟨hS.ext,by rw [jK,if_pos r1,hnd,if_pos h2];rfl⟩
     have h2:¬b[o].op=2:=by simpa using hc
     have he:0≤x.d.e:=by
       rcases hcl with h|h
       · omega
       obtain ⟨e,q1,_⟩:=fP.1 h.2.2.1;omega
     refine gK (gS (gR ?_));refine ah ?_;refine al Jh I9 3 ?_;refine aq Ja 1 ?_
     refine gP rfl rfl rfl rfl rfl call111 (fun w _ hS=>(by exact gU x.d.e w he)) ?_
     refine aw ql ?_;refine ai ?_;refine gE ?_
     refine gT func66 fun w' hS=>?_
     exact ⟨hS.ext,by rw [jK,if_pos r1,hnd,if_neg h2];rfl⟩
    · -- the region
     refine ab.r8 8 13 [(some b4,.cells (SV.cells x).toArray 41 (0,0)),(some b3,.cells (cn l A b.length cA B nB cB) 25 (0,0))] sL mixed rfl ?_
     refine lT.v (ae.aH rfl rfl rfl rfl Jr rfl (by exact Jj) 1 rfl) ?_
     refine lT.v (ae.dw rfl rfl rfl rfl Jn 1 rfl rfl) ?_
     refine lT.v (ae.aH rfl rfl rfl rfl Jh rfl (by exact I9) 2 rfl) ?_
     refine lT.v (ae.dw rfl rfl rfl rfl Ja 0 rfl rfl) ?_
     refine lT.v (ae.ez rfl rfl rfl rfl rfl Ji Jd ⟨_,(hA).at_⟩ (aD (enc:=NV.cells) (sz:=6) (fun _=>rfl)) (by decide) (o) ⟨ho,hol⟩) ?_
     refine lT.v (ae.nR (cs:=NV.cells b[o]) rfl rfl rfl rfl Jt Jd (fun w _ hS=>Sl.many (enc:=NV.cells) (sz:=6) (hA.ay hS.ext).at_ (fun _=>rfl) hol)) ?_
     refine lT.v (ae.aH rfl rfl rfl rfl Jh rfl (by exact I9) 2 rfl) ?_
     refine lT.v (ae.dw rfl rfl rfl rfl Ja 0 rfl rfl) ?_
     refine lT.nil ?_
     refine Tl.two (d:=62) (d2:=9) rfl ?_ ?_
     · -- operation 8 next
      refine dk.call _ rfl rfl rfl rfl rfl (fun _ _=>call111 _ _) (fun w _ hS=>(by exact gU x.d.on w hon.1)) ?_
      rintro v w1 w2 Y' hS he rfl
      refine ⟨_,hS.later he,sL,?_⟩
      refine Tl.one (d:=9) rfl ?_
      refine dk.eN rfl rfl rfl (fun _=>Jq _) (fun b9=>⟨by repeat (first|exact List.Sublist.refl _|exact List.nil_sublist _|refine List.Sublist.cons_cons _ ?_|refine List.Sublist.cons _ ?_),?_⟩)
      refine Tl.sw [10,11] rfl rfl ?_
      exact K b9 _ _ sF (fun _ _ hS=>hS)
     · -- operation 9 next
      refine dk.eN rfl rfl rfl (fun _=>Jq _) (fun b9=>⟨by repeat (first|exact List.Sublist.refl _|exact List.nil_sublist _|refine List.Sublist.cons_cons _ ?_|refine List.Sublist.cons _ ?_),?_⟩)
      refine Tl.one (d:=62) rfl ?_
      refine dk.call _ rfl rfl rfl rfl rfl (fun _ _=>call111 _ _) (fun w _ hS=>(by exact gU x.d.on w hon.1)) ?_
      rintro v w1 w2 Y' hS he rfl
      refine ⟨_,hS.later he,sL,?_⟩
      refine Tl.sw [10,11] rfl rfl ?_
      exact K b9 _ _ sF (fun _ _ hS=>hS)
   · -- the first part
    refine gS (gR ?_);refine al Jh JP 4 ?_;refine aq JU 0 ?_;refine dY Jg ?_;refine aw w6 ?_;refine gE ?_
    refine gC (fun hc=>?_) fun hc=>?_
    ·
     have g1:1<x.d.fr.length:=by simp at hc;omega
     obtain ⟨i,i1,i2⟩:=hfi 1 g1
     have hq:q0=bf[i]:=by rw [hq0,if_pos g1];simp [List.getD_eq_getElem?_getD,g1,i1,i2]
     refine gR ?_;refine ah ?_;refine al Jh JP 4 ?_;refine aq JU 0 ?_
     refine ab.v (ae.idx rfl rfl rfl rfl rfl Jg I9 ⟨_,hfr⟩ (by simp) (1) ⟨rfl,by simpa using g1⟩) ?_
     refine ab.v (ae.ld rfl rfl rfl rfl Ja (fun w _ hS=>(jU.ay hfr hS.ext).at (1) g1)) ?_
     refine ab.v (ae.idx rfl rfl rfl rfl rfl JW Ju ⟨_,hZ⟩ (by simp) i ⟨i1,by simpa using i2⟩) ?_
     refine ab.v (ae.ld rfl rfl rfl rfl Jz (fun w _ hS=>Sl.at (enc:=U) (xg.ay hZ hS.ext) i i2)) ?_
     refine ai ?_;refine gE ?_
     exact K () _ _ (by rw [hq];repeat (first|exact bB.nil|refine bB.cons rfl ?_)) (fun _ _ hS=>hS)
    have g1:¬1<x.d.fr.length:=by simp at hc;omega
    have hq:q0=0#64:=by rw [hq0,if_neg g1]
    refine gK ?_
    exact K () _ _ (by rw [hq];repeat (first|exact bB.nil|refine bB.cons rfl ?_)) (fun _ _ hS=>hS)
  · -- the first part
   refine gS (gR ?_);refine al Jh JP 4 ?_;refine aq JU 0 ?_;refine dY Jg ?_;refine aw w6 ?_;refine gE ?_
   refine gC (fun hc=>?_) fun hc=>?_
   ·
    have g0:0<x.d.fr.length:=by simp at hc;omega
    obtain ⟨i,i1,i2⟩:=hfi 0 g0
    have hp:p0=bf[i]:=by rw [hp0,if_pos g0];simp [List.getD_eq_getElem?_getD,g0,i1,i2]
    refine gR ?_;refine ah ?_;refine al Jh JP 4 ?_;refine aq JU 0 ?_
    refine ab.v (ae.idx rfl rfl rfl rfl rfl Jg I9 ⟨_,hfr⟩ (by simp) (0) ⟨rfl,by simpa using g0⟩) ?_
    refine ab.v (ae.ld rfl rfl rfl rfl Ja (fun w _ hS=>(jU.ay hfr hS.ext).at (0) g0)) ?_
    refine ab.v (ae.idx rfl rfl rfl rfl rfl JW Ju ⟨_,hZ⟩ (by simp) i ⟨i1,by simpa using i2⟩) ?_
    refine ab.v (ae.ld rfl rfl rfl rfl Jz (fun w _ hS=>Sl.at (enc:=U) (xg.ay hZ hS.ext) i i2)) ?_
    refine ai ?_;refine gE ?_
    exact K () _ _ (by rw [hp];repeat (first|exact bB.nil|refine bB.cons rfl ?_)) (fun _ _ hS=>hS)
   have g0:¬0<x.d.fr.length:=by simpa using hc
   have hp:p0=0#64:=by rw [hp0,if_neg g0]
   refine gK ?_
   exact K () _ _ (by rw [hp];repeat (first|exact bB.nil|refine bB.cons rfl ?_)) (fun _ _ hS=>hS)
end Go.Proofs.YtnfmegcknckahaaGreatDoor
