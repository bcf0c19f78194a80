/- What calls return, each under its own conditions. -/
import Derived.Test.YtpbhoidjmpjfpaaGreatDoorXT43
import Derived.Test.YtpbhoidjmpjfpaaGreatDoorXT44
set_option maxRecDepth 100000
set_option maxHeartbeats 40000000
namespace Go.Proofs.YtpbhoidjmpjfpaaGreatDoor
open Go.RowKit Go.Proofs.Wit Tryz
theorem MC{l:Int}{b:List NV}{L:List SD}(h:iT l b L)(hs:fN (fT b L) ((fT b L).length - 1:Nat)=fN L (L.length - 1:Nat)):wX l b (fT b L)=wX l b L/\Hr b (fT b L)=Hr b L:=by
 have h1:py l b L=0:=j5.2 h;have h2:py l b (fT b L)=0:=j5.2 h.tr;unfold wX Hr;rw[h1,h2,h.J4 hs];exact⟨rfl,rfl⟩
theorem xK(m:Int)(hm:0<=m/\m<256)(a:ae)(ca:Nat)(f:List NV)(w:aB)(hT:LJ w)(ha:FA w a f)(hfl:f.length<=maxLen):
    Qqa 4 [.int .u8 m,.slice a f.length ca] w (λv _=>v=.bool true):=by
  obtain⟨k,rfl⟩:∃k:Nat,m=(k:Int):=⟨m.toNat,aH⟩;have hk7:(0:Int)<=((k%7:Nat):Int)/\((k%7:Nat):Int)<=6:=aH;obtain⟨l,hld⟩:∃l:Int,l=((k%7:Nat):Int):=⟨_,rfl⟩;rw[<-hld]at hk7;refine gI func4 ?_;refine gW ?_;refine q9 call6 (λw _ C=>(by exact qD w (hT.ex C.ext))) ?_;refine gW ?_;refine oM NS ?_;refine gW ?_;refine gC (λhc=>?_) λhc=>?_;refine gW ?_;refine q9 call6 (λw _ C=>(by exact qD w (hT.ex C.ext))) ?_;refine gW ?_;refine gT func4 λw' C=>?_;exact⟨C.ext,rfl⟩;refine gW ?_;refine eB.v (eD.conv rfl rfl rfl (NK (a:=(k:Int)) (k:=.i64) underlying5 underlying3 (IntWalk.i64_in _ aH)) rfl) ?_;refine mC rfl rfl rfl rfl (F0 hld) ?_;refine gW ?_;refine sY call7 (λw _ C=>(by exact wN l hk7 a ca f w (ha.eQ C.ext) hfl)) ?_;rintro v w1 w2 Y' C he ⟨v1,e,l',b',ss,rfl,⟨qa,qs,cA,cs,spa,sps,H,rfl,hqa,hqs,hnew,Q⟩,hok,hno⟩;refine⟨_,C.jk (pre:=[_,_]) he hnew,?_⟩;refine gW ?_;refine eB.fZ (λ_=>RO _) (λb5=>?_);refine eB.fA Ry 0 ?_;refine gW ?_;refine oM Du ?_;refine gW ?_;refine Qa (λhc=>?_) λe0:e=0=>?_;refine gW ?_;refine gT func4 λw' C=>?_;exact⟨C.ext,rfl⟩;obtain⟨rfl,rfl,hRP⟩:=hok e0;obtain⟨b,hb⟩:∃b,b=gU (eP f):=⟨_,rfl⟩;obtain⟨W,pz⟩:=hRP.ok hk7;have hrt:=(xO (eO.1 hRP.1.1.1).top).1;rw[<-hb]at W hrt hqa⊢;have h64:=W.base.len;have hrf:py l' b (iu ss)=0:=j5.2 W;have S:b.length<=maxLen:=by unfold maxLen;omega
  have hp0:0<ss.length:=by have:=W.pos;rwa[fD]at this
  have hsl:ss.length<=maxLen:=by have:=W.len;rw[fD]at this;unfold maxLen;omega
  have hsl4:ss.length<=4096:=by have:=W.len;rwa[fD]at this
  have hlo:=W.EM (r:=km (eP f)) aH pz;have M:=hlo.trans pz.symm;obtain⟨N,hpl⟩:=MC W M;have T:=W.tr;refine gW ?_;refine sY call14 (λw _ C=>(by exact GG l' (qa.map aP) cA b (qs.map aP) cs ss w (fe C 1 rfl hqa) (qK C 2 rfl hqs (λx hx=>⟨(Q x hx).1.mono (λz hz=>by simp[hz]),(Q x hx).2⟩)) S hsl)) ?_;rintro v w1 w2 Y' C he ⟨v2,l2,b2,os,rfl,⟨qc,qo,cC,co,spc,spo,Ho,rfl,hqc,hqo,hnewo,J⟩,hok2,_⟩;obtain⟨rfl,rfl,hdo⟩:=hok2 hrf;rw[hrf];rw[<-hdo]at T N hpl M hlo;refine⟨_,C.jk (pre:=[_,_]) he hnewo,?_⟩;have hrt2:py l2 b2 (iu os)=0:=j5.2 T;have hq0:0<os.length:=by have:=T.pos;rwa[fD]at this
  have hol4:os.length<=4096:=by have:=T.len;rwa[fD]at this
  have hol:os.length<=maxLen:=by unfold maxLen;omega
  have hle:os.length<=ss.length:=by
    have h5:=eh List.length hdo;rw[oO,fD,fD]at h5;have:=sN (p:=gj (iu ss)) (k:=ss.length);omega
  have O:os.length - 1<os.length:=aH;have F:ss.length - 1<ss.length:=aH;have hset:os[os.length - 1].d.set=ss[ss.length - 1].d.set:=by
    rw[fD,fD,gG (by rw[fD];exact O),gG (by rw[fD];exact F),lP O,lP F]at M;exact M
  obtain⟨bo,rfl⟩:∃b,qo=some b:=by
    cases qo with
    |none=>have:=hqo rfl;omega
    |some b=>exact⟨b,rfl⟩
  obtain⟨bs,rfl⟩:∃b,qs=some b:=by
    cases qs with
    |none=>have:=hqs rfl;omega
    |some b=>exact⟨b,rfl⟩
  refine gW ?_;refine eB.fZ (λ_=>RO _) (λb7=>?_);refine eB.fA Ry 0 ?_;refine gW ?_;refine fE 44 mixed ?_;refine cW ?_;refine cV 1 (eD.bin rfl rfl rfl rfl (uB (v:=false) rfl) rfl) ?_;refine cW ?_;refine fh.iJ (i:=4) call8 (λw _ C=>(by exact ow l2 (qc.map aP) cC b2 (aR bo) co os w (fe C 1 rfl hqc) (qK C 2 rfl aK (λx hx=>⟨(J x hx).1.mono (λz hz=>by simp[hz]),(J x hx).2⟩)) S hol)) sL ?_;refine cV 5 (eD.bin rfl rfl rfl rfl (uB (v:=false) (by rw[hrt2];rfl)) rfl) ?_;refine cW ?_;refine cV 11 (eD.bin rfl rfl rfl rfl (wi (v:=false) (by simp only[beq_eq_false_iff_ne];omega)) rfl) ?_;refine cW ?_;refine cV 20 (eD.bin rfl rfl rfl rfl (IK (v:=false) aN) rfl) ?_;refine cW ?_;refine cV 28 (eD.bin rfl rfl rfl rfl (kv (c:=((os.length - 1:Nat):Int)) aH aH) rfl) ?_;refine cV 29 (eD.ga Ro Ra ((os.length - 1)) ⟨rfl,O⟩) ?_;refine cV 30 (eD.kq (a:=some ⟨bo,0,none⟩) (o:=((os.length - 1))*5) RJ Rm (((os.length - 1))*5+0)) ?_;refine cV 31 (eD.iB RK (λw _ C=>Sl.pq (enc:=SV.cells) (sz:=5) (a:=some ⟨bo,0,none⟩) (Sl.ie (C.get (j:=2) rfl)) (λ_=>rfl) O rfl)) ?_;refine cW ?_;refine cV 37 (eD.bin rfl rfl rfl rfl (kv (c:=((ss.length - 1:Nat):Int)) aH aH) rfl) ?_;refine cV 38 (eD.ga Ro Ra ((ss.length - 1)) ⟨rfl,F⟩) ?_;refine cV 39 (eD.kq (a:=some ⟨bs,0,none⟩) (o:=((ss.length - 1))*5) RJ Rm (((ss.length - 1))*5+0)) ?_;refine cV 40 (eD.iB RK (λw _ C=>Sl.pq (enc:=SV.cells) (sz:=5) (a:=some ⟨bs,0,none⟩) (Sl.ie (C.get (j:=5) rfl)) (λ_=>rfl) F rfl)) ?_
  refine cV 41 (eD.bin rfl rfl rfl rfl (NQ (v:=false) (by rw[hset];simp)) rfl) ?_;refine cW ?_;refine kK ?_;refine gW ?_;refine wM ?_;refine gW ?_;refine sY call9 (λw _ C=>(by exact rB l2 (qa.map aP) cA b2 (aR bs) cs ss w (fe C 4 rfl hqa) (qK C 5 rfl aK (λx hx=>⟨(Q x hx).1.mono (λz hz=>by simp[hz]),(Q x hx).2⟩)) S hsl)) ?_;rintro v w1 w2 Y' C he ⟨sv,E,rfl,⟨q1,c1,s1,H1,rfl,hq1,hc1,hn1,hi1⟩,hx1,hx1'⟩;refine⟨_,C.jk (pre:=[_]) he hn1,?_⟩;refine gW ?_;refine sY call9 (λw _ C=>(by exact rB l2 (qc.map aP) cC b2 (aR bo) co os w (fe C 2 rfl hqc) (qK C 3 rfl aK (λx hx=>⟨(J x hx).1.mono (λz hz=>by simp[hz]),(J x hx).2⟩)) S hol)) ?_;rintro v w1 w2 Y' C he ⟨sv,D,rfl,⟨q2,c2,s2,H2,rfl,hq2,hc2,hn2,hi2⟩,Y,X⟩;rw[N,hpl]at Y;rw[N]at X;rw[N];have hxl:E.length=D.length:=by
    by_cases h:wX l2 b2 (iu ss)=0;have h1:=eh List.length ((hx1 h).trans (Y h).symm);simpa using h1;rw[hx1' h,X h]
  refine⟨_,C.jk (pre:=[_]) he hn2,?_⟩;refine gW ?_;refine fE 38 mixed ?_;refine cW ?_;refine cV 2 (eD.bin rfl rfl rfl rfl (wi (v:=true) (beq_self_eq_true _)) rfl) ?_;refine cW ?_;refine cV 8 (eD.bin rfl rfl rfl rfl (wi (v:=true) (by rw[hxl];exact beq_self_eq_true _)) rfl) ?_;refine cW ?_;refine cV 12 (eD.bin rfl rfl rfl rfl Du rfl) ?_;refine cW ?_;refine fh.cases (d:=102) rfl (λhc=>?_) (λhc=>?_);refine cW ?_;refine kK ?_;refine gW ?_;refine gT func4 λw' C=>?_;exact⟨C.ext,rfl⟩;have h2:wX l2 b2 (iu ss)=0:=aJ;obtain⟨hck,K,hcf,_⟩:=za h2 (hx1 h2);have hl4:=(kH.1 hck).2.2.1;have P:D.length - 1<D.length:=aH;have hfe:E[E.length - 1].f.f=D[D.length - 1].f.f:=by
    have h3:=eh (λl=>l[E.length - 1]?) ((hx1 h2).trans (Y h2).symm);simp only[dc,bH K,bH (show E.length - 1<D.length by omega),dL]at h3;have h4:=eh LD.f (dM h3);have h5:D[E.length - 1]=D[D.length - 1]:=by simp only[hxl]
    rw[h5]at h4;exact h4
  obtain⟨b1q,rfl⟩:∃b,q1=some b:=by
    cases q1 with
    |none=>have:=(hq1 rfl).1;omega
    |some b=>exact⟨b,rfl⟩
  obtain⟨b2q,rfl⟩:∃b,q2=some b:=by
    cases q2 with
    |none=>have:=(hq2 rfl).1;omega
    |some b=>exact⟨b,rfl⟩
  refine cW ?_;refine cV 16 (eD.bin rfl rfl rfl rfl (IK (v:=true) aN) rfl) ?_;refine cW ?_;refine cV 21 (eD.bin rfl rfl rfl rfl (kv (c:=((E.length - 1:Nat):Int)) aH aH) rfl) ?_;refine cV 22 (eD.ga RP RN ((E.length - 1)) ⟨rfl,K⟩) ?_;refine cV 23 (eD.kq (a:=some ⟨b1q,0,none⟩) (o:=((E.length - 1))*5) RQ Rb (((E.length - 1))*5+0)) ?_;refine cV 24 (eD.iB Rj (λw _ C=>Sl.pq (enc:=LV.cells) (sz:=5) (a:=some ⟨b1q,0,none⟩) (Sl.ie (C.get (j:=1) rfl)) (λ_=>rfl) K rfl)) ?_;refine cW ?_;refine cV 28 (eD.bin rfl rfl rfl rfl (kv (c:=((D.length - 1:Nat):Int)) aH aH) rfl) ?_;refine cV 29 (eD.ga RP RN ((D.length - 1)) ⟨rfl,P⟩) ?_;refine cV 30 (eD.kq (a:=some ⟨b2q,0,none⟩) (o:=((D.length - 1))*5) RQ Rb (((D.length - 1))*5+0)) ?_;refine cV 31 (eD.iB Rj (λw _ C=>Sl.pq (enc:=LV.cells) (sz:=5) (a:=some ⟨b2q,0,none⟩) (Sl.ie (C.get (j:=0) rfl)) (λ_=>rfl) P rfl)) ?_;refine fh.iJ (i:=32) call12 (λw _ C=>(by have:=kp E[E.length - 1].f.a E[E.length - 1].f.c E[E.length - 1].f.f D[D.length - 1].f.a D[D.length - 1].f.c D[D.length - 1].f.f w (((hi1 _ (dq K)).1.mono (λz hz=>by simp[hz])).at C) (((hi2 _ (dq P)).1.mono (λz hz=>by simp[hz])).at C) (hi1 _ (dq K)).2 (hi2 _ (dq P)).2;rw[Ay hcf hfe]at this;exact this)) sL ?_;refine cW ?_;refine kK ?_;refine gW ?_;refine gT func4 λw' C=>?_;exact⟨C.ext,rfl⟩
end Go.Proofs.YtpbhoidjmpjfpaaGreatDoor
