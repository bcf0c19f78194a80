/- What calls return, each under its own conditions. -/
import Derived.Test.YtpbhoidjmpjfpaaGreatDoorXT41
import Derived.Test.YtpbhoidjmpjfpaaGreatDoorXT42
set_option maxRecDepth 100000
set_option maxHeartbeats 40000000
namespace Go.Proofs.YtpbhoidjmpjfpaaGreatDoor
open Go.RowKit Go.Proofs.Wit Tryz
abbrev xT:Tr:=fF (eT 0 pT) pT
theorem I3:xT.ok:=iM (fP aI vw) vw
theorem Fp:fK (bT xT)=0/\eP (bT xT)=xT:=by decide+kernel
theorem Nk:eA k0 3=jv (eP (bT xT)):=by
 rw[Fp.2,BH (t:=xT) (by decide+kernel)];decide+kernel
theorem Np:kI (λop _ _=>op<=10) (eP (bT xT)):=by rw[Fp.2];exact Fk.2
theorem Ni:jd (fN lz ((3 - 1:Nat):Int))=[3]:=by decide+kernel
theorem Jk:gU (eP (bT mX))=k0:=by rw[sC.2.2.1,zN]
theorem Jg{L:List SD}(h:Lw 2 (bT mX) L):L=lz:=by
 obtain⟨_,n,low,σ,h1,_,h2,_⟩:=h;obtain⟨p,σ',C,w⟩:=Nx;unfold G8 at h1;rw[sC.2.2.1,C]at h1;cases h1;rw[h2,w,show lz.take ((2:Int).toNat+1)=lz from rfl,Jh]
theorem Nt{e:Int}(h:Ag (bT mX)->∀n low σ,G8 2 (bT mX)=some ((n,low),σ)->(n<0->e=15)/\(0<=n->(tB (σ.ss.take (n.toNat+1))).length<=4096->e=0)):e=0:=by
 obtain⟨p,σ',C,w⟩:=Nx;refine(h B7 2 p σ' (by unfold G8;rw[sC.2.2.1];exact C)).2 aI ?_;rw[w,show lz.take ((2:Int).toNat+1)=lz from rfl,Jh];decide
theorem Nu{e:Int}(h:Ag (bT mX)->∀n low σ,G8 0 (bT mX)=some ((n,low),σ)->(n<0->e=15)/\(0<=n->(tB (σ.ss.take (n.toNat+1))).length<=4096->e=0)):e=15:=by
 obtain⟨p,σ',w⟩:=OJ;exact(h B7 (-1) p σ' (by unfold G8;rw[sC.2.2.1];exact w)).1 aI
theorem Nw{L:List SD}(h:Lw 2 (bT mX) L):iT 2 k0 lz:=by
 have h1:=(h.ok aI).1;rwa[Jk,Jg h]at h1
theorem Nj(h:iT 2 k0 lz):wX 2 k0 lz=0/\Hr k0 lz=Kv.map (λx=>x.v.d):=by
 have h1:py 2 k0 lz=0:=j5.2 h;refine⟨?_,?_⟩;rw[wX,if_neg (by simp[h1]),AY,if_neg aL];rw[Hr,AY]
theorem Nv(h:iT 2 k0 lz){ls:List LV}(hd:ls.map LV.d=Kv.map (λx=>x.v.d)):kX 2 ls=0:=by
 have h:=h.Pr.2.1;rw[AY]at h;exact vQ h aI aI hd
theorem qD(w:aB)(hT:LJ w):Qqa 6 [] w (λv _=>v=.bool true):=by
 refine gI func6 ?_;refine gW ?_;refine sY call20 (λw _ h=>(by exact Fj 0 w)) ?_;rintro v w1 w2 Y' h he ho;rw[K1]at ho;obtain⟨qp,cp,sp,rfl,T,hcp,D⟩:=eW h he ho;refine⟨_,D,?_⟩;refine gW ?_;refine oY Rp (λw _ h=>(by exact mR 0 aI ⟨(qp.map aP),cp,bT pT⟩ pT w (fe h 0 rfl (λe=>(T e).1)) rfl vw)) λqk ck sk _ _ hqk hck D=>?_;refine gW ?_;refine oY Rt (λw _ h=>(by exact nj ⟨(qk.map aP),ck,bT (eT 0 pT)⟩ ⟨(qp.map aP),cp,bT pT⟩ (eT 0 pT) pT w (fe h 0 rfl (λe=>(hqk e).1)) rfl (fP aI vw) (fe h 1 rfl (λe=>(T e).1)) rfl vw)) λqf cf sf _ _ M hcf D=>?_;refine gW ?_;refine oY Rr (λw _ h=>(by exact mH ⟨(qf.map aP),cf,bT xT⟩ xT w (fe h 0 rfl (λe=>(M e).1)) rfl I3)) λqg cg sg _ _ hqg hcg D=>?_;refine sY call7 (λw _ h=>(by exact th 2 aI (qg.map aP) cg (bT mX) w (fe h 0 rfl (λe=>(hqg e).1)) l4)) ?_;rintro v w1 w2 Y' h he ⟨v1,e,rfl,hok,_,hE⟩;obtain rfl:=Nt hE;obtain⟨t1,K,hRP⟩:=hok rfl;rw[Jk]at K;have p:=Jg hRP;have O:=Nw hRP;obtain⟨Q,P,cn1,co1,sn1,so1,H1,rfl,J,F,hn1,E⟩:=K;have S:t1.length=3:=by have:=eh List.length p;simpa[lz]using this
 have Y:t1.length<=maxLen:=by rw[S];decide
 have X:k0.length<=maxLen:=aI;refine⟨_,h.jk (pre:=[_,_]) he hn1,?_⟩;refine gW ?_;refine eB.fZ (λ_=>RO _) (λb3=>?_);refine eB.fA Ry 0 ?_;refine gW ?_;refine sY call9 (λw _ h=>(by exact rB 2 (Q.map aP) cn1 k0 (P.map aP) co1 t1 w (fe h 1 rfl J) (qK h 2 rfl F (λx hx=>⟨(E x hx).1.mono (λz hz=>by simp[hz]),(E x hx).2⟩)) X Y)) ?_;rintro v w1 w2 Y' h he ⟨sv,lc,rfl,⟨qc,cc,sc,Hc,rfl,W,hcc,hnc,hic⟩,C,_⟩;have N:=Nj O;have C:=(C (by rw[p];exact N.1)).trans (show Hr k0 (iu t1)=Kv.map (λx=>x.v.d) by rw[p];exact N.2);have hlc:lc.length=9:=by have:=eh List.length C;simpa using this
 refine⟨_,h.jk (pre:=[_]) he hnc,?_⟩;rw[p,N.1];refine gW ?_;refine oY Rr (λw _ h=>(by exact mH ⟨(qf.map aP),cf,bT xT⟩ xT w (fe h 5 rfl (λe=>(M e).1)) rfl I3)) λqh ch sh _ _ hqh hch D=>?_;refine sY call7 (λw _ h=>(by exact th 0 aI (qh.map aP) ch (bT mX) w (fe h 0 rfl (λe=>(hqh e).1)) l4)) ?_;rintro v w1 w2 Y' h he ⟨v2,e,rfl,_,hno,hE⟩;obtain rfl:=Nu hE;rw[hno aI];refine⟨_,h.later he,?_⟩;refine gW ?_;refine eB.fZ (λ_=>RO _) (λb7=>?_);refine eB.fA Ry 0 ?_;refine gW ?_;refine mC rfl rfl rfl rfl (wi (v:=true) rfl) ?_;refine gW ?_;refine mC rfl rfl rfl rfl (wi (v:=true) rfl) ?_;refine gW ?_;refine mC rfl rfl rfl rfl (wi (v:=true) rfl) ?_;refine gW ?_;refine q9 call19 (λw _ h=>(by exact CT 2 (Q.map aP) cn1 k0 (P.map aP) co1 t1 (qf.map aP) cf (bT xT) 3 w (fe h 4 rfl J) (qK h 5 rfl F (λx hx=>⟨(E x hx).1.mono (λz hz=>by simp[hz]),(E x hx).2⟩)) (fe h 7 rfl (λe=>(M e).1)) X Y l4 (by rw[p];exact O) Fp.1 Np (by rw[p,S];exact Ni) Nk)) ?_;refine mC rfl rfl rfl rfl (wi (v:=true) rfl) ?_;refine gW ?_;refine mC rfl rfl rfl rfl (IK (v:=true) (by rw[hlc];rfl)) ?_;refine gW ?_;refine q9 call11 (λw _ h=>(by exact vP 2 (qc.map aP) cc lc w (EO h 2 rfl (λe=>(W e).1) (λx hx=>⟨(hic x hx).1.mono (λz hz=>by simp[hz]),(hic x hx).2⟩)) (hT.ex h.ext))) ?_;refine mC rfl rfl rfl rfl (wi (v:=true) (by rw[Nv O C];rfl)) ?_;refine gW ?_
 refine q9 call11 (λw _ h=>(by exact vP 0 (qc.map aP) cc lc w (EO h 2 rfl (λe=>(W e).1) (λx hx=>⟨(hic x hx).1.mono (λz hz=>by simp[hz]),(hic x hx).2⟩)) (hT.ex h.ext))) ?_;refine mC rfl rfl rfl rfl (uB (v:=true) (by simpa using K5 C)) ?_;refine gW ?_;refine gT func6 λw' h=>?_;exact⟨h.ext,rfl⟩
theorem uk.none{w w':aB}:uk w w' 0 [] (.agg (gu 0 none 0 0 none 0 0)) []:=⟨.none,.none,0,0,[],[],[],rfl,λ_=>rfl,λ_=>rfl,Af,λ_ h=>by cases h⟩
theorem GG(l:Int)(A:ae)(cA:Nat)(b:List NV)(B:ae)(cB:Nat)(ss:List SV)(w:aB)(J:FA w A b)(F:Bh w B ss)(E:b.length<=maxLen)(C:ss.length<=maxLen):
  Qqa 14 [.agg (gu l A b.length cA B ss.length cB)] w (λv w'=>∃p D b' os,v=.tuple #[p,aS (py l b (iu ss))]/\uk w w' D b' p os/\(py l b (iu ss)=0->D=l/\b'=b/\iu os=fT b (iu ss))/\(py l b (iu ss)≠0->os=[])):=
 (GJ l A cA b B cB ss w J F E C).mono (λv w' _ ⟨p,h1,h2,N⟩=>by
  by_cases e:py l b (iu ss)=0;obtain⟨os,M,K⟩:=h2 e;exact⟨p,l,b,os,h1,M,λ_=>⟨rfl,rfl,K⟩,λh=>absurd e h⟩;rw[N e]at h1;exact⟨_,0,[],[],h1,uk.none,λh=>absurd h e,λ_=>rfl⟩)
section
variable{l:Int}{b:List NV}{L:List SD}
theorem El(h:wX l b L=0):iT l b L/\(kC eC b L).2.bad=false:=by
 unfold wX at h;by_cases h1:py l b L=0;rw[if_neg (by simpa using h1)]at h;refine⟨j5.1 h1,?_⟩;by_cases h2:(kC eC b L).2.bad=true;rw[if_pos h2]at h;cases h;simpa using h2;rw[if_pos h1]at h;exact absurd h h1
theorem za(h:wX l b L=0){ls:List LV}(hd:ls.map LV.d=Hr b L):kX l ls=0/\∃p:ls.length - 1<ls.length,fK ls[ls.length - 1].f.f=0/\o9 ls[ls.length - 1].f.f (bT (ic b (fN L ((L.length - 1:Nat):Int))))=true:=by
 obtain⟨F,w⟩:=El h;obtain⟨_,O,N,J⟩:=F.Pr;have h1:=J w;obtain⟨h2,P⟩:=N w;have M:ls.length=(kC eC b L).2.ls.length:=by
  have:=eh List.length hd;simpa[Hr]using this
 have E:=vQ O F.log aH hd;have p:ls.length - 1<ls.length:=aH;have hcf:=(ri.1 (C7 E _ p)).1;have e1:ls[ls.length - 1].f.f=bT (ic b (fN L ((L.length - 1:Nat):Int))):=by
  have:=NF hd p aH;rw[this,<-P];unfold lg;have Q:ls.length - 1=(kC eC b L).1:=aH;simp only[Q];simp[h2]
 have D:(ic b (fN L ((L.length - 1:Nat):Int))).ok:=by
  have hp:=F.pos;refine(rX F.base (λn K=>?_)).1;rw[gG aH]at K;exact(F.nR (L.length - 1) aH).1 n K
 refine⟨E,p,hcf,?_⟩;have C:=(eO.1 hcf).pos;rw[e1]at C⊢;rw[jZ (mI D (λe=>by rw[e]at C;cases C)) D,dQ rfl]
end
theorem Lj{P:av}{t:ax}{x:Nat}:nE P .rem t (aS x) (aS 7) (aS ((x%7:Nat):Int)):=bI _ (by
 show Op.intDiv .rem .i64 (x:Int) 7=_;unfold Op.intDiv;rw[if_neg aI];rfl)
section
variable{ei:Bool}{f:List NV}
end
theorem Hm:∀n:Fin 64,jd (bW ((n.val:Nat):Int))=[n.val]:=by decide+kernel
theorem wN(l:Int)(E:0<=l/\l<=6)(A:ae)(cA:Nat)(f:List NV)(w:aB)(F:FA w A f)(C:f.length<=maxLen):
  Qqa 7 [aS l,.slice A f.length cA] w (λv w'=>∃p e D b' os,v=.tuple #[p,aS e]/\uk w w' D b' p os/\(e=0->D=l/\b'=gU (eP f)/\Lw l f (iu os))/\(e≠0->os=[])):=
 (th l E A cA f w F C).mono (λv w' _ ⟨p,e,h1,h2,M,_⟩=>by
  by_cases e0:e=0;obtain⟨os,K,J⟩:=h2 e0;exact⟨p,e,l,_,os,h1,K,λ_=>⟨rfl,rfl,J⟩,λh=>absurd e0 h⟩;rw[M e0]at h1;exact⟨_,e,0,[],[],h1,uk.none,λh=>absurd h e0,λ_=>rfl⟩)
theorem MD{l:Int}{b:List NV}{L:List SD}(p:iT l b L)(h:wX l b L≠0):wX l b L=8:=by
 have h1:py l b L=0:=j5.2 p;unfold wX at h⊢;rw[if_neg (by simpa using h1)]at h⊢;split;rfl;rename_i h2;rw[if_neg h2]at h;exact absurd rfl h
theorem F0{P:av}{t:ax}{k:Nat}{l:Int}(h:l=((k%7:Nat):Int)):nE P .rem t (aS (k:Int)) (aS 7) (aS l):=by rw[h];exact Lj
theorem J1{f:List NV}{l:Int}(w:0<=l/\l<=6){L:List SD}(h:Lw l f L):jd (fN L ((L.length - 1:Nat):Int))=[km (eP f)]/\km (eP f)<(gU (eP f)).length/\ic (gU (eP f)) (fN L ((L.length - 1:Nat):Int))=eY (eA (gU (eP f)) (km (eP f))):=by
 obtain⟨h1,h2⟩:=h.ok w;have p:=(xO (eO.1 h.1.1.1).top).1;have C:=h1.base.len;have hp:jd (fN L ((L.length - 1:Nat):Int))=[km (eP f)]:=by rw[h2];exact Hm ⟨km (eP f),aH⟩
 exact⟨hp,p,by unfold ic;rw[hp];rfl⟩
theorem ve(m:Int)(hm:0<=m/\m<256)(a:ae)(ca:Nat)(f:List NV)(w:aB)(hT:LJ w)(ha:FA w a f)(hfl:f.length<=maxLen):
    Qqa 3 [.int .u8 m,.slice a f.length ca] w (λv _=>v=.bool true):=by
  obtain⟨k,rfl⟩:∃k:Nat,m=(k:Int):=⟨m.toNat,aH⟩;have E:(0:Int)<=((k%7:Nat):Int)/\((k%7:Nat):Int)<=6:=aH;obtain⟨l,Y⟩:∃l:Int,l=((k%7:Nat):Int):=⟨_,rfl⟩;rw[<-Y]at E;refine gI func3 ?_;refine gW ?_;refine q9 call6 (λw _ h=>(by exact qD w (hT.ex h.ext))) ?_;refine gW ?_;refine oM NS ?_;refine gW ?_;refine gC (λhc=>?_) λhc=>?_;refine gW ?_;refine q9 call6 (λw _ h=>(by exact qD w (hT.ex h.ext))) ?_;refine gW ?_;refine gT func3 λw' h=>?_;exact⟨h.ext,rfl⟩;refine gW ?_;refine eB.v (eD.conv rfl rfl rfl (NK (a:=(k:Int)) (k:=.i64) underlying5 underlying3 (IntWalk.i64_in _ aH)) rfl) ?_;refine mC rfl rfl rfl rfl (F0 Y) ?_;refine gW ?_;refine sY call7 (λw _ h=>(by exact wN l E a ca f w (ha.eQ h.ext) hfl)) ?_;rintro v w1 w2 Y' h he ⟨v1,e,J,b',os,rfl,⟨qa,qo,cA,co,spa,spo,H,rfl,O,N,X,p⟩,hok,hno⟩;refine⟨_,h.jk (pre:=[_,_]) he X,?_⟩;refine gW ?_;refine eB.fZ (λ_=>RO _) (λb6=>?_);refine eB.fA Ry 0 ?_;refine gW ?_;refine oM Du ?_;refine gW ?_;refine B1 (λe0:e≠0=>?_) λe0:e=0=>?_;obtain rfl:=hno e0;refine gW ?_;refine oM Ct ?_;refine gW ?_;refine gT func3 λw' h=>?_;exact⟨h.ext,rfl⟩;obtain⟨rfl,rfl,hRP⟩:=hok e0;obtain⟨hp,hrl,W⟩:=J1 E hRP;obtain⟨hR,_⟩:=hRP.ok E;have M:py J (gU (eP f)) (iu os)=0:=j5.2 hR;have Q:(gU (eP f)).length<=maxLen:=by have:=hR.base.len;unfold maxLen;omega
  have K:os.length<=maxLen:=by have:=hR.len;rw[fD]at this;unfold maxLen;omega
  rw[fD]at hp W;have hto:(eA (gU (eP f)) (km (eP f))).ok:=hR.base.ok hrl;refine gW ?_;refine q9 call8 (λw _ h=>(by exact ow J (qa.map aP) cA (gU (eP f)) (qo.map aP) co os w (fe h 1 rfl O) (qK h 2 rfl N (λx hx=>⟨(p x hx).1.mono (λz hz=>by simp[hz]),(p x hx).2⟩)) Q K)) ?_;refine mC rfl rfl rfl rfl (uB (v:=false) (by rw[M];rfl)) ?_;refine gW ?_;refine mC rfl rfl rfl rfl (uB (v:=false) aL) ?_;refine gW ?_;refine wM ?_;refine gW ?_;refine sY call9 (λw _ h=>(by exact rB J (qa.map aP) cA (gU (eP f)) (qo.map aP) co os w (fe h 1 rfl O) (qK h 2 rfl N (λx hx=>⟨(p x hx).1.mono (λz hz=>by simp[hz]),(p x hx).2⟩)) Q K)) ?_;rintro v w1 w2 Y' h he ⟨sv,C,rfl,⟨q1,c1,s1,H1,rfl,hq1,hc1,hn1,F⟩,hx1,hx1'⟩;refine⟨_,h.jk (pre:=[_]) he hn1,?_⟩;refine gW ?_;refine oM Du ?_;refine gW ?_;refine B1 (λh2:wX J (gU (eP f)) (iu os)≠0=>?_) λh2:wX J (gU (eP f)) (iu os)=0=>?_;refine gW ?_;refine oM Ct ?_;refine gW ?_;refine gT func3 λw' h=>?_;exact⟨h.ext,by rw[MD hR h2];rfl⟩;have hd:=hx1 h2;obtain⟨hck,D,hcf,T⟩:=za h2 hd;rw[fD,W]at T;have hx4:=(kH.1 hck).2.2.1;refine gW ?_;refine sY call10 (λw _ h=>(by exact vq J (qa.map aP) cA (gU (eP f)) (qo.map aP) co os w (fe h 2 rfl O) (qK h 3 rfl N (λx hx=>⟨(p x hx).1.mono (λz hz=>by simp[hz]),(p x hx).2⟩)) Q K)) ?_;rintro v w1 w2 Y' h he ⟨v1,rfl,hgs⟩;obtain⟨gs,⟨q2,c2,s2,H2,rfl,hq2,hc2,hn2,hi2⟩,P⟩:=hgs M;rw[M];rw[hp]at P;have hgl:gs.length=1:=by have:=eh List.length P;simpa using this
  obtain⟨g,rfl⟩:∃g,gs=[g]:=List.length_eq_one_iff.1 hgl;have hgf:g.f=bT (eA (gU (eP f)) (km (eP f))):=(List.cons.inj P).1;obtain⟨bg,rfl⟩:∃b,q2=some b:=by
    cases q2 with
    |none=>have:=(hq2 rfl).1;omega
    |some b=>exact⟨b,rfl⟩
  obtain⟨S,rfl⟩:∃b,q1=some b:=by
    cases q1 with
    |none=>have:=(hq1 rfl).1;omega
    |some b=>exact⟨b,rfl⟩
  refine⟨_,h.jk (pre:=[_]) he hn2,?_⟩;refine gW ?_;refine fE 34 mixed ?_;refine cW ?_;refine cV 1 (eD.bin rfl rfl rfl rfl (wi (v:=true) rfl) rfl) ?_;refine cW ?_;refine cV 5 (eD.bin rfl rfl rfl rfl (wi (v:=true) rfl) rfl) ?_;refine cW ?_;refine cV 10 (eD.bin rfl rfl rfl rfl (IK (v:=true) aN) rfl) ?_;refine cW ?_;refine fh.iJ (i:=15) call11 (λw _ h=>(by exact vP J (aR S) c1 C w (EO h 1 rfl aK (λx hx=>⟨(F x hx).1.mono (λz hz=>by simp[hz]),(F x hx).2⟩)) (hT.ex h.ext))) sL ?_;refine cV 16 (eD.bin rfl rfl rfl rfl (wi (v:=true) (by rw[hck];rfl)) rfl) ?_;refine cW ?_;refine cV 22 (eD.bin rfl rfl rfl rfl (kv (c:=((C.length - 1:Nat):Int)) aH aH) rfl) ?_;refine cV 23 (eD.ga RP RN ((C.length - 1)) ⟨rfl,D⟩) ?_;refine cV 24 (eD.kq (a:=some ⟨S,0,none⟩) (o:=((C.length - 1))*5) RQ Rb (((C.length - 1))*5+0)) ?_;refine cV 25 (eD.iB Rj (λw _ h=>Sl.pq (enc:=LV.cells) (sz:=5) (a:=some ⟨S,0,none⟩) (Sl.ie (h.get (j:=1) rfl)) (λ_=>rfl) D rfl)) ?_;refine cW ?_;refine cV 27 (eD.ga Rh Rb (0) ⟨rfl,(dy 0)⟩) ?_;refine cV 28 (eD.nZ FV.v FV.z Rj 0 (dy 0)) ?_;refine fh.ku (i:=29) _ Rr (λw _ h=>(by exact mH g (eA (gU (eP f)) (km (eP f))) w (((hi2 g aL).mono (λz hz=>by simp[hz])).at h) hgf hto)) ?_;rintro v w1 w2 Y' h he ho;obtain⟨q4,c4,s4,rfl,hq4,hc4,hS'⟩:=eW h he ho;refine⟨_,hS',sM,?_⟩
  refine fh.iJ (i:=30) call12 (λw _ h=>(by have:=kp C[C.length - 1].f.a C[C.length - 1].f.c C[C.length - 1].f.f (q4.map aP) c4 _ w (((F _ (dq D)).1.mono (λz hz=>by simp[hz])).at h) (fe h 0 rfl (λe=>(hq4 e).1)) (F _ (dq D)).2 l4;rw[T]at this;exact this)) sL ?_;refine cW ?_;refine kK ?_;refine gW ?_;refine gT func3 λw' h=>?_;exact⟨h.ext,rfl⟩
end Go.Proofs.YtpbhoidjmpjfpaaGreatDoor
