/- What calls return, each under its own conditions. -/
import Derived.Test.YtpbhoidjmpjfpaaGreatDoorXP42
import Derived.Test.YtpbhoidjmpjfpaaGreatDoorXP43
set_option maxRecDepth 100000
set_option maxHeartbeats 40000000
namespace Go.Proofs.YtpbhoidjmpjfpaaGreatDoor
open Go.RowKit Go.Proofs.Wit Tryz
abbrev xT:Tr:=gv (fN 0 pT) pT
theorem P6:xT.ok:=jG (gI aI yX) yX
theorem LW:gp (bT xT)=0/\fF (bT xT)=xT:=by decide+kernel
theorem Ux:fe my 3=jT (fF (bT xT)):=by
 rw[LW.2,GU (t:=xT) (by decide+kernel)];decide+kernel
theorem UB:jE (λop _ _=>op<=10) (fF (bT xT)):=by rw[LW.2];exact LS.2
theorem Uv:iQ (gN mW ((3 - 1:Nat):Int))=[3]:=by decide+kernel
theorem Qo:iG (fF (bT oZ))=my:=by rw[vE.2.2.1,D8]
theorem Qk{L:List SD}(h:MQ 2 (bT oZ) L):L=mW:=by
 obtain⟨_,n,low,σ,h1,_,h2,_⟩:=h;obtain⟨p,σ',C,w⟩:=UJ;unfold NQ at h1;rw[vE.2.2.1,C]at h1;cases h1;rw[h2,w,show mW.take ((2:Int).toNat+1)=mW from rfl,Ql]
theorem UF{e:Int}(h:EH (bT oZ)->∀n low σ,NQ 2 (bT oZ)=some ((n,low),σ)->(n<0->e=15)/\(0<=n->(v5 (σ.ss.take (n.toNat+1))).length<=4096->e=0)):e=0:=by
 obtain⟨p,σ',C,w⟩:=UJ;refine(h Ht 2 p σ' (by unfold NQ;rw[vE.2.2.1];exact C)).2 aI ?_;rw[w,show mW.take ((2:Int).toNat+1)=mW from rfl,Ql];decide
theorem UG{e:Int}(h:EH (bT oZ)->∀n low σ,NQ 0 (bT oZ)=some ((n,low),σ)->(n<0->e=15)/\(0<=n->(v5 (σ.ss.take (n.toNat+1))).length<=4096->e=0)):e=15:=by
 obtain⟨p,σ',w⟩:=VQ;exact(h Ht (-1) p σ' (by unfold NQ;rw[vE.2.2.1];exact w)).1 aI
theorem UI{L:List SD}(h:MQ 2 (bT oZ) L):kQ 2 my mW:=by
 have h1:=(h.ok aI).1;rwa[Qo,Qk h]at h1
theorem Uw(h:kQ 2 my mW):Fa 2 my mW=0/\Nd my mW=RB.map (λx=>x.v.d):=by
 have h1:Aj 2 my mW=0:=qK.2 h;refine⟨?_,?_⟩;rw[Fa,if_neg (by simp[h1]),FO,if_neg aL];rw[Nd,FO]
theorem UH(h:kQ 2 my mW){ls:List LV}(hd:ls.map LV.d=RB.map (λx=>x.v.d)):lG 2 ls=0:=by
 have h:=h.TK.2.1;rw[FO]at h;exact zn h aI aI hd
theorem tM(w:aB)(hT:SM w):Qqa 6 [] w (λv _=>v=.bool true):=by
 refine gz func6 ?_;refine gW ?_;refine uB call20 (λw _ h=>(by exact LR 0 w)) ?_;rintro v w1 w2 Y' h he ho;rw[R9]at ho;obtain⟨qp,cp,sp,rfl,T,hcp,D⟩:=fR h he ho;refine⟨_,D,?_⟩;refine gW ?_;refine rI Yq (λw _ h=>(by exact oT 0 aI ⟨(qp.map aP),cp,bT pT⟩ pT w (fZ h 0 rfl (λe=>(T e).1)) rfl yX)) λqk ck sk _ _ hqk hck D=>?_;refine gW ?_;refine rI Yt (λw _ h=>(by exact pv ⟨(qk.map aP),ck,bT (fN 0 pT)⟩ ⟨(qp.map aP),cp,bT pT⟩ (fN 0 pT) pT w (fZ h 0 rfl (λe=>(hqk e).1)) rfl (gI aI yX) (fZ h 1 rfl (λe=>(T e).1)) rfl yX)) λqf cf sf _ _ M hcf D=>?_;refine gW ?_;refine rI Ys (λw _ h=>(by exact pr ⟨(qf.map aP),cf,bT xT⟩ xT w (fZ h 0 rfl (λe=>(M e).1)) rfl P6)) λqg cg sg _ _ hqg hcg D=>?_;refine uB call7 (λw _ h=>(by exact we 2 aI (qg.map aP) cg (bT oZ) w (fZ h 0 rfl (λe=>(hqg e).1)) oB)) ?_;rintro v w1 w2 Y' h he ⟨v1,e,rfl,hok,_,hE⟩;obtain rfl:=UF hE;obtain⟨t1,K,hRP⟩:=hok rfl;rw[Qo]at K;have p:=Qk hRP;have O:=UI hRP;obtain⟨Q,P,cn1,co1,sn1,so1,H1,rfl,J,F,hn1,E⟩:=K;have S:t1.length=3:=by have:=eV List.length p;simpa[mW]using this
 have Y:t1.length<=maxLen:=by rw[S];decide
 have X:my.length<=maxLen:=aI;refine⟨_,h.mM (pre:=[_,_]) he hn1,?_⟩;refine gW ?_;refine ff.gO (λ_=>YV _) (λb3=>?_);refine ff.gl YN 0 ?_;refine gW ?_;refine uB call9 (λw _ h=>(by exact CR 2 (Q.map aP) cn1 my (P.map aP) co1 t1 w (fZ h 1 rfl J) (C5 h 2 rfl F (λx hx=>⟨(E x hx).1.mono (λz hz=>by simp[hz]),(E x hx).2⟩)) X Y)) ?_;rintro v w1 w2 Y' h he ⟨sv,lc,rfl,⟨qc,cc,sc,Hc,rfl,W,hcc,hnc,hic⟩,C,_⟩;have N:=Uw O;have C:=(C (by rw[p];exact N.1)).trans (show Nd my (kJ t1)=RB.map (λx=>x.v.d) by rw[p];exact N.2);have hlc:lc.length=9:=by have:=eV List.length C;simpa using this
 refine⟨_,h.mM (pre:=[_]) he hnc,?_⟩;rw[p,N.1];refine gW ?_;refine rI Ys (λw _ h=>(by exact pr ⟨(qf.map aP),cf,bT xT⟩ xT w (fZ h 5 rfl (λe=>(M e).1)) rfl P6)) λqh ch sh _ _ hqh hch D=>?_;refine uB call7 (λw _ h=>(by exact we 0 aI (qh.map aP) ch (bT oZ) w (fZ h 0 rfl (λe=>(hqh e).1)) oB)) ?_;rintro v w1 w2 Y' h he ⟨v2,e,rfl,_,hno,hE⟩;obtain rfl:=UG hE;rw[hno aI];refine⟨_,h.later he,?_⟩;refine gW ?_;refine ff.gO (λ_=>YV _) (λb7=>?_);refine ff.gl YN 0 ?_;refine gW ?_;refine kR rfl rfl rfl rfl (Gf (v:=true) rfl) ?_;refine gW ?_;refine kR rfl rfl rfl rfl (Gf (v:=true) rfl) ?_;refine gW ?_;refine kR rfl rfl rfl rfl (Gf (v:=true) rfl) ?_;refine gW ?_;refine nr call19 (λw _ h=>(by exact AO 2 (Q.map aP) cn1 my (P.map aP) co1 t1 (qf.map aP) cf (bT xT) 3 w (fZ h 4 rfl J) (C5 h 5 rfl F (λx hx=>⟨(E x hx).1.mono (λz hz=>by simp[hz]),(E x hx).2⟩)) (fZ h 7 rfl (λe=>(M e).1)) X Y oB (by rw[p];exact O) LW.1 UB (by rw[p,S];exact Uv) Ux)) ?_;refine kR rfl rfl rfl rfl (Gf (v:=true) rfl) ?_;refine gW ?_;refine kR rfl rfl rfl rfl (V9 (v:=true) (by rw[hlc];rfl)) ?_;refine gW ?_;refine nr call11 (λw _ h=>(by exact DR 2 (qc.map aP) cc lc w (K7 h 2 rfl (λe=>(W e).1) (λx hx=>⟨(hic x hx).1.mono (λz hz=>by simp[hz]),(hic x hx).2⟩)) (hT.ex h.ext))) ?_;refine kR rfl rfl rfl rfl (Gf (v:=true) (by rw[UH O C];rfl)) ?_;refine gW ?_
 refine nr call11 (λw _ h=>(by exact DR 0 (qc.map aP) cc lc w (K7 h 2 rfl (λe=>(W e).1) (λx hx=>⟨(hic x hx).1.mono (λz hz=>by simp[hz]),(hic x hx).2⟩)) (hT.ex h.ext))) ?_;refine kR rfl rfl rfl rfl (wR (v:=true) (by simpa using Sb C)) ?_;refine gW ?_;refine gT func6 λw' h=>?_;exact⟨h.ext,rfl⟩
theorem EA.none{w w':aB}:EA w w' 0 [] (.agg (iE 0 none 0 0 none 0 0)) []:=⟨.none,.none,0,0,[],[],[],rfl,λ_=>rfl,λ_=>rfl,EB,λ_ h=>by cases h⟩
section
variable{l:Int}{b:List NV}{L:List SD}
theorem Ks(h:Fa l b L=0):kQ l b L/\(kS fg b L).2.bad=false:=by
 unfold Fa at h;by_cases h1:Aj l b L=0;rw[if_neg (by simpa using h1)]at h;refine⟨qK.1 h1,?_⟩;by_cases h2:(kS fg b L).2.bad=true;rw[if_pos h2]at h;cases h;simpa using h2;rw[if_pos h1]at h;exact absurd h h1
theorem Ko(h:Fa l b L=0){ls:List LV}(hd:ls.map LV.d=Nd b L):lG l ls=0/\∃p:ls.length - 1<ls.length,gp ls[ls.length - 1].f.f=0/\tX ls[ls.length - 1].f.f (bT (iV b (gN L ((L.length - 1:Nat):Int))))=true:=by
 obtain⟨F,w⟩:=Ks h;obtain⟨_,O,N,J⟩:=F.TK;have h1:=J w;obtain⟨h2,P⟩:=N w;have M:ls.length=(kS fg b L).2.ls.length:=by
  have:=eV List.length hd;simpa[Nd]using this
 have E:=zn O F.log aH hd;have p:ls.length - 1<ls.length:=aH;have hcf:=(lV.1 (wA E _ p)).1;have e1:ls[ls.length - 1].f.f=bT (iV b (gN L ((L.length - 1:Nat):Int))):=by
  have:=UQ hd p aH;rw[this,<-P];unfold l8;have Q:ls.length - 1=(kS fg b L).1:=aH;simp only[Q];simp[h2]
 have D:(iV b (gN L ((L.length - 1:Nat):Int))).ok:=by
  have hp:=F.pos;refine(vi F.base (λn K=>?_)).1;rw[jx aH]at K;exact(F.rf (L.length - 1) aH).1 n K
 refine⟨E,p,hcf,?_⟩;have C:=(fA.1 hcf).pos;rw[e1]at C⊢;rw[lj (nH D (λe=>by rw[e]at C;cases C)) D,eF rfl]
end
theorem Sr{P:av}{t:ax}{x:Nat}:oO P .rem t (aS x) (aS 7) (aS ((x%7:Nat):Int)):=bI _ (by
 show Op.intDiv .rem .i64 (x:Int) 7=_;unfold Op.intDiv;rw[if_neg aI];rfl)
section
variable{ei:Bool}{f:List NV}
end
theorem N7:∀n:Fin 64,iQ (bW ((n.val:Nat):Int))=[n.val]:=by decide+kernel
theorem Ig(l:Int)(E:0<=l/\l<=6)(A:ae)(cA:Nat)(f:List NV)(w:aB)(F:FA w A f)(C:f.length<=maxLen):
  Qqa 7 [aS l,.slice A f.length cA] w (λv w'=>∃p e D b' os,v=.tuple #[p,aS e]/\EA w w' D b' p os/\(e=0->D=l/\b'=iG (fF f)/\MQ l f (kJ os))/\(e≠0->os=[])):=
 (we l E A cA f w F C).mono (λv w' _ ⟨p,e,h1,h2,M,_⟩=>by
  by_cases e0:e=0;obtain⟨os,K,J⟩:=h2 e0;exact⟨p,e,l,_,os,h1,K,λ_=>⟨rfl,rfl,J⟩,λh=>absurd e0 h⟩;rw[M e0]at h1;exact⟨_,e,0,[],[],h1,EA.none,λh=>absurd h e0,λ_=>rfl⟩)
theorem TN{l:Int}{b:List NV}{L:List SD}(p:kQ l b L)(h:Fa l b L≠0):Fa l b L=8:=by
 have h1:Aj l b L=0:=qK.2 p;unfold Fa at h⊢;rw[if_neg (by simpa using h1)]at h⊢;split;rfl;rename_i h2;rw[if_neg h2]at h;exact absurd rfl h
theorem Ss{P:av}{t:ax}{k:Nat}{l:Int}(h:l=((k%7:Nat):Int)):oO P .rem t (aS (k:Int)) (aS 7) (aS l):=by rw[h];exact Sr
theorem Q8{f:List NV}{l:Int}(w:0<=l/\l<=6){L:List SD}(h:MQ l f L):iQ (gN L ((L.length - 1:Nat):Int))=[lk (fF f)]/\lk (fF f)<(iG (fF f)).length/\iV (iG (fF f)) (gN L ((L.length - 1:Nat):Int))=fU (fe (iG (fF f)) (lk (fF f))):=by
 obtain⟨h1,h2⟩:=h.ok w;have p:=(BI (fA.1 h.1.1.1).top).1;have C:=h1.base.len;have hp:iQ (gN L ((L.length - 1:Nat):Int))=[lk (fF f)]:=by rw[h2];exact N7 ⟨lk (fF f),aH⟩
 exact⟨hp,p,by unfold iV;rw[hp];rfl⟩
end Go.Proofs.YtpbhoidjmpjfpaaGreatDoor
