/- Laws of walks, each under its own conditions. -/
import Derived.Test.YtaamcaiglooemaaGreatDoorXP29
set_option maxRecDepth 100000
set_option maxHeartbeats 40000000
namespace Go.Proofs.Wit
open Go Go.RowKit
section
variable{l:Int}{b:List NV}{ss:List SD}{σ:Sg}
theorem Pr{l:Int}(h:vt l):iU l 4=true:=by unfold vt at h;unfold iU;rw[if_neg aI,if_pos rfl];exact eg aH
theorem Pz{l:Int}(h:zg l):iU l 5=true:=by unfold zg at h;unfold iU;rw[if_neg aI,if_neg aI,if_pos rfl];exact eg aH
theorem uj(hb:fY b){s:fC}{a:Int}{n:Nat}(hn:(pL l b s a).getLsbD n=true)(he:jo b s a n=n):∃z,lD z/\((eP b n=fe a z/\iU l 4=true)\/(eP b n=l8 a z/\iU l 5=true)):=by
 obtain⟨i,h1,h2,h3,h4⟩:=(oZ hb).1 hn;have hno:¬((nd b i).op=9/\(nd b i).x=n):=λ⟨g1,g2⟩=>by
  rcases jX (b:=b) (s:=s) (ag:=a) (n:=n)with⟨j,k1,k2,k3,k4,k5,k6,_⟩|⟨k1,k2⟩;have hj:j=n:=aH;subst hj;have:=hb.x k2 aH;omega;exact k2 i h1 h2 g1 h3 g2
 rcases h4 with h4|⟨h4,h5⟩;exact absurd h4 hno;subst h4;have hok:=hb.ok h1;rcases hb.node h1 with⟨g1,g2⟩|⟨g1,g2⟩|⟨g1,g2⟩;omega;have hx:=hb.x h1 aH;rw[g2]at hok;obtain⟨_,e1,e2⟩:=qW hok aH;refine⟨eP b (nd b n).x.toNat,hb.fr aH,?_⟩;rw[g2,e1,e2,h3];rcases h5 with⟨h5,h6⟩|⟨h5,h6⟩;exact .inl ⟨by rw[h5],Pr h6⟩;exact .inr ⟨by rw[h5],Pz h6⟩;omega
theorem EW(hb:fY b){s u:fC}{a:Int}{v:Tr->Bool}{n:Nat}(_hi:0<=a/\a<4)(hall:∀n,u.getLsbD n=true->iG v (eP b n)=true)(hu:u.getLsbD (jo b s a n)=true)(hc:jo b s a n=n->iG v (eP b n)=true->iG v (fe a (eP b n))=true):iG v (fe a (eP b n))=true:=by
 rcases jX (b:=b) (s:=s) (ag:=a) (n:=n)with⟨i,h1,h2,h3,h4,h5,h6,_⟩|⟨h1,_⟩;rw[h1]at hu;have:=hall i hu;have hok:=hb.ok h2;rcases hb.node h2 with⟨g1,g2⟩|⟨g1,g2⟩|⟨g1,g2⟩;omega;rw[g2]at hok this;obtain⟨_,e1,e2⟩:=qW hok aH;rw[e1,e2,h4,h5,h6]at this;exact this;omega;rw[h1]at hu;exact hc h1 (hall n hu)
def rP(b:List NV)(tl:List SD)(σ:Sg)(last:aq)(q:Nat):Prop:=∀j,j<q->jm σ (last.getD j 0) (iv b (jk tl (j:Int)))
theorem zj{n:Nat}:∀{xs:aq},n∈xs->n∈xs.dropLast\/n=xs.getLastD 0:=λ{xs} h=>by
 have hne:xs≠[]:=λe=>by rw[e]at h;cases h
 have e:xs.dropLast++[xs.getLast hne]=xs:=List.dropLast_concat_getLast hne;rw[<-e]at h;rcases dP.1 h with h|h;exact .inl h;refine .inr ?_;rw[de.1 h,List.getLastD_eq_getLast?,List.getLast?_eq_some_getLast hne];rfl
theorem oF{xs:aq}(h:xs≠[]):xs.getLastD 0∈xs:=by
 rw[List.getLastD_eq_getLast?,List.getLast?_eq_some_getLast h];exact List.getLast_mem h
theorem mr.Ii(h:mr l b ss){k:Nat}(hk:k<ss.length)(hn:jz ss k=true){last:aq}(hl:rP b (iE b ss) σ last (gL (jz ss) k))(hg:Good l σ):
  zw l (λT=>gm T b (iE b ss) ss[k].set (mI b ss k ss[k]) last) σ:=by
 have hb:=h.base;have hus:=h.sub k hk;have hin:lJ b (sw b ss k):=λn hn=>(h.ou k hk).1 n (hus n hn);have hgl:lD (iv b (sw b ss k)):=qP hb hin;have hsub:∀(j:Nat),(j:Int)∈ss[k].fr->∀m,Us b ss j m->(jk ss j).getLsbD m=true:=λj hj m hm=>by
  have:=(h.pre hk hn hj).2.1;rw[jy aH];exact h.sub j aH m hm
 have hinj:∀(j:Nat),(j:Int)∈ss[k].fr->∀m,Us b ss j m->m<b.length:=λj hj m hm=>by
  have:=(h.pre hk hn hj).2.1;exact(h.ou j aH).1 m (h.sub j aH m hm)
 have hset:∀(j:Nat),(j:Int)∈ss[k].fr->jk (iE b ss) (gL (jz ss) j:Nat)=sw b ss j:=λj hj=>
  vG (by have:=(h.pre hk hn hj).2.1;omega) (h.pre hk hn hj).1;have hline:∀(j:Nat),(j:Int)∈ss[k].fr->jm σ (last.getD (gL (jz ss) j) 0) (iv b (sw b ss j)):=λj hj=>by
  rw[<-hset j hj];exact hl _ (h.pre hk hn hj).2.2
 have hru:(mI b ss k ss[k]).eW=ss[k].eW:=rfl;have hon:(mI b ss k ss[k]).on=ss[k].on:=rfl;have hse:(mI b ss k ss[k]).set=sw b ss k:=rfl;have hfr:(mI b ss k ss[k]).fr=ss[k].fr.map (λj=>((gL (jz ss) j.toNat:Nat):Int)):=rfl;have ev2:∀{v:Tr->Bool} {o:Nat},o<b.length->(nd b o).op=2->iG v (eP b o)=false:=λ{v o} ho h2=>by
  rcases hb.node ho with⟨g1,g2⟩|⟨g1,g2⟩|⟨g1,g2⟩;rw[g2,h2];rfl;omega;omega
 have ev5:∀{v:Tr->Bool} {o:Nat},o<b.length->(nd b o).op=5->iG v (eP b o)=(iG v (eP b (nd b o).x.toNat) && iG v (eP b (nd b o).y.toNat)):=λ{v o} ho h2=>by
  rcases hb.node ho with⟨g1,g2⟩|⟨g1,g2⟩|⟨g1,g2⟩;omega;omega;rw[g2,h2];rfl
 have ev6:∀{v:Tr->Bool} {o:Nat},o<b.length->(nd b o).op=6->iG v (eP b o)=(iG v (eP b (nd b o).x.toNat)||iG v (eP b (nd b o).y.toNat)):=λ{v o} ho h2=>by
  rcases hb.node ho with⟨g1,g2⟩|⟨g1,g2⟩|⟨g1,g2⟩;omega;omega;rw[g2,h2];rfl
 have evk:∀{o:Nat} {op:Int},op=9\/op=10->o<b.length->(nd b o).op=op->(0<=(nd b o).i/\(nd b o).i<4)/\eP b o=.un op (nd b o).i 0 0 (eP b (nd b o).x.toNat):=λ{o op} h9 ho h2=>by
  have hok:=hb.ok ho;rcases hb.node ho with⟨g1,g2⟩|⟨g1,g2⟩|⟨g1,g2⟩;omega;rw[g2,h2]at hok;obtain⟨e0,e1,e2⟩:=qW hok h9;exact⟨e0,by rw[g2,h2,e1,e2]⟩;omega
 unfold gm;simp only[hru,hon,hse];cases h.Nc hk with
 |Jp o h1 h2 h3 h4 h5 h6 h7=>
  simp only[if_pos h1,h3,if_pos h6];exact ku hg hgl (λ_ n hn=>by cases hn) (λ_ _ v _=>lI.2 (λhall=>by
   have:=hall o ((h7 o).2 rfl);rw[ev2 h4 h6]at this;cases this))
 |neg o e h1 h2 h3 h4 h5 h6 h7 h8 h9 h10 h11 h12=>
  simp only[if_pos h1,h3,if_neg h6];have htA:tA b (o:Int)=eP b o:=rfl;have c1:=r0 (ei:=false) (hb.nf o h4) (hb.ok h4) hg;have c2:jm _ _ (pK false (eP b o)):=jA (T:=eR) (ei:=false) (t:=eP b o) (σ:=σ);have c3:=ku (g:=iv b (sw b ss k)) (from_:=[(fF eR false (eP b o) σ).1]) c1.jZ hgl (λhbd n hn=>by rw[de.1 hn];exact(c2 hbd).1) (λhbd _ v hv=>lI.2 (λhall=>by
   have q:=hv _ (de.2 rfl);rw[(c2 hbd).2,vi,if_neg aI,hall o ((h12 o).2 (.inl rfl)),<-h11,hall e ((h12 e).2 (.inr rfl))]at q;cases q));have s1:=c1.same;exact⟨by rw[htA,<-s1];exact c3.same,by rw[htA];exact c3.jZ⟩
 |and o j h1 h2 h3 h4 h5 h6 h7 h8 h9 h10=>
  have hm:(j:Int)∈ss[k].fr:=by rw[h3];simp
  have e0:(mI b ss k ss[k]).fr.getD 0 0=((gL (jz ss) j:Nat):Int):=by rw[hfr,h3];rfl
  have hx:=hb.x h6 aH;have hy:=hb.y h6 aH;simp only[h1,show ¬(2:Int)=1 by decide,eL,eN,e0,di];exact ku hg hgl (λhbd n hn=>by rw[de.1 hn];exact(hline j hm hbd).1) (λhbd _ v hv=>lI.2 (λhall=>by
   have q:=hv _ (de.2 rfl);rw[(hline j hm hbd).2,lI]at q;have ho:=hall o ((h10 o).2 (.inr rfl));rw[ev5 h6 h8,dx]at ho;refine q (λn hn=>?_);by_cases c1:(n:Int)=(nd b o).x;rw[<-c1]at ho;exact ho.1;by_cases c2:(n:Int)=(nd b o).y;rw[<-c2]at ho;exact ho.2;exact hall n ((h10 n).2 (.inl ⟨hn,c1,c2⟩))))
 |or o j i h1 h2 h3 h4 h5 h6 h7 h8 h9 h10 h11 h12=>
  have hm:(j:Int)∈ss[k].fr:=by rw[h3];simp
  have hm2:(i:Int)∈ss[k].fr:=by rw[h3];simp
  have e0:(mI b ss k ss[k]).fr.getD 0 0=((gL (jz ss) j:Nat):Int):=by rw[hfr,h3];rfl
  have e1:(mI b ss k ss[k]).fr.getD 1 0=((gL (jz ss) i:Nat):Int):=by rw[hfr,h3];rfl
  simp only[h1,show ¬(3:Int)=1 by decide,show ¬(3:Int)=2 by decide,eL,eN,e0,e1,di];exact ku hg hgl (λhbd n hn=>by
   simp only[ew,dE,eM]at hn;rcases hn with rfl|rfl;exact(hline j hm hbd).1;exact(hline i hm2 hbd).1) (λhbd _ v hv=>lI.2 (λhall=>by
   have q1:=hv _ aF;have q2:=hv _ (cF _ aF);rw[(hline j hm hbd).2,lI]at q1;rw[(hline i hm2 hbd).2,lI]at q2;have ho:=hall o ((h12 o).2 (.inr (.inr rfl)));rw[ev6 h7 h9,dK]at ho;rcases ho with ho|ho;refine q1 (λn hn=>?_);by_cases c1:(n:Int)=(nd b o).x;rw[<-c1]at ho;exact ho;exact hall n ((h12 n).2 (.inl ⟨hn,c1⟩));refine q2 (λn hn=>?_);by_cases c1:(n:Int)=(nd b o).y;rw[<-c1]at ho;exact ho;exact hall n ((h12 n).2 (.inr (.inl ⟨hn,c1⟩)))))
 |cut o e j i h1 h2 h3 h4 h5 h6 h7 h8 h9 h10 h11 h12 h13=>
  have hm:(j:Int)∈ss[k].fr:=by rw[h2];simp
  have hm2:(i:Int)∈ss[k].fr:=by rw[h2];simp
  have e0:(mI b ss k ss[k]).fr.getD 0 0=((gL (jz ss) j:Nat):Int):=by rw[hfr,h2];rfl
  have e1:(mI b ss k ss[k]).fr.getD 1 0=((gL (jz ss) i:Nat):Int):=by rw[hfr,h2];rfl
  simp only[h1,h5,show ¬(4:Int)=1 by decide,show ¬(4:Int)=2 by decide,show ¬(4:Int)=3 by decide,eL,eN,e0,e1,di];have htA:tA b (o:Int)=eP b o:=rfl;have c1:=r0 (ei:=true) (hb.nf o h6) (hb.ok h6) hg;have c2:jm _ _ (pK true (eP b o)):=jA (T:=eR) (ei:=true) (t:=eP b o) (σ:=σ);have lle:σ.Le (fF eR true (eP b o) σ).2:=mx;have c3:=ku (g:=iv b (sw b ss k)) (from_:=[(fF eR true (eP b o) σ).1,last.getD (gL (jz ss) j) 0,last.getD (gL (jz ss) i) 0]) c1.jZ hgl (λhbd n hn=>by
   simp only[ew,dE,eM]at hn;rcases hn with rfl|rfl|rfl;exact(c2 hbd).1;exact((hline j hm).le lle hbd).1;exact((hline i hm2).le lle hbd).1) (λhbd _ v hv=>lI.2 (λhall=>by
   have q0:=hv _ aF;have q1:=hv _ (cF _ aF);have q2:=hv _ (cF _ (cF _ aF));rw[(c2 hbd).2,vi,if_pos rfl,<-h10,dK]at q0;rw[((hline j hm).le lle hbd).2,lI]at q1;rw[((hline i hm2).le lle hbd).2,lI]at q2;rcases q0 with q0|q0;refine q1 (λn hn=>?_);by_cases c1:n=o;rw[c1];exact q0;exact hall n ((h13 n).2 (.inl ⟨hn,c1⟩));refine q2 (λn hn=>?_);by_cases c1:n=e;rw[c1];exact q0;exact hall n ((h13 n).2 (.inr ⟨hn,c1⟩))));have s1:=c1.same;exact⟨by rw[htA,<-s1];exact c3.same,by rw[htA];exact c3.jZ⟩
 |t o j h1 h2 h3 h4 h5 h6 h7 h8 h9 h10 h11=>
  have hm:(j:Int)∈ss[k].fr:=by rw[h4];simp
  have e0:(mI b ss k ss[k]).fr.getD 0 0=((gL (jz ss) j:Nat):Int):=by rw[hfr,h4];rfl
  simp only[h1,h6,show ¬(5:Int)=1 by decide,show ¬(5:Int)=2 by decide,show ¬(5:Int)=3 by decide,show ¬(5:Int)=4 by decide,eL,eN,e0,di];have hx:=hb.x h7 aH;obtain⟨hi,ht⟩:=evk (.inl rfl) h7 h9;have htA:tA b (o:Int)=eP b o:=rfl;have htX:tA b (nd b o).x=eP b (nd b o).x.toNat:=rfl;have fx:lD (eP b (nd b o).x.toNat):=hb.fr aH;have c1:zw l (λT=>gq T (fO (tA b (o:Int)) (tA b (nd b o).x)) 3 0 0 0) σ:=m8 hg (λ_ _=>⟨by rw[htA,htX];exact(hb.fr h7).im fx,by unfold iU;rw[if_pos rfl];exact eg h3,.inr (.inl ⟨aI,aI,rfl,rfl,rfl,⟨(nd b o).i,eP b (nd b o).x.toNat,by rw[htA,htX,ht]⟩⟩)⟩);have c2:jm _ _ (fO (tA b (o:Int)) (tA b (nd b o).x)):=ib (T:=eR) (t:=fO (tA b (o:Int)) (tA b (nd b o).x)) (r:=3) (a:=0) (b:=0) (gg:=0) (σ:=σ);have lle:σ.Le (gq eR (fO (tA b (o:Int)) (tA b (nd b o).x)) 3 0 0 0 σ).2:=je;have c3:=ku (g:=iv b (sw b ss k)) (from_:=[(gq eR (fO (tA b (o:Int)) (tA b (nd b o).x)) 3 0 0 0 σ).1,last.getD (gL (jz ss) j) 0]) c1.jZ hgl (λhbd n hn=>by
   simp only[ew,dE,eM]at hn;rcases hn with rfl|rfl;exact(c2 hbd).1;exact((hline j hm).le lle hbd).1) (λhbd _ v hv=>lI.2 (λhall=>by
   have q0:=hv _ aF;have q1:=hv _ (cF _ aF);rw[(c2 hbd).2,vw,htA,hall o ((h11 o).2 (.inr rfl)),htX]at q0;rw[((hline j hm).le lle hbd).2,lI]at q1;refine q1 (λn hn=>?_);by_cases c1:(n:Int)=(nd b o).x;rw[<-c1]at q0;simpa using q0;exact hall n ((h11 n).2 (.inl ⟨hn,c1⟩))));have s1:=c1.same;exact⟨by rw[<-s1];exact c3.same,c3.jZ⟩
 |k o j h1 h2 h3 h4 h5 h6 h7 h8 h9 h10=>
  have hm:(j:Int)∈ss[k].fr:=by rw[h3];simp
  have e0:(mI b ss k ss[k]).fr.getD 0 0=((gL (jz ss) j:Nat):Int):=by rw[hfr,h3];rfl
  simp only[h1,h5,show ¬(6:Int)=1 by decide,show ¬(6:Int)=2 by decide,show ¬(6:Int)=3 by decide,show ¬(6:Int)=4 by decide,show ¬(6:Int)=5 by decide,eL,eN,e0,di];have hx:=hb.x h6 aH;have hlen:=hb.len;obtain⟨hi,ht⟩:=evk (.inr rfl) h6 h8;have hmem:∀n,n∈jK (jk (iE b ss) ((gL (jz ss) j:Nat):Int) &&& ~~~ bW (nd b o).x)↔Us b ss j n/\(n:Int)≠(nd b o).x:=λn=>by
   rw[gZ,lQ,hset j hm,rI aH]
  have hcr:∀n,Us b ss j n->(n:Int)≠(nd b o).x->(pL l b ss[k].set (nd b o).i).getLsbD n=true:=λn hn hne=>(h9 n (hsub j hm n hn)).resolve_right hne;refine CZ hb hi hgl (λn hn=>hinj j hm n ((hmem n).1 hn).1) aH aK hg (hline j hm) (λv hv=>?_) (λn hn he=>?_) (λv hv1 hv2 hv3=>?_);rw[lI]at hv;rw[BX];intro hall;rw[xz,dh];cases hX:iG v (eP b (nd b o).x.toNat)with
  |false=>rfl
  |true=>
   exact absurd (λn hn=>by
    by_cases c1:(n:Int)=(nd b o).x;rw[<-c1]at hX;exact hX;exact hall _ (cQ ((hmem n).2 ⟨hn,c1⟩))) hv
  have:=(hmem n).1 hn;exact uj hb (hcr n this.1 this.2) he;rw[if_pos rfl]at hv3;refine lI.2 (λhall=>?_);have ho:=hall o ((h10 o).2 (.inr rfl));rw[ht]at ho;refine hv3 ho (hv1 (λn hn=>?_));have hn':=(hmem n).1 hn;exact EW hb hi hall ((h10 _).2 (.inl ⟨n,hn'.1,hn'.2,rfl⟩)) (λe=>hv2 n hn e)
 |d j h1 h2 h3 h4 h5 h6 h7 h8=>
  have hm:(j:Int)∈ss[k].fr:=by rw[h4];simp
  have e0:(mI b ss k ss[k]).fr.getD 0 0=((gL (jz ss) j:Nat):Int):=by rw[hfr,h4];rfl
  simp only[h1,show ¬(7:Int)=1 by decide,show ¬(7:Int)=2 by decide,show ¬(7:Int)=3 by decide,show ¬(7:Int)=4 by decide,show ¬(7:Int)=5 by decide,show ¬(7:Int)=6 by decide,eL,e0,di];have hmem:∀n,n∈jK (jk (iE b ss) ((gL (jz ss) j:Nat):Int))↔Us b ss j n:=λn=>by rw[gZ,hset j hm]
  obtain⟨ps,hps⟩:∃ps,ps=jK (jk (iE b ss) ((gL (jz ss) j:Nat):Int)):=⟨_,rfl⟩;rw[<-hps]at hmem⊢;have hne:ps≠[]:=λe=>by
   obtain⟨n,hn,_⟩:=h.BW j (by have:=(h.pre hk hn hm).2.1;omega);have:=(hmem n).2 hn;rw[e]at this;cases this
  have hlm:=(hmem _).1 (oF hne);refine CZ hb h6 hgl (λn hn=>hinj j hm n ((hmem n).1 ((List.dropLast_sublist _).subset hn))) (hinj j hm _ hlm) (λ_=>by unfold iU;rw[if_neg aI,if_neg aI,if_neg aI,if_pos rfl];exact eg h3) hg (hline j hm) (λv hv=>?_) (λn hn he=>?_) (λv hv1 hv2 hv3=>?_);rw[lI]at hv;rw[BX];intro hall;rw[xz,dh];cases hX:iG v (eP b (ps.getLastD 0))with
  |false=>rfl
  |true=>
   exact absurd (λn hn=>by
    rcases zj ((hmem n).2 hn)with c1|c1;exact hall _ (cQ c1);rw[c1];exact hX) hv
  exact uj hb (h7 n (hsub j hm n ((hmem n).1 hn))) he;rw[if_neg aI]at hv3;refine lI.2 (λhall=>?_);have hkw:∀n∈ps,iG v (fe ss[k].on (eP b n))=true:=λn hn=>EW hb h6 hall ((h8 _).2 ⟨n,(hmem n).1 hn,rfl⟩) (λe=>hv2 n hn e);exact hv3 (hkw _ (oF hne)) (hv1 (λn hn=>hkw n ((List.dropLast_sublist _).subset hn)))
theorem ry:∀{k:Nat},k<=ss.length->(gJ ss k).length=gL (jz ss) k
 |0,_=>by simp[gJ,gL]
 |k+1,h=>by
  have h1:=ry (k:=k) aH;rw[gJ,bG (by omega:k<ss.length),nF];dsimp only;split<;>simp[h1]
theorem vZ{j:Nat}(hn:jz ss j=true):∀{k:Nat},k<=ss.length->j<k->∀hj:j<ss.length,(gJ ss k)[gL (jz ss) j]?=some ss[j].set
 |0,_,h,_=>aH
 |k+1,h,h2,hj=>by
  rw[gJ,bG (by omega:k<ss.length)];dsimp only;by_cases e:j=k;subst e;rw[if_pos hn,aY (by rw[ry aH];exact eG _),ry aH];simp;have h3:=vZ hn (k:=k) aH aH hj;split;rw[br (bA.1 h3).1];exact h3;exact h3
theorem kA{T:Tr->Prop}{tl:List SD}{fl:List fC}{q:Nat}(hq:q<tl.length):fP T b tl fl (q+1)=((fP T b tl fl q).1++[(gm T b tl (fl.getD q 0#64) tl[q] (fP T b tl fl q).1 (fP T b tl fl q).2).1],(gm T b tl (fl.getD q 0#64) tl[q] (fP T b tl fl q).1 (fP T b tl fl q).2).2):=by
 rw[fP,bG hq]
theorem oO{T:Tr->Prop}{tl:List SD}{fl:List fC}:∀{q:Nat},q<=tl.length->(fP T b tl fl q).1.length=q
 |0,_=>rfl
 |q+1,h=>by rw[kA aH,dc,oO aH];rfl
theorem z9{T:Tr->Prop}{tl:List SD}{fl:List fC}{q:Nat}(hq:q+1<=tl.length):vm (fP T b tl fl (q+1)).2 ((fP T b tl fl (q+1)).1.getD q 0):=by
 have hl:=oO (T:=T) (b:=b) (fl:=fl) (show q<=tl.length by omega);rw[kA aH];have:((fP T b tl fl q).1++[(gm T b tl (fl.getD q 0#64) tl[q] (fP T b tl fl q).1 (fP T b tl fl q).2).1]).getD q 0=(gm T b tl (fl.getD q 0#64) tl[q] (fP T b tl fl q).1 (fP T b tl fl q).2).1:=by
  simp[aX,hl]
 dsimp only;rw[this];exact Bg
theorem nE{T:Tr->Prop}{tl:List SD}{fl:List fC}:∀{q:Nat},q<=tl.length->rP b tl (fP T b tl fl q).2 (fP T b tl fl q).1 q
 |0,_=>λj hj=>aH
 |q+1,h=>λj hj=>by
  have hl:=oO (T:=T) (b:=b) (fl:=fl) (show q<=tl.length by omega);rw[kA aH];dsimp only;by_cases e:j=q;subst e;have:((fP T b tl fl j).1++[(gm T b tl (fl.getD j 0#64) tl[j] (fP T b tl fl j).1 (fP T b tl fl j).2).1]).getD j 0=(gm T b tl (fl.getD j 0#64) tl[j] (fP T b tl fl j).1 (fP T b tl fl j).2).1:=by
   simp[aX,hl]
  rw[this,jy aH];exact DK;have h1:jm (fP T b tl fl q).2 ((fP T b tl fl q).1.getD j 0) (iv b (jk tl (j:Int))):=nE (tl:=tl) (fl:=fl) (q:=q) aH j aH;have:((fP T b tl fl q).1++[(gm T b tl (fl.getD q 0#64) tl[q] (fP T b tl fl q).1 (fP T b tl fl q).2).1]).getD j 0=(fP T b tl fl q).1.getD j 0:=by
   simp only[aX];rw[br (show j<(fP T b tl fl q).1.length by omega)]
  rw[this];exact h1.le (zM (T:=T) (b:=b) (tl:=tl) (full:=fl.getD q 0#64) (x:=tl[q]) (last:=(fP T b tl fl q).1) (σ:=(fP T b tl fl q).2))
theorem AA:Good l ⟨[],false⟩:=⟨aI,λk hk=>absurd hk (dV k),λk hk=>absurd hk (dV k)⟩
theorem mr.Lh(h:mr l b ss)(q:Nat):q<=(iE b ss).length->fP eR b (iE b ss) (gJ ss ss.length) q=fP eZ b (iE b ss) (gJ ss ss.length) q/\Good l (fP eR b (iE b ss) (gJ ss ss.length) q).2:=by
 induction q with
 |zero=>intro _;exact⟨by simp only[fP],by simp only[fP];exact AA⟩
 |succ q ih=>
  intro hq;obtain⟨h1,h2⟩:=ih aH;have hql:q<(iE b ss).length:=aH;obtain⟨k,hk,k1,k2,k3⟩:=yG (b:=b) hql;have hf:(gJ ss ss.length).getD q 0#64=ss[k].set:=by
   rw[aX,<-k2,vZ k1 (eG _) hk hk];rfl
  have hl:=nE (T:=eR) (b:=b) (tl:=iE b ss) (fl:=gJ ss ss.length) (q:=q) aH;obtain⟨p,hp⟩:∃p,p=fP eR b (iE b ss) (gJ ss ss.length) q:=⟨_,rfl⟩;rw[<-hp]at h1 h2 hl;have h3:=h.Ii hk k1 (last:=p.1) (by rw[k2];exact hl) h2;have s3:=h3.same;rw[kA hql,kA hql,hf,k3,<-h1,<-hp,<-s3];exact⟨rfl,h3.jZ⟩
theorem mr.Pb(h:mr l b ss):kY eR b ss=kY eZ b ss/\Good l (kY eR b ss).2/\jm (kY eR b ss).2 (kY eR b ss).1 (iv b (jk ss ((ss.length - 1:Nat):Int)))/\vm (kY eR b ss).2 (kY eR b ss).1:=by
 obtain⟨h1,h2⟩:=h.Lh _ (eG _);obtain⟨c1,c2,c3,c4⟩:=h.Ck;have hl:=nE (T:=eR) (b:=b) (tl:=iE b ss) (fl:=gJ ss ss.length) (eG _) ((iE b ss).length - 1) c1;have hll:vm (fP eR b (iE b ss) (gJ ss ss.length) (iE b ss).length).2 ((fP eR b (iE b ss) (gJ ss ss.length) (iE b ss).length).1.getD ((iE b ss).length - 1) 0):=by
  have:=z9 (T:=eR) (b:=b) (tl:=iE b ss) (fl:=gJ ss ss.length) (q:=(iE b ss).length - 1) aH;rwa[show(iE b ss).length - 1+1=(iE b ss).length by omega]at this
 have hsub:∀n,(jk (iE b ss) (((iE b ss).length - 1:Nat):Int)).getLsbD n=true->(jk ss ((ss.length - 1:Nat):Int)).getLsbD n=true:=λn hn=>by
  rw[jy c1,c3]at hn;rw[jy c2];exact h.sub _ c2 n hn
 unfold kY;dsimp only;by_cases e:jk (iE b ss) (((iE b ss).length - 1:Nat):Int)=jk ss ((ss.length - 1:Nat):Int);simp only[if_pos e];refine⟨by rw[h1],h2,?_,hll⟩;rw[<-e];exact hl;simp only[if_neg e];have hin:lJ b (jk ss ((ss.length - 1:Nat):Int)):=by
  rw[jy c2];exact(h.ou _ c2).1
 have h3:=ku (g:=iv b (jk ss ((ss.length - 1:Nat):Int))) (from_:=[(fP eR b (iE b ss) (gJ ss ss.length) (iE b ss).length).1.getD ((iE b ss).length - 1) 0]) h2 (qP h.base hin) (λhb n hn=>by rw[de.1 hn];exact(hl hb).1) (λhb _ v hv=>by
  have q:=hv _ (de.2 rfl);rw[(hl hb).2,lI]at q;rw[lI];exact λhall=>q (λn hn=>hall n (hsub n hn)));exact⟨by rw[<-h1];exact h3.same,h3.jZ,jM,yo⟩
end
def Q3(ls:List LV)(k j:Nat):Prop:=∃hk:k<ls.length,(10<=ls[k].r/\j=ls[k].a.toNat)\/(ls[k].r=10/\j=ls[k].b.toNat)
structure Rz (ls:List LV) (i:Nat) (s:ao):Prop where
  len:s.length=ls.length
  Jd:∀j,j<ls.length->(sB s j=true↔(j+1=ls.length\/∃k,ls.length<=k+i/\k<ls.length/\Nj ls k/\Q3 ls k j))
section
variable{l:Int}{ls:List LV}{i k:Nat}{s:ao}
end
def FV.vA(t:ax)(H:Hl)(x:FV):Prop:=∃q sp,(q,iC t x.f sp)∈H/\x.a=q.map aP/\(q=none->x.f.length=0)
theorem FV.vA.mono{t:ax}{H H':Hl}{x:FV}(h:x.vA t H)(hs:H⊆H'):x.vA t H':=by
 obtain⟨q,sp,h1,h2,h3⟩:=h;exact⟨q,sp,hs h1,h2,h3⟩
theorem FV.vA.at{t:ax}{w0 w:aB}{S:aq}{h:Hl}{Y:List (Nat×Obj)}{x:FV}(g:x.vA t h)(s:St w0 S w h Y):FA w x.a x.f:=by
 obtain⟨q,sp,h1,h2,h3⟩:=g;obtain⟨j,hj⟩:=List.getElem?_of_mem h1;rw[h2];exact fL s j hj h3
theorem C2{w0 w:aB}{S:aq}{h:Hl}{Y:List (Nat×Obj)}(s:St w0 S w h Y)(j:Nat){q:ah}{ls:List LV}{e:ax}{sp:ai}(hj:h[j]?=some (q,By e ls sp))(hq:q=none->ls.length=0)
  {t:ax}(hin:∀x∈ls,x.f.vA t h/\x.f.f.length<=maxLen):LA w (q.map aP) ls:=by
 refine⟨?_,λx hx=>⟨(hin x hx).1.at s,(hin x hx).2⟩⟩;cases q with
 |none=>rw[aU (hq rfl)];exact Sl.nil _ _
 |some b=>exact Sl.jh (s.get hj)
def me(t tl:ax)(w w':aB)(v:aC)(ls:List LV):Prop:=∃(q:ah) (cap:Nat) (sp:ai) (H:Hl),v=fZ q ls.length cap/\(q=none->ls.length=0/\cap=0)/\(ls.flatMap LV.cells++sp).length=cap*5/\lq w w' ((q,By tl ls sp)::H)/\∀x∈ls,x.f.vA t H/\x.f.f.length<=maxLen
theorem me.nil{t tl:ax}{w w':aB}:me t tl w w' (.slice none 0 0) []:=⟨none,0,[],[],rfl,λ_=>⟨rfl,rfl⟩,rfl,lq.nil,λ_ h=>by cases h⟩
section
variable{P:av}{r:ah}{f:ay}{R:aC->aB->Prop}{w0:aB}{S:aq}{Y:List (Nat×Obj)}{n:Nat}{k:al}{l:Fl}{h:Hl}
variable{ops:aj}{i d:Nat}{rest:aq}{ty:ax}{pos:aA}{aft:ak}{g:Option (Nat×Bool)}
theorem w5{ls:List LV}{x:LV}:(ls++[x]).flatMap LV.cells=ls.flatMap LV.cells++LV.cells x:=by simp
end
def SV.cells(x:SV):ai:=[U x.d.set,aS x.d.eW,aS x.d.on,aS x.d.e,.slice x.fa x.d.fr.length x.fc]
structure vz (w:aB) (A:ae) (ss:List SV):Prop where
  at_:Sl w A (ss.flatMap SV.cells)
  AF:∀s∈ss,oe w s.fa s.d.fr/\s.d.fr.length<=maxLen
theorem vz.eY{w0 w:aB}{A:ae}{ss:List SV}(h:vz w0 A ss)(e:Ex [] w0 w):vz w A ss:=⟨Sl.ex h.at_ e aL,λs hs=>⟨(h.AF s hs).1.eY e,(h.AF s hs).2⟩⟩
def fE(l:Int)(A:ae)(n cA:Nat)(B:ae)(m cB:Nat):af:=#[aS l,.slice A n cA,.slice B m cB]
def vx(l:Int)(A:ae)(n cA:Nat)(B:ae)(m cB:Nat)(O:ae)(k cO:Nat):af:=#[aS l,.slice A n cA,.slice B m cB,.slice O k cO]
abbrev iJ(ss:List SV):List SD:=ss.map SV.d
theorem iW{ss:List SV}:(iJ ss).length=ss.length:=by simp
theorem ot{ss:List SV}{k:Nat}(hk:k<ss.length):(iJ ss)[k]'(by simpa using hk)=ss[k].d:=by simp
theorem vU{s:fC}{i:Nat}:(((s>>>i) &&& 1#64)==1#64)=s.getLsbD i:=by
 rw[dJ,eJ];constructor;intro h;have:=eK (λx=>x.getLsbD 0) h;simpa using this;intro h;apply BitVec.eq_of_getLsbD_eq;intro k hk;rw[cS,BitVec.getLsbD_ushiftRight,BitVec.getLsbD_one];by_cases e:k=0;subst e;simp[h];simp[e]
theorem BN{b:List NV}{s:fC}(h0:0<b.length)(h64:b.length<=64):(s &&& ~~~ (18446744073709551615#64>>>(64 - b.length))=0#64)↔lJ b s:=by
 rw[tG];have hb:∀k,(18446744073709551615#64>>>(64 - b.length)).getLsbD k=true↔k<b.length:=λk=>by
  rw[BitVec.getLsbD_ushiftRight,show(18446744073709551615#64)=BitVec.allOnes 64 from aI,BitVec.getLsbD_allOnes,du];omega
 exact forall_congr' λk=>imp_congr_right λ_=>hb k
def Gg(b:List NV)(s:fC):Bool:=s &&& ~~~ (18446744073709551615#64>>>(64 - b.length))==0#64
theorem qg{b:List NV}{s:fC}(h0:0<b.length)(h64:b.length<=64):Gg b s=true↔lJ b s:=by
 unfold Gg;rw[eJ];exact BN h0 h64
theorem jY{ss:List SD}{k:Nat}:∀{fs:ar} {us:List fC},lp ss k fs us↔fs.length=us.length/\∀j,j<us.length->(0<=fs.getD j 0/\fs.getD j 0<k)/\jk ss (fs.getD j 0) &&& ~~~ us.getD j 0#64=0#64
 |[],[]=>by simp[lp]
 |[],_::_=>by simp[lp]
 |_::_,[]=>by simp[lp]
 |f::fs,u::us=>by
  rw[lp,jY];constructor;rintro ⟨h1,h2,h3⟩;refine⟨by simp[h2],λj hj=>?_⟩;cases j with
  |zero=>exact h1
  |succ j=>exact h3 j (by simp at hj;omega)
  rintro ⟨h1,h2⟩;refine⟨h2 0 aL,by simpa using h1,λj hj=>h2 (j+1) aN⟩
def qN(os:ar)(node other:Int):Bool:=decide (0<=node/\node<os.length/\0<=other/\os.getD node.toNat 0=other)
def oh(b:List NV)(x:SD)(op:Int):Bool:=decide (x.on<b.length) && (jl x.set x.on && decide ((nd b x.on).op=op))
theorem kZ{b:List NV}{x:SD}{op:Int}:oh b x op=true↔Cc b x op:=by
 unfold oh Cc;simp only[dx,du]
def Nb:NV:=⟨0,0,0,0,0,0⟩
noncomputable def jO(b:List NV):ar:=(List.range b.length).map (λ(i:Nat)=>oi b (i:Int))
theorem p8{b:List NV}:(jO b).length=b.length:=by simp[jO]
theorem yV{b:List NV}{i:Nat}(hi:i<b.length):(jO b).getD i 0=oi b i:=by simp[jO,aX,hi]
theorem oA{b:List NV}{node other:Int}:qN (jO b) node other=true↔(0<=node/\node<b.length)/\0<=other/\oi b node=other:=by
 unfold qN;rw[du,p8];constructor;rintro ⟨h1,h2,h3,h4⟩;obtain⟨k,rfl⟩:∃k:Nat,node=k:=⟨node.toNat,aH⟩;rw[di,yV aH]at h4;exact⟨⟨h1,h2⟩,h3,h4⟩;rintro ⟨⟨h1,h2⟩,h3,h4⟩;obtain⟨k,rfl⟩:∃k:Nat,node=k:=⟨node.toNat,aH⟩;exact⟨h1,h2,h3,by rw[di,yV aH];exact h4⟩
structure OU (w:aB) (t:ax) (bc:Nat) (l:Int) (A:ae) (cA:Nat) (b:List NV) (B:ae) (cB:Nat) (ss:List SV) (O:ae) (cO:Nat):Prop where
  jh:w.heap[bc]?=some (.cells (vx l A b.length cA B ss.length cB O (jO b).length cO) t (0,0))
  fa:FA w A b
  sa:vz w B ss
  oa:oe w O (jO b)
  base:fY b
theorem OU.ex{w w':aB}{t:ax}{bc:Nat}{l:Int}{A:ae}{cA:Nat}{b:List NV}{B:ae}{cB:Nat}{ss:List SV}{O:ae}{cO:Nat}(h:OU w t bc l A cA b B cB ss O cO)(e:Ex [] w w'):OU w' t bc l A cA b B cB ss O cO:=⟨e.nh h.jh,h.fa.eY e,h.sa.eY e,h.oa.eY e,h.base⟩
theorem wC{ss:List SD}{k:Nat}{fs:ar}:lp ss k fs []↔fs=[]:=by cases fs<;>simp[lp]
def Ew(b:List NV)(x:SD):Prop:=x.fr=[]/\((oh b x 2=true/\x.e=0)\/(jl x.set x.on=true/\jl x.set x.e=true/\qN (jO b) x.on x.e=true))
theorem uY{b:List NV}{x:SD}:Ew b x↔(x.fr=[]/\((Cc b x 2/\x.e=0)\/(jl x.set x.on=true/\x.on<b.length/\jl x.set x.e=true/\oi b x.on=x.e))):=by
 unfold Ew;rw[kZ,oA];refine and_congr_right λ_=>or_congr Iff.rfl ?_;constructor;rintro ⟨h1,h2,h3,h4,h5⟩;exact⟨h1,h3.2,h2,h5⟩;rintro ⟨h1,h2,h3,h4⟩;obtain⟨k,e1,_⟩:=jT.1 h1;obtain⟨j,e2,_⟩:=jT.1 h3;exact⟨h1,h3,⟨aH,h2⟩,aH,h4⟩
section
variable{l:Int}{b:List NV}{ss:List SD}{k:Nat}{x:SD}
theorem Df(h:¬lJ b x.set):¬jJ l b ss k x:=λg=>h g.1
theorem uW(hi:lJ b x.set)(h:x.eW=1):jJ l b ss k x↔Ew b x:=by
 rw[uY];unfold jJ;rw[h];simp[hi]
theorem nQ(hi:lJ b x.set)(h:x.eW=4):jJ l b ss k x↔0<=x.e/\qN (jO b) x.on x.e=true/\lp ss k x.fr [x.set|||bW x.on,x.set|||bW x.e]:=by
 rw[oA];unfold jJ;rw[h];simp[hi];constructor;rintro ⟨h1,h2,h3,h4⟩;exact⟨h2,⟨h1,h2,h3⟩,h4⟩;rintro ⟨h1,⟨h2,h3,h4⟩,h5⟩;exact⟨h2,h3,h4,h5⟩
theorem Dg(h1:x.eW≠1)(h4:x.eW≠4)(he:x.e≠0):¬jJ l b ss k x:=by
 rintro ⟨_,h⟩;rcases h with h|h|h|h|h|h|h;exact h1 h.1;exact he h.2.1;exact he h.2.1;exact h4 h.1;exact he h.2.1;exact he h.2.1;exact he h.2.1
theorem AM(hi:lJ b x.set)(he:x.e=0)(h:x.eW=2):jJ l b ss k x↔oh b x 5=true/\lp ss k x.fr [x.set|||bW (nd b x.on).x|||bW (nd b x.on).y]:=by
 rw[kZ];unfold jJ;rw[h];simp[hi,he]
theorem yp(hi:lJ b x.set)(he:x.e=0)(h:x.eW=3):jJ l b ss k x↔oh b x 6=true/\lp ss k x.fr [x.set|||bW (nd b x.on).x,x.set|||bW (nd b x.on).y]:=by
 rw[kZ];unfold jJ;rw[h];simp[hi,he]
theorem rB(hi:lJ b x.set)(he:x.e=0)(h:x.eW=5):jJ l b ss k x↔oh b x 9=true/\(l=2\/l=4\/l=6)/\lp ss k x.fr [x.set|||bW (nd b x.on).x]:=by
 rw[kZ];unfold jJ;rw[h];simp[hi,he];exact⟨λ⟨h1,h2,h3⟩=>⟨h2,h1,h3⟩,λ⟨h1,h2,h3⟩=>⟨h2,h1,h3⟩⟩
theorem AL(hi:lJ b x.set)(he:x.e=0)(h:x.eW=6):jJ l b ss k x↔oh b x 10=true/\lp ss k x.fr [bW (nd b x.on).x|||pL l b x.set (nd b x.on).i]:=by
 rw[kZ];unfold jJ;rw[h];simp[hi,he]
theorem qm(hi:lJ b x.set)(he:x.e=0)(h:x.eW=7):jJ l b ss k x↔(l=1\/l=5)/\0<=x.on/\x.on<4/\lp ss k x.fr [pL l b x.set x.on]:=by
 unfold jJ;rw[h];simp[hi,he,and_assoc]
theorem BZ(h1:x.eW≠1)(h2:x.eW≠2)(h3:x.eW≠3)(h4:x.eW≠4)(h5:x.eW≠5)(h6:x.eW≠6)(h7:x.eW≠7):¬jJ l b ss k x:=by
 unfold jJ;simp[h1,h2,h3,h4,h5,h6,h7]
end
instance{b:List NV}{n:NV}:Decidable (jD b n):=by unfold jD;infer_instance
end Go.Proofs.Wit
