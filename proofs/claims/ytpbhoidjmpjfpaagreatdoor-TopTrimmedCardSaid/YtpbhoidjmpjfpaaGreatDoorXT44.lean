/- Laws of walks, each under its own conditions. -/
import Derived.Test.YtpbhoidjmpjfpaaGreatDoorXT39
set_option maxRecDepth 100000
set_option maxHeartbeats 40000000
namespace Go.Proofs.Wit
open Go Go.RowKit
section
variable{l:Int}{b:List NV}{L:List SD}{T:Tr->Prop}
theorem nS{f g:eF}{a:Int}:∀{ns:aq} {σ:Sg},(∀n∈ns,iR b f a n=iR b g a n)->jh T b f a ns σ=jh T b g a ns σ
 |[],σ,_=>rfl
 |n::ns,σ,h=>by
  have h1:=h n aF;have h2:=λk hk=>h k (cy n hk);rw[jh,jh,h1,nS h2,nS h2]
theorem iT.Mp(h:iT l b L){p:SP}{q:Nat}(e2:p.b=b)(e3:iu p.tl=fT b L)(hq:q<p.tl.length)(e4:p.x=p.tl[q])(e5:p.full=(gJ L L.length).getD q 0#64)(h67:p.x.d.eM=6\/p.x.d.eM=7):
  ∀n∈p.own,(lp l p.b p.full p.ag).getLsbD n=true/\iR p.b p.x.d.set p.ag n=iR p.b p.full p.ag n:=by
 have hb:=h.base;have htl:p.tl.length=(fT b L).length:=by rw[<-e3,fD]
 have hqt:q<(fT b L).length:=aH;have hxd:p.x.d=(fT b L)[q]:=by
  rw[e4];have:(iu p.tl)[q]'(by rw[fD];exact hq)=p.tl[q].d:=lP hq;rw[<-this];simp only[e3]
 obtain⟨k,hk,hn,hkq,htq⟩:=tf hqt;have hfull:p.full=L[k].set:=by rw[e5,aY,<-hkq,uQ hn (dZ _) hk hk];rfl
 rw[<-hxd]at htq;have hru:p.x.d.eM=L[k].eM:=by rw[htq];rfl
 have hon:p.x.d.on=L[k].on:=by rw[htq];rfl
 have hst0:p.x.d.set=qe b L k:=by rw[htq];rfl
 have hfr:p.x.d.fr=L[k].fr.map (λj=>((ff (gj L) j.toNat:Nat):Int)):=by rw[htq];rfl
 have hS0:∀j:Nat,L[k].fr=[(j:Int)]->p.S0=qe b L j:=λj hj=>by
  have hm:(j:Int)∈L[k].fr:=by rw[hj];simp
  unfold SP.S0;rw[hfr,hj,e3];exact uE (by have:=(h.pre hk hn hm).2.1;omega) (h.pre hk hn hm).1
 have pz:=h.I4 hk;intro n hno;have hns:=SP.xU hno;rw[e2,hst0,hfull];have hsame:∀{a:Int},Us b L k (iR b L[k].set a n)->iR b (qe b L k) a n=iR b L[k].set a n:=λ{a} hu=>vg (h.sub k hk) hu;cases pz with
 |yP o g1=>omega
 |neg o e g1=>omega
 |and o j g1=>omega
 |or o j i g1=>omega
 |cut o e j i g1=>omega
 |t o j g1=>omega
 |k o j g1 g2 g3 g4 g5 g6 g7 g8 g9 g10=>
  have hag:p.ag=(nd b o).i:=by unfold SP.ag;rw[if_neg aH,e2,hon,g5]
  rw[hS0 j g3]at hns;have hnx:(n:Int)≠(nd b o).x:=λe=>by
   have hx:=hb.x g6 aH;unfold SP.own at hno;rw[if_pos aH,gH,lh,e2,hon,g5,oZ (by have:=hb.len;omega)]at hno;exact hno.2 e
  have hm:(j:Int)∈L[k].fr:=by rw[g3];simp
  have hjk:=(h.pre hk hn hm).2.1;have hc:=g9 n (by rw[gG aH];exact h.sub j aH n (gH.1 hns));rw[hag];exact⟨hc.resolve_right hnx,hsame ((g10 _).2 (.inl ⟨n,gH.1 hns,hnx,rfl⟩))⟩
 |d j g1 g2 g3 g4 g5 g6 g7 g8=>
  have hag:p.ag=L[k].on:=by unfold SP.ag;rw[if_pos aH,hon]
  rw[hS0 j g4]at hns;have hm:(j:Int)∈L[k].fr:=by rw[g4];simp
  have hjk:=(h.pre hk hn hm).2.1;rw[hag];exact⟨g7 n (by rw[gG aH];exact h.sub j aH n (gH.1 hns)),hsame ((g8 _).2 ⟨n,gH.1 hns,rfl⟩)⟩
theorem Ld(hb:eX b){s:eF}{a:Int}{n:Nat}(hn:(lp l b s a).getLsbD n=true)(he:iR b s a n=n):(nd b n).i=a:=by
 obtain⟨z,_,h⟩:=sO hb hn he;obtain⟨i,h1,h2,h3,h4⟩:=(my hb).1 hn;have hnb:n<b.length:=by
  rcases h4 with⟨h4,h5⟩|⟨h4,_⟩;have:=hb.x h1 aH;omega;omega
 rcases hb.node hnb with⟨g1,g2⟩|⟨g1,g2⟩|⟨g1,g2⟩;rcases h with⟨h,_⟩|⟨h,_⟩<;>rw[g2]at h<;>cases h
 rcases h with⟨h,_⟩|⟨h,_⟩<;>rw[g2]at h<;>injection h
 rcases h with⟨h,_⟩|⟨h,_⟩<;>rw[g2]at h<;>cases h
theorem Av{p:SP}{last:aq}{σ:Sg}(hs:p.x.d.eM=6\/p.x.d.eM=7->∀n∈p.own,iR p.b p.x.d.set p.ag n=iR p.b p.full p.ag n)(h17:1<=p.x.d.eM/\p.x.d.eM<=7):fO T p.b (iu p.tl) p.x.d.set p.x.d last σ=fO T p.b (iu p.tl) p.full p.x.d last σ:=by
 unfold fO;dsimp only;by_cases h67:p.x.d.eM=6\/p.x.d.eM=7;have h:=hs h67;have n1:¬p.x.d.eM=1:=aH;have n2:¬p.x.d.eM=2:=aH;have n3:¬p.x.d.eM=3:=aH;have n4:¬p.x.d.eM=4:=aH;have n5:¬p.x.d.eM=5:=aH;rw[if_neg n1,if_neg n1,if_neg n2,if_neg n2,if_neg n3,if_neg n3,if_neg n4,if_neg n4,if_neg n5,if_neg n5];unfold SP.own SP.ag SP.S0 at h;by_cases h6:p.x.d.eM=6;rw[if_pos h6,if_neg aH]at h;rw[if_pos h6,if_pos h6,vG,vG,nS h];rw[if_neg h6,if_pos aH]at h;rw[if_neg h6,if_neg h6,vG,vG,nS h];rw[if_neg (show ¬p.x.d.eM=6 by omega),if_neg (show ¬p.x.d.eM=6 by omega)]
 repeat' split
 all_goals first|rfl|omega
theorem iT.Mq(h:iT l b L){p:SP}{q:Nat}(e1:p.l=l)(e2:p.b=b)(e3:iu p.tl=fT b L)(hq:q<p.tl.length)(e4:p.x=p.tl[q])(e5:p.x.d.set=p.full)(e6:p.last.length=q):
  p.Ok q/\(p.x.d.eM=6\/p.x.d.eM=7->∀n∈p.own,iR p.b p.full p.ag n=n->(nd p.b n).i=p.ag)/\jd p.x.d.set≠[]/\∀{T:Tr->Prop} {σ:Sg},fO T p.b (iu p.tl) p.full p.x.d p.last σ=fO T b (fT b L) ((gJ L L.length).getD q 0#64) p.x.d p.last σ:=by
 obtain⟨p0,hp0⟩:∃p0:SP,p0={p with full:=(gJ L L.length).getD q 0#64}:=⟨_,rfl⟩;have h0:p0.Ok q:=h.Mr (by rw[hp0];exact e1) (by rw[hp0];exact e2) (by rw[hp0];exact e3) (by rw[hp0];exact hq) (by simp only[hp0];exact e4) (by rw[hp0]) (by rw[hp0];exact e6);have hx0:p0.x=p.x:=by rw[hp0]
 have hb0:p0.b=p.b:=by rw[hp0]
 have hown:p0.own=p.own:=by rw[hp0];rfl
 have hag:p0.ag=p.ag:=by rw[hp0];rfl
 have hr:p.x.d.eM=6\/p.x.d.eM=7->∀n∈p.own,(lp l p.b p0.full p.ag).getLsbD n=true/\iR p.b p.full p.ag n=iR p.b p0.full p.ag n:=λh67 n hn=>by
  have:=h.Mp (p:=p0) (q:=q) (by rw[hp0];exact e2) (by rw[hp0];exact e3) (by rw[hp0];exact hq) (by simp only[hp0];exact e4) (by rw[hp0]) (by rw[hx0];exact h67) n (by rw[hown];exact hn);rw[hb0,hag,hx0,e5]at this;exact this
 have hbO:=h0.base;rw[hb0]at hbO;refine⟨⟨hbO,?_,?_,hq,e6,?_,?_,λh67 n hn hs=>?_,λh67=>?_⟩,λh67 n hn hs=>?_,?_,λ{T σ}=>?_⟩;rw[<-e5];have:=h0.nR.1;rw[hb0,hx0]at this;exact this;have:=h0.nR;rw[hp0]at this;exact this;have:=h0.uv;rw[hp0]at this;exact this;have:=h0.ne;rw[hp0]at this;exact this;have:=h0.Py (by rw[hx0];exact h67) n (by rw[hown];exact hn);rw[hb0,hag]at this;exact this ((hr h67 n hn).2.symm.trans hs);have:=h0.PA (by rw[hx0];exact h67);rw[hag]at this;exact this;obtain⟨k1,k2⟩:=hr h67 n hn;exact Ld hbO k1 (k2.symm.trans hs);have:=h0.ne q (by rw[hp0];exact hq);rw[show fN (iu p0.tl) (q:Int)=p.x.d.set by
  rw[hp0];show fN (iu p.tl) (q:Int)=p.x.d.set;rw[gG (by rw[fD];exact hq),lP hq,e4]]at this;exact this;have h17:1<=p0.x.d.eM/\p0.x.d.eM<=7:=by
  rcases h0.nR.2 with⟨e,_⟩|⟨e,_⟩|⟨e,_⟩|⟨e,_⟩|⟨e,_⟩|⟨e,_⟩|⟨e,_⟩<;>omega
 have:=Av (T:=T) (p:=p0) (last:=p.last) (σ:=σ) (λh67 n hn=>by
  have h2:=(hr (by rw[<-hx0];exact h67) n (by rw[<-hown];exact hn)).2;rw[hb0,hag,hx0,e5];exact h2) h17;rw[<-e5,<-e3,<-e2];rw[hp0]at this;exact this
end
structure SP.Rd (p:SP) (tn ts ti:ax) (hR:Hl):Prop where
  fa:∃q sp,(q,jc tn p.b sp)∈hR/\p.A=q.map aP/\(q=none->p.b.length=0)
  sa:∃q sp,(q,mW ts p.tl sp)∈hR/\p.B=q.map aP/\(q=none->p.tl.length=0)
  I2:∃q sp,(q,ob fH ti p.x.d.fr sp)∈hR/\p.x.fa=q.map aP/\(q=none->p.x.d.fr.length=0)
  LX:∃q sp,(q,ob fH ti (p.last.map (λj:Nat=>(j:Int))) sp)∈hR/\p.Z=q.map aP/\(q=none->p.last.length=0)
structure SP.Rs (p:SP) (S:aq) (w:aB):Prop where
  GA:Gq S w p.A p.b
  Ow:N3 S w p.B (p.tl.flatMap SV.cells)
  I2:L7 S w p.x.fa p.x.d.fr
  LX:L7 S w p.Z (p.last.map (λj:Nat=>(j:Int)))
section
variable{P:av}{tn tw tl:ax}{er:aC}{bw:Nat}{Γ:List FV}{σ:Sg}{s:Ws}
variable{r:ah}{f:ay}{R:aC->aB->Prop}{w0:aB}{S:aq}{Y:List (Nat×Obj)}{n:Nat}{k:al}{l:Fl}{ops:aj}{i d:Nat}{rest:aq}{ty:ax}{pos:aA}{aft:ak}{g:Option (Nat×Bool)}
variable{az:aa}{ts:ab}{cal:au}{gf:ay}{vs:ai}{u:Tr}
end
section
variable{l:Int}{b:List NV}{L:List SD}
theorem E6{ss:List SD}(h:∀k,k<ss.length->gj ss k=true):gJ ss ss.length=ss.map SD.set:=by
 have key:∀k,k<=ss.length->gJ ss k=(ss.take k).map SD.set:=λk=>by
  induction k with
  |zero=>intro _;rfl
  |succ k ih=>
   intro hk;rw[gJ,bH (show k<ss.length by omega)];dsimp only;rw[if_pos (h k aH),ih aH,aU aH,dF];rfl
 rw[key _ (dZ _),dx]
theorem iT.J4(h:iT l b L)(hs:fN (fT b L) ((fT b L).length - 1:Nat)=fN L (L.length - 1:Nat)):kC eC b (fT b L)=kC eC b L:=by
 obtain⟨tl,htl⟩:∃tl:List SV,tl=(fT b L).map (λd=>⟨d,none,0⟩):=⟨_,rfl⟩;have htd:iu tl=fT b L:=by rw[htl];show((fT b L).map _).map SV.d=_;rw[dT];exact List.map_id _
 have hl:tl.length=(fT b L).length:=by rw[<-htd,fD]
 have hall:gJ (fT b L) (fT b L).length=(fT b L).map SD.set:=E6 (λk hk=>h.Gb hk);have key:∀q,q<=(fT b L).length->fz eC b (fT b L) (gJ (fT b L) (fT b L).length) q=fz eC b (fT b L) (gJ L L.length) q:=λq=>by
  induction q with
  |zero=>intro _;rfl
  |succ q ih=>
   intro hq;have hq1:q<(fT b L).length:=aH;have hq2:q<tl.length:=aH;have hx:tl[q].d=(fT b L)[q]:=by simp[htl]
   rw[iS hq1,iS hq1,ih aH];have hlen:(fz eC b (fT b L) (gJ L L.length) q).1.length=q:=oz aH;have e:=λ(σ:Sg)=>(h.Mq (p:={bw:=0,bs:=0,l:=l,A:=none,cA:=0,b:=b,B:=none,cB:=0,tl:=tl,x:=tl[q],full:=tl[q].d.set,Z:=none,cZ:=0,last:=(fz eC b (fT b L) (gJ L L.length) q).1}) (q:=q) rfl rfl htd hq2 rfl rfl hlen).2.2.2 (T:=eC) (σ:=σ);dsimp only at e;rw[htd,hx]at e;rw[hall,show((fT b L).map SD.set).getD q 0#64=(fT b L)[q].set from by simp[hq1],e]
 unfold kC;dsimp only;rw[h.again,key _ (dZ _),if_pos rfl,if_pos hs]
theorem iT.EM(h:iT l b L){r:Nat}(hr:r<64)(hs:fN L (L.length - 1:Nat)=bW (r:Nat)):fN (fT b L) ((fT b L).length - 1:Nat)=bW (r:Nat):=by
 obtain⟨k1,k2,k3,_⟩:=h.Bn;have hp:=h.pos;rw[gG k1,k3];show qe b L (L.length - 1)=_;obtain⟨n,hn,_⟩:=h.AV (L.length - 1) k2;have hsub:=h.sub (L.length - 1) k2;rw[gG k2]at hs;rw[hs]at hsub;have hb:∀k,(bW (r:Nat)).getLsbD k=true↔(k:Int)=(r:Nat):=λk=>oZ ⟨aH,aH⟩;have hnr:n=r:=by have:=(hb n).1 (hsub n hn);omega
 subst hnr;apply BitVec.eq_of_getLsbD_eq;intro k hk;rw[dA];refine⟨λh=>hsub k h,λh=>?_⟩;have:k=n:=by have:=(hb k).1 h;omega
 subst this;exact hn
end
theorem Ay{f g:List NV}(h:fK f=0)(e:f=g):o9 f g=true:=by subst e;unfold o9;exact dQ ⟨h,h,rfl⟩
end Go.Proofs.Wit
