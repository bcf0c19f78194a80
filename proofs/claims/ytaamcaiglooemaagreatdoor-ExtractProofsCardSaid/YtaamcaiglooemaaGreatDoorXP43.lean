/- Laws of walks, each under its own conditions. -/
import Derived.Test.YtaamcaiglooemaaGreatDoorXP36
set_option maxRecDepth 100000
set_option maxHeartbeats 40000000
namespace Go.Proofs.Wit
open Go Go.RowKit
section
variable{l:Int}{b:List NV}{L:List SD}
theorem G1(hb:fY b){s:fC}{a:Int}{n:Nat}(hn:(pL l b s a).getLsbD n=true)(he:jo b s a n=n):(nd b n).op=9\/(nd b n).op=10:=by
 obtain⟨z,_,h⟩:=uj hb hn he;obtain⟨i,h1,_⟩:=(oZ hb).1 hn;have hnb:n<b.length:=by
  rcases h with⟨h,_⟩|⟨h,_⟩
  all_goals
   refine bh λe=>?_;have:eP b n=eP b n:=rfl;obtain⟨i,h1,h2,h3,h4⟩:=(oZ hb).1 hn;rcases h4 with⟨h4,h5⟩|⟨h4,_⟩;have:=hb.x h1 aH;omega;omega
 rcases hb.node hnb with⟨g1,g2⟩|⟨g1,g2⟩|⟨g1,g2⟩;rcases h with⟨h,_⟩|⟨h,_⟩<;>rw[g2]at h<;>cases h
 rcases h with⟨h,_⟩|⟨h,_⟩<;>rw[g2]at h<;>injection h with h1<;>omega
 rcases h with⟨h,_⟩|⟨h,_⟩<;>rw[g2]at h<;>cases h
theorem mr.NA(h:mr l b L){p:SP}{q:Nat}(e1:p.l=l)(e2:p.b=b)(e3:iJ p.tl=iE b L)(hq:q<p.tl.length)(e4:p.x=p.tl[q])(e5:p.full=(gJ L L.length).getD q 0#64)(e6:p.last.length=q):p.Ok q:=by
 have hb:=h.base;have ht:=h.tr;have htl:p.tl.length=(iE b L).length:=by rw[<-e3,iW]
 have hqt:q<(iE b L).length:=aH;have hxd:p.x.d=(iE b L)[q]:=by
  rw[e4];have:(iJ p.tl)[q]'(by rw[iW];exact hq)=p.tl[q].d:=ot hq;rw[<-this];simp only[e3]
 obtain⟨k,hk,hn,hkq,htq⟩:=yG hqt;have hfull:p.full=L[k].set:=by rw[e5,aX,<-hkq,vZ hn (eG _) hk hk];rfl
 have hcor:=ht.ou q hqt;rw[<-hxd]at hcor htq;have hru:p.x.d.eW=L[k].eW:=by rw[htq];rfl
 have hon:p.x.d.on=L[k].on:=by rw[htq];rfl
 have hfr:p.x.d.fr=L[k].fr.map (λj=>((gL (jz L) j.toNat:Nat):Int)):=by rw[htq];rfl
 have hS0:∀j:Nat,L[k].fr=[(j:Int)]->p.S0=sw b L j:=λj hj=>by
  have hm:(j:Int)∈L[k].fr:=by rw[hj];simp
  unfold SP.S0;rw[hfr,hj,e3];exact vG (by have:=(h.pre hk hn hm).2.1;omega) (h.pre hk hn hm).1
 have pS:=h.Nc hk;have hag9:∀{o:Nat},o<b.length->(nd b o).op=10->0<=(nd b o).i/\(nd b o).i<4:=λ{o} ho h2=>by
  have hok:=hb.ok ho;rcases hb.node ho with⟨g1,g2⟩|⟨g1,g2⟩|⟨g1,g2⟩;omega;rw[g2]at hok;exact(qW hok aH).1;omega
 refine⟨e2 ▸ hb,?_,?_,hq,e6,λj hj=>?_,λj hj=>?_,λh67 n hno hsn=>?_,λh67=>?_⟩;rw[hfull,e2];exact(h.ou k hk).1;rw[e1,e2,e3];exact hcor;rw[e3,e2,jy aH];exact(ht.ou j aH).1;obtain⟨n,h1,_⟩:=ht.BW j aH;have h2:=ht.sub j aH n h1;rw[e3,jy aH];exact λe=>by have:=gZ.2 h2;rw[e]at this;cases this
 rw[e2]at hsn⊢;have hns:=SP.tL hno;cases pS with
 |Jp o g1=>omega
 |neg o e g1=>omega
 |and o j g1=>omega
 |or o j i g1=>omega
 |cut o e j i g1=>omega
 |t o j g1=>omega
 |k o j g1 g2 g3 g4 g5 g6 g7 g8 g9 g10=>
  have hag:p.ag=(nd b o).i:=by unfold SP.ag;rw[if_neg aH,e2,hon,g5]
  rw[hS0 j g3]at hns;have hnx:(n:Int)≠(nd b o).x:=λe=>by
   have hx:=hb.x g6 aH;unfold SP.own at hno;rw[if_pos aH,gZ,lQ,e2,hon,g5,rI (by have:=hb.len;omega)]at hno;exact hno.2 e
  have:=g9 n (by
   have hm:(j:Int)∈L[k].fr:=by rw[g3];simp
   have:=(h.pre hk hn hm).2.1;rw[jy aH];exact h.sub j aH n (gZ.1 hns));rw[hag,hfull]at hsn;exact G1 hb (this.resolve_right hnx) hsn
 |d j g1 g2 g3 g4 g5 g6 g7 g8=>
  have hag:p.ag=L[k].on:=by unfold SP.ag;rw[if_pos aH,hon]
  rw[hS0 j g4]at hns;rw[hag,hfull]at hsn;exact G1 hb (g7 n (by
   have hm:(j:Int)∈L[k].fr:=by rw[g4];simp
   have:=(h.pre hk hn hm).2.1;rw[jy aH];exact h.sub j aH n (gZ.1 hns))) hsn
 cases pS with
 |Jp o g1=>omega
 |neg o e g1=>omega
 |and o j g1=>omega
 |or o j i g1=>omega
 |cut o e j i g1=>omega
 |t o j g1=>omega
 |k o j g1 g2 g3 g4 g5 g6 g7 g8 g9 g10=>
  unfold SP.ag;rw[if_neg aH,e2,hon,g5];exact hag9 g6 g8
 |d j g1 g2 g3 g4 g5 g6 g7 g8=>
  unfold SP.ag;rw[if_pos aH,hon];exact g6
theorem wB{T:Tr->Prop}{tl:List SD}{fl:List fC}{q:Nat}:∀{r:Nat},q<=r->r<=tl.length->(fP T b tl fl q).2.Le (fP T b tl fl r).2
 |0,h,_=>by rw[show q=0 by omega];exact Sg.Le.refl _
 |r+1,h,h2=>by
  by_cases e:q=r+1;rw[e];exact Sg.Le.refl _;refine(wB (r:=r) aH aH).trans ?_;rw[kA aH];exact zM
theorem CF{T:Tr->Prop}:(fP T b (iE b L) (gJ L L.length) (iE b L).length).2.Le (kY T b L).2:=by
 unfold kY;dsimp only;split;exact Sg.Le.refl _;exact jq
open Classical in
noncomputable def xq(l:Int)(b:List NV)(L:List SD):Int:=if rf l b L≠0 then rf l b L else if (kY eR b L).2.bad=true then 8 else 0
noncomputable def II(b:List NV)(L:List SD):List LD:=(kY eR b L).2.ls.map (λx=>x.v.d)
end
section
variable{P:av}{tn tw tl:ax}{ef:Bool->aC}{bw:Nat}{Γ:List FV}{σ:Sg}{s:Ws}
variable{r:ah}{f:ay}{R:aC->aB->Prop}{w0:aB}{S:aq}{Y:List (Nat×Obj)}{n:Nat}{k:al}{l:Fl}{ops:aj}{i d:Nat}{rest:aq}{ty:ax}{pos:aA}{aft:ak}{g:Option (Nat×Bool)}
variable{az:aa}{ts:ab}{cal:au}{gf:ay}{vs:ai}
theorem Ab{pre H:Hl}{er:aC}:(pre++(gD tw tl er bw s++H)).Perm ((pre++H)++gD tw tl er bw s):=by
 rw[dk];exact List.Perm.append_left pre cd
theorem eQ.B2{pre H hR':Hl}{res:Nat×Sg}(hW:jP tn Γ σ s)(hsub:hR'.Sublist (pre++H))(ho:ops[i]?=some ⟨some d,.call ⟨.value cal,az,ts⟩,ty,pos,aft,g⟩)(hw:fg ops l g=true)
  (hc:fW l cal=some (.func (.func gf) #[] #[]))(hx:iT l az.toList=some vs)(hd:Nat.blt d n=true)(hcf:∀args w,(callFunc gf args).run P w=.ok (.enter gf args) w)
  (hcall:∀w Y',St w0 S w ((pre++H)++gD tw tl (ef σ.bad) bw s) Y'->sr P tn tw tl ef bw Γ σ gf vs w hR' res)
  (hk:∀s' Γ',jP tn Γ' res.2 s'->Γ⊆Γ'->eQ P r f R w0 S Y n (.inRegion ops rest::k) ((d,aS (res.1:Int))::l) (pre++(gD tw tl (ef res.2.bad) bw s'++H))):
  eQ P r f R w0 S Y n (.inRegion ops (i::rest)::k) l (pre++(gD tw tl (ef σ.bad) bw s++H)):=by
 refine eQ.mW Ab ?_;refine eQ.tj hW hsub ho hw hc hx hd hcf hcall (λs' Γ' hW' hg'=>?_);exact eQ.mW Ab.symm (hk s' Γ' hW' hg')
theorem Hy{h h':Hl}(hm:∀w Y',St w0 S w h Y'->St w0 S w h' Y')(hg:eQ P r f R w0 S Y n k l h'):eQ P r f R w0 S Y n k l h:=λt w Ds hF hS=>hg t w Ds hF (hm w _ hS)
theorem ik.tj{K:aC->Hl->Prop}{pre hR':Hl}{res:Nat×Sg}(hW:jP tn Γ σ s)(hsub:hR'.Sublist pre)(ho:ops[i]?=some ⟨some d,.call ⟨.value cal,az,ts⟩,ty,pos,aft,g⟩)(hw:fg ops l g=true)
  (hc:fW l cal=some (.func (.func gf) #[] #[]))(hx:iT l az.toList=some vs)(hd:Nat.blt d n=true)(hcf:∀args w,(callFunc gf args).run P w=.ok (.enter gf args) w)
  (hcall:∀w Y',St w0 S w (pre++gD tw tl (ef σ.bad) bw s) Y'->sr P tn tw tl ef bw Γ σ gf vs w hR' res)
  (hk:∀s' Γ',jP tn Γ' res.2 s'->Γ⊆Γ'->K (aS (res.1:Int)) (pre++gD tw tl (ef res.2.bad) bw s')):ik P w0 S n (pre++gD tw tl (ef σ.bad) bw s) ops i l d K:=by
 have hp:(pre++gD tw tl (ef σ.bad) bw s).Perm (gD tw tl (ef σ.bad) bw s++pre):=cd;refine⟨_,ho,rfl,rfl,rfl,hd,.inl ⟨hw,λt w Ds Y' hF' hS=>.inr ⟨gf,vs.toArray,λv w'=>∃h',(∃s' Γ',v=aS (res.1:Int)/\h'=gD tw tl (ef res.2.bad) bw s'/\jP tn Γ' res.2 s'/\Γ⊆Γ')/\St w (ir (gD tw tl (ef σ.bad) bw s)) w' h' [],?_,?_,λv w' ⟨h',h1,h2⟩=>?_⟩⟩⟩;have e1:=lO (P:=P) (ty:=ty) (ts:=ts) (Ds:=Ds) (w:=w) (first:=#[]) (captured:=#[]) hF' hc hx;simp only[execOp,Sem.run_bind,e1,Result.andThen_ok,invoke,hcf];simp;have:=hcall w Y' hS s hW ((hS.perm hp).has.sub (cN aD hsub));exact Calls.mono this (λe w' ⟨v,h',e1,e2,e3⟩=>⟨v,e1,h',e2,e3⟩);obtain⟨s',Γ',rfl,rfl,hW',hs'⟩:=h1;exact⟨_,((hS.perm hp).frame h2).perm cd,hk s' Γ' hW' hs'⟩
end
section
variable{l:Int}{b:List NV}{L:List SD}{T:Tr->Prop}
theorem pA{f g:fC}{a:Int}:∀{ns:aq} {σ:Sg},(∀n∈ns,jo b f a n=jo b g a n)->jB T b f a ns σ=jB T b g a ns σ
 |[],σ,_=>rfl
 |n::ns,σ,h=>by
  have h1:=h n aF;have h2:=λk hk=>h k (cF n hk);rw[jB,jB,h1,pA h2,pA h2]
theorem mr.Ny(h:mr l b L){p:SP}{q:Nat}(e2:p.b=b)(e3:iJ p.tl=iE b L)(hq:q<p.tl.length)(e4:p.x=p.tl[q])(e5:p.full=(gJ L L.length).getD q 0#64)(h67:p.x.d.eW=6\/p.x.d.eW=7):
  ∀n∈p.own,(pL l p.b p.full p.ag).getLsbD n=true/\jo p.b p.x.d.set p.ag n=jo p.b p.full p.ag n:=by
 have hb:=h.base;have htl:p.tl.length=(iE b L).length:=by rw[<-e3,iW]
 have hqt:q<(iE b L).length:=aH;have hxd:p.x.d=(iE b L)[q]:=by
  rw[e4];have:(iJ p.tl)[q]'(by rw[iW];exact hq)=p.tl[q].d:=ot hq;rw[<-this];simp only[e3]
 obtain⟨k,hk,hn,hkq,htq⟩:=yG hqt;have hfull:p.full=L[k].set:=by rw[e5,aX,<-hkq,vZ hn (eG _) hk hk];rfl
 rw[<-hxd]at htq;have hru:p.x.d.eW=L[k].eW:=by rw[htq];rfl
 have hon:p.x.d.on=L[k].on:=by rw[htq];rfl
 have hst0:p.x.d.set=sw b L k:=by rw[htq];rfl
 have hfr:p.x.d.fr=L[k].fr.map (λj=>((gL (jz L) j.toNat:Nat):Int)):=by rw[htq];rfl
 have hS0:∀j:Nat,L[k].fr=[(j:Int)]->p.S0=sw b L j:=λj hj=>by
  have hm:(j:Int)∈L[k].fr:=by rw[hj];simp
  unfold SP.S0;rw[hfr,hj,e3];exact vG (by have:=(h.pre hk hn hm).2.1;omega) (h.pre hk hn hm).1
 have pS:=h.Nc hk;intro n hno;have hns:=SP.tL hno;rw[e2,hst0,hfull];have hsame:∀{a:Int},Us b L k (jo b L[k].set a n)->jo b (sw b L k) a n=jo b L[k].set a n:=λ{a} hu=>EV (h.sub k hk) hu;cases pS with
 |Jp o g1=>omega
 |neg o e g1=>omega
 |and o j g1=>omega
 |or o j i g1=>omega
 |cut o e j i g1=>omega
 |t o j g1=>omega
 |k o j g1 g2 g3 g4 g5 g6 g7 g8 g9 g10=>
  have hag:p.ag=(nd b o).i:=by unfold SP.ag;rw[if_neg aH,e2,hon,g5]
  rw[hS0 j g3]at hns;have hnx:(n:Int)≠(nd b o).x:=λe=>by
   have hx:=hb.x g6 aH;unfold SP.own at hno;rw[if_pos aH,gZ,lQ,e2,hon,g5,rI (by have:=hb.len;omega)]at hno;exact hno.2 e
  have hm:(j:Int)∈L[k].fr:=by rw[g3];simp
  have hjk:=(h.pre hk hn hm).2.1;have hc:=g9 n (by rw[jy aH];exact h.sub j aH n (gZ.1 hns));rw[hag];exact⟨hc.resolve_right hnx,hsame ((g10 _).2 (.inl ⟨n,gZ.1 hns,hnx,rfl⟩))⟩
 |d j g1 g2 g3 g4 g5 g6 g7 g8=>
  have hag:p.ag=L[k].on:=by unfold SP.ag;rw[if_pos aH,hon]
  rw[hS0 j g4]at hns;have hm:(j:Int)∈L[k].fr:=by rw[g4];simp
  have hjk:=(h.pre hk hn hm).2.1;rw[hag];exact⟨g7 n (by rw[jy aH];exact h.sub j aH n (gZ.1 hns)),hsame ((g8 _).2 ⟨n,gZ.1 hns,rfl⟩)⟩
theorem MD(hb:fY b){s:fC}{a:Int}{n:Nat}(hn:(pL l b s a).getLsbD n=true)(he:jo b s a n=n):(nd b n).i=a:=by
 obtain⟨z,_,h⟩:=uj hb hn he;obtain⟨i,h1,h2,h3,h4⟩:=(oZ hb).1 hn;have hnb:n<b.length:=by
  rcases h4 with⟨h4,h5⟩|⟨h4,_⟩;have:=hb.x h1 aH;omega;omega
 rcases hb.node hnb with⟨g1,g2⟩|⟨g1,g2⟩|⟨g1,g2⟩;rcases h with⟨h,_⟩|⟨h,_⟩<;>rw[g2]at h<;>cases h
 rcases h with⟨h,_⟩|⟨h,_⟩<;>rw[g2]at h<;>injection h
 rcases h with⟨h,_⟩|⟨h,_⟩<;>rw[g2]at h<;>cases h
theorem Bh{p:SP}{last:aq}{σ:Sg}(hs:p.x.d.eW=6\/p.x.d.eW=7->∀n∈p.own,jo p.b p.x.d.set p.ag n=jo p.b p.full p.ag n)(h17:1<=p.x.d.eW/\p.x.d.eW<=7):gm T p.b (iJ p.tl) p.x.d.set p.x.d last σ=gm T p.b (iJ p.tl) p.full p.x.d last σ:=by
 unfold gm;dsimp only;by_cases h67:p.x.d.eW=6\/p.x.d.eW=7;have h:=hs h67;have n1:¬p.x.d.eW=1:=aH;have n2:¬p.x.d.eW=2:=aH;have n3:¬p.x.d.eW=3:=aH;have n4:¬p.x.d.eW=4:=aH;have n5:¬p.x.d.eW=5:=aH;rw[if_neg n1,if_neg n1,if_neg n2,if_neg n2,if_neg n3,if_neg n3,if_neg n4,if_neg n4,if_neg n5,if_neg n5];unfold SP.own SP.ag SP.S0 at h;by_cases h6:p.x.d.eW=6;rw[if_pos h6,if_neg aH]at h;rw[if_pos h6,if_pos h6,ru,ru,pA h];rw[if_neg h6,if_pos aH]at h;rw[if_neg h6,if_neg h6,ru,ru,pA h];rw[if_neg (show ¬p.x.d.eW=6 by omega),if_neg (show ¬p.x.d.eW=6 by omega)]
 repeat' split
 all_goals first|rfl|omega
theorem mr.Nz(h:mr l b L){p:SP}{q:Nat}(e1:p.l=l)(e2:p.b=b)(e3:iJ p.tl=iE b L)(hq:q<p.tl.length)(e4:p.x=p.tl[q])(e5:p.x.d.set=p.full)(e6:p.last.length=q):
  p.Ok q/\(p.x.d.eW=6\/p.x.d.eW=7->∀n∈p.own,jo p.b p.full p.ag n=n->(nd p.b n).i=p.ag)/\jK p.x.d.set≠[]/\∀{T:Tr->Prop} {σ:Sg},gm T p.b (iJ p.tl) p.full p.x.d p.last σ=gm T b (iE b L) ((gJ L L.length).getD q 0#64) p.x.d p.last σ:=by
 obtain⟨p0,hp0⟩:∃p0:SP,p0={p with full:=(gJ L L.length).getD q 0#64}:=⟨_,rfl⟩;have h0:p0.Ok q:=h.NA (by rw[hp0];exact e1) (by rw[hp0];exact e2) (by rw[hp0];exact e3) (by rw[hp0];exact hq) (by simp only[hp0];exact e4) (by rw[hp0]) (by rw[hp0];exact e6);have hx0:p0.x=p.x:=by rw[hp0]
 have hb0:p0.b=p.b:=by rw[hp0]
 have hown:p0.own=p.own:=by rw[hp0];rfl
 have hag:p0.ag=p.ag:=by rw[hp0];rfl
 have hr:p.x.d.eW=6\/p.x.d.eW=7->∀n∈p.own,(pL l p.b p0.full p.ag).getLsbD n=true/\jo p.b p.full p.ag n=jo p.b p0.full p.ag n:=λh67 n hn=>by
  have:=h.Ny (p:=p0) (q:=q) (by rw[hp0];exact e2) (by rw[hp0];exact e3) (by rw[hp0];exact hq) (by simp only[hp0];exact e4) (by rw[hp0]) (by rw[hx0];exact h67) n (by rw[hown];exact hn);rw[hb0,hag,hx0,e5]at this;exact this
 have hbO:=h0.base;rw[hb0]at hbO;refine⟨⟨hbO,?_,?_,hq,e6,?_,?_,λh67 n hn hs=>?_,λh67=>?_⟩,λh67 n hn hs=>?_,?_,λ{T σ}=>?_⟩;rw[<-e5];have:=h0.ou.1;rw[hb0,hx0]at this;exact this;have:=h0.ou;rw[hp0]at this;exact this;have:=h0.wj;rw[hp0]at this;exact this;have:=h0.ne;rw[hp0]at this;exact this;have:=h0.PH (by rw[hx0];exact h67) n (by rw[hown];exact hn);rw[hb0,hag]at this;exact this ((hr h67 n hn).2.symm.trans hs);have:=h0.PS (by rw[hx0];exact h67);rw[hag]at this;exact this;obtain⟨k1,k2⟩:=hr h67 n hn;exact MD hbO k1 (k2.symm.trans hs);have:=h0.ne q (by rw[hp0];exact hq);rw[show jk (iJ p0.tl) (q:Int)=p.x.d.set by
  rw[hp0];show jk (iJ p.tl) (q:Int)=p.x.d.set;rw[jy (by rw[iW];exact hq),ot hq,e4]]at this;exact this;have h17:1<=p0.x.d.eW/\p0.x.d.eW<=7:=by
  rcases h0.ou.2 with⟨e,_⟩|⟨e,_⟩|⟨e,_⟩|⟨e,_⟩|⟨e,_⟩|⟨e,_⟩|⟨e,_⟩<;>omega
 have:=Bh (T:=T) (p:=p0) (last:=p.last) (σ:=σ) (λh67 n hn=>by
  have h2:=(hr (by rw[<-hx0];exact h67) n (by rw[<-hown];exact hn)).2;rw[hb0,hag,hx0,e5];exact h2) h17;rw[<-e5,<-e3,<-e2];rw[hp0]at this;exact this
end
def SP.OS(p:SP):fC:=if p.x.d.eW=6 then p.S0 &&& ~~~ bW (nd p.b p.x.d.on).x else p.S0
theorem SP.Bv(p:SP):p.own=jK p.OS:=by unfold SP.own SP.OS;split<;>rfl
structure SP.Rd (p:SP) (tn ts ti:ax) (hR:Hl):Prop where
  fa:∃q sp,(q,iC tn p.b sp)∈hR/\p.A=q.map aP/\(q=none->p.b.length=0)
  sa:∃q sp,(q,oB ts p.tl sp)∈hR/\p.B=q.map aP/\(q=none->p.tl.length=0)
  Ey:∃q sp,(q,ob fD ti p.x.d.fr sp)∈hR/\p.x.fa=q.map aP/\(q=none->p.x.d.fr.length=0)
  LK:∃q sp,(q,ob fD ti (p.last.map (λj:Nat=>(j:Int))) sp)∈hR/\p.Z=q.map aP/\(q=none->p.last.length=0)
structure SP.Rs (p:SP) (S:aq) (w:aB):Prop where
  te:Ce S w p.A p.b
  NG:OM S w p.B (p.tl.flatMap SV.cells)
  Ey:KH S w p.x.fa p.x.d.fr
  LK:KH S w p.Z (p.last.map (λj:Nat=>(j:Int)))
theorem SP.Rd.r{p:SP}{tn ts ti:ax}{hR h0:Hl}{w:aB}(h:p.Rd tn ts ti hR)(g:lU w (h0++hR)):p.Rs (ir h0) w:=by
 obtain⟨⟨q2,s2,a2,b2,c2⟩,⟨q3,s3,a3,b3,c3⟩,⟨q4,s4,a4,b4,c4⟩,⟨q5,s5,a5,b5,c5⟩⟩:=h;have hsep:∀{a:ae} {q:ah} {o':Obj},(q,o')∈hR->a=q.map (λb=>(⟨b,0,none⟩:Addr))->∀b o,a=some ⟨b,o,none⟩->b∉ir h0:=λhm e b o e2=>by
  rename_i a q o';subst e;cases q with
  |none=>cases e2
  |some b'=>cases e2;exact(g.read hm).2
 refine⟨⟨?_,hsep a2 b2⟩,⟨?_,hsep a3 b3⟩,?_,?_⟩;rw[b2];cases q2 with
 |none=>rw[aU (c2 rfl)];exact Sl.nil _ _
 |some b=>exact Sl.jh (g.read a2).1
 rw[b3];cases q3 with
 |none=>rw[aU (c3 rfl)];exact Sl.nil _ _
 |some b=>exact Sl.jh (g.read a3).1
 rw[b4];exact g.NC a4 (λe=>aU (c4 e));rw[b5];exact g.NC a5 (λe=>by rw[aU (c5 e)];rfl)
noncomputable def uN(p:SP)(σ:Sg):aq×Sg:=if p.x.d.eW=4 then([(fF eZ true (tA p.b p.x.d.on) σ).1],(fF eZ true (tA p.b p.x.d.on) σ).2)else([],σ)
noncomputable def uM(p:SP)(σ:Sg):aq×Sg:=if p.x.d.eW=5 then((uN p σ).1++[(gq eZ (fO (tA p.b p.x.d.on) (tA p.b (nd p.b p.x.d.on).x)) 3 0 0 0 (uN p σ).2).1],(gq eZ (fO (tA p.b p.x.d.on) (tA p.b (nd p.b p.x.d.on).x)) 3 0 0 0 (uN p σ).2).2)else uN p σ
theorem Lq{p:SP}{σ:Sg}:σ.Le (uN p σ).2:=by
 unfold uN;split;exact mx;exact Sg.Le.refl _
theorem yR{p:SP}{σ:Sg}:(uN p σ).2.Le (uM p σ).2:=by
 unfold uM;split;exact je;exact Sg.Le.refl _
theorem IM{p:SP}{σ:Sg}(h:(uN p σ).2.bad=false):∀n∈(uN p σ).1,n<(uN p σ).2.ls.length:=by
 unfold uN at*;intro n hn;split at hn;rename_i h4;rw[if_pos h4]at h⊢;rw[de.1 hn];exact(jA h).1;cases hn
theorem IL{p:SP}{σ:Sg}(h:(uM p σ).2.bad=false):∀n∈(uM p σ).1,n<(uM p σ).2.ls.length:=by
 have h4:=λn hn=>dg (IM (yR.ok h) n hn) yR.pre.length_le;intro n hn;by_cases h5:p.x.d.eW=5;rw[uM,if_pos h5]at hn;rcases dP.1 hn with hn|hn;exact h4 n hn;rw[uM,if_pos h5]at h⊢;rw[de.1 hn];exact(ib h).1;rw[uM,if_neg h5]at hn;exact h4 n hn
theorem CI{p:SP}{σ:Sg}:(uN p σ).1.length<=1:=by unfold uN;split<;>simp
theorem IK{p:SP}{σ:Sg}:(uM p σ).1.length<=2:=by
 have:=@CI p σ;unfold uM;split;simp;omega;omega
theorem Eb{ss:List SD}{k:Nat}{fr:ar}{s:fC}(h:lp ss k fr [s]):∃a,fr=[a]:=by
 match fr,h with
 |[a],_=>exact⟨a,rfl⟩
theorem I8{ss:List SD}{k:Nat}{fr:ar}{s u:fC}(h:lp ss k fr [s,u]):∃a c,fr=[a,c]:=by
 match fr,h with
 |[a,c],_=>exact⟨a,c,rfl⟩
theorem Bi{p:SP}{k:Nat}{σ:Sg}{full:fC}(hc:jJ p.l p.b (iJ p.tl) k p.x.d)(n1:p.x.d.eW≠1)(n6:p.x.d.eW≠6)(n7:p.x.d.eW≠7):
  gm eZ p.b (iJ p.tl) full p.x.d p.last σ=ga eZ (iv p.b p.x.d.set) ((uM p σ).1++p.x.d.fr.map (λj=>p.last.getD j.toNat 0)) (uM p σ).2:=by
 unfold gm uM uN;dsimp only;rw[if_neg n1];rcases hc.2 with⟨e,_⟩|⟨e,_,_,g⟩|⟨e,_,_,g⟩|⟨e,_,_,_,g⟩|⟨e,_,_,_,g⟩|⟨e,_⟩|⟨e,_⟩;exact absurd e n1;obtain⟨a,ha⟩:=Eb g;rw[if_pos e,if_neg aH,if_neg aH,ha];rfl;obtain⟨a,c,ha⟩:=I8 g;rw[if_neg aH,if_pos e,if_neg aH,if_neg aH,ha];rfl;obtain⟨a,c,ha⟩:=I8 g;rw[if_neg aH,if_neg aH,if_pos e,if_neg aH,if_pos e,ha];rfl;obtain⟨a,ha⟩:=Eb g;rw[if_neg aH,if_neg aH,if_neg aH,if_pos e,if_pos e,if_neg aH,ha];rfl;exact absurd e n6;exact absurd e n7
theorem Lp{p:SP}{σ:Sg}(h:p.x.d.eW=6\/p.x.d.eW=7):uM p σ=([],σ):=by
 unfold uM uN;rw[if_neg aH,if_neg aH]
theorem FX{T:Tr->Prop}{p:SP}{σ:Sg}(h:p.x.d.eW=6\/p.x.d.eW=7):gm T p.b (iJ p.tl) p.full p.x.d p.last σ=ru T p.b (iv p.b p.x.d.set) p.full p.ag p.ns p.tg p.own (decide (p.x.d.eW=6)) p.line σ:=by
 unfold gm SP.ag SP.ns SP.tg SP.own SP.line SP.S0;rcases h with h|h<;>simp[h]
section
variable{P:av}{tn tw tl:ax}{er:aC}{bw:Nat}{Γ:List FV}{σ:Sg}{s:Ws}
variable{r:ah}{f:ay}{R:aC->aB->Prop}{w0:aB}{S:aq}{Y:List (Nat×Obj)}{n:Nat}{k:al}{l:Fl}{ops:aj}{i d:Nat}{rest:aq}{ty:ax}{pos:aA}{aft:ak}{g:Option (Nat×Bool)}
variable{az:aa}{ts:ab}{cal:au}{gf:ay}{vs:ai}{u:Tr}
theorem ik.N3{K:aC->Hl->Prop}{pre:Hl}{y:FV}(hW:jP tn Γ σ s)(hy:y∈Γ)(ho:ops[i]?=some ⟨some d,.call ⟨.value cal,az,ts⟩,ty,pos,aft,g⟩)(hw:fg ops l g=true)
  (hc:fW l cal=some (.func (.func gf) #[] #[]))(hx:iT l az.toList=some vs)(hd:Nat.blt d n=true)(hcf:∀args w,(callFunc gf args).run P w=.ok (.enter gf args) w)
  (hcall:∀w Y',St w0 S w (pre++gD tw tl er bw s) Y'->Cn P gf vs w (λv w'=>(v=y.v/\y.f=bT u)\/fi tn w w' v (bT u)))
  (hk:∀x s' Γ',x∈Γ'->Γ⊆Γ'->x.f=bT u->jP tn Γ' σ s'->K x.v (pre++gD tw tl er bw s')):ik P w0 S n (pre++gD tw tl er bw s) ops i l d K:=by
 refine ik.call (λw v w'=>(v=y.v/\y.f=bT u)\/fi tn w w' v (bT u)) ho hw hc hx hd hcf hcall (λv w w' Y' hS he hO=>?_);rcases hO with⟨rfl,hf⟩|ho;exact⟨_,hS.later he,hk y s Γ hy (λ_ h=>h) hf hW⟩;obtain⟨q,cap,sp,rfl,hq,eV,hS'⟩:=fy hS he ho;refine⟨_,hS'.perm rq,?_⟩;rw[lh];exact hk _ _ _ aF (λ_ h=>cF _ h) rfl (hW.add hq mP)
theorem eQ.N3{pre:Hl}{y:FV}(hW:jP tn Γ σ s)(hy:y∈Γ)(ho:ops[i]?=some ⟨some d,.call ⟨.value cal,az,ts⟩,ty,pos,aft,g⟩)(hw:fg ops l g=true)
  (hc:fW l cal=some (.func (.func gf) #[] #[]))(hx:iT l az.toList=some vs)(hd:Nat.blt d n=true)(hcf:∀args w,(callFunc gf args).run P w=.ok (.enter gf args) w)
  (hcall:∀w Y',St w0 S w (pre++gD tw tl er bw s) Y'->Cn P gf vs w (λv w'=>(v=y.v/\y.f=bT u)\/fi tn w w' v (bT u)))
  (hk:∀x s' Γ',x∈Γ'->Γ⊆Γ'->x.f=bT u->jP tn Γ' σ s'->eQ P r f R w0 S Y n (.inRegion ops rest::k) ((d,x.v)::l) (pre++gD tw tl er bw s')):
  eQ P r f R w0 S Y n (.inRegion ops (i::rest)::k) l (pre++gD tw tl er bw s):=by
 refine eQ.rG (λw v w'=>(v=y.v/\y.f=bT u)\/fi tn w w' v (bT u)) ho hw hc hx hd hcf hcall (λv w w' Y' hS he hO=>?_);rcases hO with⟨rfl,hf⟩|ho;exact⟨_,hS.later he,hk y s Γ hy (λ_ h=>h) hf hW⟩;obtain⟨q,cap,sp,rfl,hq,eV,hS'⟩:=fy hS he ho;refine⟨_,hS'.perm rq,?_⟩;rw[lh];exact hk _ _ _ aF (λ_ h=>cF _ h) rfl (hW.add hq mP)
end
end Go.Proofs.Wit
