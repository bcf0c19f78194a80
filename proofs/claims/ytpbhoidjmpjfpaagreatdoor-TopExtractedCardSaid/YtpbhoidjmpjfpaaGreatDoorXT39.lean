/- Laws of walks, each under its own conditions. -/
import Derived.Test.YtpbhoidjmpjfpaaGreatDoorXT27
set_option maxRecDepth 100000
set_option maxHeartbeats 40000000
namespace Go.Proofs.Wit
open Go Go.RowKit
structure SP where
  bw:Nat
  bs:Nat
  l:Int
  A:ae
  cA:Nat
  b:List NV
  B:ae
  cB:Nat
  tl:List SV
  x:SV
  full:eF
  Z:ae
  cZ:Nat
  last:aq
def SP.cs(p:SP):af:=#[aQ p.bw,aS p.l,.slice p.A p.b.length p.cA,.slice p.B p.tl.length p.cB,U p.x.d.set,aS p.x.d.eM,aS p.x.d.on,aS p.x.d.e,.slice p.x.fa p.x.d.fr.length p.x.fc,U p.full,.slice p.Z p.last.length p.cZ]
structure SP.At (p:SP) (t:ax) (w:aB):Prop where
  ie:w.heap[p.bs]?=some (.cells p.cs t (0,0))
  fa:FA w p.A p.b
  sa:Sl w p.B (p.tl.flatMap SV.cells)
  I2:mJ w p.x.fa p.x.d.fr
  LX:mJ w p.Z (p.last.map (λj:Nat=>(j:Int)))
structure SP.R (p:SP) (t:ax) (S:aq) (w:aB):Prop where
  at_:p.At t w
  s1:p.bs∉S
  s2:∀b o,p.A=some ⟨b,o,none⟩->b∉S
  s3:∀b o,p.B=some ⟨b,o,none⟩->b∉S
  s4:∀b o,p.x.fa=some ⟨b,o,none⟩->b∉S
  s5:∀b o,p.Z=some ⟨b,o,none⟩->b∉S
theorem SP.R.ex{p:SP}{t:ax}{S:aq}{w w':aB}(h:p.R t S w)(e:Ex S w w'):p.At t w':=by
 refine⟨?_,h.at_.fa.eQ e h.s2,Sl.ex h.at_.sa e h.s3,mJ.eQ h.at_.I2 e h.s4,mJ.eQ h.at_.LX e h.s5⟩;have h1:=h.at_.ie;rw[e.block p.bs (aX.1 h1).1 h.s1];exact h1
theorem SP.At.eQ{p:SP}{t:ax}{w w':aB}(h:p.At t w)(e:Ex [] w w'):p.At t w':=⟨e.lM h.ie,h.fa.eQ e,Sl.ex h.sa e aL,h.I2.eQ e,h.LX.eQ e⟩
structure SP.In (p:SP) (t tn ts ti:ax) (hR:Hl):Prop where
  ie:(some p.bs,.cells p.cs t (0,0))∈hR
  fa:∃q sp,(q,jc tn p.b sp)∈hR/\p.A=q.map aP/\(q=none->p.b.length=0)
  sa:∃q sp,(q,mW ts p.tl sp)∈hR/\p.B=q.map aP/\(q=none->p.tl.length=0)
  I2:∃q sp,(q,ob fH ti p.x.d.fr sp)∈hR/\p.x.fa=q.map aP/\(q=none->p.x.d.fr.length=0)
  LX:∃q sp,(q,ob fH ti (p.last.map (λj:Nat=>(j:Int))) sp)∈hR/\p.Z=q.map aP/\(q=none->p.last.length=0)
theorem SP.In.mono{p:SP}{t tn ts ti:ax}{hR hR':Hl}(h:p.In t tn ts ti hR)(hs:hR⊆hR'):p.In t tn ts ti hR':=by
 obtain⟨h1,⟨q2,s2,a2,b2⟩,⟨q3,s3,a3,b3⟩,⟨q4,s4,a4,b4⟩,⟨q5,s5,a5,b5⟩⟩:=h;exact⟨hs h1,⟨q2,s2,hs a2,b2⟩,⟨q3,s3,hs a3,b3⟩,⟨q4,s4,hs a4,b4⟩,⟨q5,s5,hs a5,b5⟩⟩
theorem SP.In.r{p:SP}{t tn ts ti:ax}{hR h0:Hl}{w:aB}(h:p.In t tn ts ti hR)(g:kN w (h0++hR)):p.R t (gV h0) w:=by
 obtain⟨h1,⟨q2,s2,a2,b2,c2⟩,⟨q3,s3,a3,b3,c3⟩,⟨q4,s4,a4,b4,c4⟩,⟨q5,s5,a5,b5,c5⟩⟩:=h;obtain⟨k1,k2⟩:=g.read h1;have hsep:∀{a:ae} {q:ah} {o':Obj},(q,o')∈hR->a=q.map (λb=>(⟨b,0,none⟩:Addr))->∀b o,a=some ⟨b,o,none⟩->b∉gV h0:=λhm e b o e2=>by
  rename_i a q o';subst e;cases q with
  |none=>cases e2
  |some b'=>cases e2;exact(g.read hm).2
 refine⟨⟨k1,?_,?_,?_,?_⟩,k2,hsep a2 b2,hsep a3 b3,hsep a4 b4,hsep a5 b5⟩;rw[b2];cases q2 with
 |none=>rw[aV (c2 rfl)];exact⟨Sl.nil _ _⟩
 |some b=>exact⟨Sl.ie (g.read a2).1⟩
 rw[b3];cases q3 with
 |none=>rw[aV (c3 rfl)];exact Sl.nil _ _
 |some b=>exact Sl.ie (g.read a3).1
 rw[b4];cases q4 with
 |none=>rw[aV (c4 rfl)];exact Sl.nil _ _
 |some b=>exact Sl.ie (g.read a4).1
 rw[b5];cases q5 with
 |none=>rw[aV (c5 rfl)];exact Sl.nil _ _
 |some b=>exact Sl.ie (g.read a5).1
theorem SP.At.part{p:SP}{t:ax}{w:aB}(h:p.At t w){o:Nat}{cs:ai}(hc:∀j,j<cs.length->p.cs[o+j]?=cs[j]?):∀j v,cs[j]?=some v->w.cell? ((⟨p.bs,o,none⟩:Addr).add j)=some v:=λj v hv=>by
 have hj:=(bu.1 hv).1;have e1:(⟨p.bs,o,none⟩:Addr).add j=⟨p.bs,o+j,none⟩:=by
  unfold Addr.add;split;rename_i h0;rw[h0];rfl;rfl
 rw[e1];exact Ex.cell (Ex.refl _ _) h.ie (by rw[hc j hj];exact hv)
structure N3 (S:aq) (w:aB) (a:ae) (xs:ai):Prop where
  at_:Sl w a xs
  sep:∀b o,a=some ⟨b,o,none⟩->b∉S
theorem N3.eQ{S:aq}{w0 w:aB}{a:ae}{xs:ai}(h:N3 S w0 a xs)(e:Ex S w0 w):N3 S w a xs:=⟨Sl.ex h.at_ e h.sep,h.sep⟩
theorem SP.R.Ow{p:SP}{t:ax}{S:aq}{w:aB}(h:p.R t S w):N3 S w p.B (p.tl.flatMap SV.cells):=⟨h.at_.sa,h.s3⟩
theorem SP.R.GA{p:SP}{t:ax}{S:aq}{w:aB}(h:p.R t S w):Gq S w p.A p.b:=⟨h.at_.fa.at_,h.s2⟩
def SP.ag(p:SP):Int:=if p.x.d.eM=7 then p.x.d.on else(nd p.b p.x.d.on).i
def SP.S0(p:SP):eF:=fN (iu p.tl) (p.x.d.fr.getD 0 0)
def SP.own(p:SP):aq:=if p.x.d.eM=6 then jd (p.S0 &&& ~~~ bW (nd p.b p.x.d.on).x)else jd p.S0
def SP.ns(p:SP):aq:=if p.x.d.eM=6 then p.own else p.own.dropLast
def SP.tg(p:SP):Nat:=if p.x.d.eM=6 then(nd p.b p.x.d.on).x.toNat else p.own.getLastD 0
def SP.line(p:SP):Nat:=p.last.getD (p.x.d.fr.getD 0 0).toNat 0
structure SP.Ok (p:SP) (k:Nat):Prop where
  base:eX p.b
  full:iA p.b p.full
  nR:ir p.l p.b (iu p.tl) k p.x.d
  P5:k<p.tl.length
  MW:p.last.length=k
  uv:∀j:Nat,j<p.tl.length->iA p.b (fN (iu p.tl) (j:Int))
  ne:∀j:Nat,j<p.tl.length->jd (fN (iu p.tl) (j:Int))≠[]
  Py:p.x.d.eM=6\/p.x.d.eM=7->∀n∈p.own,iR p.b p.full p.ag n=n->(nd p.b n).op=9\/(nd p.b n).op=10
  PA:p.x.d.eM=6\/p.x.d.eM=7->0<=p.ag/\p.ag<4
noncomputable def MU(p:SP)(G:Tr)(σ:Sg):Nat×Sg:=vG eC p.b G p.full p.ag p.ns p.tg p.own (decide (p.x.d.eM=6)) p.line σ
theorem Hk{s u:eF}{n:Nat}(h:n∈jd (s &&& u)):n∈jd s:=gH.2 (by
 have:=gH.1 h;rw[BitVec.getLsbD_and,di]at this;exact this.1)
theorem SP.xU{p:SP}{n:Nat}(h:n∈p.own):n∈jd p.S0:=by
 unfold SP.own at h;split at h;exact Hk h;exact h
theorem SP.Kf{p:SP}{n:Nat}(h:n∈p.ns):n∈p.own:=by
 unfold SP.ns at h;split at h;exact h;exact(List.dropLast_sublist _).subset h
theorem Hn{s:eF}:(jd s).length<=64:=by
 have:=List.length_filter_le (λi=>s.getLsbD i) (List.range 64);simpa[jd]using this
theorem SP.Ht{p:SP}:p.own.length<=64:=by unfold SP.own;split<;>exact Hn
theorem SP.Hy{p:SP}:p.own.take p.ns.length=p.ns:=by
 unfold SP.ns;split;exact dx;rw[List.length_dropLast,List.dropLast_eq_take]
theorem SP.ML{p:SP}:p.ns.length<=p.own.length:=by
 unfold SP.ns;split;exact dZ _;rw[List.length_dropLast];omega
section
variable{P:av}{tn tw tl:ax}{er:aC}{bw:Nat}{Γ:List FV}{σ:Sg}{s:Ws}
variable{r:ah}{f:ay}{R:aC->aB->Prop}{w0:aB}{S:aq}{Y:List (Nat×Obj)}{n:Nat}{k:al}{l:Fl}{ops:aj}{i d:Nat}{rest:aq}{ty:ax}{pos:aA}{aft:ak}{g:Option (Nat×Bool)}
variable{az:aa}{ts:ab}{cal:au}{gf:ay}{vs:ai}{u:Tr}
theorem eB.Gx{pre:Hl}{y:FV}(hW:kf tn Γ σ s)(hy:y∈Γ)(hyz:y.Z)(ho:ops[i]?=some ⟨some d,.call ⟨.value cal,az,ts⟩,ty,pos,aft,g⟩)(hw:eL ops l g=true)
  (hc:eZ l cal=some (.func (.func gf) #[] #[]))(hx:iw l az.toList=some vs)(hd:Nat.blt d n=true)(hcf:∀args w,(callFunc gf args).run P w=.ok (.enter gf args) w)
  (hcall:∀w Y',St w0 S w (pre++gw tw tl er bw s) Y'->Cn P gf vs w (λv w'=>(v=y.v/\y.f=bT u)\/lq tn w w' v (bT u)))
  (hk:∀x s' Γ',x∈Γ'->Γ⊆Γ'->x.f=bT u->x.Z->kf tn Γ' σ s'->eB P r f R w0 S Y n (.inRegion ops rest::k) ((d,x.v)::l) (pre++gw tw tl er bw s')):
  eB P r f R w0 S Y n (.inRegion ops (i::rest)::k) l (pre++gw tw tl er bw s):=by
 refine eB.sP (λw v w'=>(v=y.v/\y.f=bT u)\/lq tn w w' v (bT u)) ho hw hc hx hd hcf hcall (λv w w' Y' hS he hO=>?_);rcases hO with⟨rfl,hf⟩|⟨ho,hz⟩;exact⟨_,hS.later he,hk y s Γ hy (λ_ h=>h) hf hyz hW⟩;obtain⟨q,cap,sp,rfl,hq,eK,hS'⟩:=eW hS he ho;refine⟨_,hS'.perm rS,?_⟩;rw[nk];refine hk _ _ _ aF (λ_ h=>cy _ h) rfl (λe=>?_) (hW.add hq l4);have:=hz e;cases q with
 |none=>rfl
 |some b=>cases this
end
section
variable{P:av}{tn tw tl:ax}{er:aC}{ef:Bool->aC}{bw:Nat}{Γ:List FV}{σ:Sg}{s:Ws}
variable{r:ah}{f:ay}{R:aC->aB->Prop}{w0:aB}{S:aq}{Y:List (Nat×Obj)}{n:Nat}{k:al}{l:Fl}{ops:aj}{i d:Nat}{ty:ax}{pos:aA}{aft:ak}{g:Option (Nat×Bool)}
variable{az:aa}{ts:ab}{cal:au}{gf:ay}{vs:ai}{u:Tr}{hb:Hl}{q:Nat}{Dn:aq}{h:Hl}
theorem fh.two{i j d e:Nat}(h1:eR ops Dn=[i,j])(hi:ik P w0 S n h ops i l d (λv h'=>hb.Sublist h'/\fh P r f R w0 S Y n k ops hb q (i::Dn) ((d,v)::l) h'))(hd:Nat.blt d n=true)(hj:ik P w0 S n h ops j l e (λv h'=>hb.Sublist h'/\fh P r f R w0 S Y n k ops hb q (j::Dn) ((e,v)::l) h'))(he:Nat.blt e n=true):fh P r f R w0 S Y n k ops hb (q+1) Dn l h:=by
 intro t hF;rw[Dt];refine .inr ⟨by rw[h1];simp,λm hm=>?_⟩;rw[h1]at hm;simp only[dS,dv,ep]at hm;rcases hm with rfl|rfl;exact kQ.of hi hF (λv h' ⟨e1,e2⟩=>⟨e1,e2 _ (hF.put v hd)⟩);exact kQ.of hj hF (λv h' ⟨e1,e2⟩=>⟨e1,e2 _ (hF.put v he)⟩)
theorem ik.Gx{K:aC->Hl->Prop}{pre:Hl}{y:FV}(hW:kf tn Γ σ s)(hy:y∈Γ)(hyz:y.Z)(ho:ops[i]?=some ⟨some d,.call ⟨.value cal,az,ts⟩,ty,pos,aft,g⟩)(hw:eL ops l g=true)
  (hc:eZ l cal=some (.func (.func gf) #[] #[]))(hx:iw l az.toList=some vs)(hd:Nat.blt d n=true)(hcf:∀args w,(callFunc gf args).run P w=.ok (.enter gf args) w)
  (hcall:∀w Y',St w0 S w (pre++gw tw tl er bw s) Y'->Cn P gf vs w (λv w'=>(v=y.v/\y.f=bT u)\/lq tn w w' v (bT u)))
  (hk:∀x s' Γ',x∈Γ'->Γ⊆Γ'->x.f=bT u->x.Z->kf tn Γ' σ s'->K x.v (pre++gw tw tl er bw s')):ik P w0 S n (pre++gw tw tl er bw s) ops i l d K:=by
 refine ik.call (λw v w'=>(v=y.v/\y.f=bT u)\/lq tn w w' v (bT u)) ho hw hc hx hd hcf hcall (λv w w' Y' hS he hO=>?_);rcases hO with⟨rfl,hf⟩|⟨ho,hz⟩;exact⟨_,hS.later he,hk y s Γ hy (λ_ h=>h) hf hyz hW⟩;obtain⟨q,cap,sp,rfl,hq,eK,hS'⟩:=eW hS he ho;refine⟨_,hS'.perm rS,?_⟩;rw[nk];refine hk _ _ _ aF (λ_ h=>cy _ h) rfl (λe=>?_) (hW.add hq l4);have:=hz e;cases q with
 |none=>rfl
 |some b=>cases this
theorem ik.uL{K:aC->Hl->Prop}{pre:Hl}(hW:kf tn Γ σ s)(ho:ops[i]?=some ⟨some d,.call ⟨.value cal,az,ts⟩,ty,pos,aft,g⟩)(hw:eL ops l g=true)
  (hc:eZ l cal=some (.func (.func gf) #[] #[]))(hx:iw l az.toList=some vs)(hd:Nat.blt d n=true)(hcf:∀args w,(callFunc gf args).run P w=.ok (.enter gf args) w)
  (hcall:∀w Y',St w0 S w (pre++gw tw tl er bw s) Y'->Cn P gf vs w (λv w'=>lq tn w w' v (bT u)))
  (hk:∀x s',x.f=bT u->x.Z->kf tn (x::Γ) σ s'->K x.v (pre++gw tw tl er bw s')):ik P w0 S n (pre++gw tw tl er bw s) ops i l d K:=by
 refine ik.call (λw v w'=>lq tn w w' v (bT u)) ho hw hc hx hd hcf hcall (λv w w' Y' hS he hO=>?_);obtain⟨ho,hz⟩:=hO;obtain⟨q,cap,sp,rfl,hq,eK,hS'⟩:=eW hS he ho;refine⟨_,hS'.perm rS,?_⟩;rw[nk];refine hk _ _ rfl (λe=>?_) (hW.add hq l4);have:=hz e;cases q with
 |none=>rfl
 |some b=>cases this
theorem ik.AG{K:aC->Hl->Prop}{pre:Hl}(hW:kf tn Γ σ s)(ho:ops[i]?=some ⟨some d,.call ⟨.value cal,az,ts⟩,ty,pos,aft,g⟩)(hw:eL ops l g=true)
  (hc:eZ l cal=some (.func (.func gf) #[] #[]))(hx:iw l az.toList=some vs)(hd:Nat.blt d n=true)(hcf:∀args w,(callFunc gf args).run P w=.ok (.enter gf args) w)
  (hcall:∀w Y',St w0 S w (pre++gw tw tl er bw s) Y'->Cn P gf vs w (λv w'=>eV tn w w' v (bT u)))
  (hk:∀x s',x.f=bT u->kf tn (x::Γ) σ s'->K x.v (pre++gw tw tl er bw s')):ik P w0 S n (pre++gw tw tl er bw s) ops i l d K:=by
 refine ik.call (λw v w'=>eV tn w w' v (bT u)) ho hw hc hx hd hcf hcall (λv w w' Y' hS he hO=>?_);obtain⟨q,cap,sp,rfl,hq,eK,hS'⟩:=eW hS he hO;refine⟨_,hS'.perm rS,?_⟩;rw[nk];exact hk _ _ rfl (hW.add hq l4)
theorem ik.jr{K:aC->Hl->Prop}{pre hR hR':Hl}{s0:Ws}{er0:aC}{res:Nat×Sg}(h0:kN w0 (gw tw tl er0 bw s0++hR))(hW:kf tn Γ σ s)(hsub:hR'.Sublist (pre++hR))(ho:ops[i]?=some ⟨some d,.call ⟨.value cal,az,ts⟩,ty,pos,aft,g⟩)(hw:eL ops l g=true)
  (hc:eZ l cal=some (.func (.func gf) #[] #[]))(hx:iw l az.toList=some vs)(hd:Nat.blt d n=true)(hcf:∀args w,(callFunc gf args).run P w=.ok (.enter gf args) w)
  (hcall:∀w Y',St w0 (gV (gw tw tl er0 bw s0)) w (pre++gw tw tl (ef σ.bad) bw s) Y'->wJ P tn tw tl ef bw Γ σ gf vs w hR' res)
  (hk:∀s' Γ',kf tn Γ' res.2 s'->Γ⊆Γ'->K (aS (res.1:Int)) (pre++gw tw tl (ef res.2.bad) bw s')):ik P w0 (gV (gw tw tl er0 bw s0)) n (pre++gw tw tl (ef σ.bad) bw s) ops i l d K:=by
 have hp:(pre++gw tw tl (ef σ.bad) bw s).Perm (gw tw tl (ef σ.bad) bw s++pre):=bZ;refine⟨_,ho,rfl,rfl,rfl,hd,.inl ⟨hw,λt w Ds Y' hF' hS=>.inr ⟨gf,vs.toArray,λv w'=>∃h',(∃s' Γ',v=aS (res.1:Int)/\h'=gw tw tl (ef res.2.bad) bw s'/\kf tn Γ' res.2 s'/\Γ⊆Γ')/\St w (gV (gw tw tl (ef σ.bad) bw s)) w' h' [],?_,?_,λv w' ⟨h',h1,h2⟩=>?_⟩⟩⟩;have e1:=mq (P:=P) (ty:=ty) (ts:=ts) (Ds:=Ds) (w:=w) (first:=#[]) (captured:=#[]) hF' hc hx;simp only[execOp,Sem.run_bind,e1,Result.andThen_ok,invoke,hcf];simp;have:=hcall w Y' hS s hW ((h0.stay hS).sub (cJ aD hsub));exact Calls.mono this (λe w' ⟨v,h',e1,e2,e3⟩=>⟨v,e1,h',e2,e3⟩);obtain⟨s',Γ',rfl,rfl,hW',hs'⟩:=h1;exact⟨_,((hS.perm hp).frame h2).perm bZ,hk s' Γ' hW' hs'⟩
end
theorem Bv{w:aB}{a:ae}{xs:ai}(h:Sl w a xs)(n:Nat):Sl w a (xs.take n):=by
 refine⟨λhp=>h.isSome (by rw[du]at hp;omega),λj hj=>?_⟩;rw[du]at hj;rw[h.cell j aH];simp[show j<n by omega]
section
variable{l:Int}{b:List NV}{L:List SD}
theorem FO(hb:eX b){s:eF}{a:Int}{n:Nat}(hn:(lp l b s a).getLsbD n=true)(he:iR b s a n=n):(nd b n).op=9\/(nd b n).op=10:=by
 obtain⟨z,_,h⟩:=sO hb hn he;obtain⟨i,h1,_⟩:=(my hb).1 hn;have hnb:n<b.length:=by
  rcases h with⟨h,_⟩|⟨h,_⟩
  all_goals
   refine bh λe=>?_;have:eA b n=eA b n:=rfl;obtain⟨i,h1,h2,h3,h4⟩:=(my hb).1 hn;rcases h4 with⟨h4,h5⟩|⟨h4,_⟩;have:=hb.x h1 aH;omega;omega
 rcases hb.node hnb with⟨g1,g2⟩|⟨g1,g2⟩|⟨g1,g2⟩;rcases h with⟨h,_⟩|⟨h,_⟩<;>rw[g2]at h<;>cases h
 rcases h with⟨h,_⟩|⟨h,_⟩<;>rw[g2]at h<;>injection h with h1<;>omega
 rcases h with⟨h,_⟩|⟨h,_⟩<;>rw[g2]at h<;>cases h
theorem iT.Mr(h:iT l b L){p:SP}{q:Nat}(e1:p.l=l)(e2:p.b=b)(e3:iu p.tl=fT b L)(hq:q<p.tl.length)(e4:p.x=p.tl[q])(e5:p.full=(gJ L L.length).getD q 0#64)(e6:p.last.length=q):p.Ok q:=by
 have hb:=h.base;have ht:=h.tr;have htl:p.tl.length=(fT b L).length:=by rw[<-e3,fD]
 have hqt:q<(fT b L).length:=aH;have hxd:p.x.d=(fT b L)[q]:=by
  rw[e4];have:(iu p.tl)[q]'(by rw[fD];exact hq)=p.tl[q].d:=lP hq;rw[<-this];simp only[e3]
 obtain⟨k,hk,hn,hkq,htq⟩:=tf hqt;have hfull:p.full=L[k].set:=by rw[e5,aY,<-hkq,uQ hn (dZ _) hk hk];rfl
 have hcor:=ht.nR q hqt;rw[<-hxd]at hcor htq;have hru:p.x.d.eM=L[k].eM:=by rw[htq];rfl
 have hon:p.x.d.on=L[k].on:=by rw[htq];rfl
 have hfr:p.x.d.fr=L[k].fr.map (λj=>((ff (gj L) j.toNat:Nat):Int)):=by rw[htq];rfl
 have hS0:∀j:Nat,L[k].fr=[(j:Int)]->p.S0=qe b L j:=λj hj=>by
  have hm:(j:Int)∈L[k].fr:=by rw[hj];simp
  unfold SP.S0;rw[hfr,hj,e3];exact uE (by have:=(h.pre hk hn hm).2.1;omega) (h.pre hk hn hm).1
 have pz:=h.I4 hk;have hag9:∀{o:Nat},o<b.length->(nd b o).op=10->0<=(nd b o).i/\(nd b o).i<4:=λ{o} ho h2=>by
  have hok:=hb.ok ho;rcases hb.node ho with⟨g1,g2⟩|⟨g1,g2⟩|⟨g1,g2⟩;omega;rw[g2]at hok;exact(qN hok aH).1;omega
 refine⟨e2 ▸ hb,?_,?_,hq,e6,λj hj=>?_,λj hj=>?_,λh67 n hno hsn=>?_,λh67=>?_⟩;rw[hfull,e2];exact(h.nR k hk).1;rw[e1,e2,e3];exact hcor;rw[e3,e2,gG aH];exact(ht.nR j aH).1;obtain⟨n,h1,_⟩:=ht.AV j aH;have h2:=ht.sub j aH n h1;rw[e3,gG aH];exact λe=>by have:=gH.2 h2;rw[e]at this;cases this
 rw[e2]at hsn⊢;have hns:=SP.xU hno;cases pz with
 |yP o g1=>omega
 |neg o e g1=>omega
 |and o j g1=>omega
 |or o j i g1=>omega
 |cut o e j i g1=>omega
 |t o j g1=>omega
 |k o j g1 g2 g3 g4 g5 g6 g7 g8 g9 g10=>
  have hag:p.ag=(nd b o).i:=by unfold SP.ag;rw[if_neg aH,e2,hon,g5]
  rw[hS0 j g3]at hns;have hnx:(n:Int)≠(nd b o).x:=λe=>by
   have hx:=hb.x g6 aH;unfold SP.own at hno;rw[if_pos aH,gH,lh,e2,hon,g5,oZ (by have:=hb.len;omega)]at hno;exact hno.2 e
  have:=g9 n (by
   have hm:(j:Int)∈L[k].fr:=by rw[g3];simp
   have:=(h.pre hk hn hm).2.1;rw[gG aH];exact h.sub j aH n (gH.1 hns));rw[hag,hfull]at hsn;exact FO hb (this.resolve_right hnx) hsn
 |d j g1 g2 g3 g4 g5 g6 g7 g8=>
  have hag:p.ag=L[k].on:=by unfold SP.ag;rw[if_pos aH,hon]
  rw[hS0 j g4]at hns;rw[hag,hfull]at hsn;exact FO hb (g7 n (by
   have hm:(j:Int)∈L[k].fr:=by rw[g4];simp
   have:=(h.pre hk hn hm).2.1;rw[gG aH];exact h.sub j aH n (gH.1 hns))) hsn
 cases pz with
 |yP o g1=>omega
 |neg o e g1=>omega
 |and o j g1=>omega
 |or o j i g1=>omega
 |cut o e j i g1=>omega
 |t o j g1=>omega
 |k o j g1 g2 g3 g4 g5 g6 g7 g8 g9 g10=>
  unfold SP.ag;rw[if_neg aH,e2,hon,g5];exact hag9 g6 g8
 |d j g1 g2 g3 g4 g5 g6 g7 g8=>
  unfold SP.ag;rw[if_pos aH,hon];exact g6
theorem zb{T:Tr->Prop}{tl:List SD}{fl:List eF}{q:Nat}:∀{r:Nat},q<=r->r<=tl.length->(fz T b tl fl q).2.Le (fz T b tl fl r).2
 |0,h,_=>by rw[show q=0 by omega];exact Sg.Le.refl _
 |r+1,h,h2=>by
  by_cases e:q=r+1;rw[e];exact Sg.Le.refl _;refine(zb (r:=r) aH aH).trans ?_;rw[iS aH];exact yX
theorem Hp{T:Tr->Prop}:(fz T b (fT b L) (gJ L L.length) (fT b L).length).2.Le (kC T b L).2:=by
 unfold kC;dsimp only;split;exact Sg.Le.refl _;exact iC
open Classical in
noncomputable def wX(l:Int)(b:List NV)(L:List SD):Int:=if py l b L≠0 then py l b L else if (kC eC b L).2.bad=true then 8 else 0
noncomputable def Hr(b:List NV)(L:List SD):List LD:=(kC eC b L).2.ls.map (λx=>x.v.d)
end
section
variable{P:av}{tn tw tl:ax}{ef:Bool->aC}{bw:Nat}{Γ:List FV}{σ:Sg}{s:Ws}
variable{r:ah}{f:ay}{R:aC->aB->Prop}{w0:aB}{S:aq}{Y:List (Nat×Obj)}{n:Nat}{k:al}{l:Fl}{ops:aj}{i d:Nat}{rest:aq}{ty:ax}{pos:aA}{aft:ak}{g:Option (Nat×Bool)}
variable{az:aa}{ts:ab}{cal:au}{gf:ay}{vs:ai}
theorem I7{pre H:Hl}{er:aC}:(pre++(gw tw tl er bw s++H)).Perm ((pre++H)++gw tw tl er bw s):=by
 rw[c9];exact List.Perm.append_left pre bZ
theorem Bk{pre H hR':Hl}{res:Nat×Sg}(hW:kf tn Γ σ s)(hsub:hR'.Sublist (pre++H))(ho:ops[i]?=some ⟨some d,.call ⟨.value cal,az,ts⟩,ty,pos,aft,g⟩)(hw:eL ops l g=true)
  (hc:eZ l cal=some (.func (.func gf) #[] #[]))(hx:iw l az.toList=some vs)(hd:Nat.blt d n=true)(hcf:∀args w,(callFunc gf args).run P w=.ok (.enter gf args) w)
  (hcall:∀w Y',St w0 S w ((pre++H)++gw tw tl (ef σ.bad) bw s) Y'->wJ P tn tw tl ef bw Γ σ gf vs w hR' res)
  (hk:∀s' Γ',kf tn Γ' res.2 s'->Γ⊆Γ'->eB P r f R w0 S Y n (.inRegion ops rest::k) ((d,aS (res.1:Int))::l) (pre++(gw tw tl (ef res.2.bad) bw s'++H))):
  eB P r f R w0 S Y n (.inRegion ops (i::rest)::k) l (pre++(gw tw tl (ef σ.bad) bw s++H)):=by
 refine iP I7 ?_;refine eB.yE hW hsub ho hw hc hx hd hcf hcall (λs' Γ' hW' hg'=>?_);exact iP I7.symm (hk s' Γ' hW' hg')
theorem Gl{h h':Hl}(hm:∀w Y',St w0 S w h Y'->St w0 S w h' Y')(hg:eB P r f R w0 S Y n k l h'):eB P r f R w0 S Y n k l h:=λt w Ds hF hS=>hg t w Ds hF (hm w _ hS)
theorem ik.yE{K:aC->Hl->Prop}{pre hR':Hl}{res:Nat×Sg}(hW:kf tn Γ σ s)(hsub:hR'.Sublist pre)(ho:ops[i]?=some ⟨some d,.call ⟨.value cal,az,ts⟩,ty,pos,aft,g⟩)(hw:eL ops l g=true)
  (hc:eZ l cal=some (.func (.func gf) #[] #[]))(hx:iw l az.toList=some vs)(hd:Nat.blt d n=true)(hcf:∀args w,(callFunc gf args).run P w=.ok (.enter gf args) w)
  (hcall:∀w Y',St w0 S w (pre++gw tw tl (ef σ.bad) bw s) Y'->wJ P tn tw tl ef bw Γ σ gf vs w hR' res)
  (hk:∀s' Γ',kf tn Γ' res.2 s'->Γ⊆Γ'->K (aS (res.1:Int)) (pre++gw tw tl (ef res.2.bad) bw s')):ik P w0 S n (pre++gw tw tl (ef σ.bad) bw s) ops i l d K:=by
 have hp:(pre++gw tw tl (ef σ.bad) bw s).Perm (gw tw tl (ef σ.bad) bw s++pre):=bZ;refine⟨_,ho,rfl,rfl,rfl,hd,.inl ⟨hw,λt w Ds Y' hF' hS=>.inr ⟨gf,vs.toArray,λv w'=>∃h',(∃s' Γ',v=aS (res.1:Int)/\h'=gw tw tl (ef res.2.bad) bw s'/\kf tn Γ' res.2 s'/\Γ⊆Γ')/\St w (gV (gw tw tl (ef σ.bad) bw s)) w' h' [],?_,?_,λv w' ⟨h',h1,h2⟩=>?_⟩⟩⟩;have e1:=mq (P:=P) (ty:=ty) (ts:=ts) (Ds:=Ds) (w:=w) (first:=#[]) (captured:=#[]) hF' hc hx;simp only[execOp,Sem.run_bind,e1,Result.andThen_ok,invoke,hcf];simp;have:=hcall w Y' hS s hW ((hS.perm hp).has.sub (cJ aD hsub));exact Calls.mono this (λe w' ⟨v,h',e1,e2,e3⟩=>⟨v,e1,h',e2,e3⟩);obtain⟨s',Γ',rfl,rfl,hW',hs'⟩:=h1;exact⟨_,((hS.perm hp).frame h2).perm bZ,hk s' Γ' hW' hs'⟩
end
section
variable{ls:List TL}{t:Tr}
theorem zM:∀(xs:List Tr),∃l:List Tr,l.Nodup/\(∀u,u∈l↔u∈xs)/\l.length<=xs.length
 |[]=>⟨[],dP,λ_=>Iff.rfl,dZ _⟩
 |x::xs=>by
  obtain⟨l,h1,h2,h3⟩:=zM xs;by_cases h:x∈l;exact⟨l,h1,λu=>by rw[h2,dS];exact⟨.inr,λe=>e.elim (λe=>by rw[e];exact(h2 x).1 h) id⟩,by simp;omega⟩;exact⟨x::l,List.nodup_cons.2 ⟨h,h1⟩,λu=>by rw[dS,dS,h2],by simp;omega⟩
theorem K0 (h:(pf t).length<=10):eC t:=by
 obtain⟨l,h1,h2,h3⟩:=zM (pf t);exact⟨l,h1,h2,aH⟩
def Oe(t:Tr)(r:Int)(ls:List TL):Bool:=decide ((gv t).length<=200) && (decide (ls.length<400) && (decide (r≠1)||decide ((pf t).length<=10)))
theorem sS {r:Int}{a b:Nat}{g:Int} (h:Oe t r ls=true):gz eC t r a b g ⟨ls,false⟩=(ls.length,⟨ls++[⟨t,r,a,b,g⟩],false⟩):=by
 unfold Oe at h;simp only[di,dB,dg]at h;obtain⟨h1,h2,h3⟩:=h;rw[gz,if_neg];rintro (e|e|e|⟨e1,e2⟩);cases e;exact e h1;dsimp only at e;omega;rcases h3 with h3|h3;exact h3 e1;exact e2 (K0 h3)
theorem BH (h:decide ((gv (eY t)).length<=200)=true):jv t=(eH t).2:=by
 unfold jv;split;rfl;rename_i h2;exact absurd (of_decide_eq_true h:(gv (eY t)).length<=200) h2
theorem Oz:jv pT=eY pT:=by rw[BH (by decide+kernel)];decide+kernel
theorem MX:fg eC false pT ⟨[],false⟩=(0,⟨[⟨eY (rA pT (eY pT)),1,0,0,0⟩],false⟩):=by
 have hc:rz false pT=eY (rA pT (eY pT)):=by unfold rz;rw[if_neg aI,Oz]
 show fg eC false (.leaf 3 0 0 0) _=_;rw[fg,show(Tr.leaf 3 0 0 0)=pT from rfl,hc,fJ,if_neg aI];simp only[List.map_nil,gQ,List.foldr_nil,pk];rw[sS (by decide+kernel)];rfl
theorem yu{g u:Tr}{fr:aq} (hu:u=gQ (fr.map (lg ⟨ls,false⟩)) g)(h:Oe u 1 ls=true):fJ eC g fr ⟨ls,false⟩=pk eC g (fr.map (λn=>(n,lg ⟨ls,false⟩ n))) ls.length ⟨ls++[⟨u,1,0,0,0⟩],false⟩:=by
 rw[fJ,if_neg aL,<-hu,sS h]
theorem uK{g u:Tr}{n m:Nat}{ps:List (Nat×Tr)} (hu:u=gQ (ps.map (·.2)) g)(h:Oe u 10 ls=true):pk eC g ((m,t)::ps) n ⟨ls,false⟩=pk eC g ps ls.length ⟨ls++[⟨u,10,m,n,0⟩],false⟩:=by
 rw[pk,<-hu,sS h]
theorem vQ{l:Int}{σ:Sg}(hg:Good l σ)(hl:0<=l/\l<=6)(h0:0<σ.ls.length){ls:List LV}(hd:ls.map LV.d=σ.ls.map (λx=>x.v.d)):kX l ls=0:=by
 have h1:kX l (σ.ls.map TL.v)=0:=kH.2 ⟨hl,by rw[dD];exact h0,by rw[dD];exact hg.len,hg.ok⟩;exact A8 (by rw[hd,dT];rfl) h1
theorem NF{ls:List LV}{ts:List TL}(hd:ls.map LV.d=ts.map (λx=>x.v.d)){k:Nat}(hk:k<ls.length)(hk2:k<ts.length):ls[k].f.f=bT ts[k].t:=by
 have h1:ls[k].d=ts[k].v.d:=by
  have:=eh (λl=>l[k]?) hd;simpa[hk,hk2]using this
 exact eh LD.f h1
theorem K1:fB ⟨3,0,0,0,0,0⟩ []=bT pT:=by decide+kernel
end
end Go.Proofs.Wit
