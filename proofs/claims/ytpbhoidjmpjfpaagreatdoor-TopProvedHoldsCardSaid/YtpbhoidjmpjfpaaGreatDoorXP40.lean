/- Laws of walks, each under its own conditions. -/
import Derived.Test.YtpbhoidjmpjfpaaGreatDoorXP28
set_option maxRecDepth 100000
set_option maxHeartbeats 40000000
namespace Go.Proofs.Wit
open Go Go.RowKit
structure SP where
  bw:Nat
  bs:Nat
  l:Int
  A:ae
  cA:Nat
  b:List NV
  B:ae
  cB:Nat
  tl:List SV
  x:SV
  full:fi
  Z:ae
  cZ:Nat
  last:aq
def SP.cs(p:SP):af:=#[aQ p.bw,aS p.l,.slice p.A p.b.length p.cA,.slice p.B p.tl.length p.cB,U p.x.d.set,aS p.x.d.fK,aS p.x.d.on,aS p.x.d.e,.slice p.x.fa p.x.d.fr.length p.x.fc,U p.full,.slice p.Z p.last.length p.cZ]
structure SP.At (p:SP) (t:ax) (w:aB):Prop where
  jd:w.heap[p.bs]?=some (.cells p.cs t (0,0))
  fa:FA w p.A p.b
  sa:Sl w p.B (p.tl.flatMap SV.cells)
  P5:oD w p.x.fa p.x.d.fr
  S4:oD w p.Z (p.last.map (λj:Nat=>(j:Int)))
structure SP.R (p:SP) (t:ax) (S:aq) (w:aB):Prop where
  at_:p.At t w
  s1:p.bs∉S
  s2:∀b o,p.A=some ⟨b,o,none⟩->b∉S
  s3:∀b o,p.B=some ⟨b,o,none⟩->b∉S
  s4:∀b o,p.x.fa=some ⟨b,o,none⟩->b∉S
  s5:∀b o,p.Z=some ⟨b,o,none⟩->b∉S
theorem SP.R.ex{p:SP}{t:ax}{S:aq}{w w':aB}(h:p.R t S w)(e:Ex S w w'):p.At t w':=by
 refine⟨?_,h.at_.fa.fD e h.s2,Sl.ex h.at_.sa e h.s3,oD.fD h.at_.P5 e h.s4,oD.fD h.at_.S4 e h.s5⟩;have h1:=h.at_.jd;rw[e.block p.bs (aX.1 h1).1 h.s1];exact h1
theorem SP.At.fD{p:SP}{t:ax}{w w':aB}(h:p.At t w)(e:Ex [] w w'):p.At t w':=⟨e.mu h.jd,h.fa.fD e,Sl.ex h.sa e aL,h.P5.fD e,h.S4.fD e⟩
structure SP.In (p:SP) (t tn ts ti:ax) (hR:Hl):Prop where
  jd:(some p.bs,.cells p.cs t (0,0))∈hR
  fa:∃q sp,(q,jR tn p.b sp)∈hR/\p.A=q.map aP/\(q=none->p.b.length=0)
  sa:∃q sp,(q,oY ts p.tl sp)∈hR/\p.B=q.map aP/\(q=none->p.tl.length=0)
  P5:∃q sp,(q,ob gu ti p.x.d.fr sp)∈hR/\p.x.fa=q.map aP/\(q=none->p.x.d.fr.length=0)
  S4:∃q sp,(q,ob gu ti (p.last.map (λj:Nat=>(j:Int))) sp)∈hR/\p.Z=q.map aP/\(q=none->p.last.length=0)
theorem SP.In.mono{p:SP}{t tn ts ti:ax}{hR hR':Hl}(h:p.In t tn ts ti hR)(hs:hR⊆hR'):p.In t tn ts ti hR':=by
 obtain⟨h1,⟨q2,s2,a2,b2⟩,⟨q3,s3,a3,b3⟩,⟨q4,s4,a4,b4⟩,⟨q5,s5,a5,b5⟩⟩:=h;exact⟨hs h1,⟨q2,s2,hs a2,b2⟩,⟨q3,s3,hs a3,b3⟩,⟨q4,s4,hs a4,b4⟩,⟨q5,s5,hs a5,b5⟩⟩
theorem SP.In.r{p:SP}{t tn ts ti:ax}{hR h0:Hl}{w:aB}(h:p.In t tn ts ti hR)(g:mg w (h0++hR)):p.R t (iR h0) w:=by
 obtain⟨h1,⟨q2,s2,a2,b2,c2⟩,⟨q3,s3,a3,b3,c3⟩,⟨q4,s4,a4,b4,c4⟩,⟨q5,s5,a5,b5,c5⟩⟩:=h;obtain⟨k1,k2⟩:=g.read h1;have hsep:∀{a:ae} {q:ah} {o':Obj},(q,o')∈hR->a=q.map (λb=>(⟨b,0,none⟩:Addr))->∀b o,a=some ⟨b,o,none⟩->b∉iR h0:=λhm e b o e2=>by
  rename_i a q o';subst e;cases q with
  |none=>cases e2
  |some b'=>cases e2;exact(g.read hm).2
 refine⟨⟨k1,?_,?_,?_,?_⟩,k2,hsep a2 b2,hsep a3 b3,hsep a4 b4,hsep a5 b5⟩;rw[b2];cases q2 with
 |none=>rw[aV (c2 rfl)];exact⟨Sl.nil _ _⟩
 |some b=>exact⟨Sl.jd (g.read a2).1⟩
 rw[b3];cases q3 with
 |none=>rw[aV (c3 rfl)];exact Sl.nil _ _
 |some b=>exact Sl.jd (g.read a3).1
 rw[b4];cases q4 with
 |none=>rw[aV (c4 rfl)];exact Sl.nil _ _
 |some b=>exact Sl.jd (g.read a4).1
 rw[b5];cases q5 with
 |none=>rw[aV (c5 rfl)];exact Sl.nil _ _
 |some b=>exact Sl.jd (g.read a5).1
theorem SP.At.part{p:SP}{t:ax}{w:aB}(h:p.At t w){o:Nat}{cs:ai}(hc:∀j,j<cs.length->p.cs[o+j]?=cs[j]?):∀j v,cs[j]?=some v->w.cell? ((⟨p.bs,o,none⟩:Addr).add j)=some v:=λj v hv=>by
 have hj:=(bB.1 hv).1;have e1:(⟨p.bs,o,none⟩:Addr).add j=⟨p.bs,o+j,none⟩:=by
  unfold Addr.add;split;rename_i h0;rw[h0];rfl;rfl
 rw[e1];exact Ex.cell (Ex.refl _ _) h.jd (by rw[hc j hj];exact hv)
structure U9 (S:aq) (w:aB) (a:ae) (xs:ai):Prop where
  at_:Sl w a xs
  sep:∀b o,a=some ⟨b,o,none⟩->b∉S
theorem U9.fD{S:aq}{w0 w:aB}{a:ae}{xs:ai}(h:U9 S w0 a xs)(e:Ex S w0 w):U9 S w a xs:=⟨Sl.ex h.at_ e h.sep,h.sep⟩
theorem SP.R.Vz{p:SP}{t:ax}{S:aq}{w:aB}(h:p.R t S w):U9 S w p.B (p.tl.flatMap SV.cells):=⟨h.at_.sa,h.s3⟩
theorem SP.R.Ni{p:SP}{t:ax}{S:aq}{w:aB}(h:p.R t S w):M7 S w p.A p.b:=⟨h.at_.fa.at_,h.s2⟩
def SP.ag(p:SP):Int:=if p.x.d.fK=7 then p.x.d.on else(nd p.b p.x.d.on).i
def SP.S0(p:SP):fi:=gN (kJ p.tl) (p.x.d.fr.getD 0 0)
def SP.own(p:SP):aq:=if p.x.d.fK=6 then iQ (p.S0 &&& ~~~ bW (nd p.b p.x.d.on).x)else iQ p.S0
def SP.ns(p:SP):aq:=if p.x.d.fK=6 then p.own else p.own.dropLast
def SP.tg(p:SP):Nat:=if p.x.d.fK=6 then(nd p.b p.x.d.on).x.toNat else p.own.getLastD 0
def SP.line(p:SP):Nat:=p.last.getD (p.x.d.fr.getD 0 0).toNat 0
structure SP.Ok (p:SP) (k:Nat):Prop where
  base:fS p.b
  full:jw p.b p.full
  rf:jr p.l p.b (kJ p.tl) k p.x.d
  W8:k<p.tl.length
  T4:p.last.length=k
  xA:∀j:Nat,j<p.tl.length->jw p.b (gN (kJ p.tl) (j:Int))
  ne:∀j:Nat,j<p.tl.length->iQ (gN (kJ p.tl) (j:Int))≠[]
  V4:p.x.d.fK=6\/p.x.d.fK=7->∀n∈p.own,lP p.b p.full p.ag n=n->(nd p.b n).op=9\/(nd p.b n).op=10
  Xl:p.x.d.fK=6\/p.x.d.fK=7->0<=p.ag/\p.ag<4
noncomputable def T3(p:SP)(G:Tr)(σ:Sg):Nat×Sg:=B0 fg p.b G p.full p.ag p.ns p.tg p.own (decide (p.x.d.fK=6)) p.line σ
theorem N6{s u:fi}{n:Nat}(h:n∈iQ (s &&& u)):n∈iQ s:=jy.2 (by
 have:=jy.1 h;rw[dc,dG]at this;exact this.1)
theorem SP.GR{p:SP}{n:Nat}(h:n∈p.own):n∈iQ p.S0:=by
 unfold SP.own at h;split at h;exact N6 h;exact h
theorem SP.Rk{p:SP}{n:Nat}(h:n∈p.ns):n∈p.own:=by
 unfold SP.ns at h;split at h;exact h;exact(List.dropLast_sublist _).subset h
theorem N8{s:fi}:(iQ s).length<=64:=by
 have:=List.length_filter_le (λi=>s.getLsbD i) (List.range 64);simpa[iQ]using this
theorem SP.Og{p:SP}:p.own.length<=64:=by unfold SP.own;split<;>exact N8
theorem SP.Om{p:SP}:p.own.take p.ns.length=p.ns:=by
 unfold SP.ns;split;exact dR;rw[List.length_dropLast,List.dropLast_eq_take]
theorem SP.TV{p:SP}:p.ns.length<=p.own.length:=by
 unfold SP.ns;split;exact eR _;rw[List.length_dropLast];omega
section
variable{P:av}{tn tw tl:ax}{er:aC}{bw:Nat}{Γ:List FV}{σ:Sg}{s:Ws}
variable{r:ah}{f:ay}{R:aC->aB->Prop}{w0:aB}{S:aq}{Y:List (Nat×Obj)}{n:Nat}{k:al}{l:Fl}{ops:aj}{i d:Nat}{rest:aq}{ty:ax}{pos:aA}{aft:ak}{g:Option (Nat×Bool)}
variable{az:aa}{ts:ab}{cal:au}{gf:ay}{vs:ai}{u:Tr}
theorem ff.Ng{pre:Hl}{y:FV}(hW:lz tn Γ σ s)(hy:y∈Γ)(hyz:y.Z)(ho:ops[i]?=some ⟨some d,.call ⟨.value cal,az,ts⟩,ty,pos,aft,g⟩)(hw:fE ops l g=true)
  (hc:fW l cal=some (.func (.func gf) #[] #[]))(hx:iW l az.toList=some vs)(hd:Nat.blt d n=true)(hcf:∀args w,(callFunc gf args).run P w=.ok (.enter gf args) w)
  (hcall:∀w Y',St w0 S w (pre++iB tw tl er bw s) Y'->Cn P gf vs w (λv w'=>(v=y.v/\y.f=bT u)\/mL tn w w' v (bT u)))
  (hk:∀x s' Γ',x∈Γ'->Γ⊆Γ'->x.f=bT u->x.Z->lz tn Γ' σ s'->ff P r f R w0 S Y n (.inRegion ops rest::k) ((d,x.v)::l) (pre++iB tw tl er bw s')):
  ff P r f R w0 S Y n (.inRegion ops (i::rest)::k) l (pre++iB tw tl er bw s):=by
 refine ff.vM (λw v w'=>(v=y.v/\y.f=bT u)\/mL tn w w' v (bT u)) ho hw hc hx hd hcf hcall (λv w w' Y' hS he hO=>?_);rcases hO with⟨rfl,hf⟩|⟨ho,hz⟩;exact⟨_,hS.later he,hk y s Γ hy (λ_ h=>h) hf hyz hW⟩;obtain⟨q,cap,sp,rfl,hq,fB,hS'⟩:=fR hS he ho;refine⟨_,hS'.perm ve,?_⟩;rw[pw];refine hk _ _ _ aF (λ_ h=>cM _ h) rfl (λe=>?_) (hW.add hq oB);have:=hz e;cases q with
 |none=>rfl
 |some b=>cases this
end
section
variable{P:av}{tn tw tl:ax}{er:aC}{ef:Bool->aC}{bw:Nat}{Γ:List FV}{σ:Sg}{s:Ws}
variable{r:ah}{f:ay}{R:aC->aB->Prop}{w0:aB}{S:aq}{Y:List (Nat×Obj)}{n:Nat}{k:al}{l:Fl}{ops:aj}{i d:Nat}{ty:ax}{pos:aA}{aft:ak}{g:Option (Nat×Bool)}
variable{az:aa}{ts:ab}{cal:au}{gf:ay}{vs:ai}{u:Tr}{hb:Hl}{q:Nat}{Dn:aq}{h:Hl}
theorem gi.two{i j d e:Nat}(h1:fL ops Dn=[i,j])(hi:jq P w0 S n h ops i l d (λv h'=>hb.Sublist h'/\gi P r f R w0 S Y n k ops hb q (i::Dn) ((d,v)::l) h'))(hd:Nat.blt d n=true)(hj:jq P w0 S n h ops j l e (λv h'=>hb.Sublist h'/\gi P r f R w0 S Y n k ops hb q (j::Dn) ((e,v)::l) h'))(he:Nat.blt e n=true):gi P r f R w0 S Y n k ops hb (q+1) Dn l h:=by
 intro t hF;rw[Dt];refine .inr ⟨by rw[h1];simp,λm hm=>?_⟩;rw[h1]at hm;simp only[eH,dO,eX]at hm;rcases hm with rfl|rfl;exact ml.of hi hF (λv h' ⟨e1,e2⟩=>⟨e1,e2 _ (hF.put v hd)⟩);exact ml.of hj hF (λv h' ⟨e1,e2⟩=>⟨e1,e2 _ (hF.put v he)⟩)
theorem jq.Ng{K:aC->Hl->Prop}{pre:Hl}{y:FV}(hW:lz tn Γ σ s)(hy:y∈Γ)(hyz:y.Z)(ho:ops[i]?=some ⟨some d,.call ⟨.value cal,az,ts⟩,ty,pos,aft,g⟩)(hw:fE ops l g=true)
  (hc:fW l cal=some (.func (.func gf) #[] #[]))(hx:iW l az.toList=some vs)(hd:Nat.blt d n=true)(hcf:∀args w,(callFunc gf args).run P w=.ok (.enter gf args) w)
  (hcall:∀w Y',St w0 S w (pre++iB tw tl er bw s) Y'->Cn P gf vs w (λv w'=>(v=y.v/\y.f=bT u)\/mL tn w w' v (bT u)))
  (hk:∀x s' Γ',x∈Γ'->Γ⊆Γ'->x.f=bT u->x.Z->lz tn Γ' σ s'->K x.v (pre++iB tw tl er bw s')):jq P w0 S n (pre++iB tw tl er bw s) ops i l d K:=by
 refine jq.call (λw v w'=>(v=y.v/\y.f=bT u)\/mL tn w w' v (bT u)) ho hw hc hx hd hcf hcall (λv w w' Y' hS he hO=>?_);rcases hO with⟨rfl,hf⟩|⟨ho,hz⟩;exact⟨_,hS.later he,hk y s Γ hy (λ_ h=>h) hf hyz hW⟩;obtain⟨q,cap,sp,rfl,hq,fB,hS'⟩:=fR hS he ho;refine⟨_,hS'.perm ve,?_⟩;rw[pw];refine hk _ _ _ aF (λ_ h=>cM _ h) rfl (λe=>?_) (hW.add hq oB);have:=hz e;cases q with
 |none=>rfl
 |some b=>cases this
theorem jq.xX{K:aC->Hl->Prop}{pre:Hl}(hW:lz tn Γ σ s)(ho:ops[i]?=some ⟨some d,.call ⟨.value cal,az,ts⟩,ty,pos,aft,g⟩)(hw:fE ops l g=true)
  (hc:fW l cal=some (.func (.func gf) #[] #[]))(hx:iW l az.toList=some vs)(hd:Nat.blt d n=true)(hcf:∀args w,(callFunc gf args).run P w=.ok (.enter gf args) w)
  (hcall:∀w Y',St w0 S w (pre++iB tw tl er bw s) Y'->Cn P gf vs w (λv w'=>mL tn w w' v (bT u)))
  (hk:∀x s',x.f=bT u->x.Z->lz tn (x::Γ) σ s'->K x.v (pre++iB tw tl er bw s')):jq P w0 S n (pre++iB tw tl er bw s) ops i l d K:=by
 refine jq.call (λw v w'=>mL tn w w' v (bT u)) ho hw hc hx hd hcf hcall (λv w w' Y' hS he hO=>?_);obtain⟨ho,hz⟩:=hO;obtain⟨q,cap,sp,rfl,hq,fB,hS'⟩:=fR hS he ho;refine⟨_,hS'.perm ve,?_⟩;rw[pw];refine hk _ _ rfl (λe=>?_) (hW.add hq oB);have:=hz e;cases q with
 |none=>rfl
 |some b=>cases this
theorem jq.Fk{K:aC->Hl->Prop}{pre:Hl}(hW:lz tn Γ σ s)(ho:ops[i]?=some ⟨some d,.call ⟨.value cal,az,ts⟩,ty,pos,aft,g⟩)(hw:fE ops l g=true)
  (hc:fW l cal=some (.func (.func gf) #[] #[]))(hx:iW l az.toList=some vs)(hd:Nat.blt d n=true)(hcf:∀args w,(callFunc gf args).run P w=.ok (.enter gf args) w)
  (hcall:∀w Y',St w0 S w (pre++iB tw tl er bw s) Y'->Cn P gf vs w (λv w'=>fQ tn w w' v (bT u)))
  (hk:∀x s',x.f=bT u->lz tn (x::Γ) σ s'->K x.v (pre++iB tw tl er bw s')):jq P w0 S n (pre++iB tw tl er bw s) ops i l d K:=by
 refine jq.call (λw v w'=>fQ tn w w' v (bT u)) ho hw hc hx hd hcf hcall (λv w w' Y' hS he hO=>?_);obtain⟨q,cap,sp,rfl,hq,fB,hS'⟩:=fR hS he hO;refine⟨_,hS'.perm ve,?_⟩;rw[pw];exact hk _ _ rfl (hW.add hq oB)
theorem jq.j9{K:aC->Hl->Prop}{pre hR hR':Hl}{s0:Ws}{er0:aC}{res:Nat×Sg}(h0:mg w0 (iB tw tl er0 bw s0++hR))(hW:lz tn Γ σ s)(hsub:hR'.Sublist (pre++hR))(ho:ops[i]?=some ⟨some d,.call ⟨.value cal,az,ts⟩,ty,pos,aft,g⟩)(hw:fE ops l g=true)
  (hc:fW l cal=some (.func (.func gf) #[] #[]))(hx:iW l az.toList=some vs)(hd:Nat.blt d n=true)(hcf:∀args w,(callFunc gf args).run P w=.ok (.enter gf args) w)
  (hcall:∀w Y',St w0 (iR (iB tw tl er0 bw s0)) w (pre++iB tw tl (ef σ.bad) bw s) Y'->AD P tn tw tl ef bw Γ σ gf vs w hR' res)
  (hk:∀s' Γ',lz tn Γ' res.2 s'->Γ⊆Γ'->K (aS (res.1:Int)) (pre++iB tw tl (ef res.2.bad) bw s')):jq P w0 (iR (iB tw tl er0 bw s0)) n (pre++iB tw tl (ef σ.bad) bw s) ops i l d K:=by
 have hp:(pre++iB tw tl (ef σ.bad) bw s).Perm (iB tw tl (ef σ.bad) bw s++pre):=cG;refine⟨_,ho,rfl,rfl,rfl,hd,.inl ⟨hw,λt w Ds Y' hF' hS=>.inr ⟨gf,vs.toArray,λv w'=>∃h',(∃s' Γ',v=aS (res.1:Int)/\h'=iB tw tl (ef res.2.bad) bw s'/\lz tn Γ' res.2 s'/\Γ⊆Γ')/\St w (iR (iB tw tl (ef σ.bad) bw s)) w' h' [],?_,?_,λv w' ⟨h',h1,h2⟩=>?_⟩⟩⟩;have e1:=lR (P:=P) (ty:=ty) (ts:=ts) (Ds:=Ds) (w:=w) (first:=#[]) (captured:=#[]) hF' hc hx;simp only[execOp,Sem.run_bind,e1,Result.andThen_ok,invoke,hcf];simp;have:=hcall w Y' hS s hW ((h0.stay hS).sub (cX aD hsub));exact Calls.mono this (λe w' ⟨v,h',e1,e2,e3⟩=>⟨v,e1,h',e2,e3⟩);obtain⟨s',Γ',rfl,rfl,hW',hs'⟩:=h1;exact⟨_,((hS.perm hp).frame h2).perm cG,hk s' Γ' hW' hs'⟩
end
theorem Gy{w:aB}{a:ae}{xs:ai}(h:Sl w a xs)(n:Nat):Sl w a (xs.take n):=by
 refine⟨λhp=>h.isSome (by rw[dN]at hp;omega),λj hj=>?_⟩;rw[dN]at hj;rw[h.cell j aH];simp[show j<n by omega]
section
variable{l:Int}{b:List NV}{L:List SD}
theorem Mt(hb:fS b){s:fi}{a:Int}{n:Nat}(hn:(m4 l b s a).getLsbD n=true)(he:lP b s a n=n):(nd b n).op=9\/(nd b n).op=10:=by
 obtain⟨z,_,h⟩:=zN hb hn he;obtain⟨i,h1,_⟩:=(oz hb).1 hn;have hnb:n<b.length:=by
  rcases h with⟨h,_⟩|⟨h,_⟩
  all_goals
   refine bj λe=>?_;have:fe b n=fe b n:=rfl;obtain⟨i,h1,h2,h3,h4⟩:=(oz hb).1 hn;rcases h4 with⟨h4,h5⟩|⟨h4,_⟩;have:=hb.x h1 aH;omega;omega
 rcases hb.node hnb with⟨g1,g2⟩|⟨g1,g2⟩|⟨g1,g2⟩;rcases h with⟨h,_⟩|⟨h,_⟩<;>rw[g2]at h<;>cases h
 rcases h with⟨h,_⟩|⟨h,_⟩<;>rw[g2]at h<;>injection h with h1<;>omega
 rcases h with⟨h,_⟩|⟨h,_⟩<;>rw[g2]at h<;>cases h
theorem kQ.Vv(h:kQ l b L){p:SP}{q:Nat}(e1:p.l=l)(e2:p.b=b)(e3:kJ p.tl=jD b L)(hq:q<p.tl.length)(e4:p.x=p.tl[q])(e5:p.full=(jl L L.length).getD q 0#64)(e6:p.last.length=q):p.Ok q:=by
 have hb:=h.base;have ht:=h.tr;have htl:p.tl.length=(jD b L).length:=by rw[<-e3,iU]
 have hqt:q<(jD b L).length:=aH;have hxd:p.x.d=(jD b L)[q]:=by
  rw[e4];have:(kJ p.tl)[q]'(by rw[iU];exact hq)=p.tl[q].d:=qz hq;rw[<-this];simp only[e3]
 obtain⟨k,hk,hn,hkq,htq⟩:=ES hqt;have hfull:p.full=L[k].set:=by rw[e5,aY,<-hkq,B7 hn (eR _) hk hk];rfl
 have hcor:=ht.rf q hqt;rw[<-hxd]at hcor htq;have hru:p.x.d.fK=L[k].fK:=by rw[htq];rfl
 have hon:p.x.d.on=L[k].on:=by rw[htq];rfl
 have hfr:p.x.d.fr=L[k].fr.map (λj=>((gq (iS L) j.toNat:Nat):Int)):=by rw[htq];rfl
 have hS0:∀j:Nat,L[k].fr=[(j:Int)]->p.S0=xv b L j:=λj hj=>by
  have hm:(j:Int)∈L[k].fr:=by rw[hj];simp
  unfold SP.S0;rw[hfr,hj,e3];exact BF (by have:=(h.pre hk hn hm).2.1;omega) (h.pre hk hn hm).1
 have kz:=h.P8 hk;have hag9:∀{o:Nat},o<b.length->(nd b o).op=10->0<=(nd b o).i/\(nd b o).i<4:=λ{o} ho h2=>by
  have hok:=hb.ok ho;rcases hb.node ho with⟨g1,g2⟩|⟨g1,g2⟩|⟨g1,g2⟩;omega;rw[g2]at hok;exact(tY hok aH).1;omega
 refine⟨e2 ▸ hb,?_,?_,hq,e6,λj hj=>?_,λj hj=>?_,λh67 n hno hsn=>?_,λh67=>?_⟩;rw[hfull,e2];exact(h.rf k hk).1;rw[e1,e2,e3];exact hcor;rw[e3,e2,jx aH];exact(ht.rf j aH).1;obtain⟨n,h1,_⟩:=ht.LO j aH;have h2:=ht.sub j aH n h1;rw[e3,jx aH];exact λe=>by have:=jy.2 h2;rw[e]at this;cases this
 rw[e2]at hsn⊢;have hns:=SP.GR hno;cases kz with
 |O7 o g1=>omega
 |neg o e g1=>omega
 |and o j g1=>omega
 |or o j i g1=>omega
 |cut o e j i g1=>omega
 |t o j g1=>omega
 |k o j g1 g2 g3 g4 g5 g6 g7 g8 g9 g10=>
  have hag:p.ag=(nd b o).i:=by unfold SP.ag;rw[if_neg aH,e2,hon,g5]
  rw[hS0 j g3]at hns;have hnx:(n:Int)≠(nd b o).x:=λe=>by
   have hx:=hb.x g6 aH;unfold SP.own at hno;rw[if_pos aH,jy,nm,e2,hon,g5,rN (by have:=hb.len;omega)]at hno;exact hno.2 e
  have:=g9 n (by
   have hm:(j:Int)∈L[k].fr:=by rw[g3];simp
   have:=(h.pre hk hn hm).2.1;rw[jx aH];exact h.sub j aH n (jy.1 hns));rw[hag,hfull]at hsn;exact Mt hb (this.resolve_right hnx) hsn
 |d j g1 g2 g3 g4 g5 g6 g7 g8=>
  have hag:p.ag=L[k].on:=by unfold SP.ag;rw[if_pos aH,hon]
  rw[hS0 j g4]at hns;rw[hag,hfull]at hsn;exact Mt hb (g7 n (by
   have hm:(j:Int)∈L[k].fr:=by rw[g4];simp
   have:=(h.pre hk hn hm).2.1;rw[jx aH];exact h.sub j aH n (jy.1 hns))) hsn
 cases kz with
 |O7 o g1=>omega
 |neg o e g1=>omega
 |and o j g1=>omega
 |or o j i g1=>omega
 |cut o e j i g1=>omega
 |t o j g1=>omega
 |k o j g1 g2 g3 g4 g5 g6 g7 g8 g9 g10=>
  unfold SP.ag;rw[if_neg aH,e2,hon,g5];exact hag9 g6 g8
 |d j g1 g2 g3 g4 g5 g6 g7 g8=>
  unfold SP.ag;rw[if_pos aH,hon];exact g6
theorem Dh{T:Tr->Prop}{tl:List SD}{fl:List fi}{q:Nat}:∀{r:Nat},q<=r->r<=tl.length->(gj T b tl fl q).2.Le (gj T b tl fl r).2
 |0,h,_=>by rw[show q=0 by omega];exact Sg.Le.refl _
 |r+1,h,h2=>by
  by_cases e:q=r+1;rw[e];exact Sg.Le.refl _;refine(Dh (r:=r) aH aH).trans ?_;rw[kE aH];exact C2
theorem Oc{T:Tr->Prop}:(gj T b (jD b L) (jl L L.length) (jD b L).length).2.Le (kS T b L).2:=by
 unfold kS;dsimp only;split;exact Sg.Le.refl _;exact jz
open Classical in
noncomputable def Fa(l:Int)(b:List NV)(L:List SD):Int:=if Aj l b L≠0 then Aj l b L else if (kS fg b L).2.bad=true then 8 else 0
noncomputable def Nd(b:List NV)(L:List SD):List LD:=(kS fg b L).2.ls.map (λx=>x.v.d)
end
section
variable{P:av}{tn tw tl:ax}{ef:Bool->aC}{bw:Nat}{Γ:List FV}{σ:Sg}{s:Ws}
variable{r:ah}{f:ay}{R:aC->aB->Prop}{w0:aB}{S:aq}{Y:List (Nat×Obj)}{n:Nat}{k:al}{l:Fl}{ops:aj}{i d:Nat}{rest:aq}{ty:ax}{pos:aA}{aft:ak}{g:Option (Nat×Bool)}
variable{az:aa}{ts:ab}{cal:au}{gf:ay}{vs:ai}
theorem Qb{pre H:Hl}{er:aC}:(pre++(iB tw tl er bw s++H)).Perm ((pre++H)++iB tw tl er bw s):=by
 rw[dA];exact List.Perm.append_left pre cG
theorem Gl{pre H hR':Hl}{res:Nat×Sg}(hW:lz tn Γ σ s)(hsub:hR'.Sublist (pre++H))(ho:ops[i]?=some ⟨some d,.call ⟨.value cal,az,ts⟩,ty,pos,aft,g⟩)(hw:fE ops l g=true)
  (hc:fW l cal=some (.func (.func gf) #[] #[]))(hx:iW l az.toList=some vs)(hd:Nat.blt d n=true)(hcf:∀args w,(callFunc gf args).run P w=.ok (.enter gf args) w)
  (hcall:∀w Y',St w0 S w ((pre++H)++iB tw tl (ef σ.bad) bw s) Y'->AD P tn tw tl ef bw Γ σ gf vs w hR' res)
  (hk:∀s' Γ',lz tn Γ' res.2 s'->Γ⊆Γ'->ff P r f R w0 S Y n (.inRegion ops rest::k) ((d,aS (res.1:Int))::l) (pre++(iB tw tl (ef res.2.bad) bw s'++H))):
  ff P r f R w0 S Y n (.inRegion ops (i::rest)::k) l (pre++(iB tw tl (ef σ.bad) bw s++H)):=by
 refine jI Qb ?_;refine ff.Cs hW hsub ho hw hc hx hd hcf hcall (λs' Γ' hW' hg'=>?_);exact jI Qb.symm (hk s' Γ' hW' hg')
theorem M4{h h':Hl}(hm:∀w Y',St w0 S w h Y'->St w0 S w h' Y')(hg:ff P r f R w0 S Y n k l h'):ff P r f R w0 S Y n k l h:=λt w Ds hF hS=>hg t w Ds hF (hm w _ hS)
theorem jq.Cs{K:aC->Hl->Prop}{pre hR':Hl}{res:Nat×Sg}(hW:lz tn Γ σ s)(hsub:hR'.Sublist pre)(ho:ops[i]?=some ⟨some d,.call ⟨.value cal,az,ts⟩,ty,pos,aft,g⟩)(hw:fE ops l g=true)
  (hc:fW l cal=some (.func (.func gf) #[] #[]))(hx:iW l az.toList=some vs)(hd:Nat.blt d n=true)(hcf:∀args w,(callFunc gf args).run P w=.ok (.enter gf args) w)
  (hcall:∀w Y',St w0 S w (pre++iB tw tl (ef σ.bad) bw s) Y'->AD P tn tw tl ef bw Γ σ gf vs w hR' res)
  (hk:∀s' Γ',lz tn Γ' res.2 s'->Γ⊆Γ'->K (aS (res.1:Int)) (pre++iB tw tl (ef res.2.bad) bw s')):jq P w0 S n (pre++iB tw tl (ef σ.bad) bw s) ops i l d K:=by
 have hp:(pre++iB tw tl (ef σ.bad) bw s).Perm (iB tw tl (ef σ.bad) bw s++pre):=cG;refine⟨_,ho,rfl,rfl,rfl,hd,.inl ⟨hw,λt w Ds Y' hF' hS=>.inr ⟨gf,vs.toArray,λv w'=>∃h',(∃s' Γ',v=aS (res.1:Int)/\h'=iB tw tl (ef res.2.bad) bw s'/\lz tn Γ' res.2 s'/\Γ⊆Γ')/\St w (iR (iB tw tl (ef σ.bad) bw s)) w' h' [],?_,?_,λv w' ⟨h',h1,h2⟩=>?_⟩⟩⟩;have e1:=lR (P:=P) (ty:=ty) (ts:=ts) (Ds:=Ds) (w:=w) (first:=#[]) (captured:=#[]) hF' hc hx;simp only[execOp,Sem.run_bind,e1,Result.andThen_ok,invoke,hcf];simp;have:=hcall w Y' hS s hW ((hS.perm hp).has.sub (cX aD hsub));exact Calls.mono this (λe w' ⟨v,h',e1,e2,e3⟩=>⟨v,e1,h',e2,e3⟩);obtain⟨s',Γ',rfl,rfl,hW',hs'⟩:=h1;exact⟨_,((hS.perm hp).frame h2).perm cG,hk s' Γ' hW' hs'⟩
end
section
variable{ls:List TL}{t:Tr}
theorem D7:∀(xs:List Tr),∃l:List Tr,l.Nodup/\(∀u,u∈l↔u∈xs)/\l.length<=xs.length
 |[]=>⟨[],eE,λ_=>Iff.rfl,eR _⟩
 |x::xs=>by
  obtain⟨l,h1,h2,h3⟩:=D7 xs;by_cases h:x∈l;exact⟨l,h1,λu=>by rw[h2,eH];exact⟨.inr,λe=>e.elim (λe=>by rw[e];exact(h2 x).1 h) id⟩,by simp;omega⟩;exact⟨x::l,ej.2 ⟨h,h1⟩,λu=>by rw[eH,eH,h2],by simp;omega⟩
theorem R8 (h:(rS t).length<=10):fg t:=by
 obtain⟨l,h1,h2,h3⟩:=D7 (rS t);exact⟨l,h1,h2,aH⟩
def Vj(t:Tr)(r:Int)(ls:List TL):Bool:=decide ((iA t).length<=200) && (decide (ls.length<400) && (decide (r≠1)||decide ((rS t).length<=10)))
theorem vS {r:Int}{a b:Nat}{g:Int} (h:Vj t r ls=true):iy fg t r a b g ⟨ls,false⟩=(ls.length,⟨ls++[⟨t,r,a,b,g⟩],false⟩):=by
 unfold Vj at h;simp only[dG,dV,dE]at h;obtain⟨h1,h2,h3⟩:=h;rw[iy,if_neg];rintro (e|e|e|⟨e1,e2⟩);cases e;exact e h1;dsimp only at e;omega;rcases h3 with h3|h3;exact h3 e1;exact e2 (R8 h3)
theorem GU (h:decide ((iA (fU t)).length<=200)=true):jT t=(fC t).2:=by
 unfold jT;split;rfl;rename_i h2;exact absurd (of_decide_eq_true h:(iA (fU t)).length<=200) h2
theorem VC:jT pT=fU pT:=by rw[GU (by decide+kernel)];decide+kernel
theorem T5:fX fg false pT ⟨[],false⟩=(0,⟨[⟨fU (uj pT (fU pT)),1,0,0,0⟩],false⟩):=by
 have hc:uh false pT=fU (uj pT (fU pT)):=by unfold uh;rw[if_neg aI,VC]
 show fX fg false (.leaf 3 0 0 0) _=_;rw[fX,show(Tr.leaf 3 0 0 0)=pT from rfl,hc,gw,if_neg aI];simp only[List.map_nil,iK,List.foldr_nil,qP];rw[vS (by decide+kernel)];rfl
theorem Ci{g u:Tr}{fr:aq} (hu:u=iK (fr.map (l8 ⟨ls,false⟩)) g)(h:Vj u 1 ls=true):gw fg g fr ⟨ls,false⟩=qP fg g (fr.map (λn=>(n,l8 ⟨ls,false⟩ n))) ls.length ⟨ls++[⟨u,1,0,0,0⟩],false⟩:=by
 rw[gw,if_neg aL,<-hu,vS h]
theorem xW{g u:Tr}{n m:Nat}{ps:List (Nat×Tr)} (hu:u=iK (ps.map (·.2)) g)(h:Vj u 10 ls=true):qP fg g ((m,t)::ps) n ⟨ls,false⟩=qP fg g ps ls.length ⟨ls++[⟨u,10,m,n,0⟩],false⟩:=by
 rw[qP,<-hu,vS h]
theorem zn{l:Int}{σ:Sg}(hg:Good l σ)(hl:0<=l/\l<=6)(h0:0<σ.ls.length){ls:List LV}(hd:ls.map LV.d=σ.ls.map (λx=>x.v.d)):lG l ls=0:=by
 have h1:lG l (σ.ls.map TL.v)=0:=lZ.2 ⟨hl,by rw[dY];exact h0,by rw[dY];exact hg.len,hg.ok⟩;exact Ga (by rw[hd,eK];rfl) h1
theorem UQ{ls:List LV}{ts:List TL}(hd:ls.map LV.d=ts.map (λx=>x.v.d)){k:Nat}(hk:k<ls.length)(hk2:k<ts.length):ls[k].f.f=bT ts[k].t:=by
 have h1:ls[k].d=ts[k].v.d:=by
  have:=eV (λl=>l[k]?) hd;simpa[hk,hk2]using this
 exact eV LD.f h1
theorem R9:gh ⟨3,0,0,0,0,0⟩ []=bT pT:=by decide+kernel
end
end Go.Proofs.Wit
