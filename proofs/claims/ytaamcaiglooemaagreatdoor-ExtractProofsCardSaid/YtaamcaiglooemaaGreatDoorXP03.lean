/- Laws of walks, each under its own conditions. -/
import Derived.Test.YtaamcaiglooemaaGreatDoorXP02
import Derived.MapKept
set_option maxRecDepth 100000
set_option maxHeartbeats 40000000
namespace Go.Proofs.Wit
open Go Go.RowKit
def zk(ops:aj)(_l:Fl)(c:Nat):Bool:=
 Nat.blt c ops.size &&
 (List.range ops.size).all (λi=>(iM ops i).all (λj=>Nat.blt j i)) &&
 (List.range (c+1)).all (λi=>match ops[i]? with
  |none=>false
  |some o=>lG o.op && match o.dst with
   |none=>false
   |some d=>(List.range (c+1)).all (λj=>Nat.beq j i||!(hJ ops j==some d)) &&
    (mF ops o).all (λs=>(List.range (c+1)).all (λj=>!(hJ ops j==some s)||(iM ops i).contains j))) &&
 (List.range' (c+1) (ops.size - (c+1))).all (λi=>(List.range (c+1)).all (λj=>(iM ops i).contains j)||(iM ops i).any (λj=>Nat.blt c j)) &&
 forced ops (List.range (c+1)) (List.range' (c+1) (ops.size - (c+1)))
section
variable{P:av}{r:ah}{f:ay}{R:aC->aB->Prop}{w0:aB}{S:aq}{Y:List (Nat×Obj)}{n:Nat}{k:al}{l:Fl}{h:Hl}{ops:aj}
structure xo (ops:aj) (c:Nat):Prop where
  size:c<ops.size
  lt:∀i,i<ops.size->∀j∈iM ops i,j<i
  E5:∀i,i<=c->∀o,ops[i]?=some o->lG o.op=true
  inj:∀i j d,i<=c->j<=c->hJ ops i=some d->hJ ops j=some d->i=j
  Kw:∀i,i<=c->∀o,ops[i]?=some o->∀s∈mF ops o,∀j,j<=c->hJ ops j=some s->j∈iM ops i
  late:∀i,c<i->i<ops.size->(∀j,j<=c->j∈iM ops i)\/∃j∈iM ops i,c<j
  Mt:forced ops (List.range (c+1)) (List.range' (c+1) (ops.size - (c+1)))=true
theorem D6{c:Nat}(hc:zk ops l c=true):xo ops c:=by
 simp only[zk,dx,dy,ec,eI,dK,bV,List.any_eq_true,List.mem_range'_1]at hc;obtain⟨⟨⟨⟨hsz,hlt⟩,hr⟩,hla⟩,hfo⟩:=hc;have hat:∀i,i<=c->∃o d,ops[i]?=some o/\o.dst=some d/\lG o.op=true/\(∀j,j<=c->j=i\/hJ ops j≠some d)/\(∀s∈mF ops o,∀j,j<=c->hJ ops j≠some s\/j∈iM ops i):=by
  intro i hi;have:=hr i aH;cases ho:ops[i]? with
  |none=>simp[ho]at this
  |some o=>
   cases hd:o.dst with
   |none=>simp[ho,hd]at this
   |some d=>
    simp only[ho,hd,dx,dy,ec,dK,Nat.beq_eq,dh,cR,bV]at this;exact⟨o,d,rfl,hd,this.1,λj hj=>this.2.1 j aH,λs hs j hj=>this.2.2 s hs j aH⟩
 refine⟨hsz,hlt,λi hi o ho=>?_,λi j d hi hj h1 h2=>?_,λi hi o ho s hs j hj hd=>?_,λi h1 h2=>?_,hfo⟩;obtain⟨o',d,e1,_,e3,_⟩:=hat i hi;rw[ho]at e1;cases e1;exact e3;obtain⟨o,d',e1,e2,_,e5,_⟩:=hat i hi;have:d'=d:=by simp[hJ,e1,e2]at h1;exact h1
 subst this;rcases e5 j hj with e|e;exact e.symm;exact absurd h2 e;obtain⟨o',d,e1,_,_,_,e6⟩:=hat i hi;rw[ho]at e1;cases e1;rcases e6 s hs j hj with e|e;exact absurd hd e;exact e;rcases hla i ⟨aH,aH⟩with e|⟨j,e1,e2⟩;exact .inl (λj hj=>e j aH);exact .inr ⟨j,e1,e2⟩
def Hu(P:av)(w0:aB)(S:aq)(n:Nat)(Hs:Hl->Prop)(ops:aj)(F:af->Prop):Nat->Nat->af->Prop
 |_,0,t=>F t
 |i,m+1,t=>∃d v,(∀h',Hs h'->oJ P w0 S n h' ops i t d v)/\Hu P w0 S n Hs ops F (i+1) m (t.setIfInBounds d v)
theorem Hu.seq{Hs:Hl->Prop}{F:af->Prop}:∀{m i:Nat} {t:af},Hu P w0 S n Hs ops F i m t->∃(D:Nat->Nat) (V:Nat->aC),(∀j,j<m->∀h',Hs h'->oJ P w0 S n h' ops (i+j) (vC D V t j) (D j) (V j))/\F (vC D V t m)
 |0,_,t,hF=>⟨λ_=>0,λ_=>undef,λj hj=>aH,hF⟩
 |m+1,i,t,⟨d,v,ho,hr⟩=>by
  obtain⟨D,V,h1,h2⟩:=Hu.seq hr;refine⟨λj=>match j with|0=>d|j+1=>D j,λj=>match j with|0=>v|j+1=>V j,λj hj=>?_,?_⟩;cases j with
  |zero=>exact ho
  |succ j=>
   have:=h1 j aH;rw[show i+(j+1)=i+1+j from aH,pX];exact this
  rw[pX];exact h2
def tE(P:av)(w0:aB)(S:aq)(n:Nat)(Hs:Hl->Prop)(ops:aj)(F:Fl->Prop)(i m:Nat)(l:Fl):Prop:=
 ∀t,nS n t l->Hu P w0 S n Hs ops (λt'=>∃l',nS n t' l'/\F l') i m t
theorem tE.nil{Hs:Hl->Prop}{F:Fl->Prop}{i:Nat}(hg:F l):tE P w0 S n Hs ops F i 0 l:=λ_ hF=>⟨l,hF,hg⟩
theorem tE.v{Hs:Hl->Prop}{F:Fl->Prop}{i m:Nat}(d:Nat)(v:aC)(hd:Nat.blt d n=true)(hv:∀h',Hs h'->eS P w0 S n h' ops i l d v)(hg:tE P w0 S n Hs ops F (i+1) m ((d,v)::l)):tE P w0 S n Hs ops F i (m+1) l:=by
 intro t hF;refine⟨d,v,λh' hh=>?_,hg _ (hF.put v hd)⟩;obtain⟨o,ho,hw,hdst,hnd,hd,hr⟩:=hv h' hh;exact⟨o,ho,hdst,by simpa[eI]using hd,hnd,.inl ⟨kH hF hw,λw Ds Y' hS=>by obtain⟨nx,h1,rfl⟩:=hr t w Ds Y' hF hS;exact .inl h1⟩⟩
theorem FP{c:Nat}(hf:xo ops c){Hs:Hl->Prop}(hh0:Hs h){D:Nat->Nat}{V:Nat->aC}{t0:af}(ht0:t0.size=n){l':Fl}{d:Nat}{K:aC->Hl->Prop}
  (hout:∀j,j<c->∀h',Hs h'->oJ P w0 S n h' ops j (vC D V t0 j) (D j) (V j))(hFr:nS n (vC D V t0 c) l')(hm:ik P w0 S n h ops c l' d K)
  (hK:∀v h',K v h'->Hs h'/\eQ P r f R w0 S Y n (.inRegion ops (List.range' (c+1) (ops.size - (c+1)))::k) ((d,v)::l') h'):
  ∀(fuel τ:Nat) (arr:Array Bool) (t:af),arr.size=ops.size->(∀j,arr.getD j false=true->∀e∈iM ops j,arr.getD e false=true)->(∀j,c<j->arr.getD j false=false)->t.size=n->
   (∀j,j<c->arr.getD j false=true->t.getD (D j) undef=V j)->(∀s,(∀j,j<c->arr.getD j false=true->D j≠s)->(arr.getD c false=true->d≠s)->t.getD s undef=t0.getD s undef)->
   (List.range ops.size).countP (λj=>!arr.getD j false)<=fuel->∀w Ds,
   (arr.getD c false=false/\St w0 S w h (tQ Ds++Y)\/arr.getD c false=true/\∃v h',K v h'/\t.getD d undef=v/\St w0 S w h' (tQ Ds++Y))->
   kv P r f R (.inRegion ops (Region.linearise.go .any ops fuel τ arr [])::k) t (Ds.map mark) w:=by
 have hDst:∀j,j<c->hJ ops j=some (D j):=λj hj=>by
  obtain⟨o,h1,h2,_⟩:=hout j hj h hh0;simp[hJ,h1,h2]
 have hdst:hJ ops c=some d:=by
  obtain⟨o,h1,h2,_⟩:=hm;simp[hJ,h1,h2]
 have hdn:d<n:=by
  obtain⟨o,_,_,_,_,h5,_⟩:=hm;simpa[eI]using h5
 have hDlt:∀j,j<c->D j<t0.size:=λj hj=>by
  obtain⟨o,_,_,h3,_⟩:=hout j hj h hh0;omega
 have hDinj:∀i j,i<c->j<c->D i=D j->i=j:=λi j hi hj e=>hf.inj i j (D i) aH aH (hDst i hi) (by rw[hDst j hj,e]);have hDd:∀j,j<c->D j≠d:=λj hj e=>by
  have:=hf.inj j c d aH (eG _) (by rw[hDst j hj,e]) hdst;omega
 have fin:∀(fuel τ:Nat) (arr:Array Bool) (t:af),arr.size=ops.size->(∀j,c<j->arr.getD j false=false)->t.size=n->(∀j,j<=c->arr.getD j false=true)->
   (∀j,j<c->arr.getD j false=true->t.getD (D j) undef=V j)->(∀s,(∀j,j<c->arr.getD j false=true->D j≠s)->(arr.getD c false=true->d≠s)->t.getD s undef=t0.getD s undef)->
   (List.range ops.size).countP (λj=>!arr.getD j false)<=fuel->∀w Ds v h',K v h'->t.getD d undef=v->St w0 S w h' (tQ Ds++Y)->
   kv P r f R (.inRegion ops (Region.linearise.go .any ops fuel τ arr [])::k) t (Ds.map mark) w:=by
  intro fuel τ arr t has hno hts hall h1 h2 hc w Ds v h' hKv hv hS;have harr:∀j,arr.getD j false=(List.range (c+1)).contains j:=λj=>by
   by_cases hj:j<=c;rw[hall j hj];symm;rw[bV,ec];omega;rw[hno j aH];symm;rw[<-Bool.not_eq_true,bV,ec];omega
  have hlen:=td hf.Mt;have hcnt:(List.range ops.size).countP (λj=>!(List.range (c+1)).contains j)=(List.range ops.size).countP (λj=>!arr.getD j false):=by
   congr 1;funext j;rw[harr j]
  rw[uU hf.Mt has harr aH];have ht:t=(vC D V t0 c).setIfInBounds d v:=by
   obtain⟨g1,g2⟩:=qG hDlt hDinj c (eG _);have hdT:d<(vC D V t0 c).size:=by rw[mT];omega
   refine Array.ext_getElem? (λs=>nX (by rw[hts,Array.size_setIfInBounds,mT,ht0]) ?_);rw[jc hdT];by_cases hs:d=s;subst hs;rw[if_pos rfl,hv];rw[if_neg hs];by_cases hx:∃j,j<c/\D j=s;obtain⟨j,hj,rfl⟩:=hx;rw[h1 j hj (hall j aH),g1 j hj];rw[h2 s (λj hj _ e=>hx ⟨j,hj,e⟩) (λ_=>hs),g2 s (λj hj e=>hx ⟨j,hj,e⟩)]
  rw[ht];exact(hK v h' hKv).2 _ w Ds (hFr.put v (by simpa[eI]using hdn)) hS
 intro fuel
 induction fuel with
 |zero=>
  intro τ arr t has hcl hno hts h1 h2 hc w Ds hmem;have hl:∀j,j<ops.size->arr.getD j false=true:=λj hj=>by
   have:=List.countP_eq_zero.1 (Nat.le_zero.1 hc) j (by simpa using hj);simpa using this
  have hsz:=hf.size;rcases hmem with⟨h3,_⟩|⟨_,v,h',h4,h5,h6⟩;rw[hl c hsz]at h3;cases h3;exact fin 0 τ arr t has hno hts (λj hj=>hl j aH) h1 h2 hc w Ds v h' h4 h5 h6
 |succ fuel ih=>
  intro τ arr t has hcl hno hts h1 h2 hc w Ds hmem;have hsz:=hf.size;by_cases hall:∀j,j<=c->arr.getD j false=true;rcases hmem with⟨h3,_⟩|⟨_,v,h',h4,h5,h6⟩;rw[hall c (eG _)]at h3;cases h3;exact fin (fuel+1) τ arr t has hno hts hall h1 h2 hc w Ds v h' h4 h5 h6;obtain⟨j0,hj0⟩:=Classical.not_forall.1 hall;obtain⟨hj0c,hj0u⟩:=Classical.not_imp.1 hj0;rw[Bool.not_eq_true]at hj0u;have hready:Region.ready .any ops arr≠[]:=by
   have key:∀q,q<ops.size->arr.getD q false=false->Region.ready .any ops arr≠[]:=by
    intro q
    induction q using Nat.strongRecOn with
    |_ q ihq=>
     intro hq hqu;by_cases hb:∃e∈iM ops q,arr.getD e false=false;obtain⟨e,he,heu⟩:=hb;have hlt:=hf.lt q hq e he;exact ihq e hlt aH heu;obtain⟨o,ho⟩:∃o,ops[q]?=some o:=⟨ops[q],aZ hq⟩;have:q∈Region.ready .any ops arr:=by
      rw[mem_ready];refine⟨by rw[qQ aH];exact hqu,o,ho,λe he hbd=>?_⟩;cases hx:arr.getD e.on false with
      |true=>rfl
      |false=>exact absurd ⟨e.on,(qd ho).2 ⟨e,he,hbd,rfl⟩,hx⟩ hb
     exact List.ne_nil_of_mem this
   exact key j0 aH hj0u
  simp only[Region.linearise.go];change kv P r f R (.inRegion ops (match (Region.ready .any ops arr)[τ%(Region.ready .any ops arr).length]? with
   |some i=>Region.linearise.go .any ops fuel (τ / (Region.ready .any ops arr).length) (arr.setIfInBounds i true) [i]
   |none=>[].reverse)::k) t (Ds.map mark) w;cases hi:(Region.ready .any ops arr)[τ%(Region.ready .any ops arr).length]? with
  |none=>
   exfalso;cases hr:Region.ready .any ops arr with
   |nil=>exact hready hr
   |cons x xs=>
    rw[hr]at hi;have hlt:τ%(x::xs).length<(x::xs).length:=Nat.mod_lt _ aL;rw[bG hlt]at hi;cases hi
  |some i=>
   have hmemi:=cH hi;rw[mem_ready]at hmemi;obtain⟨hu,o,ho,hdep⟩:=hmemi;have hiN:i<ops.size:=(aW.1 ho).1;rw[qQ aH]at hu;simp only[];rw[linearise_go_acc,bQ,cg];have hdl:∀e∈iM ops i,arr.getD e false=true:=λe he=>by
    obtain⟨e',he',hb,rfl⟩:=(qd ho).1 he;exact hdep e' he' hb
   have hic:i<=c:=by
    apply bh;intro hgt;rcases hf.late i aH hiN with e|⟨j,e1,e2⟩;have:=hdl j0 (e j0 hj0c);rw[hj0u]at this;cases this;have:=hdl j e1;rw[hno j e2]at this;cases this
   have hcl':∀j,(arr.setIfInBounds i true).getD j false=true->∀e∈iM ops j,(arr.setIfInBounds i true).getD e false=true:=by
    intro j hj e he;rw[fQ aH]at hj⊢;split;rfl;split at hj;rename_i hij;subst hij;exact hdl e he;exact hcl j hj e he
   have hno':∀j,c<j->(arr.setIfInBounds i true).getD j false=false:=λj hj=>by
    rw[fQ aH,if_neg aH];exact hno j hj
   have hcnt:=count_set (listed:=arr) has hiN hu;have heyes:∀o',ops[i]?=some o'->∀s∈mF ops o',t.getD s undef=(vC D V t0 i).getD s undef:=λo' ho' s hs=>by
    obtain⟨g1,g2⟩:=qG hDlt hDinj i hic;by_cases hx:∃j,j<c/\D j=s;obtain⟨j,hj,rfl⟩:=hx;have hjd:=hf.Kw i hic o' ho' (D j) hs j aH (hDst j hj);rw[h1 j hj (hdl j hjd),g1 j (hf.lt i hiN j hjd)];have hsd:arr.getD c false=true->d≠s:=λ_ e=>by
     subst e;have:=hf.lt i hiN c (hf.Kw i hic o' ho' d hs c (eG _) hdst);omega
    rw[h2 s (λj hj _ e=>hx ⟨j,hj,e⟩) hsd,g2 s (λj hj e=>hx ⟨j,aH,e⟩)]
   by_cases him:i<c
   ·
    have hOut:∀h',Hs h'->oJ P w0 S n h' ops i t (D i) (V i):=λh' hh=>
     (hout i him h' hh).congr (hf.E5 i hic) (by rw[hts,mT,ht0]) heyes;have hDi:D i<t.size:=by rw[hts,<-ht0];exact hDlt i him
    have hcc:(arr.setIfInBounds i true).getD c false=arr.getD c false:=by rw[fQ aH,if_neg aH]
    have next:∀w',(arr.getD c false=false/\St w0 S w' h (tQ Ds++Y)\/arr.getD c false=true/\∃v h',K v h'/\t.getD d undef=v/\St w0 S w' h' (tQ Ds++Y))->
      kv P r f R (.inRegion ops (Region.linearise.go .any ops fuel (τ / (Region.ready .any ops arr).length) (arr.setIfInBounds i true) [])::k) (t.setIfInBounds (D i) (V i)) (Ds.map mark) w':=λw' hmem'=>by
     refine ih _ _ _ (by simpa using has) hcl' hno' (by simpa using hts) (λj hj hlj=>?_) (λs hs hsd=>?_) aH w' Ds ?_;rw[jc hDi];split;rename_i e;rw[hDinj i j him hj e];rename_i e;rw[fQ aH]at hlj;split at hlj;rename_i e2;subst e2;exact absurd rfl e;exact h1 j hj hlj;rw[jc hDi,if_neg (hs i him (by rw[fQ aH,if_pos rfl]))];refine h2 s (λj hj hlj=>hs j hj ?_) (λhx=>hsd (by rw[hcc];exact hx));rw[fQ aH];split;rfl;exact hlj;rw[hcc,jc hDi,if_neg (hDd i him)];exact hmem'
    rcases hmem with⟨h3,hS⟩|⟨h3,v,h',h4,h5,hS⟩;exact(hOut h hh0).go hS (λw' hS'=>next w' (.inl ⟨h3,hS'⟩));exact(hOut h' (hK v h' h4).1).go hS (λw' hS'=>next w' (.inr ⟨h3,v,h',h4,h5,hS'⟩))
   -- the operation that turns memory
   obtain rfl:i=c:=aH;rcases hmem with⟨h3,hS⟩|⟨h3,_⟩;refine ik.go hm hFr (by rw[hts,mT,ht0]) heyes hS (λv w' h' hKv hS'=>?_);have hdt:d<t.size:=aH;refine ih _ _ _ (by simpa using has) hcl' hno' (by simpa using hts) (λj hj hlj=>?_) (λs hs hsd=>?_) aH w' Ds ?_;rw[jc hdt,if_neg (λe=>hDd j hj e.symm)];rw[fQ aH,if_neg aH]at hlj;exact h1 j hj hlj;rw[jc hdt,if_neg (hsd (by rw[fQ aH,if_pos rfl]))];refine h2 s (λj hj hlj=>hs j hj ?_) (λhx=>by rw[h3]at hx;cases hx);rw[fQ aH,if_neg aH];exact hlj;refine .inr ⟨by rw[fQ aH,if_pos rfl],v,h',hKv,?_,hS'⟩;rw[jc hdt,if_pos rfl];rw[hu]at h3;cases h3
theorem eQ.GO{id:Nat}(c:Nat)(Hs:Hl->Prop)(hmix:P.follows .mixedOrders=true)(hc:zk ops l c=true)(hh0:Hs h)
  (hg:tE P w0 S n Hs ops (λl'=>∃d K,ik P w0 S n h ops c l' d K/\∀v h',K v h'->Hs h'/\eQ P r f R w0 S Y n (.inRegion ops (List.range' (c+1) (ops.size - (c+1)))::k) ((d,v)::l') h') 0 c l):eQ P r f R w0 S Y n (.code (.region id ops true)::k) l h:=by
 intro t w Ds hF hS;have hf:=D6 hc;refine .oR (λτ=>?_);obtain⟨D,V,hout,l',hFr,d,K,hm,hK⟩:=(hg t hF).seq;simp only[eE]at hout;simp only[Region.schedule,hmix,Bool.true_or,eN,Region.linearise];have h0:∀j,(Array.replicate ops.size false).getD j false=false:=λj=>by
  simp[aV,bE];split<;>simp
 refine FP hf hh0 hF.1 hout hFr hm hK ops.size τ _ t aL (λj hj=>?_) (λj _=>h0 j) hF.1 (λj _ hj=>?_) (λs _ _=>rfl) ?_ _ Ds (.inl ⟨h0 c,hS.drew⟩);rw[h0 j]at hj;cases hj;rw[h0 j]at hj;cases hj;exact eB (List.countP_le_length) aL
theorem eQ.tf{id:Nat}(m q:Nat)(hb:Hl)(hsub:hb.Sublist h)(hmix:P.follows .mixedOrders=true)(hc:Bc ops l m=true)(hg:nm P w0 S n ops hb (λl'=>Tl P r f R w0 S Y n k ops m hb q [] l' h) 0 m l):eQ P r f R w0 S Y n (.code (.region id ops true)::k) l h:=by
 intro t w Ds hF hS;have hf:=yI hc;refine .oR (λτ=>?_);obtain⟨D,V,hout,l',hF',htl⟩:=(hg t hF).seq;simp only[eE]at hout;simp only[Region.schedule,hmix,Bool.true_or,eN,Region.linearise];have hDst:∀j,j<m->hJ ops j=some (D j):=λj hj=>by
  obtain⟨o,h1,h2,_⟩:=hout j hj;simp[hJ,h1,h2]
 have hDlt:∀j,j<m->D j<t.size:=λj hj=>by
  obtain⟨o,_,_,h3,_⟩:=hout j hj;rw[hF.1];exact h3
 have hmN:=hf.size;have hDinj:∀i j,i<m->j<m->D i=D j->i=j:=λi j hi hj e=>hf.inj i j (D i) hi aH (hDst i hi) (by rw[hDst j hj,e]);obtain⟨g1,g2⟩:=qG hDlt hDinj m (eG _);have harr:∀j,(Array.replicate ops.size false).getD j false=false:=λj=>by
  simp[aV,bE];split<;>simp
 refine DJ hf hF.1 hout ops.size τ _ [] q l' h t _ aL (λj hj=>?_) (λj _=>?_) aL hF' htl hsub hF.1 g1 (λs hs=>?_) (λs hs _=>?_) ?_ _ Ds hS.drew;rw[harr]at hj;cases hj;rw[harr];simp;rw[g2 s (λj hj=>hs j hj (harr j))];exact g2 s (λj hj e=>hs j hj e);exact eB (List.countP_le_length) aL
theorem ik.app{i d:Nat}{ty:ax}{pos:aA}{aft:ak}{g:Option (Nat×Bool)}{K:aC->Hl->Prop}{t e:ax}{x y:au}{inf:TypeInfo}{z:aC}{q:ah}{xs sp:ai}{nx cap:Nat}{bn m c:Nat}{news spn:ai}{en:ax}{frn:Nat×Nat}(size:Nat)
  (ho:ops[i]?=some ⟨some d,.call ⟨.builtin .append,#[x,y],#[t,t]⟩,ty,pos,aft,g⟩)(hw:fg ops l g=true)(hx:fW l x=some (fZ q nx cap))(hy:fW l y=some (.slice (aR bn) m c))(hd:Nat.blt d n=true)
  (hu:P.underlying t=some (.slice e))(hi:P.info? e=some inf)(hz:inf.zero=some z)(hsz:inf.size=size)(hz1:z.cells.size=size)
  (hq:q=none->nx=0/\cap=0)(j:Nat)(hj:h[j]?=some (q,.cells (xs++sp).toArray e (0,0)))(jn:Nat)(hjn:h[jn]?=some (some bn,.cells (news++spn).toArray en frn))
  (hnx:xs.length=nx*size)(eV:(xs++sp).length=cap*size)(hl:news.length=m*size)(hm0:0<m)(h1:∀u∈news,u.oneCell'=true)(hmx:nx+m<=maxLen)(hbytes:(nx+m)*inf.bytes<=140737488355328)
  (hk:∀b' sp' cap',(xs++news++sp').length=cap'*size->K (fZ (some b') (nx+m) cap') (h.set j (some b',.cells (xs++news++sp').toArray e (0,0)))):ik P w0 S n h ops i l d K:=
 ⟨_,ho,rfl,rfl,rfl,hd,.inl ⟨hw,λt' w Ds Y' hF hS=>.inl (by
  have hbn:=hS.get hjn;have hnews:∀j u,news[j]?=some u->w.cell? ((⟨bn,0,none⟩:Addr).add j)=some u:=by
   intro j u hv;have hjl:=(bA.1 hv).1;have e1:(⟨bn,0,none⟩:Addr).add j=⟨bn,j,none⟩:=by unfold Addr.add;split;(rename_i h0;rw[h0]);simp
   rw[e1];rw[bG hjl]at hv;cases hv;simp[World.cell?,hbn,List.getElem?_append,hjl]
  obtain⟨b',sp',cap',w',hrun,hlen,hS'⟩:=v8 hu hi hz hsz hz1 hS hnx eV hq hj (c:=c) hl hm0 hnews h1 hmx hbytes ty;refine⟨_,w',_,?_,hS',hk b' sp' cap' hlen⟩;have e1:(#[x,y]:aa).map (Act.eval ⟨t',Ds.map mark⟩)=#[fZ q nx cap,.slice (aR bn) m c]:=by simp[hF.fW hx,hF.fW hy]
  simp only[execOp,resolve,e1,Sem.run_bind,Sem.run_pure,Result.andThen_ok,invoke,builtin,hrun])⟩⟩
end
def ir(h:Hl):aq:=h.filterMap (·.1)
theorem mj{h:Hl}{b:Nat}:b∈ir h↔∃o,(some b,o)∈h:=by
 simp only[ir,List.mem_filterMap];constructor;rintro ⟨⟨q,o⟩,h1,h2⟩;dsimp only at h2;subst h2;exact⟨o,h1⟩;rintro ⟨o,h1⟩;exact⟨_,h1,rfl⟩
structure lU (w:aB) (h:Hl):Prop where
  own:∀p∈h,∀b,p.1=some b->w.heap[b]?=some p.2/\vf p.2=false
  apart:h.Pairwise tu
theorem St.has{w0 w:aB}{S:aq}{h:Hl}{Y:List (Nat×Obj)}(s:St w0 S w h Y):lU w h:=⟨λp hp b hb=>⟨(s.own p hp b hb).1,(s.own p hp b hb).2.1⟩,s.apart⟩
theorem lU.st{w:aB}{h:Hl}(g:lU w h):St w (ir h) w h []:=
 ⟨Ex.refl _ _,λp hp b hb=>⟨(g.own p hp b hb).1,(g.own p hp b hb).2,.inr (mj.2 ⟨p.2,by rw[<-hb];exact hp⟩)⟩,g.apart,(λp hp=>by cases hp),ed⟩
theorem lU.sub{w:aB}{h h':Hl}(g:lU w h)(hs:h'.Sublist h):lU w h':=⟨λp hp=>g.own p (hs.subset hp),g.apart.sublist hs⟩
theorem St.frame{w0 w w':aB}{S:aq}{h h' hF:Hl}{Y:List (Nat×Obj)}(s:St w0 S w (h++hF) Y)(g:St w (ir h) w' h' []):St w0 S w' (h'++hF) Y:=by
 have hown:∀b∈ir h,w0.heap.size<=b\/b∈S:=λb hb=>by
  obtain⟨o,ho⟩:=mj.1 hb;exact(s.own _ (cD _ ho) b rfl).2.2
 have hap:=cK.1 s.apart;have hkeep:∀b o,w.heap[b]?=some o->b∉ir h->w'.heap[b]?=some o:=λb o ho hb=>by
  rw[g.ext.block b (aW.1 ho).1 hb];exact ho
 have hsz:=g.ext.size;have hsz0:=s.ext.size;refine⟨s.ext.trans g.ext (λx hx=>(hown x hx).symm),λp hp b hb=>?_,cK.2 ⟨g.apart,hap.2.1,λp hp q hq b hb hqb=>?_⟩,λp hp=>?_,s.DD⟩;rcases dP.1 hp with hp|hp;obtain⟨h1,h2,h3⟩:=g.own p hp b hb;refine⟨h1,h2,?_⟩;rcases h3 with h3|h3;exact .inl aH;exact hown b h3;obtain⟨h1,h2,h3⟩:=s.own p (bZ _ hp) b hb;refine⟨hkeep b _ h1 (λhm=>?_),h2,h3⟩;obtain⟨o,ho⟩:=mj.1 hm;exact hap.2.2 _ ho p hp b rfl hb;obtain⟨h1,h2,h3⟩:=g.own p hp b hb;obtain⟨k1,k2,k3⟩:=s.own q (bZ _ hq) b hqb;rcases h3 with h3|h3;have:=(aW.1 k1).1;omega;obtain⟨o,ho⟩:=mj.1 h3;exact hap.2.2 _ ho q hq b rfl hqb;obtain⟨h1,h2,h3⟩:=s.sys p hp;refine⟨h1,hkeep p.1 _ h2 (λhm=>?_),h3⟩;obtain⟨o,ho⟩:=mj.1 hm;obtain⟨k1,k2,_⟩:=s.own _ (cD _ ho) p.1 rfl;rw[h2]at k1;cases k1;dsimp only at k2;rw[h3]at k2;cases k2
def pQ(P:av)(gf:ay)(args:ai)(w:aB)(h:Hl)(Rc:aC->Hl->Prop):Prop:=
 Calls P gf args.toArray w λe w'=>∃v h',e=.returned v/\Rc v h'/\St w (ir h) w' h' []
section
variable{P:av}{r:ah}{f:ay}{R:aC->aB->Prop}{w0:aB}{S:aq}{Y:List (Nat×Obj)}{n:Nat}{k:al}{l:Fl}{h:Hl}{ops:aj}{i d:Nat}{rest:aq}{ty:ax}{pos:aA}{aft:ak}{g:Option (Nat×Bool)}
theorem pQ.of{gf:ay}{fn:Func}{c:Code}{args:ai}{w:aB}{Rc:aC->Hl->Prop}(hh:lU w h)(hf:P.funcs[gf]?=some fn)(hb:fn.body=some c)(hn:Nat.ble args.length fn.ntmps=true)
  (hgo:eQ P none gf (λv w'=>∃h',Rc v h'/\St w (ir h) w' h' []) w (ir h) [] fn.ntmps [.code c] (Ac 0 args) h):pQ P gf args w h Rc:=by
 unfold pQ;refine Calls.mono (AR hf hb hn h hh.st hgo) ?_;rintro e w' ⟨v,rfl,h',h1,h2⟩;exact⟨v,h',rfl,h1,h2⟩
theorem pQ.mono{gf:ay}{args:ai}{w:aB}{Rc Rc':aC->Hl->Prop}(hc:pQ P gf args w h Rc)(hr:∀v h',Rc v h'->Rc' v h'):pQ P gf args w h Rc':=
 Calls.mono hc (λ_ _ ⟨v,h',e,h1,h2⟩=>⟨v,h',e,hr v h' h1,h2⟩)
theorem eQ.kE{hF:Hl}{az:aa}{ts:ab}{cal:au}{gf:ay}{fs cs vs:ai}(Rc:aB->aC->Hl->Prop)(ho:ops[i]?=some ⟨some d,.call ⟨.value cal,az,ts⟩,ty,pos,aft,g⟩)(hw:fg ops l g=true)
  (hc:fW l cal=some (.func (.func gf) fs.toArray cs.toArray))(hx:iT l az.toList=some vs)(hd:Nat.blt d n=true)(hcf:∀args w,(callFunc gf args).run P w=.ok (.enter gf args) w)
  (hcall:∀w Y',St w0 S w (h++hF) Y'->pQ P gf (fs++vs++cs) w h (Rc w))
  (hk:∀w v h',Rc w v h'->eQ P r f R w0 S Y n (.inRegion ops rest::k) ((d,v)::l) (h'++hF)):eQ P r f R w0 S Y n (.inRegion ops (i::rest)::k) l (h++hF):=
 .Dm ho hw hc hx hd hcf (λw Y' hS=>⟨λv w'=>∃h',Rc w v h'/\St w (ir h) w' h' [],by
  have:=hcall w Y' hS;unfold pQ at this;simp only[List.append_toArray];exact Calls.mono this (λe w' ⟨v,h',e1,e2,e3⟩=>⟨v,e1,h',e2,e3⟩),λv w' ⟨h',h1,h2⟩=>⟨h'++hF,hS.frame h2,hk w v h' h1⟩⟩)
theorem ik.kE{hF:Hl}{az:aa}{ts:ab}{cal:au}{gf:ay}{fs cs vs:ai}{K:aC->Hl->Prop}(ho:ops[i]?=some ⟨some d,.call ⟨.value cal,az,ts⟩,ty,pos,aft,g⟩)(hw:fg ops l g=true)
  (hc:fW l cal=some (.func (.func gf) fs.toArray cs.toArray))(hx:iT l az.toList=some vs)(hd:Nat.blt d n=true)(hcf:∀args w,(callFunc gf args).run P w=.ok (.enter gf args) w)
  (hcall:∀w Y',St w0 S w (h++hF) Y'->pQ P gf (fs++vs++cs) w h (λv h'=>K v (h'++hF))):ik P w0 S n (h++hF) ops i l d K:=by
 refine⟨_,ho,rfl,rfl,rfl,hd,.inl ⟨hw,λt w Ds Y' hF' hS=>.inr ⟨gf,(fs++vs++cs).toArray,λv w'=>∃h',K v (h'++hF)/\St w (ir h) w' h' [],?_,?_,λv w' ⟨h',h1,h2⟩=>⟨h'++hF,hS.frame h2,h1⟩⟩⟩⟩;have e1:=lO (P:=P) (ty:=ty) (ts:=ts) (Ds:=Ds) (w:=w) hF' hc hx;simp only[execOp,Sem.run_bind,e1,Result.andThen_ok,invoke,hcf];simp;exact Calls.mono (hcall w Y' hS) (λe w' ⟨v,h',e1,e2,e3⟩=>⟨v,e1,h',e2,e3⟩)
end
section
variable{κ ν:Type}
def uf(ek:κ->aC)(ev:ν->aC):List (κ×ν)->Nat->List MapEntry
 |[],_=>[]
 |p::L,i=>⟨ek p.1,ev p.2,i⟩::uf ek ev L (i+1)
abbrev rr(ek:κ->aC)(ev:ν->aC)(L:List (κ×ν)):Obj:=.map (uf ek ev L 0).toArray L.length
def ic(q:κ->κ->Bool):List (κ×ν)->κ->Option ν
 |[],_=>none
 |p::L,k=>if q k p.1=true then some p.2 else ic q L k
variable{ek:κ->aC}{ev:ν->aC}{q:κ->κ->Bool}
theorem vh:∀{L:List (κ×ν)} {k:κ} {v:ν} {i:Nat},uf ek ev (L++[(k,v)]) i=uf ek ev L i++[⟨ek k,ev v,i+L.length⟩]
 |[],k,v,i=>rfl
 |p::L,k,v,i=>by rw[dz,uf,vh,uf,dz,dC,Nat.add_assoc,Nat.add_comm 1]
def found(q:κ->κ->Bool)(ev:ν->aC):List (κ×ν)->κ->Nat->Option (Nat×aC)
 |[],_,_=>none
 |p::L,k,i=>if q k p.1=true then some (i,ev p.2)else found q ev L k (i+1)
theorem wX:∀{L:List (κ×ν)} {k:κ} {i:Nat},(found q ev L k i).map (·.2)=(ic q L k).map ev
 |[],_,_=>rfl
 |p::L,k,i=>by
  rw[found,ic];split;rfl;exact wX
theorem w7{kd:TypeDesc}(hs:∀a b:κ,Instr.sameNow kd (ek a) (ek b)=some (q a b)):∀{L:List (κ×ν)} {k:κ} {i j:Nat},Instr.findNow kd (ek k) (uf ek ev L j) i=some (found q ev L k i)
 |[],_,_,_=>rfl
 |p::L,k,i,j=>by
  rw[uf,Instr.findNow,hs,found];cases q k p.1 with
  |true=>rfl
  |false=>exact w7 hs
theorem w8{P:av}{kt:ax}{w:aB}(hs:∀a b:κ,(Op.equal kt (ek a) (ek b)).run P w=.ok (q a b) w):∀{L:List (κ×ν)} {k:κ} {i j:Nat},(Instr.findAsking kt (ek k) (uf ek ev L j) i).run P w=.ok (found q ev L k i) w
 |[],_,_,_=>rfl
 |p::L,k,i,j=>by
  rw[uf,Instr.findAsking,found];simp only[Sem.run_bind,hs,Result.andThen_ok];cases q k p.1 with
  |true=>rfl
  |false=>exact w8 hs
structure pC (P:av) (kt:ax) (ek:κ->aC) (q:κ->κ->Bool):Prop where
  nG:∀(e:Bool) (a:κ) (w:aB),(Instr.checkKey e 10000 kt (ek a)).run P w=.ok () w
  find:∀{ν:Type} (ev:ν->aC) (L:List (κ×ν)) (k:κ) (w:aB),(Instr.findKey kt (ek k) (uf ek ev L 0)).run P w=.ok (found q ev L k 0) w
theorem pC.now{P:av}{kt:ax}{kd:TypeDesc}(hu:P.underlying kt=some kd)(hc:∀(e:Bool) (a:κ) (w:aB),(Instr.checkKey e 10000 kt (ek a)).run P w=.ok () w)(hs:∀a b:κ,Instr.sameNow kd (ek a) (ek b)=some (q a b)):pC P kt ek q:=
 ⟨hc,λev L k w=>by
  simp only[Instr.findKey,Sem.run_bind,run_underlying hu,Result.andThen_ok,w7 hs];rfl⟩
theorem pC.int{P:av}{kt:ax}{kd:aw}(hu:P.underlying kt=some (.int kd)):pC P kt (Value.int kd) (λa b=>a==b):=
 .now hu (λe a w=>Go.MapKept.run_checkKey hu (by simp[Go.MapKept.IsKey]) e 9999) (λa b=>by simp[Instr.sameNow])
theorem PJ{P:av}{t et:ax}{n s:Nat}{z:aC}{ps:List (Nat×aC)}{c:ai}(hu:P.underlying t=some (.array n et))(hs:∀w,(sizeOf et).run P w=.ok s w)(hz:∀w,(zeroValue t).run P w=.ok z w)
  (hf:sI (λi=>some (i*s,s)) z.cells.toList ps=some c):O3 P t ps (.agg c.toArray):=by
 intro w;have h1:=fill_eq hf;rw[Array.toArray_toList]at h1;simp only[Instr.build,Sem.run_bind,hz,Result.andThen_ok,run_underlying hu,hs];rw[h1];rfl
theorem p7{P:av}{et:ax}(ha:∀w,(isAgg et).run P w=.ok false w){cs:af}{j:Nat}{v:aC}(hv:cs[j]?=some v)(w:aB):(part et cs j).run P w=.ok v w:=by
 simp only[part,Sem.run_bind,ha,Result.andThen_ok,hv];rfl
theorem GM{P:av}{t:ax}{kd:aw}(dd:Nat){p q:Int}(hu:P.underlying t=some (.int kd))(w:aB):(Op.equalIn (dd+1) t (.int kd p) (.int kd q)).run P w=.ok (p==q) w:=by
 simp only[Op.equalIn,Sem.run_bind,run_underlying hu,Result.andThen_ok];simp
end
section
variable{P:av}{r:ah}{f:ay}{R:aC->aB->Prop}{w0:aB}{S:aq}{Y:List (Nat×Obj)}{n:Nat}{k:al}{l:Fl}{h:Hl}
variable{ops:aj}{i d:Nat}{rest:aq}{ty:ax}{pos:aA}{aft:ak}{g:Option (Nat×Bool)}
variable{κ ν:Type}{ek:κ->aC}{ev:ν->aC}{q:κ->κ->Bool}
theorem u7(ek:κ->aC)(ev:ν->aC){t:ax}(ho:ops[i]?=some ⟨some d,.makeMap t none,ty,pos,aft,g⟩)(hw:fg ops l g=true)(hd:Nat.blt d n=true)
  (hk:∀b,eQ P r f R w0 S Y n (.inRegion ops rest::k) ((d,.map (some b))::l) ((some b,rr ek ev [])::h)):eQ P r f R w0 S Y n (.inRegion ops (i::rest)::k) l h:=
 .mem ho hw rfl rfl hd (λt' w Ds _ hF hS=>⟨.map (some w.heap.size),w.alloc (.map #[] 0),_,by
  simp[execOp,Instr.makeMap],hS.alloc rfl,hk _⟩)
theorem uv{t kt el:ax}(hK:pC P kt ek q){z:aC}{x ix:au}{b:Nat}{a:κ}{L:List (κ×ν)}(ho:ops[i]?=some ⟨some d,.lookup t x ix true,ty,pos,aft,g⟩)(hw:fg ops l g=true)
  (hx:fW l x=some (.map (some b)))(hy:fW l ix=some (ek a))(hd:Nat.blt d n=true)(hu:P.underlying t=some (.map kt el))(hz:∀w,(zeroValue el).run P w=.ok z w)(j:Nat)(hj:h[j]?=some (some b,rr ek ev L)):
  eS P w0 S n h ops i l d (.tuple #[((ic q L a).map ev).getD z,.bool (ic q L a).isSome]):=
 .of ho hw rfl rfl hd (λt' w Ds _ hF hS=>⟨.value (.tuple #[((ic q L a).map ev).getD z,.bool (ic q L a).isSome]),by
  have hg:(getObj b).run P w=.ok (rr ek ev L) w:=by simp[getObj,Sem.run,hS.get hj]
  have hf:=hK.find ev L a w;have e1:(found q ev L a 0).map (·.2)=(ic q L a).map ev:=wX;simp only[execOp,hF.fW hx,hF.fW hy,Sem.run_bind,Instr.lookup,run_underlying hu,Result.andThen_ok,hg,hK.nG,Sem.run_pure,hf];cases hfo:found q ev L a 0 with
  |none=>
   rw[hfo]at e1;cases ha:ic q L a with
   |none=>simp[hz]
   |some v=>rw[ha]at e1;cases e1
  |some y=>
   rw[hfo]at e1;cases ha:ic q L a with
   |none=>rw[ha]at e1;cases e1
   |some v=>rw[ha]at e1;simp at e1⊢;exact e1,rfl⟩)
theorem wW:∀{L:List (κ×ν)} {a:κ} {i:Nat},ic q L a=none->found q ev L a i=none
 |[],_,_,_=>rfl
 |p::L,a,i,h=>by
  rw[ic]at h;rw[found];split at h;cases h;rename_i hq;rw[if_neg hq];exact wW h
theorem BC{t kt el:ax}(hK:pC P kt ek q){b:Nat}{a:κ}{v:ν}{L:List (κ×ν)}{w:aB}(hu:P.underlying t=some (.map kt el))(hb:w.heap[b]?=some (rr ek ev L))(ha:ic q L a=none):
  (Instr.mapUpdate t (.map (some b)) (ek a) (ev v)).run P w=.ok () {w with heap:=w.heap.setIfInBounds b (rr ek ev (L++[(a,v)]))}:=by
 have hg:(getObj b).run P w=.ok (rr ek ev L) w:=by simp[getObj,Sem.run,hb]
 have hf:=hK.find ev L a w;rw[wW ha]at hf;simp only[Instr.mapUpdate,Sem.run_bind,run_underlying hu,Result.andThen_ok,hg,hK.nG,hf];have e1:((uf ek ev L 0).toArray.push ⟨ek a,ev v,L.length⟩)=(uf ek ev (L++[(a,v)]) 0).toArray:=by rw[vh];simp
 rw[e1];simp[setObj,Sem.run,hb,rr]
theorem eQ.wO{t kt el:ax}(hK:pC P kt ek q){m x y:au}{b:Nat}{a:κ}{v:ν}{L:List (κ×ν)}{o:Oper}(ho:ops[i]?=some o)(hop:o.op=.mapUpdate t m x y\/o.op=.insert t m x y)(hdst:o.dst=none)(hw:fg ops l o.guard=true)
  (hm:fW l m=some (.map (some b)))(hx:fW l x=some (ek a))(hy:fW l y=some (ev v))(hu:P.underlying t=some (.map kt el))(j:Nat)(hj:h[j]?=some (some b,rr ek ev L))(ha:ic q L a=none)
  (hk:eQ P r f R w0 S Y n (.inRegion ops rest::k) l (h.set j (some b,rr ek ev (L++[(a,v)])))):eQ P r f R w0 S Y n (.inRegion ops (i::rest)::k) l h:=
 .PB ho hw hdst (by rcases hop with e|e<;>rw[e]<;>rfl) (λt' w Ds _ hF hS=>by
  have hb:=hS.get hj;refine⟨{w with heap:=w.heap.setIfInBounds b (rr ek ev (L++[(a,v)]))},_,?_,hS.vq hj (o':=rr ek ev (L++[(a,v)])) rfl rfl rfl rfl aL ?_ ?_,hk⟩;have hrun:=BC hK (v:=v) hu hb ha;unfold execOp;rcases hop with e|e<;>rw[e]<;>simp only[hF.fW hm,hF.fW hx,hF.fW hy,Sem.run_bind,hrun]<;>rfl
  have hlt:=hS.lt hj;simp[hlt];intro q _ hq;simp[Ne.symm hq])
end
section
variable{fs:Array Field}
def NV.v(n:NV):aC:=.agg #[fD n.op,fD n.i,fD n.e,fD n.g,fD n.x,fD n.y]
structure FA (w:aB) (a:ae) (f:List NV):Prop where
  at_:Sl w a (f.flatMap NV.cells)
theorem FA.eY{w0 w:aB}{a:ae}{f:List NV}(h:FA w0 a f){S:aq}(e:Ex S w0 w)(hS:∀b o,a=some ⟨b,o,none⟩->b∉S:=by simp):FA w a f:=⟨Sl.ex h.at_ e hS⟩
abbrev iC(e:ax)(ns:List NV)(sp:ai):Obj:=.cells (ns.flatMap NV.cells++sp).toArray e (0,0)
theorem nY{ns:List NV}:(ns.flatMap NV.cells).length=ns.length*6:=oX (enc:=NV.cells) (sz:=6) (λ_=>rfl)
theorem fL{w0 w:aB}{S:aq}{h:Hl}{Y:List (Nat×Obj)}(s:St w0 S w h Y)(j:Nat){q:ah}{ns:List NV}{e:ax}{sp:ai}(hj:h[j]?=some (q,iC e ns sp))(hq:q=none->ns.length=0):FA w (q.map aP) ns:=by
 cases q with
 |none=>rw[aU (hq rfl)];exact⟨Sl.nil _ _⟩
 |some b=>exact⟨Sl.jh (s.get hj)⟩
def fi(e:ax)(w w':aB)(v:aC)(ns:List NV):Prop:=
 ∃q cap sp,v=fZ q ns.length cap/\(q=none->ns.length=0/\cap=0)/\(ns.flatMap NV.cells++sp).length=cap*6/\∀b,q=some b->w.heap.size<=b/\w'.heap[b]?=some (iC e ns sp)
theorem fy{t:ax}{w0 w w':aB}{S:aq}{h:Hl}{Y:List (Nat×Obj)}(s:St w0 S w h Y)(e:Ex [] w w'){v:aC}{ns:List NV}(ho:fi t w w' v ns):
  ∃q cap sp,v=fZ q ns.length cap/\(q=none->ns.length=0/\cap=0)/\(ns.flatMap NV.cells++sp).length=cap*6/\St w0 S w' ((q,iC t ns sp)::h) Y:=by
 obtain⟨q,cap,sp,h1,h2,h3,h4⟩:=ho;refine⟨q,cap,sp,h1,h2,h3,?_⟩;cases q with
 |none=>exact(s.later e).none _
 |some b=>exact s.Gq e (h4 b rfl).2 rfl (h4 b rfl).1
theorem fi.mk{t:ax}{w0 w:aB}{h:Hl}{Y:List (Nat×Obj)}(s:St w0 [] w h Y)(j:Nat){q:ah}{ns:List NV}{sp:ai}{cap m:Nat}(hj:h[j]?=some (q,iC t ns sp))(hm:m=ns.length)
  (hq:q=none->ns.length=0/\cap=0)(eV:(ns.flatMap NV.cells++sp).length=cap*6):fi t w0 w (fZ q m cap) ns:=by
 subst hm;refine⟨q,cap,sp,rfl,hq,eV,λb hb=>?_⟩;subst hb;exact⟨s.fresh hj,s.get hj⟩
theorem fi.oU{t:ax}{w w':aB}:fi t w w' (.slice none 0 0) []:=⟨none,0,[],rfl,λ_=>⟨rfl,rfl⟩,rfl,λ_ e=>by cases e⟩
section
variable{P:av}{r:ah}{f:ay}{R:aC->aB->Prop}{w0:aB}{S:aq}{Y:List (Nat×Obj)}{n:Nat}{k:al}{l:Fl}{h:Hl}
variable{ops:aj}{i d:Nat}{rest:aq}{ty:ax}{pos:aA}{aft:ak}{g:Option (Nat×Bool)}
theorem eS.qX{x:au}{a:Addr}(ho:ops[i]?=some ⟨some d,.nilCheck x,ty,pos,aft,g⟩)(hw:fg ops l g=true)(hx:fW l x=some (.pointer (some a)))(hd:Nat.blt d n=true):eS P w0 S n h ops i l d (.pointer (some a)):=
 .of ho hw rfl rfl hd (λt' w Ds _ hF hS=>⟨.value (.pointer (some a)),by simp only[execOp,hF.fW hx];rfl,rfl⟩)
end
def uO(fs:Array Field)(it:ax):Prop:=∃f0 f1 f2 f3 f4 f5:Field,fs=#[f0,f1,f2,f3,f4,f5]/\
 (f0.name ≠ "_" ∧ f0.type = it ∧ f0.offset = 0) ∧ (f1.name ≠ "_" ∧ f1.type = it ∧ f1.offset = 1) ∧ (f2.name ≠ "_" ∧ f2.type = it ∧ f2.offset = 2) ∧
 (f3.name ≠ "_" ∧ f3.type = it ∧ f3.offset = 3) ∧ (f4.name ≠ "_" ∧ f4.type = it ∧ f4.offset = 4) ∧ (f5.name ≠ "_" ∧ f5.type = it ∧ f5.offset = 5)
theorem uV{P:av}{t it:ax} (hu:P.underlying t=some (.struct fs))(hfs:uO fs it)(hi:P.underlying it=some (.int .i64))(ha:∀w,(isAgg it).run P w=.ok false w)(pS:P.stoodInHeld t=false)(m:Nat)(a b:NV)(w:aB):
  (Op.equalIn (m+2) t a.v b.v).run P w=.ok (a==b) w:=by
 obtain⟨f0,f1,f2,f3,f4,f5,rfl,⟨n0,t0,o0⟩,⟨n1,t1,o1⟩,⟨n2,t2,o2⟩,⟨n3,t3,o3⟩,⟨n4,t4,o4⟩,⟨n5,t5,o5⟩⟩:=hfs;have hp:∀(c:NV) (w:aB),(part it c.v.cells 0).run P w=.ok (fD c.op) w/\(part it c.v.cells 1).run P w=.ok (fD c.i) w/\(part it c.v.cells 2).run P w=.ok (fD c.e) w/\(part it c.v.cells 3).run P w=.ok (fD c.g) w/\(part it c.v.cells 4).run P w=.ok (fD c.x) w/\(part it c.v.cells 5).run P w=.ok (fD c.y) w:=λc w=>
  ⟨p7 ha rfl w,p7 ha rfl w,p7 ha rfl w,p7 ha rfl w,p7 ha rfl w,p7 ha rfl w⟩;obtain⟨a0,a1,a2,a3,a4,a5⟩:=hp a w;obtain⟨b0,b1,b2,b3,b4,b5⟩:=hp b w;have hq:∀p q:Int,(Op.equalIn (m+1) it (aS p) (aS q)).run P w=.ok (p==q) w:=λp q=>GM m hi w;have hv:∀c:NV,c.v=.agg c.v.cells:=λc=>rfl;rw[hv a,hv b,show m+2=(m+1)+1 from rfl,Op.equalIn];have hprog:(program:Sem av).run P w=.ok P w:=rfl;simp only[Sem.run_bind,run_underlying hu,Result.andThen_ok,hprog,pS,<-Array.forIn_toList];have hab:(a==b)=(a.op==b.op && (a.i==b.i && (a.e==b.e && (a.g==b.g && (a.x==b.x && a.y==b.y))))):=by
  rw[dJ];simp only[eJ,dx];obtain⟨_,_,_,_,_,_⟩:=a;obtain⟨_,_,_,_,_,_⟩:=b;simp[NV.mk.injEq]
 rw[hab];cases h0:a.op==b.op;simp[n0,t0,o0,a0,b0,hq,h0];cases h1:a.i==b.i;simp[n0,t0,o0,a0,b0,hq,h0,n1,t1,o1,a1,b1,h1];cases h2:a.e==b.e;simp[n0,t0,o0,a0,b0,hq,h0,n1,t1,o1,a1,b1,h1,n2,t2,o2,a2,b2,h2];cases h3:a.g==b.g;simp[n0,t0,o0,a0,b0,hq,h0,n1,t1,o1,a1,b1,h1,n2,t2,o2,a2,b2,h2,n3,t3,o3,a3,b3,h3];cases h4:a.x==b.x;simp[n0,t0,o0,a0,b0,hq,h0,n1,t1,o1,a1,b1,h1,n2,t2,o2,a2,b2,h2,n3,t3,o3,a3,b3,h3,n4,t4,o4,a4,b4,h4];cases h5:a.y==b.y;simp[n0,t0,o0,a0,b0,hq,h0,n1,t1,o1,a1,b1,h1,n2,t2,o2,a2,b2,h2,n3,t3,o3,a3,b3,h3,n4,t4,o4,a4,b4,h4,n5,t5,o5,a5,b5,h5];simp[n0,t0,o0,a0,b0,hq,h0,n1,t1,o1,a1,b1,h1,n2,t2,o2,a2,b2,h2,n3,t3,o3,a3,b3,h3,n4,t4,o4,a4,b4,h4,n5,t5,o5,a5,b5,h5]
theorem GW{P:av}{t it:ax} (hu:P.underlying t=some (.struct fs))(hfs:uO fs it)(hi:P.underlying it=some (.int .i64))(ha:∀w,(isAgg it).run P w=.ok false w)(e:Bool)(m:Nat)(a:NV)(w:aB):
  (Instr.checkKey e (m+2) t a.v).run P w=.ok () w:=by
 obtain⟨f0,f1,f2,f3,f4,f5,rfl,⟨n0,t0,o0⟩,⟨n1,t1,o1⟩,⟨n2,t2,o2⟩,⟨n3,t3,o3⟩,⟨n4,t4,o4⟩,⟨n5,t5,o5⟩⟩:=hfs;have a0:(part it a.v.cells 0).run P w=.ok (fD a.op) w:=p7 ha rfl w;have a1:(part it a.v.cells 1).run P w=.ok (fD a.i) w:=p7 ha rfl w;have a2:(part it a.v.cells 2).run P w=.ok (fD a.e) w:=p7 ha rfl w;have a3:(part it a.v.cells 3).run P w=.ok (fD a.g) w:=p7 ha rfl w;have a4:(part it a.v.cells 4).run P w=.ok (fD a.x) w:=p7 ha rfl w;have a5:(part it a.v.cells 5).run P w=.ok (fD a.y) w:=p7 ha rfl w;have hk:∀p:Int,(Instr.checkKey e (m+1) it (aS p)).run P w=.ok () w:=λp=>Go.MapKept.run_checkKey hi (by simp[Go.MapKept.IsKey]) e m;rw[show a.v=.agg a.v.cells from rfl,show m+2=(m+1)+1 from rfl,Instr.checkKey];simp only[Sem.run_bind,run_underlying hu,Result.andThen_ok,<-Array.forIn_toList];simp[n0,t0,o0,a0,hk,n1,t1,o1,a1,n2,t2,o2,a2,n3,t3,o3,a3,n4,t4,o4,a4,n5,t5,o5,a5]
theorem pC.node{P:av}{t it:ax} (hu:P.underlying t=some (.struct fs))(hfs:uO fs it)(hi:P.underlying it=some (.int .i64))(ha:∀w,(isAgg it).run P w=.ok false w)(pS:P.stoodInHeld t=false):pC P t NV.v (λa b=>a==b):=by
 refine⟨λe a w=>GW hu hfs hi ha e 9998 a w,λev L k w=>?_⟩;have hq:∀a b:NV,(Op.equal t a.v b.v).run P w=.ok (a==b) w:=λa b=>uV hu hfs hi ha pS 9998 a b w;simp only[Instr.findKey,Sem.run_bind,run_underlying hu,Result.andThen_ok];cases L with
 |nil=>rfl
 |cons p L=>
  have h0:Instr.findNow (.struct fs) k.v (uf NV.v ev (p::L) 0) 0=none:=rfl;rw[h0];exact w8 (q:=λa b:NV=>a==b) hq
theorem JQ{P:av}{t it:ax} (hu:P.underlying t=some (.struct fs))(hfs:uO fs it)(hi:P.underlying it=some (.int .i64))(ha:∀w,(isAgg it).run P w=.ok false w)(pS:P.stoodInHeld t=false)(hg:P.eqGuardType P.depth t=false){a b:NV}:
  pD P .eql t a.v b.v (.bool (a==b)):=by
 intro x y w;have h1:(Op.equal t a.v b.v).run P w=.ok (a==b) w:=uV hu hfs hi ha pS 9998 a b w;have hprog:(program:Sem av).run P w=.ok P w:=rfl;have h2:(eqGuard .eql t x y a.v b.v).run P w=.ok () w:=by
  unfold eqGuard;simp only[NV.v];simp[hg]
 have h3:(binOp .eql t a.v b.v).run P w=.ok (.bool (a==b)) w:=by
  show(do pure (Value.bool (<-Op.equal t a.v b.v)):Sem aC).run P w=_;simp only[Sem.run_bind,h1,Result.andThen_ok];rfl
 simp only[Sem.run_bind,h2,Result.andThen_ok,h3]
end
section
variable{az:aa}{ts:ab}{t:af}{vs:ai}{aft:ak}{cal:au}{ty:ax}
def nC(ops:aj)(i:Nat):Bool:=match ops[i]? with
 |none=>false
 |some o=>lG o.op && match o.dst with
  |none=>false
  |some d=>(List.range ops.size).all (λj=>Nat.beq j i||(!(hJ ops j==some d) && (match ops[j]? with
   |none=>true
   |some p=>(!(mF ops p).contains d||(iM ops j).contains i||(iM ops i).contains j)) && (match hJ ops j with
   |none=>true
   |some e=>(!(mF ops o).contains e||(iM ops i).contains j||(iM ops j).contains i))))
structure DA (ops:aj) (i d:Nat):Prop where
  E5:∀o,ops[i]?=some o->lG o.op=true
  dst:hJ ops i=some d
  one:∀j,j<ops.size->j≠i->hJ ops j≠some d
  seen:∀j p,j<ops.size->j≠i->ops[j]?=some p->d∈mF ops p->i∈iM ops j\/j∈iM ops i
  K9:∀j e o,j<ops.size->j≠i->hJ ops j=some e->ops[i]?=some o->e∈mF ops o->j∈iM ops i\/i∈iM ops j
theorem wA{ops:aj}{i:Nat}(h:nC ops i=true):∃d,DA ops i d:=by
 unfold nC at h;split at h;cases h;rename_i o ho;rw[dx]at h;obtain⟨h1,h2⟩:=h;split at h2;cases h2;rename_i d hd;simp only[dy,ec,dK,Nat.beq_eq,dx,dh]at h2;refine⟨d,λp hp=>by rw[ho]at hp;cases hp;exact h1,by simp[hJ,ho,hd],λj hj hne=>?_,λj p hj hne hp hm=>?_,λj e p hj hne he hp hm=>?_⟩;rcases h2 j hj with h|h;exact absurd h hne;simpa using h.1.1;rcases h2 j hj with h|h;exact absurd h hne;have:=h.1.2;rw[hp]at this;simp only[dK,dh]at this;rcases this with(h3|h3)|h3;rw[cC,bP]at h3;exact absurd hm h3;exact .inl (by simpa using h3);exact .inr (by simpa using h3);rcases h2 j hj with h|h;exact absurd h hne;have:=h.2;rw[he]at this;simp only[dK,dh]at this;rw[ho]at hp;cases hp;rcases this with(h3|h3)|h3;rw[cC,bP]at h3;exact absurd hm h3;exact .inl (by simpa using h3);exact .inr (by simpa using h3)
section
variable{P:av}{r:ah}{f:ay}{R:aC->aB->Prop}{w0:aB}{S:aq}{Y:List (Nat×Obj)}{n:Nat}{k:al}{l:Fl}{h:Hl}{ops:aj}
def kF(P:av)(w0:aB)(S:aq)(n:Nat)(ops:aj)(i:Nat)(t:af)(h:Hl)(K:af->Hl->Prop):Prop:=
 ∃o d,ops[i]?=some o/\o.dst=some d/\lL o.op=false/\lG o.op=true/\d<n/\
  ((Region.wanted o (yielded ops t)=true/\∀(w:aB) (Ds:aq) (Y':List (Nat×Obj)),St w0 S w h Y'->
   (∃v w' h',(execOp (Act.eval ⟨t,Ds.map mark⟩) o).run P w=.ok (.value v) w'/\St w0 S w' h' Y'/\K (t.setIfInBounds d v) h')\/
   (∃gf args,∃Rc:aC->aB->Prop,(execOp (Act.eval ⟨t,Ds.map mark⟩) o).run P w=.ok (.enter gf args) w/\(Calls P gf args w λe w'=>∃v,e=.returned v/\Rc v w')/\∀v w',Rc v w'->∃h',St w0 S w' h' Y'/\K (t.setIfInBounds d v) h'))\/
  (Region.wanted o (yielded ops t)=false/\K (t.setIfInBounds d undef) h))
theorem kF.of{i d:Nat}{K:aC->Hl->Prop}{K':af->Hl->Prop} (hm:ik P w0 S n h ops i l d K)(hF:nS n t l)(hK:∀v h',K v h'->K' (t.setIfInBounds d v) h'):kF P w0 S n ops i t h K':=by
 obtain⟨o,ho,hdst,hnd,hsel,hd,hr⟩:=hm;refine⟨o,d,ho,hdst,hnd,hsel,by simpa[eI]using hd,?_⟩;rcases hr with⟨hw,hr⟩|⟨hs,hk⟩;refine .inl ⟨kH hF hw,λw Ds Y' hS=>?_⟩;rcases hr t w Ds Y' hF hS with⟨v,w',h',h1,h2,h3⟩|⟨gf,args,Rc,h1,h2,h3⟩;exact .inl ⟨v,w',h',h1,h2,hK v h' h3⟩;refine .inr ⟨gf,args,Rc,h1,h2,λv w' hR=>?_⟩;obtain⟨h',h4,h5⟩:=h3 v w' hR;exact⟨h',h4,hK v h' h5⟩;exact .inr ⟨tH hF hs,hK undef h hk⟩
theorem kF.congr{i:Nat}{t':af}{K K':af->Hl->Prop}(hm:kF P w0 S n ops i t h K)(hs:t'.size=t.size)(he:∀o,ops[i]?=some o->∀s∈mF ops o,t'.getD s undef=t.getD s undef)
  (hK:∀d v h',hJ ops i=some d->K (t.setIfInBounds d v) h'->K' (t'.setIfInBounds d v) h'):kF P w0 S n ops i t' h K':=by
 obtain⟨o,d,ho,hdst,hnd,hsel,hd,hr⟩:=hm;have hdo:hJ ops i=some d:=by simp[hJ,ho,hdst]
 have hw:=qF (ops:=ops) (o:=o) hs (he o ho);refine⟨o,d,ho,hdst,hnd,hsel,hd,?_⟩;rcases hr with⟨hwant,hr⟩|⟨hskip,hk⟩;refine .inl ⟨hw.trans hwant,λw Ds Y' hS=>?_⟩;have hexec:execOp (Act.eval ⟨t',Ds.map mark⟩) o=execOp (Act.eval ⟨t,Ds.map mark⟩) o:=execOp_congr (ρ':=Act.eval ⟨t,Ds.map mark⟩) o (λcs bb e=>by rw[e]at hsel;cases hsel) (λx hx=>by
  cases x with
  |tmp s=>exact he o ho s (by
    simp only[mF,dP];exact .inr (List.mem_filterMap.2 ⟨.tmp s,by simpa using hx,rfl⟩))
  |const v=>rfl
  |global g=>rfl
  |func g=>rfl);rw[hexec];rcases hr w Ds Y' hS with⟨v,w',h',h1,h2,h3⟩|⟨gf,args,Rc,h1,h2,h3⟩;exact .inl ⟨v,w',h',h1,h2,hK d v h' hdo h3⟩;refine .inr ⟨gf,args,Rc,h1,h2,λv w' hR=>?_⟩;obtain⟨h',h4,h5⟩:=h3 v w' hR;exact⟨h',h4,hK d v h' hdo h5⟩;exact .inr ⟨hw.trans hskip,hK d undef h hdo hk⟩
theorem kF.pure{i d:Nat}{v:aC} {hb:Hl}{K:af->Hl->Prop}(ho:oJ P w0 S n hb ops i t d v)(hsel:∀o,ops[i]?=some o->lG o.op=true)(hs:hb.Sublist h)(hK:K (t.setIfInBounds d v) h):kF P w0 S n ops i t h K:=by
 obtain⟨o,h1,h2,h3,h4,h5⟩:=ho;refine⟨o,d,h1,h2,h4,hsel o h1,h3,?_⟩;rcases h5 with⟨a,b⟩|⟨a,rfl⟩;refine .inl ⟨a,λw Ds Y' hS=>?_⟩;rcases b w Ds Y' (hS.ij hs)with hb2|⟨gf,args,hb2,hcall⟩;exact .inl ⟨v,w,h,hb2,hS,hK⟩;exact .inr ⟨gf,args,_,hb2,hcall,λu w' ⟨he,hu⟩=>⟨h,hS.later he,by rw[hu];exact hK⟩⟩;exact .inr ⟨a,hK⟩
def Dt(P:av)(r:ah)(f:ay)(R:aC->aB->Prop)(w0:aB)(S:aq)(Y:List (Nat×Obj))(n:Nat)(k:al)(ops:aj)(hb:Hl):Nat->aq->af->Hl->Prop
 |0,_,_,_=>False
 |q+1,D,t,h=>
  (fw ops D=[]/\∀w Ds,St w0 S w h (tQ Ds++Y)->kv P r f R (.inRegion ops []::k) t (Ds.map mark) w)\/
  (fw ops D≠[]/\∀i∈fw ops D,kF P w0 S n ops i t h (λt' h'=>hb.Sublist h'/\Dt P r f R w0 S Y n k ops hb q (i::D) t' h'))
theorem kF.mono{i:Nat} {K K':af->Hl->Prop}(hm:kF P w0 S n ops i t h K)(hK:∀t' h',K t' h'->K' t' h'):kF P w0 S n ops i t h K':=hm.congr rfl (λ_ _ _ _=>rfl) (λ_ _ _ _ h=>hK _ _ h)
theorem Dt.perm{hb:Hl}:∀{q:Nat} {D D':aq} {t:af} {h:Hl},(∀j,j∈D↔j∈D')->Dt P r f R w0 S Y n k ops hb q D t h->Dt P r f R w0 S Y n k ops hb q D' t h
 |0,_,_,_,_,_,hd=>hd
 |q+1,D,D',t,h,hp,hd=>by
  rw[Dt]at hd⊢;rw[<-qI hp];rcases hd with hd|⟨h1,h2⟩;exact .inl hd;exact .inr ⟨h1,λi hi=>(h2 i hi).mono (λt' h' ⟨e1,e2⟩=>⟨e1,e2.perm (λj=>by rw[ew,ew,hp j])⟩)⟩
theorem set_comm {d e:Nat}{u v:aC}(hne:d≠e):(t.setIfInBounds d u).setIfInBounds e v=(t.setIfInBounds e v).setIfInBounds d u:=by
 apply Array.ext_getElem?;intro j;simp only[Array.getElem?_setIfInBounds,Array.size_setIfInBounds];by_cases h1:e=j;by_cases h2:d=j;exact absurd (h2.trans h1.symm) hne;simp[h1,h2];by_cases h2:d=j<;>simp[h1,h2]
theorem Dt.pure{hb:Hl}{i d:Nat}(hf:DA ops i d)(hd:d<n):∀{q:Nat} {D:aq} {t:af} {h:Hl} {v:aC},t.size=n->i∈fw ops D->oJ P w0 S n hb ops i t d v->hb.Sublist h->Dt P r f R w0 S Y n k ops hb q (i::D) (t.setIfInBounds d v) h->Dt P r f R w0 S Y n k ops hb (q+1) D t h
 |0,_,_,_,_,_,_,_,_,hd=>hd.elim
 |q+1,D,t,h,v,hts,hi,ho,hs,hdt=>by
  have hme:kF P w0 S n ops i t h (λt' h'=>hb.Sublist h'/\Dt P r f R w0 S Y n k ops hb (q+1) (i::D) t' h'):=kF.pure ho hf.E5 hs ⟨hs,hdt⟩;have hne:fw ops D≠[]:=λe=>by rw[e]at hi;cases hi
  obtain⟨hiS,hiD,hid⟩:=iF.1 hi;rw[Dt];refine .inr ⟨hne,λj hj=>?_⟩;by_cases hji:j=i;rw[hji];exact hme;obtain⟨hjS,hjD,hjd⟩:=iF.1 hj;have hj2:j∈fw ops (i::D):=iF.2 ⟨hjS,by simp[hji,hjD],λe he=>cF _ (hjd e he)⟩;rw[Dt]at hdt;rcases hdt with⟨h1,_⟩|⟨_,h2⟩;rw[h1]at hj2;cases hj2;have hjo:∀o,ops[j]?=some o->d∉mF ops o:=λo hoo hm=>(hf.seen j o hjS hji hoo hm).elim (λh5=>hiD (hjd i h5)) (λh5=>hjD (hid j h5));refine(h2 j hj2).congr aL (λo hoo s hse=>?_) (λe u h' hde hk=>?_);have hds:d≠s:=λe1=>hjo o hoo (by rw[e1];exact hse);rw[jc (by rw[hts];exact hd),if_neg hds];obtain⟨hk1,hk2⟩:=hk;refine⟨hk1,?_⟩;have hde2:d≠e:=λe1=>hf.one j hjS hji (by rw[hde,e1]);rw[set_comm hde2]at hk2;have hi2:i∈fw ops (j::D):=iF.2 ⟨hiS,by simp[Ne.symm hji,hiD],λe he=>cF _ (hid e he)⟩;refine Dt.pure hf hd (by simpa using hts) hi2 (ho.congr hf.E5 aL (λo hoo s hse=>?_)) hk1 (hk2.perm (λx=>by simp only[ew];exact or_left_comm));have hes:e≠s:=λe1=>by
   subst e1;rcases hf.K9 j e o hjS hji hde hoo hse with h5|h5;exact hjD (hid j h5);exact hiD (hjd i h5)
  by_cases hlt:e<t.size;rw[jc hlt,if_neg hes];rw[show t.setIfInBounds e u=t from Array.setIfInBounds_eq_of_size_le (Nat.le_of_not_lt hlt)]
theorem Dt.go{hb:Hl}:∀(fuel τ:Nat) (arr:Array Bool) (D:aq) (q:Nat) (t:af) (h:Hl) (w:aB) (Ds:aq),arr.size=ops.size->(∀j,arr.getD j false=D.contains j)->Dt P r f R w0 S Y n k ops hb q D t h->St w0 S w h (tQ Ds++Y)->(List.range ops.size).countP (λj=>!D.contains j)<=fuel->
  kv P r f R (.inRegion ops (Region.linearise.go .any ops fuel τ arr [])::k) t (Ds.map mark) w
 |_,_,_,_,0,_,_,_,_,_,_,hd,_,_=>hd.elim
 |fuel,τ,arr,D,q+1,t,h,w,Ds,hs,ha,hd,hS,hfu=>by
  rw[Dt]at hd;rcases hd with⟨h0,hg⟩|⟨h1,h2⟩;have:Region.linearise.go .any ops fuel τ arr []=[]:=by
   cases fuel with
   |zero=>rfl
   |succ fuel=>
    simp only[Region.linearise.go];change (match (Region.ready .any ops arr)[_%(Region.ready .any ops arr).length]? with
     |some i=>_
     |none=>[].reverse)=[];rw[p3 hs ha,h0];rfl
  rw[this];exact hg w Ds hS;cases fuel with
  |zero=>
   exfalso;obtain⟨x,hx⟩:=List.exists_mem_of_ne_nil _ h1;obtain⟨e1,e2,_⟩:=iF.1 hx;have:0<(List.range ops.size).countP (λj=>!D.contains j):=List.countP_pos_iff.2 ⟨x,by simpa using e1,by simpa using e2⟩;omega
  |succ fuel=>
   have hpos:0<(fw ops D).length:=List.length_pos_iff.2 h1;simp only[Region.linearise.go];change kv P r f R (.inRegion ops (match (Region.ready .any ops arr)[τ%(Region.ready .any ops arr).length]? with
    |some i=>Region.linearise.go .any ops fuel (τ / (Region.ready .any ops arr).length) (arr.setIfInBounds i true) [i]
    |none=>[].reverse)::k) t (Ds.map mark) w;rw[p3 hs ha];have hlt:τ%(fw ops D).length<(fw ops D).length:=Nat.mod_lt _ hpos;rw[bG hlt];obtain⟨x,hx⟩:∃x,x=(fw ops D)[τ%(fw ops D).length]:=⟨_,rfl⟩;rw[<-hx];have hxm:x∈fw ops D:=by rw[hx];exact dB hlt
   obtain⟨e1,e2,_⟩:=iF.1 hxm;dsimp only;rw[linearise_go_acc,bQ,cg];have hnext:∀(t':af) (h':Hl) (w':aB),hb.Sublist h'/\Dt P r f R w0 S Y n k ops hb q (x::D) t' h'->St w0 S w' h' (tQ Ds++Y)->kv P r f R (.inRegion ops (Region.linearise.go .any ops fuel (τ / (fw ops D).length) (arr.setIfInBounds x true) [])::k) t' (Ds.map mark) w':=λt' h' w' hK hS'=>by
    refine Dt.go fuel _ _ (x::D) q t' h' w' Ds (by simpa using hs) (λj=>?_) hK.2 hS' ?_;rw[fQ aH,ha j,List.contains_cons];split;rename_i e;subst e;simp;rename_i e;rw[beq_false_of_ne (Ne.symm e)];rfl;have:=se (l:=List.range ops.size) (p:=λj=>!(x::D).contains j) (q:=λj=>!D.contains j) (λy _ hy=>by simp at hy⊢;exact hy.2) ⟨x,by simpa using e1,by simpa using e2,by simp⟩;omega
   obtain⟨o,d,ho,hdst,hnd,hsel,hdn,hr⟩:=h2 x hxm;rcases hr with⟨hw,hr⟩|⟨hw,hk⟩;rcases hr w Ds _ hS with⟨v,w',h',h3,h4,h5⟩|⟨gf,args,Rc,h3,h4,h5⟩;refine kv.op ho hw (jE hnd) h3 (.inl rfl) ?_;rw[hdst];exact hnext _ _ _ h5 h4;refine kv.call ho hw (jE hnd) h3 h4 (λu w2 hu=>?_);obtain⟨h',h6,h7⟩:=h5 u w2 hu;rw[hdst];exact hnext _ _ _ h7 h6;refine nJ ho hw ?_;rw[hdst];exact hnext _ _ _ hk hS
def fz(P:av)(r:ah)(f:ay)(R:aC->aB->Prop)(w0:aB)(S:aq)(Y:List (Nat×Obj))(n:Nat)(k:al)(ops:aj)(hb:Hl)(q:Nat)(D:aq)(l:Fl)(h:Hl):Prop:=
 ∀t,nS n t l->Dt P r f R w0 S Y n k ops hb q D t h
variable{hb:Hl}{q:Nat}{D:aq}
theorem gz{id:Nat}(q:Nat)(hb:Hl)(hmix:P.follows .mixedOrders=true)(hg:fz P r f R w0 S Y n k ops hb q [] l h):eQ P r f R w0 S Y n (.code (.region id ops true)::k) l h:=by
 intro t w Ds hF hS;refine .oR (λτ=>?_);simp only[Region.schedule,hmix,Bool.true_or,eN,Region.linearise];refine Dt.go ops.size τ _ [] q t h _ Ds aL (λj=>?_) (hg t hF) hS.drew ?_;simp[aV,bE];split<;>simp
 exact eB List.countP_le_length aL
theorem fK{id:Nat}(q:Nat)(hmix:P.follows .mixedOrders=true)(hg:fz P r f R w0 S Y n k ops h q [] l h):eQ P r f R w0 S Y n (.code (.region id ops true)::k) l h:=gz q h hmix hg
theorem iQ{id:Nat}{p:ah×Obj}(q:Nat)(hmix:P.follows .mixedOrders=true)(hg:fz P r f R w0 S Y n k ops [p] q [] l (p::h)):eQ P r f R w0 S Y n (.code (.region id ops true)::k) l (p::h):=gz q [p] hmix hg
theorem fz.done(h0:fw ops D=[])(hg:eQ P r f R w0 S Y n (.inRegion ops []::k) l h):fz P r f R w0 S Y n k ops hb (q+1) D l h:=λt hF=>.inl ⟨h0,λw Ds hS=>hg t w Ds hF hS⟩
theorem fz.Fz{i d:Nat}{v:aC}(hi:(fw ops D).contains i=true)(hp:nC ops i=true)(ho:∀t,nS n t l->oJ P w0 S n hb ops i t d v)(hs:hb.Sublist h)(hg:fz P r f R w0 S Y n k ops hb q (i::D) ((d,v)::l) h):fz P r f R w0 S Y n k ops hb (q+1) D l h:=by
 intro t hF;obtain⟨d',hf⟩:=wA hp;have hO:=ho t hF;obtain⟨o,h1,h2,h3,_⟩:=hO;have e:d'=d:=by
  have:=hf.dst;simp[hJ,h1,h2]at this;exact this.symm
 subst e;exact Dt.pure hf h3 hF.1 (by simpa using hi) (ho t hF) hs (hg _ (hF.put v (by simpa[eI]using h3)))
theorem fz.v{i d:Nat}{v:aC}(hv:eS P w0 S n hb ops i l d v)(hi:(fw ops D).contains i=true)(hp:nC ops i=true)(hs:hb.Sublist h)(hg:fz P r f R w0 S Y n k ops hb q (i::D) ((d,v)::l) h):fz P r f R w0 S Y n k ops hb (q+1) D l h:=by
 refine fz.Fz hi hp (λt hF=>?_) hs hg;obtain⟨o,ho,hw,hdst,hnd,hd,hr⟩:=hv
 exact⟨o,ho,hdst,by simpa[eI]using hd,hnd,.inl ⟨kH hF hw,λw Ds Y' hS=>by
  obtain⟨nx,h1,rfl⟩:=hr t w Ds Y' hF hS;exact .inl h1⟩⟩
theorem fz.no{i d:Nat}{o:Oper}(ho:ops[i]?=some o)(hw:sA ops l o.guard=true)(hdst:o.dst=some d)(hnd:lL o.op=false)(hd:Nat.blt d n=true)(hi:(fw ops D).contains i=true)(hp:nC ops i=true)(hs:hb.Sublist h)(hg:fz P r f R w0 S Y n k ops hb q (i::D) ((d,undef)::l) h):fz P r f R w0 S Y n k ops hb (q+1) D l h:=
 fz.Fz hi hp (λ_ hF=>⟨o,ho,hdst,by simpa[eI]using hd,hnd,.inr ⟨tH hF hw,rfl⟩⟩) hs hg
theorem fz.cases{d:Nat}{b:Bool}(hv:look l d=some (.bool b))(ht:b=true->fz P r f R w0 S Y n k ops hb q D ((d,.bool true)::l) h)(hf:b=false->fz P r f R w0 S Y n k ops hb q D ((d,.bool false)::l) h):fz P r f R w0 S Y n k ops hb q D l h:=by
 intro t hF;cases hb2:b with
 |true=>exact ht hb2 t (ua hF hv hb2)
 |false=>exact hf hb2 t (ua hF hv hb2)
theorem fz.one{i d:Nat}(h1:fw ops D=[i])(hm:ik P w0 S n h ops i l d (λv h'=>hb.Sublist h'/\fz P r f R w0 S Y n k ops hb q (i::D) ((d,v)::l) h'))(hd:Nat.blt d n=true):fz P r f R w0 S Y n k ops hb (q+1) D l h:=by
 intro t hF;rw[Dt];refine .inr ⟨by rw[h1];simp,λj hj=>?_⟩;rw[h1]at hj;obtain rfl:=de.1 hj;exact kF.of hm hF (λv h' ⟨e1,e2⟩=>⟨e1,e2 _ (hF.put v hd)⟩)
theorem fz.call{i d:Nat}{ty:ax}{pos:aA}{aft:ak}{g:Option (Nat×Bool)}{az:aa}{ts:ab}{cal:au}{gf:ay}{vs:ai}(Rc:aB->aC->aB->Prop)(h1:fw ops D=[i])(ho:ops[i]?=some ⟨some d,.call ⟨.value cal,az,ts⟩,ty,pos,aft,g⟩)(hw:fg ops l g=true)
  (hc:fW l cal=some (.func (.func gf) #[] #[]))(hx:iT l az.toList=some vs)(hd:Nat.blt d n=true)(hcf:∀args w,(callFunc gf args).run P w=.ok (.enter gf args) w)
  (hcall:∀w Y',St w0 S w h Y'->Cn P gf vs w (Rc w))
  (hk:∀v w w' Y',St w0 S w h Y'->Ex [] w w'->Rc w v w'->∃h',St w0 S w' h' Y'/\hb.Sublist h'/\fz P r f R w0 S Y n k ops hb q (i::D) ((d,v)::l) h'):fz P r f R w0 S Y n k ops hb (q+1) D l h:=
 fz.one h1 (ik.call Rc ho hw hc hx hd hcf hcall (λv w w' Y' hS he hr=>by
  obtain⟨h',e1,e2,e3⟩:=hk v w w' Y' hS he hr;exact⟨h',e1,e2,e3⟩)) hd
theorem fz.jG{i d:Nat} {pos:aA} {g:Option (Nat×Bool)}   {gf:ay} (Rc:aB->aC->aB->Prop)(hcf:∀args w,(callFunc gf args).run P w=.ok (.enter gf args) w)(hcall:∀w Y',St w0 S w h Y'->Cn P gf vs w (Rc w))(hk:∀v w w' Y',St w0 S w h Y'->Ex [] w w'->Rc w v w'->∃h',St w0 S w' h' Y'/\hb.Sublist h'/\fz P r f R w0 S Y n k ops hb q (i::D) ((d,v)::l) h')(h1:fw ops D=[i]:=by exact rfl)(ho:ops[i]?=some ⟨some d,.call ⟨.value cal,az,ts⟩,ty,pos,aft,g⟩:=by exact rfl)(hw:fg ops l g=true:=by exact rfl)(hc:fW l cal=some (.func (.func gf) #[] #[]):=by exact rfl)(hx:iT l az.toList=some vs:=by exact rfl)(hd:Nat.blt d n=true:=by exact rfl):fz P r f R w0 S Y n k ops hb (q+1) D l h:=fz.call (Rc:=Rc) (h1:=h1) (ho:=ho) (hw:=hw) (hc:=hc) (hx:=hx) (hd:=hd) (hcf:=hcf) (hcall:=hcall) (hk:=hk)
theorem fz.kO{i d:Nat}{v:aC} {pos:aA} {g:Option (Nat×Bool)}   {gf:ay} (h1:fw ops D=[i])(ho:ops[i]?=some ⟨some d,.call ⟨.value cal,az,ts⟩,ty,pos,aft,g⟩)(hw:fg ops l g=true)
  (hc:fW l cal=some (.func (.func gf) #[] #[]))(hx:iT l az.toList=some vs)(hd:Nat.blt d n=true)(hcf:∀args w,(callFunc gf args).run P w=.ok (.enter gf args) w)
  (hcall:∀w Y',St w0 S w h Y'->Cn P gf vs w (λu _=>u=v))(hs:hb.Sublist h)(hg:fz P r f R w0 S Y n k ops hb q (i::D) ((d,v)::l) h):fz P r f R w0 S Y n k ops hb (q+1) D l h:=
 fz.call (λ_ u _=>u=v) h1 ho hw hc hx hd hcf hcall (λ_u _ _ _ hS he e=>⟨h,hS.later he,hs,e ▸ hg⟩)
theorem fz.iP{i d:Nat}{v:aC} {pos:aA} {g:Option (Nat×Bool)}   {gf:ay} (hcf:∀args w,(callFunc gf args).run P w=.ok (.enter gf args) w)(hcall:∀w Y',St w0 S w h Y'->Cn P gf vs w (λu _=>u=v))(hs:hb.Sublist h)(hg:fz P r f R w0 S Y n k ops hb q (i::D) ((d,v)::l) h)(h1:fw ops D=[i]:=by exact rfl)(ho:ops[i]?=some ⟨some d,.call ⟨.value cal,az,ts⟩,ty,pos,aft,g⟩:=by exact rfl)(hw:fg ops l g=true:=by exact rfl)(hc:fW l cal=some (.func (.func gf) #[] #[]):=by exact rfl)(hx:iT l az.toList=some vs:=by exact rfl)(hd:Nat.blt d n=true:=by exact rfl):fz P r f R w0 S Y n k ops hb (q+1) D l h:=fz.kO (h1:=h1) (ho:=ho) (hw:=hw) (hc:=hc) (hx:=hx) (hd:=hd) (hcf:=hcf) (hcall:=hcall) (hs:=hs) (hg:=hg)
end
end
section
variable{az:aa}{ts:ab}{vs:ai}{c cal x y:au}
section
variable{P:av}{r:ah}{f:ay}{R:aC->aB->Prop}{w0:aB}{S:aq}{Y:List (Nat×Obj)}{n:Nat}{k:al}{l:Fl}{h:Hl}{ops:aj}{i d m:Nat}{rest:aq}{ty:ax}{pos:aA}{aft:ak}{g:Option (Nat×Bool)}
theorem gE(hk:eQ P r f R w0 S Y n k l h):eQ P r f R w0 S Y n (.inRegion ops []::k) l h:=.rV hk
theorem gS{x y:Code}(hk:eQ P r f R w0 S Y n (.code x::.code y::k) l h):eQ P r f R w0 S Y n (.code (.seq x y)::k) l h:=.seq hk
theorem gR{id:Nat}(hk:eQ P r f R w0 S Y n (.inRegion ops (List.range' 0 ops.size)::k) l h):eQ P r f R w0 S Y n (.code (.region id ops false)::k) l h:=.region hk
theorem gK(hk:eQ P r f R w0 S Y n k l h):eQ P r f R w0 S Y n (.code .skip::k) l h:=.skip hk
theorem gB{id:Nat}{c:Code}(hk:eQ P r f R w0 S Y n (.code c::.inBlock id::k) l h):eQ P r f R w0 S Y n (.code (.block id c)::k) l h:=.block hk
theorem Gs{id:Nat}(hk:eQ P r f R w0 S Y n k l h):eQ P r f R w0 S Y n (.inBlock id::k) l h:=.inBlock hk
theorem Rt{c:Code}(hk:eQ P r f R w0 S Y n k l h):eQ P r f R w0 S Y n (.inScope c::k) l h:=.inScope hk
theorem tZ {v:aC}(hk:eQ P r f R w0 S Y n (.inRegion ops rest::k) ((d,v)::l) h)(ho:ops[i]?=some ⟨some d,.move x,ty,pos,aft,g⟩:=by exact rfl)(hw:fg ops l g=true:=by exact rfl)(hx:fW l x=some v:=by exact rfl)(hd:Nat.blt d n=true:=by exact rfl):eQ P r f R w0 S Y n (.inRegion ops (i::rest)::k) l h:=eQ.v (.mv ho hw hx hd) hk
theorem mE {v:aC}(hk:eQ P r f R w0 S Y n (.inRegion ops rest::k) ((d,v)::l) h)(ho:ops[i]?=some ⟨some d,.assign x,ty,pos,aft,g⟩:=by exact rfl)(hw:fg ops l g=true:=by exact rfl)(hx:fW l x=some v:=by exact rfl)(hd:Nat.blt d n=true:=by exact rfl):eQ P r f R w0 S Y n (.inRegion ops (i::rest)::k) l h:=eQ.v (.Er ho hw hx hd) hk
theorem mL {u:aC}(hk:eQ P r f R w0 S Y n (.inRegion ops rest::k) ((d,u)::l) h)(ho:ops[i]?=some ⟨some d,.pick c x y,ty,pos,aft,g⟩:=by exact rfl)(hw:fg ops l g=true:=by exact rfl)(hc:fW l c=some (.bool true):=by exact rfl)(hx:fW l x=some u:=by exact rfl)(hd:Nat.blt d n=true:=by exact rfl):eQ P r f R w0 S Y n (.inRegion ops (i::rest)::k) l h:=eQ.v (.iY ho hw hc hx hd) hk
theorem pI {u:aC}(hk:eQ P r f R w0 S Y n (.inRegion ops rest::k) ((d,u)::l) h)(ho:ops[i]?=some ⟨some d,.pick c x y,ty,pos,aft,g⟩:=by exact rfl)(hw:fg ops l g=true:=by exact rfl)(hc:fW l c=some (.bool false):=by exact rfl)(hx:fW l y=some u:=by exact rfl)(hd:Nat.blt d n=true:=by exact rfl):eQ P r f R w0 S Y n (.inRegion ops (i::rest)::k) l h:=eQ.v (.Kh ho hw hc hx hd) hk
theorem QO {j:Nat}{vs:af}{v:aC}(hk:eQ P r f R w0 S Y n (.inRegion ops rest::k) ((d,v)::l) h)(ho:ops[i]?=some ⟨some d,.extract x j,ty,pos,aft,g⟩:=by exact rfl)(hw:fg ops l g=true:=by exact rfl)(hx:fW l x=some (.tuple vs):=by exact rfl)(hb:vs[j]?=some v:=by exact rfl)(hd:Nat.blt d n=true:=by exact rfl):eQ P r f R w0 S Y n (.inRegion ops (i::rest)::k) l h:=eQ.v (.ext ho hw hx hb hd) hk
theorem OX{o:UnOp}{tx:ax} {a v:aC}(hb:OZ P o a v)(hk:eQ P r f R w0 S Y n (.inRegion ops rest::k) ((d,v)::l) h)(ho:ops[i]?=some ⟨some d,.unOp o tx x,ty,pos,aft,g⟩:=by exact rfl)(hw:fg ops l g=true:=by exact rfl)(hx:fW l x=some a:=by exact rfl)(hd:Nat.blt d n=true:=by exact rfl):eQ P r f R w0 S Y n (.inRegion ops (i::rest)::k) l h:=eQ.v (.un ho hw hx hb hd) hk
theorem mR{o:BinOp}{tx tyy:ax} {a b v:aC}(hb:pD P o tx a b v)(hk:eQ P r f R w0 S Y n (.inRegion ops rest::k) ((d,v)::l) h)(ho:ops[i]?=some ⟨some d,.binOp o tx x y tyy,ty,pos,aft,g⟩:=by exact rfl)(hw:fg ops l g=true:=by exact rfl)(hx:fW l x=some a:=by exact rfl)(hy:fW l y=some b:=by exact rfl)(hd:Nat.blt d n=true:=by exact rfl):eQ P r f R w0 S Y n (.inRegion ops (i::rest)::k) l h:=eQ.v (.bin ho hw hx hy hb hd) hk
theorem vV{t:ax} {b off:Nat}{cs:af}{e:ax}{fr:Nat×Nat}{v:aC}(ha:∀w,(isAgg t).run P w=.ok false w)(j:Nat)(hk:eQ P r f R w0 S Y n (.inRegion ops rest::k) ((d,v)::l) h)(ho:ops[i]?=some ⟨some d,.load t x,ty,pos,aft,g⟩:=by exact rfl)(hw:fg ops l g=true:=by exact rfl)(hx:fW l x=some (.pointer (some ⟨b,off,none⟩)):=by exact rfl)(hd:Nat.blt d n=true:=by exact rfl)(hj:h[j]?=some (some b,.cells cs e fr):=by exact rfl)(hv:cs[off]?=some v:=by exact rfl):eQ P r f R w0 S Y n (.inRegion ops (i::rest)::k) l h:=eQ.v (.wQ ho hw hx hd ha j hj hv) hk
theorem vW{s tt:ax} {b o q:Nat}{fs:Array Field}{fd:Field}{sz:Nat}(hu:P.underlying s=some (.struct fs))(he:∀w,(sizeOf tt).run P w=.ok (sz+1) w)(o':Nat)(hk:eQ P r f R w0 S Y n (.inRegion ops rest::k) ((d,.pointer (some ⟨b,o',none⟩))::l) h)(ho:ops[i]?=some ⟨some d,.fieldAddr s x q,ty,pos,aft,g⟩:=by exact rfl)(hw:fg ops l g=true:=by exact rfl)(hx:fW l x=some (.pointer (some ⟨b,o,none⟩)):=by exact rfl)(hd:Nat.blt d n=true:=by exact rfl)(hq:fs[q]?=some fd:=by exact rfl)(ht:fd.type=tt:=by exact rfl)(hO:o+fd.offset=o':=by exact rfl):eQ P r f R w0 S Y n (.inRegion ops (i::rest)::k) l h:=eQ.v (.ni ho hw hx hd hu hq (ht ▸ he) o' hO) hk
theorem mM{o:Oper}(hk:eQ P r f R w0 S Y n (.inRegion ops rest::k) ((d,undef)::l) h)(ho:ops[i]?=some o:=by exact rfl)(hw:sA ops l o.guard=true:=by exact rfl)(hdst:o.dst=some d:=by exact rfl)(hd:Nat.blt d n=true:=by exact rfl):eQ P r f R w0 S Y n (.inRegion ops (i::rest)::k) l h:=eQ.no ho hw hdst hd hk
theorem gP   {gf:ay} {v:aC}(ho:ops[i]?=some ⟨some d,.call ⟨.value cal,az,ts⟩,ty,pos,aft,g⟩)(hw:fg ops l g=true)(hc:fW l cal=some (.func (.func gf) #[] #[]))(hx:iT l az.toList=some vs)(hd:Nat.blt d n=true)(hcf:∀args w,(callFunc gf args).run P w=.ok (.enter gf args) w)(hcall:∀w Y',St w0 S w h Y'->Cn P gf vs w (λu _=>u=v))(hk:eQ P r f R w0 S Y n (.inRegion ops rest::k) ((d,v)::l) h):eQ P r f R w0 S Y n (.inRegion ops (i::rest)::k) l h:=.kO ho hw hc hx hd hcf hcall hk
theorem sE   {gf:ay} {v:aC}(hcf:∀args w,(callFunc gf args).run P w=.ok (.enter gf args) w)(hcall:∀w Y',St w0 S w h Y'->Cn P gf vs w (λu _=>u=v))(hk:eQ P r f R w0 S Y n (.inRegion ops rest::k) ((d,v)::l) h)(ho:ops[i]?=some ⟨some d,.call ⟨.value cal,az,ts⟩,ty,pos,aft,g⟩:=by exact rfl)(hw:fg ops l g=true:=by exact rfl)(hc:fW l cal=some (.func (.func gf) #[] #[]):=by exact rfl)(hx:iT l az.toList=some vs:=by exact rfl)(hd:Nat.blt d n=true:=by exact rfl):eQ P r f R w0 S Y n (.inRegion ops (i::rest)::k) l h:=gP (ho:=ho) (hw:=hw) (hc:=hc) (hx:=hx) (hd:=hd) (hcf:=hcf) (hcall:=hcall) (hk:=hk)
theorem gM   {gf:ay} {Rc:aB->aC->aB->Prop}(ho:ops[i]?=some ⟨some d,.call ⟨.value cal,az,ts⟩,ty,pos,aft,g⟩)(hw:fg ops l g=true)(hc:fW l cal=some (.func (.func gf) #[] #[]))(hx:iT l az.toList=some vs)(hd:Nat.blt d n=true)(hcf:∀args w,(callFunc gf args).run P w=.ok (.enter gf args) w)(hcall:∀w Y',St w0 S w h Y'->Cn P gf vs w (Rc w))(hk:∀v w w' Y',St w0 S w h Y'->Ex [] w w'->Rc w v w'->∃h',St w0 S w' h' Y'/\eQ P r f R w0 S Y n (.inRegion ops rest::k) ((d,v)::l) h'):eQ P r f R w0 S Y n (.inRegion ops (i::rest)::k) l h:=.rG Rc ho hw hc hx hd hcf hcall hk
theorem sG   {gf:ay} {Rc:aB->aC->aB->Prop}(hcf:∀args w,(callFunc gf args).run P w=.ok (.enter gf args) w)(hcall:∀w Y',St w0 S w h Y'->Cn P gf vs w (Rc w))(hk:∀v w w' Y',St w0 S w h Y'->Ex [] w w'->Rc w v w'->∃h',St w0 S w' h' Y'/\eQ P r f R w0 S Y n (.inRegion ops rest::k) ((d,v)::l) h')(ho:ops[i]?=some ⟨some d,.call ⟨.value cal,az,ts⟩,ty,pos,aft,g⟩:=by exact rfl)(hw:fg ops l g=true:=by exact rfl)(hc:fW l cal=some (.func (.func gf) #[] #[]):=by exact rfl)(hx:iT l az.toList=some vs:=by exact rfl)(hd:Nat.blt d n=true:=by exact rfl):eQ P r f R w0 S Y n (.inRegion ops (i::rest)::k) l h:=gM (ho:=ho) (hw:=hw) (hc:=hc) (hx:=hx) (hd:=hd) (hcf:=hcf) (hcall:=hcall) (hk:=hk)
theorem gT{fn:Func} (hf:P.funcs[f]?=some fn)(hR:∀w,St w0 S w h Y->R (l7 vs) w)(hres:DR l fn.results.toList=some vs:=by exact rfl):eQ P none f R w0 S Y n (.code .ret::k) l h:=.ret fn hf hres hR
theorem gC {x y:Code}{b:Bool}(ht:b=true->eQ P r f R w0 S Y n (.code x::k) l h)(hf:b=false->eQ P r f R w0 S Y n (.code y::k) l h)(hc:fW l c=some (.bool b):=by exact rfl):eQ P r f R w0 S Y n (.code (.cond c x y)::k) l h:=.cond hc ht hf
theorem Pt(d:Nat){b:Bool}(ht:b=true->eQ P r f R w0 S Y n k ((d,.bool true)::l) h)(hf:b=false->eQ P r f R w0 S Y n k ((d,.bool false)::l) h)(hv:look l d=some (.bool b):=by exact rfl):eQ P r f R w0 S Y n k l h:=.cases hv ht hf
theorem lu{o:BinOp}{tx tyy:ax} {a b v:aC}(ho:ops[i]?=some ⟨some d,.binOp o tx x y tyy,ty,pos,aft,g⟩)(hw:fg ops l g=true)(hx:fW l x=some a)(hy:fW l y=some b)(hb:pD P o tx a b v)(hk:eQ P r f R w0 S Y n (.inRegion ops rest::k) ((d,v)::l) h)(hd:Nat.blt d n=true:=by exact rfl):eQ P r f R w0 S Y n (.inRegion ops (i::rest)::k) l h:=.v (.bin ho hw hx hy hb hd) hk
theorem cV{q:Nat}{D:aq}{hb:Hl}{d:Nat}{v:aC}(i:Nat)(hv:eS P w0 S n hb ops i l d v)(hg:fz P r f R w0 S Y n k ops hb q (i::D) ((d,v)::l) h)(hi:(fw ops D).contains i=true:=by exact rfl)(hp:nC ops i=true:=by exact rfl)(hs:hb.Sublist h:=by repeat(first|exact aD|exact aE|refine List.Sublist.cons_cons _ ?_|refine List.Sublist.cons _ ?_)):fz P r f R w0 S Y n k ops hb (q+1) D l h:=.v hv hi hp hs hg
theorem sL{a b:Hl}(hs:a.Sublist b:=by repeat(first|exact aD|exact aE|refine List.Sublist.cons_cons _ ?_|refine List.Sublist.cons _ ?_)):a.Sublist b:=hs
theorem sM{a b:Hl}(hs:a.Sublist b:=by repeat(first|exact aD|refine List.Sublist.cons _ ?_)):a.Sublist b:=hs
theorem sF{a b:Fl}(hs:j9 a b:=by repeat(first|exact j9.nil|refine j9.cons rfl ?_)):j9 a b:=hs
end
end
section
variable{aft:ak}{ty:ax}
def cur(c:Nat)(hb hb2:Hl)(D:aq):Hl:=if D.contains c=true then hb2 else hb
theorem xd{c i:Nat}{hb hb2:Hl}{D:aq}(h2:hb2.Sublist hb):(cur c hb hb2 (i::D)).Sublist (cur c hb hb2 D):=by
 unfold cur;by_cases h:D.contains c=true;rw[if_pos h,if_pos (by rw[List.contains_cons,h,Bool.or_true])];exact aD;rw[if_neg h];split;exact h2;exact aD
theorem Jz{c:Nat}{hb hb2:Hl}{D:aq}(h2:hb2.Sublist hb):hb2.Sublist (cur c hb hb2 D):=by
 unfold cur;split;exact aD;exact h2
theorem El{c:Nat}{hb hb2:Hl}{D D':aq}(h:∀j,j∈D↔j∈D'):cur c hb hb2 D=cur c hb hb2 D':=by
 unfold cur;have:D.contains c=D'.contains c:=by rw[dJ];simp[h c]
 rw[this]
theorem Mz{c:Nat}{hb hb2:Hl}{D:aq}(h:D.contains c=false):cur c hb hb2 D=hb:=if_neg (by rw[h];simp)
theorem sd{c:Nat}{hb hb2:Hl}{D:aq}(h:D.contains c=true):cur c hb hb2 D=hb2:=if_pos h
section
variable{P:av}{r:ah}{f:ay}{R:aC->aB->Prop}{w0:aB}{S:aq}{Y:List (Nat×Obj)}{n:Nat}{k:al}{l:Fl}{h:Hl}{ops:aj}{c:Nat}{hb hb2:Hl}
def J1(P:av)(w0:aB)(S:aq)(ops:aj)(i:Nat)(t:af)(h:Hl)(K:Hl->Prop):Prop:=
 ∃o,ops[i]?=some o/\o.dst=none/\lL o.op=false/\lG o.op=true/\Region.wanted o (yielded ops t)=true/\∀(w:aB) (Ds:aq) (Y':List (Nat×Obj)),St w0 S w h Y'->
  ∃w' h',(execOp (Act.eval ⟨t,Ds.map mark⟩) o).run P w=.ok .skip w'/\St w0 S w' h' Y'/\K h'
theorem J1.congr{i:Nat}{t t':af}{K K':Hl->Prop}(hm:J1 P w0 S ops i t h K)(hs:t'.size=t.size)(he:∀o,ops[i]?=some o->∀s∈mF ops o,t'.getD s undef=t.getD s undef)
  (hK:∀h',K h'->K' h'):J1 P w0 S ops i t' h K':=by
 obtain⟨o,ho,hdst,hnd,hsel,hwant,hr⟩:=hm;have hw:=qF (ops:=ops) (o:=o) hs (he o ho);refine⟨o,ho,hdst,hnd,hsel,hw.trans hwant,λw Ds Y' hS=>?_⟩;have hexec:execOp (Act.eval ⟨t',Ds.map mark⟩) o=execOp (Act.eval ⟨t,Ds.map mark⟩) o:=execOp_congr (ρ':=Act.eval ⟨t,Ds.map mark⟩) o (λcs bb e=>by rw[e]at hsel;cases hsel) (λx hx=>by
  cases x with
  |tmp s=>exact he o ho s (by
    simp only[mF,dP];exact .inr (List.mem_filterMap.2 ⟨.tmp s,by simpa using hx,rfl⟩))
  |const v=>rfl
  |global g=>rfl
  |func g=>rfl);rw[hexec];obtain⟨w',h',h1,h2,h3⟩:=hr w Ds Y' hS;exact⟨w',h',h1,h2,hK h' h3⟩
def Dq(P:av)(r:ah)(f:ay)(R:aC->aB->Prop)(w0:aB)(S:aq)(Y:List (Nat×Obj))(n:Nat)(k:al)(ops:aj)(c:Nat)(hb hb2:Hl):Nat->aq->af->Hl->Prop
 |0,_,_,_=>False
 |q+1,D,t,h=>
  (fw ops D=[]/\∀w Ds,St w0 S w h (tQ Ds++Y)->kv P r f R (.inRegion ops []::k) t (Ds.map mark) w)\/
  (fw ops D≠[]/\∀i∈fw ops D,kF P w0 S n ops i t h (λt' h'=>(cur c hb hb2 (i::D)).Sublist h'/\Dq P r f R w0 S Y n k ops c hb hb2 q (i::D) t' h')\/J1 P w0 S ops i t h (λh'=>(cur c hb hb2 (i::D)).Sublist h'/\Dq P r f R w0 S Y n k ops c hb hb2 q (i::D) t h'))
theorem Dq.perm:∀{q:Nat} {D D':aq} {t:af} {h:Hl},(∀j,j∈D↔j∈D')->Dq P r f R w0 S Y n k ops c hb hb2 q D t h->Dq P r f R w0 S Y n k ops c hb hb2 q D' t h
 |0,_,_,_,_,_,hd=>hd
 |q+1,D,D',t,h,hp,hd=>by
  rw[Dq]at hd⊢;rw[<-qI hp];rcases hd with hd|⟨h1,h2⟩;exact .inl hd;refine .inr ⟨h1,λi hi=>?_⟩;have e3:cur c hb hb2 (i::D)=cur c hb hb2 (i::D'):=El (λj=>by simp only[ew,hp j]);have hp2:∀j,j∈i::D↔j∈i::D':=λj=>by simp only[ew,hp j]
  rcases h2 i hi with h3|h3;exact .inl (h3.mono (λt' h' ⟨e1,e2⟩=>⟨by rw[<-e3];exact e1,e2.perm hp2⟩));exact .inr (h3.congr rfl (λ_ _ _ _=>rfl) (λh' ⟨e1,e2⟩=>⟨by rw[<-e3];exact e1,e2.perm hp2⟩))
theorem Dq.pure(h2:hb2.Sublist hb){hx:Hl}{i d:Nat}(hic:i≠c)(hf:DA ops i d)(hd:d<n):∀{q:Nat} {D:aq} {t:af} {h:Hl} {v:aC},t.size=n->i∈fw ops D->oJ P w0 S n hx ops i t d v->(hx=hb2\/(hx=hb/\i∈iM ops c/\c∉D))->(cur c hb hb2 D).Sublist h->Dq P r f R w0 S Y n k ops c hb hb2 q (i::D) (t.setIfInBounds d v) h->Dq P r f R w0 S Y n k ops c hb hb2 (q+1) D t h
 |0,_,_,_,_,_,_,_,_,_,hd=>hd.elim
 |q+1,D,t,h,v,hts,hi,ho,hX,hs,hdt=>by
  have hsx:hx.Sublist h:=by
   rcases hX with rfl|⟨rfl,_,h4⟩;exact(Jz h2).trans hs;have:cur c hx hb2 D=hx:=if_neg (by simpa using h4);rw[this]at hs;exact hs
  have hme:kF P w0 S n ops i t h (λt' h'=>(cur c hb hb2 (i::D)).Sublist h'/\Dq P r f R w0 S Y n k ops c hb hb2 (q+1) (i::D) t' h'):=kF.pure ho hf.E5 hsx ⟨(xd h2).trans hs,hdt⟩;have hne:fw ops D≠[]:=λe=>by rw[e]at hi;cases hi
  obtain⟨hiS,hiD,hid⟩:=iF.1 hi;rw[Dq];refine .inr ⟨hne,λj hj=>?_⟩;by_cases hji:j=i;rw[hji];exact .inl hme;obtain⟨hjS,hjD,hjd⟩:=iF.1 hj;have hj2:j∈fw ops (i::D):=iF.2 ⟨hjS,by simp[hji,hjD],λe he=>cF _ (hjd e he)⟩;rw[Dq]at hdt;rcases hdt with⟨h1,_⟩|⟨_,h3⟩;rw[h1]at hj2;cases hj2;have hjo:∀o,ops[j]?=some o->d∉mF ops o:=λo hoo hm=>(hf.seen j o hjS hji hoo hm).elim (λh5=>hiD (hjd i h5)) (λh5=>hjD (hid j h5));have hjt:∀o,ops[j]?=some o->∀s∈mF ops o,t.getD s undef=(t.setIfInBounds d v).getD s undef:=λo hoo s hse=>by
   have hds:d≠s:=λe1=>hjo o hoo (by rw[e1];exact hse);rw[jc (by rw[hts];exact hd),if_neg hds]
  have hX':hx=hb2\/(hx=hb/\i∈iM ops c/\c∉j::D):=by
   rcases hX with h5|⟨h5,h6,h7⟩;exact .inl h5;refine .inr ⟨h5,h6,λh8=>?_⟩;rcases ew.1 h8 with h8|h8;subst h8;exact hiD (hjd i h6);exact h7 h8
  have hk0:cur c hb hb2 (j::D)=cur c hb hb2 (j::i::D):=by
   unfold cur;have e:(j::D).contains c=(j::i::D).contains c:=by
    rw[dJ];simp only[cC,du,ew];constructor;rintro (h|h);exact .inl h;exact .inr (.inr h);rintro (h|h|h);exact .inl h;exact absurd h.symm hic;exact .inr h
   rw[e]
  have hi2:i∈fw ops (j::D):=iF.2 ⟨hiS,by simp[Ne.symm hji,hiD],λe he=>cF _ (hid e he)⟩;rcases h3 j hj2 with h3|h3;refine .inl (h3.congr aL hjt (λe u h' hde hk=>?_));obtain⟨hk1,hk2⟩:=hk;refine⟨by rw[hk0];exact hk1,?_⟩;have hde2:d≠e:=λe1=>hf.one j hjS hji (by rw[hde,e1]);rw[set_comm hde2]at hk2;refine Dq.pure h2 hic hf hd (by simpa using hts) hi2 (ho.congr hf.E5 aL (λo hoo s hse=>?_)) hX' (by rw[hk0];exact hk1) (hk2.perm (λx=>by simp only[ew];exact or_left_comm));have hes:e≠s:=λe1=>by
   subst e1;rcases hf.K9 j e o hjS hji hde hoo hse with h5|h5;exact hjD (hid j h5);exact hiD (hjd i h5)
  by_cases hlt:e<t.size;rw[jc hlt,if_neg hes];rw[show t.setIfInBounds e u=t from Array.setIfInBounds_eq_of_size_le (Nat.le_of_not_lt hlt)];refine .inr (h3.congr aL hjt (λh' hk=>?_));obtain⟨hk1,hk2⟩:=hk;exact⟨by rw[hk0];exact hk1,Dq.pure h2 hic hf hd hts hi2 ho hX' (by rw[hk0];exact hk1) (hk2.perm (λx=>by simp only[ew];exact or_left_comm))⟩
theorem Dq.go:∀(fuel τ:Nat) (arr:Array Bool) (D:aq) (q:Nat) (t:af) (h:Hl) (w:aB) (Ds:aq),arr.size=ops.size->(∀j,arr.getD j false=D.contains j)->Dq P r f R w0 S Y n k ops c hb hb2 q D t h->St w0 S w h (tQ Ds++Y)->(List.range ops.size).countP (λj=>!D.contains j)<=fuel->
  kv P r f R (.inRegion ops (Region.linearise.go .any ops fuel τ arr [])::k) t (Ds.map mark) w
 |_,_,_,_,0,_,_,_,_,_,_,hd,_,_=>hd.elim
 |fuel,τ,arr,D,q+1,t,h,w,Ds,hs,ha,hd,hS,hfu=>by
  rw[Dq]at hd;rcases hd with⟨h0,hg⟩|⟨h1,h2⟩;have:Region.linearise.go .any ops fuel τ arr []=[]:=by
   cases fuel with
   |zero=>rfl
   |succ fuel=>
    simp only[Region.linearise.go];change (match (Region.ready .any ops arr)[_%(Region.ready .any ops arr).length]? with
     |some i=>_
     |none=>[].reverse)=[];rw[p3 hs ha,h0];rfl
  rw[this];exact hg w Ds hS;cases fuel with
  |zero=>
   exfalso;obtain⟨x,hx⟩:=List.exists_mem_of_ne_nil _ h1;obtain⟨e1,e2,_⟩:=iF.1 hx;have:0<(List.range ops.size).countP (λj=>!D.contains j):=List.countP_pos_iff.2 ⟨x,by simpa using e1,by simpa using e2⟩;omega
  |succ fuel=>
   have hpos:0<(fw ops D).length:=List.length_pos_iff.2 h1;simp only[Region.linearise.go];change kv P r f R (.inRegion ops (match (Region.ready .any ops arr)[τ%(Region.ready .any ops arr).length]? with
    |some i=>Region.linearise.go .any ops fuel (τ / (Region.ready .any ops arr).length) (arr.setIfInBounds i true) [i]
    |none=>[].reverse)::k) t (Ds.map mark) w;rw[p3 hs ha];have hlt:τ%(fw ops D).length<(fw ops D).length:=Nat.mod_lt _ hpos;rw[bG hlt];obtain⟨x,hx⟩:∃x,x=(fw ops D)[τ%(fw ops D).length]:=⟨_,rfl⟩;rw[<-hx];have hxm:x∈fw ops D:=by rw[hx];exact dB hlt
   obtain⟨e1,e2,_⟩:=iF.1 hxm;dsimp only;rw[linearise_go_acc,bQ,cg];have hnext:∀(t':af) (h':Hl) (w':aB),(cur c hb hb2 (x::D)).Sublist h'/\Dq P r f R w0 S Y n k ops c hb hb2 q (x::D) t' h'->St w0 S w' h' (tQ Ds++Y)->kv P r f R (.inRegion ops (Region.linearise.go .any ops fuel (τ / (fw ops D).length) (arr.setIfInBounds x true) [])::k) t' (Ds.map mark) w':=λt' h' w' hK hS'=>by
    refine Dq.go fuel _ _ (x::D) q t' h' w' Ds (by simpa using hs) (λj=>?_) hK.2 hS' ?_;rw[fQ aH,ha j,List.contains_cons];split;rename_i e;subst e;simp;rename_i e;rw[beq_false_of_ne (Ne.symm e)];rfl;have:=se (l:=List.range ops.size) (p:=λj=>!(x::D).contains j) (q:=λj=>!D.contains j) (λy _ hy=>by simp at hy⊢;exact hy.2) ⟨x,by simpa using e1,by simpa using e2,by simp⟩;omega
   rcases h2 x hxm with h2x|h2x
   case inr=>
    obtain⟨o,ho,hdst,hnd,hsel,hw,hr⟩:=h2x;obtain⟨w',h',h3,h4,h5⟩:=hr w Ds _ hS;refine kv.op ho hw (jE hnd) h3 (.inr ⟨rfl,rfl⟩) ?_;rw[hdst];exact hnext _ _ _ h5 h4
   obtain⟨o,d,ho,hdst,hnd,hsel,hdn,hr⟩:=h2x;rcases hr with⟨hw,hr⟩|⟨hw,hk⟩;rcases hr w Ds _ hS with⟨v,w',h',h3,h4,h5⟩|⟨gf,args,Rc,h3,h4,h5⟩;refine kv.op ho hw (jE hnd) h3 (.inl rfl) ?_;rw[hdst];exact hnext _ _ _ h5 h4;refine kv.call ho hw (jE hnd) h3 h4 (λu w2 hu=>?_);obtain⟨h',h6,h7⟩:=h5 u w2 hu;rw[hdst];exact hnext _ _ _ h7 h6;refine nJ ho hw ?_;rw[hdst];exact hnext _ _ _ hk hS
def gV(P:av)(r:ah)(f:ay)(R:aC->aB->Prop)(w0:aB)(S:aq)(Y:List (Nat×Obj))(n:Nat)(k:al)(ops:aj)(c:Nat)(hb hb2:Hl)(q:Nat)(D:aq)(l:Fl)(h:Hl):Prop:=
 ∀t,nS n t l->Dq P r f R w0 S Y n k ops c hb hb2 q D t h
variable{q:Nat}{D:aq}
theorem mQ{id:Nat}(q c:Nat)(hb2:Hl)(hmix:P.follows .mixedOrders=true)(hg:gV P r f R w0 S Y n k ops c h hb2 q [] l h):eQ P r f R w0 S Y n (.code (.region id ops true)::k) l h:=by
 intro t w Ds hF hS;refine .oR (λτ=>?_);simp only[Region.schedule,hmix,Bool.true_or,eN,Region.linearise];refine Dq.go ops.size τ _ [] q t h _ Ds aL (λj=>?_) (hg t hF) hS.drew ?_;simp[aV,bE];split<;>simp
 exact eB List.countP_le_length aL
theorem gV.done(h0:fw ops D=[])(hg:eQ P r f R w0 S Y n (.inRegion ops []::k) l h):gV P r f R w0 S Y n k ops c hb hb2 (q+1) D l h:=λt hF=>.inl ⟨h0,λw Ds hS=>hg t w Ds hF hS⟩
theorem gV.Fz{hx:Hl}{i d:Nat}{v:aC}(h2:hb2.Sublist hb)(hic:Nat.beq i c=false)(hi:(fw ops D).contains i=true)(hp:nC ops i=true)(ho:∀t,nS n t l->oJ P w0 S n hx ops i t d v)(hX:hx=hb2\/(hx=hb/\i∈iM ops c/\c∉D))(hs:(cur c hb hb2 D).Sublist h)(hg:gV P r f R w0 S Y n k ops c hb hb2 q (i::D) ((d,v)::l) h):gV P r f R w0 S Y n k ops c hb hb2 (q+1) D l h:=by
 intro t hF;obtain⟨d',hf⟩:=wA hp;have hO:=ho t hF;obtain⟨o,h1,h2',h3,_⟩:=hO;have e:d'=d:=by
  have:=hf.dst;simp[hJ,h1,h2']at this;exact this.symm
 subst e;exact Dq.pure h2 (by intro e;subst e;simp at hic) hf h3 hF.1 (by simpa using hi) (ho t hF) hX hs (hg _ (hF.put v (by simpa[eI]using h3)))
theorem gV.v{i d:Nat}{v:aC}(hv:eS P w0 S n hb ops i l d v)(h2:hb2.Sublist hb)(hic:Nat.beq i c=false)(hi:(fw ops D).contains i=true)(hp:nC ops i=true)(hX:((iM ops c).contains i && !D.contains c)=true)(hs:hb.Sublist h)(hg:gV P r f R w0 S Y n k ops c hb hb2 q (i::D) ((d,v)::l) h):gV P r f R w0 S Y n k ops c hb hb2 (q+1) D l h:=by
 rw[dx,dh]at hX;refine gV.Fz (hx:=hb) h2 hic hi hp (λt hF=>?_) (.inr ⟨rfl,by simpa using hX.1,by simpa using hX.2⟩) (by unfold cur;rw[if_neg (by rw[hX.2];simp)];exact hs) hg;obtain⟨o,ho,hw,hdst,hnd,hd,hr⟩:=hv
 exact⟨o,ho,hdst,by simpa[eI]using hd,hnd,.inl ⟨kH hF hw,λw Ds Y' hS=>by
  obtain⟨nx,h1,rfl⟩:=hr t w Ds Y' hF hS;exact .inl h1⟩⟩
theorem gV.u{i d:Nat}{v:aC}(hv:eS P w0 S n hb2 ops i l d v)(h2:hb2.Sublist hb)(hic:Nat.beq i c=false)(hi:(fw ops D).contains i=true)(hp:nC ops i=true)(hs:(cur c hb hb2 D).Sublist h)(hg:gV P r f R w0 S Y n k ops c hb hb2 q (i::D) ((d,v)::l) h):gV P r f R w0 S Y n k ops c hb hb2 (q+1) D l h:=by
 refine gV.Fz (hx:=hb2) h2 hic hi hp (λt hF=>?_) (.inl rfl) hs hg;obtain⟨o,ho,hw,hdst,hnd,hd,hr⟩:=hv
 exact⟨o,ho,hdst,by simpa[eI]using hd,hnd,.inl ⟨kH hF hw,λw Ds Y' hS=>by
  obtain⟨nx,h1,rfl⟩:=hr t w Ds Y' hF hS;exact .inl h1⟩⟩
theorem gV.uZ{i d:Nat}{v:aC}(hv:eS P w0 S n hb2 ops i l d v)(h2:hb2.Sublist hb)(hs:(cur c hb hb2 D).Sublist h)(hg:gV P r f R w0 S Y n k ops c hb hb2 q (i::D) ((d,v)::l) h)(hic:Nat.beq i c=false:=by exact rfl)(hi:(fw ops D).contains i=true:=by exact rfl)(hp:nC ops i=true:=by exact rfl):gV P r f R w0 S Y n k ops c hb hb2 (q+1) D l h:=gV.u (hv:=hv) (h2:=h2) (hic:=hic) (hi:=hi) (hp:=hp) (hs:=hs) (hg:=hg)
theorem gV.one{i d:Nat}(h1:fw ops D=[i])(hm:ik P w0 S n h ops i l d (λv h'=>(cur c hb hb2 (i::D)).Sublist h'/\gV P r f R w0 S Y n k ops c hb hb2 q (i::D) ((d,v)::l) h'))(hd:Nat.blt d n=true):gV P r f R w0 S Y n k ops c hb hb2 (q+1) D l h:=by
 intro t hF;rw[Dq];refine .inr ⟨by rw[h1];simp,λj hj=>?_⟩;rw[h1]at hj;obtain rfl:=de.1 hj;exact .inl (kF.of hm hF (λv h' ⟨e1,e2⟩=>⟨e1,e2 _ (hF.put v hd)⟩))
theorem gV.call{i d:Nat}{ty:ax}{pos:aA}{aft:ak}{g:Option (Nat×Bool)}{az:aa}{ts:ab}{cal:au}{gf:ay}{vs:ai}(Rc:aB->aC->aB->Prop)(h1:fw ops D=[i])(ho:ops[i]?=some ⟨some d,.call ⟨.value cal,az,ts⟩,ty,pos,aft,g⟩)(hw:fg ops l g=true)
  (hc:fW l cal=some (.func (.func gf) #[] #[]))(hx:iT l az.toList=some vs)(hd:Nat.blt d n=true)(hcf:∀args w,(callFunc gf args).run P w=.ok (.enter gf args) w)
  (hcall:∀w Y',St w0 S w h Y'->Cn P gf vs w (Rc w))
  (hk:∀v w w' Y',St w0 S w h Y'->Ex [] w w'->Rc w v w'->∃h',St w0 S w' h' Y'/\(cur c hb hb2 (i::D)).Sublist h'/\gV P r f R w0 S Y n k ops c hb hb2 q (i::D) ((d,v)::l) h'):gV P r f R w0 S Y n k ops c hb hb2 (q+1) D l h:=
 gV.one h1 (ik.call Rc ho hw hc hx hd hcf hcall (λv w w' Y' hS he hr=>by
  obtain⟨h',e1,e2,e3⟩:=hk v w w' Y' hS he hr;exact⟨h',e1,e2,e3⟩)) hd
theorem gV.kO{i d:Nat}{v:aC} {pos:aA} {g:Option (Nat×Bool)}{az:aa}{ts:ab}{cal:au}{gf:ay}{vs:ai}(h1:fw ops D=[i])(ho:ops[i]?=some ⟨some d,.call ⟨.value cal,az,ts⟩,ty,pos,aft,g⟩)(hw:fg ops l g=true)
  (hc:fW l cal=some (.func (.func gf) #[] #[]))(hx:iT l az.toList=some vs)(hd:Nat.blt d n=true)(hcf:∀args w,(callFunc gf args).run P w=.ok (.enter gf args) w)
  (hcall:∀w Y',St w0 S w h Y'->Cn P gf vs w (λu _=>u=v))(hs:(cur c hb hb2 (i::D)).Sublist h)(hg:gV P r f R w0 S Y n k ops c hb hb2 q (i::D) ((d,v)::l) h):gV P r f R w0 S Y n k ops c hb hb2 (q+1) D l h:=
 gV.call (λ_ u _=>u=v) h1 ho hw hc hx hd hcf hcall (λ_u _ _ _ hS he e=>⟨h,hS.later he,hs,e ▸ hg⟩)
theorem gV.st{i:Nat} {pos:aA} {g:Option (Nat×Bool)}{t:ax}{x y:au}{b off:Nat}{cs:af}{e:ax}{v:aC}(h1:fw ops D=[i])(ho:ops[i]?=some ⟨none,.store t x y,ty,pos,aft,g⟩)(hw:fg ops l g=true)
  (hx:fW l x=some (.pointer (some ⟨b,off,none⟩)))(hy:fW l y=some v)(hz:∀w,(sizeOf t).run P w=.ok 1 w)(hv:v.oneCell'=true)(j:Nat)(hj:h[j]?=some (some b,.cells cs e (0,0)))(hoff:Nat.blt off cs.size=true)
  (hs:(cur c hb hb2 (i::D)).Sublist (h.set j (some b,.cells (cs.setIfInBounds off v) e (0,0))))
  (hk:gV P r f R w0 S Y n k ops c hb hb2 q (i::D) l (h.set j (some b,.cells (cs.setIfInBounds off v) e (0,0)))):gV P r f R w0 S Y n k ops c hb hb2 (q+1) D l h:=by
 intro t' hF;rw[Dq];refine .inr ⟨by rw[h1];simp,λi' hi=>?_⟩;rw[h1]at hi;obtain rfl:=de.1 hi;refine .inr ⟨_,ho,rfl,rfl,rfl,kH hF hw,λw Ds Y' hS=>?_⟩;refine⟨w.setCell ⟨b,off,none⟩ v,_,?_,hS.vq hj (o':=.cells (cs.setIfInBounds off v) e (0,0)) rfl rfl rfl rfl ?_ ?_ ?_,hs,hk t' hF⟩;simp only[execOp,hF.fW hx,hF.fW hy,Sem.run_bind,xJ hz (hS.get hj) (by simpa[eI]using hoff) hv];rfl;simp[World.setCell];obtain⟨hlt,hg⟩:=aW.1 (hS.get hj);simp only[World.setCell];rw[Array.getElem?_modify,if_pos rfl,hS.get hj];rfl;intro q _ hq;exact Below.heap_setCell _ _ _ _ hq
theorem gV.xK{α:Type}(enc:α->aC)(v:α){i:Nat} {pos:aA} {g:Option (Nat×Bool)}{t:ax}{x y:au}{b m:Nat}{xs:List α}{sp:ai}{e:ax}(h1:fw ops D=[i])(ho:ops[i]?=some ⟨none,.store t x y,ty,pos,aft,g⟩)(hw:fg ops l g=true)
  (hx:fW l x=some (.pointer (some ⟨b,0+m*1,none⟩)))(hy:fW l y=some (enc v))(hz:∀w,(sizeOf t).run P w=.ok 1 w)(hv:(enc v).oneCell'=true)(j:Nat)(hj:h[j]?=some (some b,ob enc e xs sp))(hq:m<xs.length)
  (hs:(cur c hb hb2 (i::D)).Sublist (h.set j (some b,ob enc e (xs.set m v) sp)))
  (hk:gV P r f R w0 S Y n k ops c hb hb2 q (i::D) l (h.set j (some b,ob enc e (xs.set m v) sp))):gV P r f R w0 S Y n k ops c hb hb2 (q+1) D l h:=by
 have:((xs.map enc++sp).toArray.setIfInBounds (0+m*1) (enc v))=((xs.set m v).map enc++sp).toArray:=by
  rw[eE,eH,List.map_set];have hq2:m<(xs.map enc).length:=by simpa using hq
  simp[List.set_append_left _ _ hq2]
 refine gV.st h1 ho hw hx hy hz hv j hj (by rw[eI];simp;omega) ?_ ?_;rw[this];exact hs;rw[this];exact hk
end
end
section
variable{P:av}{r:ah}{f:ay}{R:aC->aB->Prop}{w0:aB}{S:aq}{Y:List (Nat×Obj)}{n:Nat}{k:al}{l:Fl}{h:Hl}{ops:aj}{i d m:Nat}{rest:aq}{ty:ax}{pos:aA}{aft:ak}{g:Option (Nat×Bool)}{x y c:au}{v u a b:aC}
structure Vo (P:av) (w0:aB) (S:aq) (n:Nat) (h:Hl) (l:Fl) (o:Op) (v:aC):Prop where
  at_:∀{ops:aj} {i d:Nat} {ty:ax} {pos:aA} {aft:ak} {g:Option (Nat×Bool)},ops[i]?=some ⟨some d,o,ty,pos,aft,g⟩->fg ops l g=true->Nat.blt d n=true->eS P w0 S n h ops i l d v
theorem Vo.mv(hx:fW l x=some v):Vo P w0 S n h l (.move x) v:=⟨λa b c=>.mv a b hx c⟩
theorem Vo.Er(hx:fW l x=some v):Vo P w0 S n h l (.assign x) v:=⟨λa b c=>.Er a b hx c⟩
theorem Vo.pt(hc:fW l c=some (.bool true))(hx:fW l x=some v):Vo P w0 S n h l (.pick c x y) v:=⟨λa b c=>.iY a b hc hx c⟩
theorem Qj(hc:fW l c=some (.bool false))(hx:fW l y=some v):Vo P w0 S n h l (.pick c x y) v:=⟨λa b c=>.Kh a b hc hx c⟩
theorem Qk{q:Addr}(hx:fW l x=some (.pointer (some q))):Vo P w0 S n h l (.nilCheck x) (.pointer (some q)):=⟨λa b c=>.qX a b hx c⟩
theorem Vo.ex{j:Nat}{vs:af}(hx:fW l x=some (.tuple vs))(hb:vs[j]?=some v):Vo P w0 S n h l (.extract x j) v:=⟨λa b c=>.ext a b hx hb c⟩
theorem Vo.un{o:UnOp}{tx:ax}(hx:fW l x=some a)(hb:OZ P o a v):Vo P w0 S n h l (.unOp o tx x) v:=⟨λa b c=>.un a b hx hb c⟩
theorem Vo.bi{o:BinOp}{tx tyy:ax}(hx:fW l x=some a)(hy:fW l y=some b)(hb:pD P o tx a b v):Vo P w0 S n h l (.binOp o tx x y tyy) v:=⟨λa b c=>.bin a b hx hy hb c⟩
theorem Vo.bl{t e:ax}{A:ae}{q cp:Nat}(hx:iT l [x]=some [.slice A q cp])(hu:P.underlying t=some (.slice e)):Vo P w0 S n h l (.call ⟨.builtin .len,#[x],#[t]⟩) (aS q):=⟨λa b c=>.blt a b hx (kC hu) c⟩
theorem Rq{o:Op}(ho:ops[i]?=some ⟨some d,o,ty,pos,aft,g⟩)(hw:fg ops l g=true)(hd:Nat.blt d n=true)(hv:Vo P w0 S n h l o v)(hk:eQ P r f R w0 S Y n (.inRegion ops rest::k) ((d,v)::l) h):eQ P r f R w0 S Y n (.inRegion ops (i::rest)::k) l h:=.v (hv.at_ ho hw hd) hk
theorem Rm{o:Op}(ho:ops[i]?=some ⟨some d,o,ty,pos,aft,g⟩)(hw:fg ops l g=true)(hd:Nat.blt d n=true)(hv:Vo P w0 S n h l o v)(hk:gi P r f R w0 S Y n k ops (i+1) m ((d,v)::l) h):gi P r f R w0 S Y n k ops i (m+1) l h:=.v (hv.at_ ho hw hd) hk
theorem Qa{D:aq}{j:Nat}(h:(fw ops D)[j]?=some i):(fw ops D).contains i=true:=by simpa using cH h
theorem Rx(j:Nat){q:Nat}{D:aq}{hb:Hl}{o:Op}(hi:(fw ops D)[j]?=some i)(ho:ops[i]?=some ⟨some d,o,ty,pos,aft,g⟩)(hw:fg ops l g=true)(hd:Nat.blt d n=true)(hv:Vo P w0 S n hb l o v)(hp:nC ops i=true)(hs:hb.Sublist h)(hg:fz P r f R w0 S Y n k ops hb q (i::D) ((d,v)::l) h):fz P r f R w0 S Y n k ops hb (q+1) D l h:=.v (hv.at_ ho hw hd) (Qa hi) hp hs hg
theorem Ry(j:Nat){q:Nat}{D:aq}{hb:Hl}{o:Oper}(hi:(fw ops D)[j]?=some i)(ho:ops[i]?=some o)(hw:sA ops l o.guard=true)(hdst:o.dst=some d)(hnd:lL o.op=false)(hd:Nat.blt d n=true)(hp:nC ops i=true)(hs:hb.Sublist h)(hg:fz P r f R w0 S Y n k ops hb q (i::D) ((d,undef)::l) h):fz P r f R w0 S Y n k ops hb (q+1) D l h:=.no ho hw hdst hnd hd (Qa hi) hp hs hg
theorem Rr{o:Oper}(ho:ops[i]?=some o)(hw:sA ops l o.guard=true)(hdst:o.dst=some d)(hd:Nat.blt d n=true)(hk:eQ P r f R w0 S Y n (.inRegion ops rest::k) ((d,undef)::l) h):eQ P r f R w0 S Y n (.inRegion ops (i::rest)::k) l h:=.no ho hw hdst hd hk
theorem Rn{o:Oper}(ho:ops[i]?=some o)(hw:sA ops l o.guard=true)(hdst:o.dst=some d)(hnd:lL o.op=false)(hd:Nat.blt d n=true)(hk:gi P r f R w0 S Y n k ops (i+1) m ((d,undef)::l) h):gi P r f R w0 S Y n k ops i (m+1) l h:=.no ho hw hdst hnd hd hk
theorem PU{t:ax}{B off:Nat}{cs:af}{e:ax}{fr:Nat×Nat}(hx:fW l x=some (.pointer (some ⟨B,off,none⟩)))(ha:∀w,(isAgg t).run P w=.ok false w)(hj:∃j:Nat,h[j]?=some (some B,.cells cs e fr))(hv:cs[off]?=some v):Vo P w0 S n h l (.load t x) v:=⟨λa b c=>let ⟨j,hj⟩:=hj;.wQ a b hx c ha j hj hv⟩
theorem PV{t:ax}{B m:Nat}{cs:af}{e:ax}{fr:Nat×Nat}(hx:fW l x=some (aQ B))(ha:∀w,(isAgg t).run P w=.ok true w)(hj:∃j:Nat,h[j]?=some (some B,.cells cs e fr))(hz:∀w,(sizeOf t).run P w=.ok m w)(hm:cs.size=m):Vo P w0 S n h l (.load t x) (.agg cs):=⟨λa b c=>let ⟨j,hj⟩:=hj;.Kp a b hx c ha j hj hz hm⟩
theorem Vo.fp{s tt:ax}{B o q o':Nat}{fs:Array Field}{fd:Field}{sz:Nat}(hx:fW l x=some (.pointer (some ⟨B,o,none⟩)))(hu:P.underlying s=some (.struct fs))(hq:fs[q]?=some fd)(ht:fd.type=tt)(he:∀w,(sizeOf tt).run P w=.ok (sz+1) w)(hO:o+fd.offset=o'):Vo P w0 S n h l (.fieldAddr s x q) (.pointer (some ⟨B,o',none⟩)):=⟨λa b c=>.ni a b hx c hu hq (ht ▸ he) o' hO⟩
theorem Vo.fd{s:ax}{q:Nat}{cs:af}{fs:Array Field}{fd:Field}(hx:fW l x=some (.agg cs))(hu:P.underlying s=some (.struct fs))(hq:fs[q]?=some fd)(ha:∀w,(isAgg fd.type).run P w=.ok false w)(hv:cs[fd.offset]?=some v):Vo P w0 S n h l (.field s x q) v:=⟨λa b c=>.kl a b hx c hu hq ha hv⟩
section
variable{p q:Prop}{X Y:Code}{B:Bool}{Yy:List (Nat×Obj)}
theorem vX(ht:p->eQ P r f R w0 S Yy n (.code X::k) l h)(hf:q->eQ P r f R w0 S Yy n (.code Y::k) l h)(hc:fW l c=some (.bool B):=by exact rfl)(et:B=true->p:=by intro h;first|simpa using h|(simp at h;omega)|exact h)(ef:B=false->q:=by intro h;first|simpa using h|(simp at h;omega)|exact h):eQ P r f R w0 S Yy n (.code (.cond c X Y)::k) l h:=.cond hc (λe=>ht (et e)) (λe=>hf (ef e))
theorem Qf(ht:p->eQ P r f R w0 S Yy n (.code X::k) l h)(hf:B=false->eQ P r f R w0 S Yy n (.code Y::k) l h)(hc:fW l c=some (.bool B):=by exact rfl)(et:B=true->p:=by intro h;first|simpa using h|(simp at h;omega)|exact h):eQ P r f R w0 S Yy n (.code (.cond c X Y)::k) l h:=.cond hc (λe=>ht (et e)) hf
theorem Ru(ht:B=true->eQ P r f R w0 S Yy n (.code X::k) l h)(hf:q->eQ P r f R w0 S Yy n (.code Y::k) l h)(hc:fW l c=some (.bool B):=by exact rfl)(ef:B=false->q:=by intro h;first|simpa using h|(simp at h;omega)|exact h):eQ P r f R w0 S Yy n (.code (.cond c X Y)::k) l h:=.cond hc ht (λe=>hf (ef e))
theorem AD(d:Nat)(ht:p->eQ P r f R w0 S Yy n k ((d,.bool true)::l) h)(hf:q->eQ P r f R w0 S Yy n k ((d,.bool false)::l) h)(hv:look l d=some (.bool B):=by exact rfl)(et:B=true->p:=by intro h;first|simpa using h|(simp at h;omega)|exact h)(ef:B=false->q:=by intro h;first|simpa using h|(simp at h;omega)|exact h):eQ P r f R w0 S Yy n k l h:=.cases hv (λe=>ht (et e)) (λe=>hf (ef e))
end
structure Bj (P:av) (o:BinOp) (t:ax) (a b v:aC):Prop where
  b:pD P o t a b v
section
variable{t:ax}{x y:Int}{k:aw}{p q:fC}
theorem Bj.eq(_hk:k≠.u64):Bj P .eql t (.int k x) (.int k y) (.bool (x==y)):=⟨xj⟩
theorem Bj.ne(_hk:k≠.u64):Bj P .neq t (.int k x) (.int k y) (.bool (x !=y)):=⟨A8⟩
theorem Bj.lt(_hk:k≠.u64):Bj P .lss t (.int k x) (.int k y) (.bool (decide (x<y))):=⟨B9⟩
theorem Bj.le(_hk:k≠.u64):Bj P .leq t (.int k x) (.int k y) (.bool (decide (x<=y))):=⟨Qi⟩
theorem Bj.gt(_hk:k≠.u64):Bj P .gtr t (.int k x) (.int k y) (.bool (decide (x>y))):=⟨PM⟩
theorem Qx(_hk:k≠.u64):Bj P .geq t (.int k x) (.int k y) (.bool (decide (x>=y))):=⟨JP⟩
theorem Bj.or:Bj P .or t (U p) (U q) (U (p|||q)):=⟨OA⟩
theorem Bj.an:Bj P .and t (U p) (U q) (U (p &&& q)):=⟨JS⟩
theorem Bj.ad:Bj P .andNot t (U p) (U q) (U (p &&& ~~~q)):=⟨JR⟩
theorem Qw:Bj P .neq t (U p) (U q) (.bool (p !=q)):=⟨OB⟩
theorem Bj.eu:Bj P .eql t (U p) (U q) (.bool (p==q)):=⟨xB⟩
theorem P8(h:-9223372036854775808<=x+y/\x+y<=9223372036854775807):Bj P .add t (aS x) (aS y) (aS (x+y)):=⟨PO h⟩
end
theorem Ql{o:BinOp}{tx tyy:ax}(hx:fW l x=some a)(hy:fW l y=some b)(hb:Bj P o tx a b v):Vo P w0 S n h l (.binOp o tx x y tyy) v:=.bi hx hy hb.b
end
end Go.Proofs.Wit
