/- Laws of walks, each under its own conditions. -/
import Derived.Test.YtpbhoidjmpjfpaaGreatDoorXP01
import Derived.Orders
set_option maxRecDepth 100000
set_option maxHeartbeats 40000000
namespace Go.Proofs.Wit
open Go Go.RowKit
section
variable{listed:Array Bool}{t:af}
def iX(ops:aj)(i:Nat):aq:=match ops[i]? with
 |some o=>(o.after.toList.filter (Region.binds .any)).map (·.on)
 |none=>[]
def ik(ops:aj)(i:Nat):ah:=(ops[i]?).bind (·.dst)
def mq:Op->Bool
 |.select ..=>false
 |_=>true
def nL(ops:aj)(o:Oper):aq:=
 (match o.guard with|none=>[]|some (j,_)=>(ik ops j).toList)++o.op.operands.toList.filterMap (λ|.tmp s=>some s|_=>none)
def FR(ops:aj)(_l:Fl)(m:Nat):Bool:=
 (Nat.beq ops.size m||(Nat.beq ops.size (m+1) && (List.range m).all (λi=>(iX ops m).contains i))) &&
 (List.range ops.size).all (λi=>(iX ops i).all (λj=>Nat.blt j i)) &&
 (List.range m).all (λi=>match ops[i]? with
  |none=>false
  |some o=>mq o.op && match o.dst with
   |none=>false
   |some d=>(List.range m).all (λj=>Nat.beq j i||!(ik ops j==some d)) &&
    (nL ops o).all (λs=>(List.range m).all (λj=>!(ik ops j==some s)||(iX ops i).contains j)))
section
variable{P:av}{r:ah}{f:ay}{R:aC->aB->Prop}{w0:aB}{S:aq}{Y:List (Nat×Obj)}{n:Nat}{k:al}{l:Fl}{h:Hl}{ops:aj}
def r9(P:av)(w0:aB)(S:aq)(n:Nat)(h:Hl)(ops:aj)(i:Nat)(t:af)(d:Nat)(v:aC):Prop:=
 ∃o,ops[i]?=some o/\o.dst=some d/\d<n/\lH o.op=false/\
  ((Region.wanted o (yielded ops t)=true/\∀(w:aB) (Ds:aq) (Y':List (Nat×Obj)),St w0 S w h Y'->(execOp (Act.eval ⟨t,Ds.map mark⟩) o).run P w=.ok (.value v) w\/
   ∃gf args,(execOp (Act.eval ⟨t,Ds.map mark⟩) o).run P w=.ok (.enter gf args) w/\Calls P gf args w λe w'=>∃u,e=.returned u/\(Ex [] w w'/\u=v))\/(Region.wanted o (yielded ops t)=false/\v=undef))
def Tb(P:av)(w0:aB)(S:aq)(n:Nat)(h:Hl)(ops:aj)(F:af->Prop):Nat->Nat->af->Prop
 |_,0,t=>F t
 |i,m+1,t=>∃d v,r9 P w0 S n h ops i t d v/\Tb P w0 S n h ops F (i+1) m (t.setIfInBounds d v)
def fJ(P:av)(r:ah)(f:ay)(R:aC->aB->Prop)(w0:aB)(S:aq)(Y:List (Nat×Obj))(n:Nat)(k:al)(ops:aj)(i m:Nat)(l:Fl)(h:Hl):Prop:=
 ∀t,pJ n t l->Tb P w0 S n h ops (λt'=>∀w Ds,St w0 S w h (uy Ds++Y)->ki P r f R (.inRegion ops (List.range' (i+m) (ops.size - (i+m)))::k) t' (Ds.map mark) w) i m t
theorem fJ.nil{i:Nat}(hg:ff P r f R w0 S Y n (.inRegion ops (List.range' i (ops.size - i))::k) l h):fJ P r f R w0 S Y n k ops i 0 l h:=λt hF w Ds hS=>hg t w Ds hF hS
theorem fJ.v{i m d:Nat}{v:aC}(hv:fh P w0 S n h ops i l d v)(hg:fJ P r f R w0 S Y n k ops (i+1) m ((d,v)::l) h):fJ P r f R w0 S Y n k ops i (m+1) l h:=by
 intro t hF;obtain⟨o,ho,hw,hdst,hnd,hd,hr⟩:=hv;refine⟨d,v,⟨o,ho,hdst,by simpa[eT]using hd,hnd,.inl ⟨km hF hw,λw Ds Y' hS=>?_⟩⟩,?_⟩;obtain⟨nx,h1,rfl⟩:=hr t w Ds Y' hF hS;exact .inl h1;have:=hg _ (hF.put v hd);rw[show i+(m+1)=i+1+m from aH];exact this
theorem fJ.mI{i m d:Nat}{v:aC}{ty:ax}{pos:aA}{aft:ak}{g:Option (Nat×Bool)}{az:aa}{ts:ab}{cal:au}{gf:ay}{vs:ai}(ho:ops[i]?=some ⟨some d,.call ⟨.value cal,az,ts⟩,ty,pos,aft,g⟩)(hw:fE ops l g=true)
  (hc:fW l cal=some (.func (.func gf) #[] #[]))(hx:iW l az.toList=some vs)(hd:Nat.blt d n=true)(hcf:∀args w,(callFunc gf args).run P w=.ok (.enter gf args) w)
  (hcall:∀w Y',St w0 S w h Y'->Cn P gf vs w (λu _=>u=v))(hg:fJ P r f R w0 S Y n k ops (i+1) m ((d,v)::l) h):fJ P r f R w0 S Y n k ops i (m+1) l h:=by
 intro t hF;refine⟨d,v,⟨_,ho,rfl,by simpa[eT]using hd,rfl,.inl ⟨km hF hw,λw Ds Y' hS=>.inr ⟨gf,vs.toArray,?_,hcall w Y' hS⟩⟩⟩,?_⟩;have e1:=lR (P:=P) (ty:=ty) (ts:=ts) (Ds:=Ds) (w:=w) hF hc hx;simp only[execOp,Sem.run_bind,e1,Result.andThen_ok,invoke,hcf];simp;have:=hg _ (hF.put v hd);rw[show i+(m+1)=i+1+m from aH];exact this
theorem fJ.no{i m d:Nat}{o:Oper}(ho:ops[i]?=some o)(hw:tW ops l o.guard=true)(hdst:o.dst=some d)(hnd:lH o.op=false)(hd:Nat.blt d n=true)(hg:fJ P r f R w0 S Y n k ops (i+1) m ((d,undef)::l) h):fJ P r f R w0 S Y n k ops i (m+1) l h:=by
 intro t hF;refine⟨d,undef,⟨o,ho,hdst,by simpa[eT]using hd,hnd,.inr ⟨uX hF hw,rfl⟩⟩,?_⟩;have:=hg _ (hF.put undef hd);rw[show i+(m+1)=i+1+m from aH];exact this
theorem vA {d:Nat}{b c:Bool}(hF:pJ n t l)(hv:look l d=some (.bool b))(e:b=c):pJ n t ((d,.bool c)::l):=by
 subst e;refine⟨hF.1,λi u hu=>?_⟩;unfold look at hu;cases hb:Nat.beq d i with
 |true=>rw[hb]at hu;obtain rfl:=Nat.eq_of_beq_eq_true hb;cases hu;exact hF.2 _ _ hv
 |false=>rw[hb]at hu;exact hF.2 _ _ hu
theorem fJ.cases{i m d:Nat}{b:Bool}(hv:look l d=some (.bool b))(ht:b=true->fJ P r f R w0 S Y n k ops i m ((d,.bool true)::l) h)(hf:b=false->fJ P r f R w0 S Y n k ops i m ((d,.bool false)::l) h):fJ P r f R w0 S Y n k ops i m l h:=by
 intro t hF;cases hb:b with
 |true=>exact ht hb t (vA hF hv hb)
 |false=>exact hf hb t (vA hF hv hb)
def CW(D:Nat->Nat)(V:Nat->aC)(t:af):Nat->af
 |0=>t
 |j+1=>(CW D V t j).setIfInBounds (D j) (V j)
theorem wa(D:Nat->Nat)(V:Nat->aC)(t:af):∀j,CW D V t (j+1)=CW (λj=>D (j+1)) (λj=>V (j+1)) (t.setIfInBounds (D 0) (V 0)) j
 |0=>rfl
 |j+1=>by rw[CW,wa D V t j];rfl
theorem Tb.seq{F:af->Prop}:∀{m i:Nat} {t:af},Tb P w0 S n h ops F i m t->∃(D:Nat->Nat) (V:Nat->aC),(∀j,j<m->r9 P w0 S n h ops (i+j) (CW D V t j) (D j) (V j))/\F (CW D V t m)
 |0,_,t,hF=>⟨λ_=>0,λ_=>undef,λj hj=>aH,hF⟩
 |m+1,i,t,⟨d,v,ho,hr⟩=>by
  obtain⟨D,V,h1,h2⟩:=Tb.seq hr;refine⟨λj=>match j with|0=>d|j+1=>D j,λj=>match j with|0=>v|j+1=>V j,λj hj=>?_,?_⟩;cases j with
  |zero=>exact ho
  |succ j=>
   have:=h1 j aH;rw[show i+(j+1)=i+1+j from aH,wa];exact this
  rw[wa];exact h2
theorem so{D:Nat->Nat}{V:Nat->aC}{t:af}:∀j,(CW D V t j).size=t.size
 |0=>rfl
 |j+1=>by simp[CW,so j]
theorem kM {d s:Nat}{v:aC}(hd:d<t.size):(t.setIfInBounds d v).getD s undef=if d=s then v else t.getD s undef:=by
 rw[aW,aW,Array.getElem?_setIfInBounds];split;simp;rfl
theorem tq{D:Nat->Nat}{V:Nat->aC}{t:af}{m:Nat}(hd:∀j,j<m->D j<t.size)(hinj:∀i j,i<m->j<m->D i=D j->i=j):∀q,q<=m->
  (∀j,j<q->(CW D V t q).getD (D j) undef=V j)/\(∀s,(∀j,j<q->D j≠s)->(CW D V t q).getD s undef=t.getD s undef)
 |0,_=>⟨λj hj=>aH,λ_ _=>rfl⟩
 |q+1,hq=>by
  obtain⟨h1,h2⟩:=tq hd hinj q aH;have hs:D q<(CW D V t q).size:=by rw[so];exact hd q aH
  refine⟨λj hj=>?_,λs hs'=>?_⟩;rw[CW,kM hs];split;rename_i e;rw[hinj q j aH aH e];rename_i e;refine h1 j ?_;rcases eN j q with hl|hl;exact hl;exact absurd (by rw[show j=q from aH]) e;rw[CW,kM hs,if_neg (hs' q aH)];exact h2 s (λj hj=>hs' j aH)
theorem pV{t':af}(hs:t.size=t'.size){s:Nat}(h:t.getD s undef=t'.getD s undef):t[s]?=t'[s]?:=by
 rw[aW,aW]at h;rcases eN s t.size with hl|hl;rw[bh hl,bh (hs ▸ hl)]at h⊢;simpa using h;rw[Array.getElem?_eq_none hl,Array.getElem?_eq_none (hs ▸ hl)]
theorem r9.congr{i d:Nat}{v:aC}{t':af}(ho:r9 P w0 S n h ops i t d v)(hsel:∀o,ops[i]?=some o->mq o.op=true)(hs:t'.size=t.size)
  (he:∀o,ops[i]?=some o->∀s∈nL ops o,t'.getD s undef=t.getD s undef):r9 P w0 S n h ops i t' d v:=by
 obtain⟨o,h1,h2,h3,h4,h5⟩:=ho;have hw:Region.wanted o (yielded ops t')=Region.wanted o (yielded ops t):=by
  unfold Region.wanted;cases hg:o.guard with
  |none=>rfl
  |some p=>
   obtain⟨j,want⟩:=p;have:yielded ops t' j=yielded ops t j:=by
    unfold yielded;cases hd:(ops[j]?).bind (·.dst)with
    |none=>rfl
    |some dj=>
     simp only[Option.bind_some];rw[pV hs (he o h1 dj (by simp[nL,hg,ik,hd]))]
   simp only[this]
 refine⟨o,h1,h2,h3,h4,?_⟩;rcases h5 with⟨a,b⟩|⟨a,b⟩;refine .inl ⟨hw.trans a,λw Ds Y' hS=>?_⟩;rw[execOp_congr (ρ':=Act.eval ⟨t,Ds.map mark⟩) o (λcs bb e=>by have:=hsel o h1;rw[e]at this;cases this) (λx hx=>?_)];exact b w Ds Y' hS;cases x with
 |tmp s=>exact he o h1 s (by
   simp only[nL,ed];exact .inr (dk.2 ⟨.tmp s,by simpa using hx,rfl⟩))
 |const v=>rfl
 |global g=>rfl
 |func g=>rfl
 exact .inr ⟨hw.trans a,b⟩
theorem r9.go{i d:Nat}{v:aC} {rest:aq}{w:aB}{Ds:aq}(ho:r9 P w0 S n h ops i t d v)(hS:St w0 S w h (uy Ds++Y))
  (hk:∀w',St w0 S w' h (uy Ds++Y)->ki P r f R (.inRegion ops rest::k) (t.setIfInBounds d v) (Ds.map mark) w'):ki P r f R (.inRegion ops (i::rest)::k) t (Ds.map mark) w:=by
 obtain⟨o,h1,h2,h3,h4,h5⟩:=ho;rcases h5 with⟨a,b⟩|⟨a,rfl⟩;rcases b w Ds _ hS with hb|⟨gf,args,hb,hcall⟩;refine ki.op h1 a (jc h4) hb (.inl rfl) ?_;rw[h2];exact hk w hS;refine ki.call h1 a (jc h4) hb hcall (λu w2 hu=>?_);obtain⟨he,rfl⟩:=hu;rw[h2];exact hk w2 (hS.later he);refine om h1 a ?_;rw[h2];exact hk w hS
structure Bu (ops:aj) (m:Nat):Prop where
  size:ops.size=m\/(ops.size=m+1/\∀i,i<m->i∈iX ops m)
  lt:∀i,i<ops.size->∀j∈iX ops i,j<i
  Nb:∀i,i<m->∀o,ops[i]?=some o->mq o.op=true
  inj:∀i j d,i<m->j<m->ik ops i=some d->ik ops j=some d->i=j
  S6:∀i,i<m->∀o,ops[i]?=some o->∀s∈nL ops o,∀j,j<m->ik ops j=some s->j∈iX ops i
theorem vr{i:Nat}{o:Oper}(ho:ops[i]?=some o){j:Nat}:j∈iX ops i↔∃e∈o.after,Region.binds .any e=true/\e.on=j:=by
 simp only[iX,ho,eL,eg,Array.mem_toList_iff];constructor;rintro ⟨e,⟨h1,h2⟩,h3⟩;exact⟨e,h1,h2,h3⟩;rintro ⟨e,h1,h2,h3⟩;exact⟨e,⟨h1,h2⟩,h3⟩
theorem gD {i j:Nat}(hi:i<listed.size):(listed.setIfInBounds i true).getD j false=if i=j then true else listed.getD j false:=by
 rw[aW,aW,Array.getElem?_setIfInBounds];split;simp;rfl
theorem vz {j:Nat}(hj:j<listed.size):listed.getD j true=listed.getD j false:=by
 simp[hj]
theorem count_set {N i:Nat}(hs:listed.size=N)(hi:i<N)(hu:listed.getD i false=false):
  (List.range N).countP (λj=>!(listed.setIfInBounds i true).getD j false)+1<=(List.range N).countP (λj=>!listed.getD j false):=by
 have h1:∀M,M<=N->(List.range M).countP (λj=>!(listed.setIfInBounds i true).getD j false)+(if i<M then 1 else 0)=(List.range M).countP (λj=>!listed.getD j false):=by
  intro M
  induction M with
  |zero=>simp
  |succ M ih=>
   intro hM;have:=ih aH;rw[ep,List.countP_append,List.countP_append,<-this];simp only[List.countP_cons,List.countP_nil,gD (hs ▸ hi)];by_cases e:i=M;subst e;simp[hu];have e1:(if i=M then true else listed.getD M false)=listed.getD M false:=if_neg e;have e2:(if i<M+1 then 1 else 0)=(if i<M then 1 else 0):=by
    by_cases hlt:i<M;rw[if_pos hlt,if_pos aH];rw[if_neg hlt,if_neg aH]
   rw[e1,e2];omega
 have:=h1 N (eR _);rw[if_pos hi]at this;omega
theorem Jc{m:Nat}(hf:Bu ops m){D:Nat->Nat}{V:Nat->aC}{t0:af}(ht0:t0.size=n)
  (hout:∀j,j<m->r9 P w0 S n h ops j (CW D V t0 j) (D j) (V j))(hF:∀w Ds,St w0 S w h (uy Ds++Y)->ki P r f R (.inRegion ops (List.range' m (ops.size - m))::k) (CW D V t0 m) (Ds.map mark) w):
  ∀(fuel τ:Nat) (listed:Array Bool) (t:af),listed.size=ops.size->(∀j,listed.getD j false=true->∀e∈iX ops j,listed.getD e false=true)->(m<ops.size->listed.getD m false=false)->t.size=n->
   (∀j,j<m->listed.getD j false=true->t.getD (D j) undef=V j)->(∀s,(∀j,j<m->listed.getD j false=true->D j≠s)->t.getD s undef=t0.getD s undef)->
   (List.range ops.size).countP (λj=>!listed.getD j false)<=fuel->∀w Ds,St w0 S w h (uy Ds++Y)->ki P r f R (.inRegion ops (Region.linearise.go .any ops fuel τ listed [])::k) t (Ds.map mark) w:=by
 have hDst:∀j,j<m->ik ops j=some (D j):=λj hj=>by
  obtain⟨o,h1,h2,_⟩:=hout j hj;simp[ik,h1,h2]
 have hDlt:∀j,j<m->D j<t0.size:=λj hj=>by
  obtain⟨o,_,_,h3,_⟩:=hout j hj;omega
 have hDinj:∀i j,i<m->j<m->D i=D j->i=j:=λi j hi hj e=>hf.inj i j (D i) hi hj (hDst i hi) (by rw[hDst j hj,e]);have hmN:m<=ops.size:=by rcases hf.size with e|e<;>omega
 have hall:∀(listed:Array Bool) (t:af),t.size=n->(∀j,j<m->listed.getD j false=true)->(∀j,j<m->listed.getD j false=true->t.getD (D j) undef=V j)->(∀s,(∀j,j<m->listed.getD j false=true->D j≠s)->t.getD s undef=t0.getD s undef)->t=CW D V t0 m:=by
  intro listed t hts hl h1 h2;obtain⟨g1,g2⟩:=tq hDlt hDinj m (eR _);refine Array.ext_getElem? (λs=>pV (by rw[hts,so,ht0]) ?_);by_cases hs:∃j,j<m/\D j=s;obtain⟨j,hj,rfl⟩:=hs;rw[h1 j hj (hl j hj),g1 j hj];rw[h2 s (λj hj _ e=>hs ⟨j,hj,e⟩),g2 s (λj hj e=>hs ⟨j,hj,e⟩)]
 intro fuel
 induction fuel with
 |zero=>
  intro τ listed t hls hcl hm hts h1 h2 hc w Ds hS;have hl:∀j,j<ops.size->listed.getD j false=true:=λj hj=>by
   have:=List.countP_eq_zero.1 (Nat.le_zero.1 hc) j (by simpa using hj);simpa using this
  have hmm:m=ops.size:=by
   rcases eN m ops.size with hlt|hge;have:=hl m hlt;rw[hm hlt]at this;cases this;omega
  rw[hall listed t hts (λj hj=>hl j aH) h1 h2];have:=hF w Ds hS;rw[hmm,eO]at this;rw[hmm];exact this
 |succ fuel ih=>
  intro τ listed t hls hcl hm hts h1 h2 hc w Ds hS;have hready:(∃j,j<ops.size/\listed.getD j false=false)->Region.ready .any ops listed≠[]:=by
   rintro ⟨j,hj,hu⟩;have key:∀q,q<ops.size->listed.getD q false=false->Region.ready .any ops listed≠[]:=by
    intro q
    induction q using Nat.strongRecOn with
    |_ q ihq=>
     intro hq hqu;by_cases hb:∃e∈iX ops q,listed.getD e false=false;obtain⟨e,he,heu⟩:=hb;have hlt:=hf.lt q hq e he;exact ihq e hlt aH heu;obtain⟨o,ho⟩:∃o,ops[q]?=some o:=⟨ops[q],bh hq⟩;have:q∈Region.ready .any ops listed:=by
      rw[mem_ready];refine⟨by rw[vz aH];exact hqu,o,ho,λe he hbd=>?_⟩;cases hx:listed.getD e.on false with
      |true=>rfl
      |false=>exact absurd ⟨e.on,(vr ho).2 ⟨e,he,hbd,rfl⟩,hx⟩ hb
     exact List.ne_nil_of_mem this
   exact key j hj hu
  simp only[Region.linearise.go];change ki P r f R (.inRegion ops (match (Region.ready .any ops listed)[τ%(Region.ready .any ops listed).length]? with
   |some i=>Region.linearise.go .any ops fuel (τ / (Region.ready .any ops listed).length) (listed.setIfInBounds i true) [i]
   |none=>[].reverse)::k) t (Ds.map mark) w;cases hi:(Region.ready .any ops listed)[τ%(Region.ready .any ops listed).length]? with
  |none=>
   have hnil:Region.ready .any ops listed=[]:=by
    cases hr:Region.ready .any ops listed with
    |nil=>rfl
    |cons x xs=>
     rw[hr]at hi;have hlt:τ%(x::xs).length<(x::xs).length:=Nat.mod_lt _ aL;rw[bJ hlt]at hi;cases hi
   have hl:∀j,j<ops.size->listed.getD j false=true:=λj hj=>by
    cases hx:listed.getD j false with
    |true=>rfl
    |false=>exact absurd hnil (hready ⟨j,hj,hx⟩)
   have hmm:m=ops.size:=by
    rcases eN m ops.size with hlt|hge;have:=hl m hlt;rw[hm hlt]at this;cases this;omega
   rw[hall listed t hts (λj hj=>hl j aH) h1 h2];have:=hF w Ds hS;rw[hmm,eO]at this;rw[hmm];exact this
  |some i=>
   have hmem:=cP hi;rw[mem_ready]at hmem;obtain⟨hu,o,ho,hdep⟩:=hmem;have hiN:i<ops.size:=(aX.1 ho).1;rw[vz aH]at hu;simp only[];rw[linearise_go_acc,bX,cH];have hdl:∀e∈iX ops i,listed.getD e false=true:=λe he=>by
    obtain⟨e',he',hb,rfl⟩:=(vr ho).1 he;exact hdep e' he' hb
   have hcl':∀j,(listed.setIfInBounds i true).getD j false=true->∀e∈iX ops j,(listed.setIfInBounds i true).getD e false=true:=by
    intro j hj e he;rw[gD aH]at hj⊢;split;rfl;split at hj;rename_i hij;subst hij;exact hdl e he;exact hcl j hj e he
   have hcnt:=count_set (listed:=listed) hls hiN hu;by_cases him:i<m;have hgo:=hout i him;have heq:r9 P w0 S n h ops i t (D i) (V i):=by
    refine hgo.congr (hf.Nb i him) (by rw[hts,so,ht0]) (λo' ho' s hs=>?_);obtain⟨g1,g2⟩:=tq hDlt hDinj i aH;by_cases hx:∃j,j<m/\D j=s;obtain⟨j,hj,rfl⟩:=hx;have hjd:=hf.S6 i him o' ho' (D j) hs j hj (hDst j hj);rw[h1 j hj (hdl j hjd),g1 j (hf.lt i hiN j hjd)];rw[h2 s (λj hj _ e=>hx ⟨j,hj,e⟩),g2 s (λj hj e=>hx ⟨j,aH,e⟩)]
   refine heq.go hS (λw hS=>?_);have hDi:D i<t.size:=by rw[hts,<-ht0];exact hDlt i him
   refine ih _ _ _ (by simpa using hls) hcl' (λhlt=>?_) (by simpa using hts) (λj hj hlj=>?_) (λs hs=>?_) aH w Ds hS;rw[gD aH,if_neg aH];exact hm hlt;rw[kM hDi];split;rename_i e;rw[hDinj i j him hj e];rename_i e;rw[gD aH]at hlj;split at hlj;rename_i e2;subst e2;exact absurd rfl e;exact h1 j hj hlj;rw[kM hDi,if_neg (hs i him (by rw[gD aH,if_pos rfl]))];refine h2 s (λj hj hlj=>hs j hj ?_);rw[gD aH];split;rfl;exact hlj
   -- the last operation
   have hsz:ops.size=m+1/\∀i,i<m->i∈iX ops m:=by
    rcases hf.size with e|e;omega;exact e
   have him':i=m:=aH;subst him';have hl:∀j,j<i->listed.getD j false=true:=λj hj=>hdl j (hsz.2 j hj);have hnil:Region.linearise.go .any ops fuel (τ / (Region.ready .any ops listed).length) (listed.setIfInBounds i true) []=[]:=by
    have hr0:Region.ready .any ops (listed.setIfInBounds i true)=[]:=by
     rw[List.eq_nil_iff_forall_not_mem];intro j hj;rw[mem_ready]at hj;obtain⟨a,o',ho',_⟩:=hj;have hjN:j<ops.size:=(aX.1 ho').1;rw[vz aN,gD aH]at a;split at a;cases a;rw[hl j aH]at a;cases a
    cases fuel with
    |zero=>rfl
    |succ fuel=>
     simp only[Region.linearise.go];change (match (Region.ready .any ops (listed.setIfInBounds i true))[_%(Region.ready .any ops (listed.setIfInBounds i true)).length]? with
      |some i=>_
      |none=>[].reverse)=[];rw[hr0];rfl
   rw[hnil,hall listed t hts hl h1 h2];have:=hF w Ds hS;rw[hsz.1,show i+1 - i=1 from aH]at this;exact this
theorem LP{m:Nat}(hc:FR ops l m=true):Bu ops m:=by
 simp only[FR,dG,dV,Nat.beq_eq,dI,eD,eT,cx]at hc;obtain⟨⟨hsz,hlt⟩,hr⟩:=hc;have hat:∀i,i<m->∃o d,ops[i]?=some o/\o.dst=some d/\mq o.op=true/\(∀j,j<m->j=i\/ik ops j≠some d)/\(∀s∈nL ops o,∀j,j<m->ik ops j≠some s\/j∈iX ops i):=by
  intro i hi;have:=hr i hi;cases ho:ops[i]? with
  |none=>simp[ho]at this
  |some o=>
   cases hd:o.dst with
   |none=>simp[ho,hd]at this
   |some d=>
    simp only[ho,hd,dG,dI,eD,dV,Nat.beq_eq,dw,c9,cx]at this;exact⟨o,d,rfl,hd,this.1,this.2.1,this.2.2⟩
 refine⟨hsz,hlt,λi hi o ho=>?_,λi j d hi hj h1 h2=>?_,λi hi o ho s hs j hj hd=>?_⟩;obtain⟨o',d,h1,_,h3,_⟩:=hat i hi;rw[ho]at h1;cases h1;exact h3;obtain⟨o,d',e1,e2,_,e5,_⟩:=hat i hi;have:d'=d:=by simp[ik,e1,e2]at h1;exact h1
 subst this;rcases e5 j hj with e|e;exact e.symm;exact absurd h2 e;obtain⟨o',d,e1,_,_,_,e6⟩:=hat i hi;rw[ho]at e1;cases e1;rcases e6 s hs j hj with e|e;exact absurd hd e;exact e
theorem ff.draw{id:Nat}(m:Nat)(hmix:P.follows .mixedOrders=true)(hc:FR ops l m=true)(hg:fJ P r f R w0 S Y n k ops 0 m l h):ff P r f R w0 S Y n (.code (.region id ops true)::k) l h:=by
 intro t w Ds hF hS;have hf:=LP hc;refine .nW (λτ=>?_);obtain⟨D,V,hout,hfin⟩:=(hg t hF).seq;simp only[eP]at hout hfin;simp only[Region.schedule,hmix,eJ,eY,Region.linearise];refine Jc hf hF.1 hout hfin ops.size τ _ t aL (λj hj=>?_) (λ_=>?_) hF.1 (λj _ hj=>?_) (λs _=>rfl) ?_ _ Ds hS.drew;exfalso;simp[bH]at hj;split at hj<;>simp at hj
 simp[bH];split<;>simp
 exfalso;simp[bH]at hj;split at hj<;>simp at hj
 exact eM (cy) aL
def fL(ops:aj)(listed:aq):aq:=(List.range ops.size).filter (λi=>!listed.contains i && (iX ops i).all (λe=>listed.contains e))
def vf(ops:aj):Nat->aq->List aq
 |0,_=>[[]]
 |fuel+1,listed=>match fL ops listed with
  |[]=>[[]]
  |rs=>rs.flatMap (λi=>(vf ops fuel (i::listed)).map (i::·))
theorem pb{arr:Array Bool}{listed:aq}(hs:arr.size=ops.size)(h:∀j,arr.getD j false=listed.contains j):Region.ready .any ops arr=fL ops listed:=by
 unfold Region.ready fL;refine List.filter_congr (λi hi=>?_);have hi':i<ops.size:=by simpa using hi
 have e1:arr.getD i true=listed.contains i:=by rw[<-h i];simp[hs,hi']
 rw[e1]
 congr 1
 have hg:ops[i]?=some ops[i]:=bh hi';unfold iX;rw[hg];simp only[ez,Option.getD_some,<-Array.all_toList];rw[List.all_map,List.all_filter]
 congr 1
 funext e;simp only[Function.comp,h]
theorem zc:∀(fuel τ:Nat) (arr:Array Bool) (listed:aq),arr.size=ops.size->(∀j,arr.getD j false=listed.contains j)->Region.linearise.go .any ops fuel τ arr []∈vf ops fuel listed
 |0,τ,arr,listed,_,_=>by simp[Region.linearise.go,vf]
 |fuel+1,τ,arr,listed,hs,h=>by
  simp only[Region.linearise.go,vf];change (match (Region.ready .any ops arr)[τ%(Region.ready .any ops arr).length]? with
   |some i=>Region.linearise.go .any ops fuel (τ / (Region.ready .any ops arr).length) (arr.setIfInBounds i true) [i]
   |none=>[].reverse)∈_;rw[pb hs h];cases hr:fL ops listed with
  |nil=>simp
  |cons x xs=>
   have hlt:τ%(x::xs).length<(x::xs).length:=Nat.mod_lt _ aL;rw[bJ hlt];simp only[];rw[linearise_go_acc,bX,cH];refine List.mem_flatMap.2 ⟨_,dL hlt,eL.2 ⟨_,zc fuel _ _ _ (by simpa using hs) (λj=>?_),rfl⟩⟩;have hm:(x::xs)[τ%(x::xs).length]∈fL ops listed:=by rw[hr];exact dL hlt
   have hlt2:(x::xs)[τ%(x::xs).length]<arr.size:=by
    unfold fL at hm;have:=(eg.1 hm).1;rw[hs];simpa using this
   rw[gD hlt2,h j,List.contains_cons];split;rename_i e;subst e;simp;rename_i e;rw[eB (Ne.symm e)];rfl
theorem Jy{id:Nat}{os:List aq}(hmix:P.follows .mixedOrders=true)(ho:vf ops ops.size []=os)
  (hg:∀π∈os,ff P r f R w0 S Y n (.inRegion ops π::k) l h):ff P r f R w0 S Y n (.code (.region id ops true)::k) l h:=by
 intro t w Ds hF hS;refine .nW (λτ=>?_);simp only[Region.schedule,hmix,eJ,eY,Region.linearise];refine hg _ ?_ t _ Ds hF hS.drew;rw[<-ho];exact zc _ _ _ _ aL (λj=>by simp[bH];split<;>simp)
end
end
end Go.Proofs.Wit
namespace Go.Proofs.Wit
section
variable{s:fi}
def iQ(s:fi):aq:=(List.range 64).filter (λi=>s.getLsbD i)
def tz(s:fi):Nat:=(iQ s).headD 64
theorem nC(p:Nat->Bool)(n:Nat):(List.range (n+1)).filter p=(List.range n).filter p++(if p n then [n]else []):=by
 rw[ep,List.filter_append];simp[List.filter_cons]
theorem oe(p:Nat->Bool)(n:Nat):(List.range n).filter p=[]↔∀j,j<n->p j=false:=by
 simp[List.filter_eq_nil_iff]
theorem D5(p:Nat->Bool)(q:Nat->Bool)(n:Nat)(hq:∀i,i<n->(q i=true↔p i=true/\∃j,j<i/\p j=true)):
  (List.range n).filter q=((List.range n).filter p).tail:=by
 induction n with
 |zero=>rfl
 |succ n E=>
  rw[nC,nC,E (λi hi=>hq i aH)];have D:=hq n aH;by_cases he:(List.range n).filter p=[];rw[he];have h0:¬(∃j,j<n/\p j=true):=by
   rintro ⟨j,hj,hp⟩;have:=(oe p n).1 he j hj;rw[hp]at this;cases this
  have C:q n=false:=by
   cases w:q n with
   |false=>rfl
   |true=>exact absurd (D.1 w).2 h0
  rw[C];cases p n<;>rfl
  rw[List.tail_append_of_ne_nil he];have h1:∃j,j<n/\p j=true:=by
   obtain⟨x,hx⟩:=List.exists_mem_of_ne_nil _ he;rw[eg,eD]at hx;exact⟨x,hx.1,hx.2⟩
  have:q n=p n:=by
   rw[dU,D];exact⟨λh=>h.1,λh=>⟨h,h1⟩⟩
  rw[this]
theorem D6(p:Nat->Bool)(n k:Nat)(hk:((List.range n).filter p).head?=some k):k<n/\p k=true/\∀j,j<k->p j=false:=by
 induction n with
 |zero=>simp at hk
 |succ n w=>
  rw[nC]at hk;by_cases he:(List.range n).filter p=[];rw[he]at hk;cases hp:p n with
  |false=>simp[hp]at hk
  |true=>
   simp[hp]at hk;subst hk;exact⟨aH,hp,(oe p n).1 he⟩
  have h:((List.range n).filter p).head?=some k:=by
   cases hf:(List.range n).filter p with
   |nil=>exact absurd hf he
   |cons a l=>rw[hf]at hk;simpa using hk
  have:=w h;exact⟨aH,this.2⟩
theorem DF(s:fi)(i:Nat)(hi:i<64):(s - 1#64).getLsbD i=!(s.getLsbD i^^decide (∃j,j<i/\s.getLsbD j=true)):=by
 have e:s - 1#64= ~~~(-s):=by
  apply BitVec.eq_of_toNat_eq;rw[BitVec.toNat_not,BitVec.toNat_neg,BitVec.toNat_sub];have:=s.isLt;simp;omega
 rw[e,de,BitVec.getLsbD_neg];simp[hi]
theorem Ra (h:s≠0#64):iQ s≠[]:=by
 intro e;apply h;rw[iQ,oe]at e;ext i hi;have:=e i hi;rw[BitVec.getLsbD_eq_getElem hi]at this;simpa using this
theorem Df (h:s≠0#64):(iQ s).head?=some (tz s):=by
 have:=Ra h;unfold tz;cases hb:iQ s with
 |nil=>exact absurd hb this
 |cons a l=>rfl
theorem BB (h:s≠0#64):tz s<64/\s.getLsbD (tz s)=true/\∀j,j<tz s->s.getLsbD j=false:=
 D6 _ 64 _ (Df h)
theorem Kj(s:fi):iQ (s &&& (s - 1#64))=(iQ s).tail:=by
 unfold iQ;refine D5 (λi=>s.getLsbD i) _ 64 (λi hi=>?_);rw[dc,DF s i hi];cases s.getLsbD i<;>simp
theorem Kl (h:s≠0#64):iQ s=tz s::iQ (s &&& (s - 1#64)):=by
 rw[Kj];have:=Df h;cases hb:iQ s with
 |nil=>rw[hb]at this;cases this
 |cons a l=>rw[hb]at this;simp at this;simp[this]
theorem Ki:iQ 0#64=[]:=aI
theorem P7 (h:s≠0#64):tz s<64:=(BB h).1
theorem OG (h:s≠0#64):s &&& -s=1#64<<<tz s:=by
 obtain⟨h1,h2,w⟩:=BB h;ext i hi;rw[BitVec.getElem_and,<-BitVec.getLsbD_eq_getElem,<-BitVec.getLsbD_eq_getElem,<-BitVec.getLsbD_eq_getElem,BitVec.getLsbD_neg,BitVec.getLsbD_shiftLeft];by_cases e:i=tz s;subst e;have C:¬∃j,j<tz s/\s.getLsbD j=true:=by
  rintro ⟨j,hj,hp⟩;rw[w j hj]at hp;cases hp
 simp[h2,h1,C];by_cases p:i<tz s;simp[w i p,p];have hx:∃j,j<i/\s.getLsbD j=true:=⟨tz s,aH,h2⟩;have:(1#64).getLsbD (i - tz s)=false:=by
  have:i - tz s≠0:=aH;rw[BitVec.getLsbD_one];simp[this]
 rw[this];simp only[eF hx];cases s.getLsbD i<;>simp[hi]
def ug:ar:=[0,1,56,2,57,49,28,3,61,58,42,50,38,29,17,4,62,47,59,36,45,43,51,22,53,39,33,30,24,18,12,5,63,55,48,27,60,41,37,16,46,35,44,21,52,32,23,11,54,26,40,15,34,20,31,10,25,14,19,9,13,8,7,6]
def Mc(s:fi):fi:=((s &&& -s)*285870213051353865#64)>>>58
theorem HD(s:fi):(Mc s).toNat<64:=by
 unfold Mc;rw[BitVec.toNat_ushiftRight,Nat.shiftRight_eq_div_pow];have:=((s &&& -s)*285870213051353865#64).isLt;omega
theorem Se:∀k:Nat,k<64->ug.getD ((((1#64<<<k)*285870213051353865#64)>>>58).toNat) 0=(k:Int):=aI
theorem UP (h:s≠0#64):ug.getD (Mc s).toNat 0=(tz s:Int):=by
 unfold Mc;rw[OG h];exact Se _ (P7 h)
end
end Go.Proofs.Wit
namespace Go.Proofs.Wit
open Go Go.RowKit
section
variable{j:Int}{α:Type}{inf:TypeInfo}{a:ae}{sp:ai}{x y:au}{kd:aw}
def m6(w:aB)(a:ae)(xs:List fi):Prop:=Sl w a (xs.map U)
theorem m6.fD{w0 w:aB} {xs:List fi}(h:m6 w0 a xs){S:aq}(e:Ex S w0 w)(hS:∀b o,a=some ⟨b,o,none⟩->b∉S:=by simp):m6 w a xs:=Sl.ex h e hS
theorem m6.at{w:aB} {xs:List fi}(h:m6 w a xs)(k:Nat)(hk:k<xs.length):w.cell? (tS a k)=some (U (xs.getD k 0#64)):=by
 rw[Sl.cell h k (by simpa using hk)];simp[hk]
theorem m6.nil(w:aB)(a:ae):m6 w a []:=Sl.nil w a
theorem m6.jd{w:aB}{q:ah}{xs:List fi}{sp:ai}{e:ax}{fr:Nat×Nat}(hq:q=none->xs=[])(h:∀b,q=some b->w.heap[b]?=some (.cells (xs.map U++sp).toArray e fr)):m6 w (q.map aP) xs:=by
 cases q with
 |none=>rw[hq rfl];exact .nil _ _
 |some b=>exact Sl.jd (h b rfl)
def kC{σ:Type}(f:Nat->σ->σ)(s:σ):Nat->σ
 |0=>s
 |k+1=>f k (kC f s k)
theorem CV{σ:Type}{f:Nat->σ->σ}{s:σ}(I:Nat->σ->Prop)(h0:I 0 s):∀{n:Nat},(∀k a,k<n->I k a->I (k+1) (f k a))->I n (kC f s n)
 |0,_=>h0
 |n+1,h=>h n _ aH (CV I h0 (λk a hk=>h k a aH))
def qd(p:Nat->Bool):Nat->Bool
 |0=>false
 |k+1=>qd p k||p k
theorem wT{p:Nat->Bool}:∀{n:Nat},qd p n=true↔∃k,k<n/\p k=true
 |0=>by simp[qd]
 |n+1=>by
  rw[qd,dV,wT];constructor;rintro (⟨k,hk,hp⟩|hp);exact⟨k,aH,hp⟩;exact⟨n,aH,hp⟩;rintro ⟨k,hk,hp⟩;by_cases e:k=n;subst e;exact .inr hp;exact .inl ⟨k,aH,hp⟩
theorem sV{p:Nat->Bool}{n:Nat}:qd p n=false↔∀k,k<n->p k=false:=by
 rw[<-dH,wT];constructor;intro h k hk;cases hp:p k with
 |false=>rfl
 |true=>exact absurd ⟨k,hk,hp⟩ h
 rintro h ⟨k,hk,hp⟩;rw[h k hk]at hp;cases hp
theorem MJ{p:Nat->Bool}{n k:Nat}(hk:k<n)(hp:p k=true):qd p n=true:=wT.2 ⟨k,hk,hp⟩
theorem zX{p:Nat->Bool}{k:Nat}(h:qd p k=false)(hp:p k=false):qd p (k+1)=false:=by rw[qd,h,hp];rfl
section
variable{P:av}{r:ah}{f:ay}{R:aC->aB->Prop}{w0:aB}{S:aq}{Y:List (Nat×Obj)}{n:Nat}{k:al}{l:Fl}{h:Hl}
variable{ops:aj}{i d:Nat}{rest:aq}{ty:ax}{pos:aA}{aft:ak}{g:Option (Nat×Bool)}
theorem Ln{t e:ax}{len:Nat}(hu:P.underlying t=some (.array len e))(he:∀w,(sizeOf e).run P w=.ok 1 w)(b o:Nat)(kd:aw)(j:Nat)(hj:j<len)(w':aB):
  (Instr.indexAt t (.pointer (some ⟨b,o,none⟩)) (.int kd j)).run P w'=.ok (.pointer (some ⟨b,o+j,none⟩)) w':=by
 simp only[Instr.indexAt,asIntOf,Sem.run_bind,Sem.run_pure,Result.andThen_ok,run_underlying hu,Instr.sureAddr];rw[if_pos ⟨aH,aH⟩];simp only[Sem.run_bind,he,Result.andThen_ok,Sem.run_pure,Addr.add,eS,dy];split;rename_i h0;rw[h0];rfl;rfl
theorem pI{t e:ax} {b o len:Nat}  (ho:ops[i]?=some ⟨some d,.indexAddr t x y,ty,pos,aft,g⟩)(hw:fE ops l g=true)
  (hx:fW l x=some (.pointer (some ⟨b,o,none⟩)))(hy:fW l y=some (.int kd j))(hd:Nat.blt d n=true)(hu:P.underlying t=some (.array len e))(he:∀w,(sizeOf e).run P w=.ok 1 w)
  (j':Nat)(hj:j=j')(hlt:j'<len):fh P w0 S n h ops i l d (.pointer (some ⟨b,o+j',none⟩)):=by
 subst hj;exact .of ho hw rfl rfl hd (λt w Ds _ hF _=>⟨.value (.pointer (some ⟨b,o+j',none⟩)),by
  simp only[execOp,hF.fW hx,hF.fW hy,Sem.run_bind,Ln hu he b o kd j' hlt w];rfl,rfl⟩)
end
abbrev ob{α:Type}(enc:α->aC)(e:ax)(xs:List α)(sp:ai):Obj:=.cells (xs.map enc++sp).toArray e (0,0)
section
variable{P:av}{r:ah}{f:ay}{R:aC->aB->Prop}{w0:aB}{S:aq}{Y:List (Nat×Obj)}{n:Nat}{k:al}{l:Fl}{h:Hl}
variable{ops:aj}{i d:Nat}{rest:aq}{ty:ax}{pos:aA}{aft:ak}{g:Option (Nat×Bool)}
theorem DP{t e:ax}(hu:P.underlying t=some (.slice e)){sz:Nat}(he:∀w,(sizeOf e).run P w=.ok sz w)(b o m cap:Nat)(kd:aw)(j:Nat)(hj:j<m)(w':aB):
  (Instr.indexAt t (.slice (some ⟨b,o,none⟩) m cap) (.int kd j)).run P w'=.ok (.pointer (some ⟨b,o+j*sz,none⟩)) w':=by
 simp only[Instr.indexAt,asIntOf,Sem.run_bind,Sem.run_pure,Result.andThen_ok,run_underlying hu];rw[if_pos ⟨aH,aH⟩];simp only[Sem.run_bind,he,Result.andThen_ok,Sem.run_pure,Addr.add,dy];split;rename_i h0;rw[h0];rfl;rfl
theorem jo{t e:ax} {b o m cap:Nat}  (ho:ops[i]?=some ⟨some d,.indexAddr t x y,ty,pos,aft,g⟩)(hw:fE ops l g=true)
  (hx:fW l x=some (.slice (some ⟨b,o,none⟩) m cap))(hy:fW l y=some (.int kd j))(hd:Nat.blt d n=true)(hu:P.underlying t=some (.slice e)){sz:Nat}(he:∀w,(sizeOf e).run P w=.ok sz w)
  (j':Nat)(hj:j=j'/\j'<m):fh P w0 S n h ops i l d (.pointer (some ⟨b,o+j'*sz,none⟩)):=by
 obtain⟨rfl,hlt⟩:=hj;exact .of ho hw rfl rfl hd (λt w Ds _ hF _=>⟨.value (.pointer (some ⟨b,o+j'*sz,none⟩)),by
  simp only[execOp,hF.fW hx,hF.fW hy,Sem.run_bind,DP hu he b o m cap kd j' hlt w];rfl,rfl⟩)
theorem fh.gk{t e:ax} {b o m cap:Nat}  (hu:P.underlying t=some (.slice e)){sz:Nat}(he:∀w,(sizeOf e).run P w=.ok sz w)(j':Nat)(hj:j=j'/\j'<m)(ho:ops[i]?=some ⟨some d,.indexAddr t x y,ty,pos,aft,g⟩:=by exact rfl)(hw:fE ops l g=true:=by exact rfl)(hx:fW l x=some (.slice (some ⟨b,o,none⟩) m cap):=by exact rfl)(hy:fW l y=some (.int kd j):=by exact rfl)(hd:Nat.blt d n=true:=by exact rfl):fh P w0 S n h ops i l d (.pointer (some ⟨b,o+j'*sz,none⟩)):=jo (ho:=ho) (hw:=hw) (hx:=hx) (hy:=hy) (hd:=hd) (hu:=hu) (he:=he) (j':=j') (hj:=hj)
theorem Rj {enc:α->aC}{xs:List α} {q:Nat}(hq:q<xs.length):(xs.map enc++sp).toArray[0+q*1]?=some (enc xs[q]):=by
 rw[eP,eS];simp[List.getElem?_append,hq]
theorem ir (enc:α->aC)(dflt:α){t:ax} {b q:Nat}{xs:List α} {e:ax}(ho:ops[i]?=some ⟨some d,.load t x,ty,pos,aft,g⟩)(hw:fE ops l g=true)
  (hx:fW l x=some (.pointer (some ⟨b,0+q*1,none⟩)))(hd:Nat.blt d n=true)(ha:∀w,(isAgg t).run P w=.ok false w)(j:Nat)(hj:h[j]?=some (some b,ob enc e xs sp))(hq:q<xs.length):
  fh P w0 S n h ops i l d (enc (xs.getD q dflt)):=
 fh.mE ho hw hx hd ha j hj (by rw[Rj hq];simp[hq])
theorem fh.qR (enc:α->aC)(dflt:α){t:ax} {b q:Nat}{xs:List α} {e:ax}(ha:∀w,(isAgg t).run P w=.ok false w)(j:Nat)(hq:q<xs.length)(ho:ops[i]?=some ⟨some d,.load t x,ty,pos,aft,g⟩:=by exact rfl)(hw:fE ops l g=true:=by exact rfl)(hx:fW l x=some (.pointer (some ⟨b,0+q*1,none⟩)):=by exact rfl)(hd:Nat.blt d n=true:=by exact rfl)(hj:h[j]?=some (some b,ob enc e xs sp):=by exact rfl):fh P w0 S n h ops i l d (enc (xs.getD q dflt)):=ir (enc:=enc) (dflt:=dflt) (ho:=ho) (hw:=hw) (hx:=hx) (hd:=hd) (ha:=ha) (j:=j) (hj:=hj) (hq:=hq)
theorem ff.uV (enc:α->aC)(v:α){t:ax} {b q:Nat}{xs:List α} {e:ax}(ho:ops[i]?=some ⟨none,.store t x y,ty,pos,aft,g⟩)(hw:fE ops l g=true)
  (hx:fW l x=some (.pointer (some ⟨b,0+q*1,none⟩)))(hy:fW l y=some (enc v))(hz:∀w,(sizeOf t).run P w=.ok 1 w)(hv:(enc v).oneCell'=true)(j:Nat)(hj:h[j]?=some (some b,ob enc e xs sp))(hq:q<xs.length)
  (hk:ff P r f R w0 S Y n (.inRegion ops rest::k) l (h.set j (some b,ob enc e (xs.set q v) sp))):ff P r f R w0 S Y n (.inRegion ops (i::rest)::k) l h:=by
 refine ff.st ho hw hx hy hz hv j hj (by rw[eT];simp;omega) ?_;have:((xs.map enc++sp).toArray.setIfInBounds (0+q*1) (enc v))=((xs.set q v).map enc++sp).toArray:=by
  rw[eP,eS,List.map_set];have hq2:q<(xs.map enc).length:=by simpa using hq
  simp[List.set_append_left _ _ hq2]
 rw[this];exact hk
end
theorem St.fresh{w0 w:aB}{h:Hl}{Y:List (Nat×Obj)}(s:St w0 [] w h Y){j b:Nat}{o:Obj}(hj:h[j]?=some (some b,o)):w0.heap.size<=b:=by
 rcases(s.own _ (cP hj) b rfl).2.2 with h1|h1;exact h1;cases h1
section
variable{P:av}{r:ah}{f:ay}{R:aC->aB->Prop}{w0:aB}{S:aq}{Y:List (Nat×Obj)}{n:Nat}{k:al}{l:Fl}{h:Hl}
variable{ops:aj}{i d:Nat}{rest:aq}{ty:ax}{pos:aA}{aft:ak}{g:Option (Nat×Bool)}
theorem mR (enc:α->aC)(z:α){t e:ax} {kx ky:aw}{m:Nat} (ho:ops[i]?=some ⟨some d,.makeSlice t x y,ty,pos,aft,g⟩)(hw:fE ops l g=true)(hx:fW l x=some (.int kx m))(hy:fW l y=some (.int ky m))(hd:Nat.blt d n=true)
  (hu:P.underlying t=some (.slice e))(hi:P.info? e=some inf)(hz:inf.zero=some (enc z))(hz1:(enc z).cells=#[enc z])(hs:inf.size=1)(hb:inf.bytes*m<=281474976710656)(hm:m<=maxLen)
  (hk:∀b,ff P r f R w0 S Y n (.inRegion ops rest::k) ((d,.slice (aR b) m m)::l) ((some b,ob enc e (List.replicate m z) [])::h)):ff P r f R w0 S Y n (.inRegion ops (i::rest)::k) l h:=
 .W6 ho hw hx hy hd hu hi hz hz1 hs hb hm (λb=>by
  have:=hk b;simp only[ob,List.map_replicate]at this;exact this)
theorem iZ (enc:α->aC){t e:ax}  {z:aC}{q:ah}{xs:List α} {cap:Nat}{bn m c:Nat}{news:List α}{spn:ai}{en:ax}
  (ho:ops[i]?=some ⟨some d,.call ⟨.builtin .append,#[x,y],#[t,t]⟩,ty,pos,aft,g⟩)(hw:fE ops l g=true)(hx:fW l x=some (gx q xs.length cap))(hy:fW l y=some (.slice (aR bn) m c))(hd:Nat.blt d n=true)
  (hu:P.underlying t=some (.slice e))(hi:P.info? e=some inf)(hz:inf.zero=some z)(hsz:inf.size=1)(hz1:z.cells.size=1)
  (hq:q=none->xs.length=0/\cap=0)(j:Nat)(hj:h[j]?=some (q,ob enc e xs sp))(jn:Nat)(hjn:h[jn]?=some (some bn,ob enc en news spn))
  (fB:(xs.map enc++sp).length=cap)(hl:news.length=m)(hm0:0<m)(h1:∀u,(enc u).oneCell'=true)(hmx:xs.length+m<=maxLen)(hbytes:(xs.length+m)*inf.bytes<=140737488355328)
  (hk:∀b' sp' cap',((xs++news).map enc++sp').length=cap'->ff P r f R w0 S Y n (.inRegion ops rest::k) ((d,gx (some b') (xs++news).length cap')::l) (h.set j (some b',ob enc e (xs++news) sp'))):ff P r f R w0 S Y n (.inRegion ops (i::rest)::k) l h:=by
 refine .app 1 ho hw hx hy hd hu hi hz hsz hz1 hq j hj jn hjn aL (by rw[fB,eS]) (by simp[hl]) hm0 (λu hu=>?_) hmx hbytes (λb' sp' cap' hlen=>?_);obtain⟨a,_,rfl⟩:=eL.1 hu;exact h1 a;have e1:xs.map enc++news.map enc=(xs++news).map enc:=by simp
 have e2:xs.length+m=(xs++news).length:=by simp[hl]
 rw[e1,e2];exact hk b' sp' cap' (by rw[<-e1,hlen,eS])
end
section
variable{P:av}{r:ah}{f:ay}{R:aC->aB->Prop}{w0:aB}{S:aq}{Y:List (Nat×Obj)}{n:Nat}{k:al}{l:Fl}{h:Hl}
variable{ops:aj}{i d:Nat}{rest:aq}{ty:ax}{pos:aA}{aft:ak}{g:Option (Nat×Bool)}
theorem EF (enc:α->aC){t e:ax}  {z:aC}{q:ah}{xs:List α} {cap:Nat}{an:ae}{m c:Nat}(news:List α)
  (ho:ops[i]?=some ⟨some d,.call ⟨.builtin .append,#[x,y],#[t,t]⟩,ty,pos,aft,g⟩)(hw:fE ops l g=true)(hx:fW l x=some (gx q xs.length cap))(hy:fW l y=some (.slice an m c))(hd:Nat.blt d n=true)
  (hu:P.underlying t=some (.slice e))(hi:P.info? e=some inf)(hz:inf.zero=some z)(hsz:inf.size=1)(hz1:z.cells.size=1)
  (hq:q=none->xs.length=0/\cap=0)(j:Nat)(hj:h[j]?=some (q,ob enc e xs sp))(hsl:∀w Y',St w0 S w h Y'->Sl w an (news.map enc))
  (fB:(xs.map enc++sp).length=cap)(hl:m=news.length)(hm0:0<m)(h1:∀u,(enc u).oneCell'=true)(hmx:xs.length+m<=maxLen)(hbytes:(xs.length+m)*inf.bytes<=140737488355328)
  (hk:∀b' sp' cap',((xs++news).map enc++sp').length=cap'->ff P r f R w0 S Y n (.inRegion ops rest::k) ((d,gx (some b') (xs++news).length cap')::l) (h.set j (some b',ob enc e (xs++news) sp'))):ff P r f R w0 S Y n (.inRegion ops (i::rest)::k) l h:=
 .mem ho hw rfl rfl hd (λt' w Ds Y' hF hS=>by
  have hs:=hsl w Y' hS;obtain⟨bn,o,rfl,_⟩:=hs.isSome aN;have hnews:∀j u,(news.map enc)[j]?=some u->w.cell? ((⟨bn,o,none⟩:Addr).add j)=some u:=by
   intro j u hv;have hjl:=(bB.1 hv).1;have e1:(⟨bn,o,none⟩:Addr).add j=tS (some ⟨bn,o,none⟩) j:=by
    unfold Addr.add tS;split;rename_i h0;rw[h0];rfl;rfl
   rw[e1,hs.cell j hjl];rw[aY,hv];rfl
  subst hl;obtain⟨b',sp',cap',w',hrun,hlen,hS'⟩:=yu hu hi hz hsz hz1 hS (xs:=xs.map enc) (nx:=xs.length) aL (by rw[fB,eS]) hq hj (c:=c) (m:=news.length) (news:=news.map enc) aL hm0 hnews (λu hu=>by obtain⟨a,_,rfl⟩:=eL.1 hu;exact h1 a) hmx hbytes ty;have e2:xs.map enc++news.map enc=(xs++news).map enc:=by simp
  have e3:xs.length+news.length=(xs++news).length:=by simp
  rw[e2]at hlen hS';rw[e3]at hrun;refine⟨_,w',_,?_,hS',hk b' sp' cap' (by rw[hlen,eS])⟩;have e1:(#[x,y]:aa).map (Act.eval ⟨t',Ds.map mark⟩)=#[gx q xs.length cap,.slice (some ⟨bn,o,none⟩) news.length c]:=by simp[hF.fW hx,hF.fW hy]
  simp only[execOp,resolve,e1,Sem.run_bind,Sem.run_pure,Result.andThen_ok,invoke,builtin,hrun])
theorem Eh{t e:ax} (hu:P.underlying t=some (.slice e))(hi:P.info? e=some inf){b:ae}{m cap c:Nat}(hm:m<=cap):Vg P .append #[t,t] ty [.slice a m cap,.slice b 0 c] (.slice a m cap):=by
 intro cs w;have hf:(Builtin.firstCells inf.size 0 (.slice b 0 c)).run P w=.ok #[] w:=by
  cases b<;>simp[Builtin.firstCells,loadCells,loadCellsFrom]
 have hin:P.underlying t≠some (.int .i64):=by rw[hu];simp
 simp only[builtin,Builtin.append_];cases a<;>simp[run_underlying hu,sizeOf,typeInfo,hi,Builtin.lenOf,hm,hf,storeCells]
theorem CM (enc:α->aC){t e:ax} (ho:ops[i]?=some ⟨some d,.buildSlice t 0 #[],ty,pos,aft,g⟩)(hw:fE ops l g=true)(hd:Nat.blt d n=true)
  (hu:P.underlying t=some (.slice e))(hi:P.info? e=some inf)
  (hk:∀b,ff P r f R w0 S Y n (.inRegion ops rest::k) ((d,gx (some b) ([]:List α).length 0)::l) ((some b,ob enc e [] [])::h)):ff P r f R w0 S Y n (.inRegion ops (i::rest)::k) l h:=
 .mem ho hw rfl rfl hd (λt' w Ds _ hF hS=>⟨.slice (aR w.heap.size) 0 0,w.alloc (.cells #[] e),_,by
  simp[execOp,Instr.buildSlice,run_underlying hu,sizeOf,typeInfo,hi,Instr.fill,newRow];rw[show Array.range 0=#[]from aI];simp,hS.alloc rfl,hk _⟩)
theorem wQ{t e:ax}(hu:P.underlying t=some (.slice e)) {m c m' c':Nat}:oO P .eql t (.slice a m c) (.slice none m' c') (.bool a.isNone):=by
 intro x y w;have h0:eqGuard .eql t x y (.slice a m c) (.slice none m' c')=pure ():=by unfold eqGuard;rfl
 rw[h0];have h1:∀dd,(Op.equalIn (dd+1) t (.slice a m c) (.slice none m' c')).run P w=.ok a.isNone w:=by
  intro dd;simp only[Op.equalIn,Sem.run_bind,run_underlying hu,Result.andThen_ok];cases a<;>rfl
 show(do pure (Value.bool (<-Op.equal t (.slice a m c) (.slice none m' c'))):Sem aC).run P w=_;rw[Sem.run_bind,show(Op.equal t (.slice a m c) (.slice none m' c')).run P w=_ from h1 9999];rfl
end
def H7(g:Nat)(w:aB):Prop:=g<w.heap.size/\∀i:Nat,i<64->w.cell? ⟨g,i,none⟩=some (.int .u8 (ug.getD i 0))
theorem H7.ex{g:Nat}{w0 w:aB}{S:aq}(h:H7 g w0)(e:Ex S w0 w)(hS:g∉S:=by simp):H7 g w:=
 ⟨dt h.1 e.size,λi hi=>by rw[<-h.2 i hi];exact World.cell?_of_block (e.block g h.1 hS)⟩
theorem Kk{s0 s:fi}{i:Nat}(h:(iQ s0).drop i=iQ s)(hs:s≠0#64):(iQ s0)[i]?=some (tz s)/\(iQ s0).drop (i+1)=iQ (s &&& (s - 1#64)):=by
 rw[Kl hs]at h;refine⟨?_,?_⟩;have:=eV (λl=>l[0]?) h;simpa using this;rw[<-List.drop_drop,h];rfl
theorem Gh{s:fi}(hs:s≠0#64):(s &&& (s - 1#64)).toNat<s.toNat:=by
 have h1:(s &&& (s - 1#64)).toNat<=(s - 1#64).toNat:=by rw[BitVec.toNat_and];exact Nat.and_le_right
 have h2:s.toNat≠0:=λe=>hs (BitVec.eq_of_toNat_eq (by simpa using e));have h3:(s - 1#64).toNat<s.toNat:=by rw[BitVec.toNat_sub];have:=s.isLt;simp;omega
 omega
end
section
variable{r xs:List fi}{i k v:Nat}{g:Nat->fi->fi}{s:fi}
def jZ(n:Nat):fi:=if 64<=n then 18446744073709551615#64 else(1#64<<<n) - 1#64
def Gd(n:Nat)(xs:List fi)(k:Nat):Bool:=xs.getD k 0#64 &&& ~~~ (jZ n) !=0#64
def kH(n:Int)(xs:List fi):Int:=
 if n<0\/64<n then 2 else if (xs.length:Int)≠n then 3 else if qd (Gd n.toNat xs) xs.length then 1 else 0
theorem rB  :i∈iQ s↔i<64/\s.getLsbD i=true:=by simp[iQ]
theorem z7:(18446744073709551615#64:fi)=BitVec.allOnes 64:=aI
theorem kP{n:Nat}(hn:n<=64)(hi:i<64):(jZ n).getLsbD i=decide (i<n):=by
 unfold jZ;split;rw[z7,BitVec.getLsbD_allOnes];simp;omega;rename_i h;have e1:((1#64<<<n) - 1#64).toNat=2^n - 1:=by
  have hp:2^n<2^64:=Nat.pow_lt_pow_right aI aH;have h1:0<2^n:=Nat.pow_pos aI;rw[BitVec.toNat_sub,BitVec.toNat_shiftLeft,Nat.shiftLeft_eq];simp only[df];rw[show 1%2^64=1 from aI,Nat.one_mul,dT hp];omega
 rw[BitVec.getLsbD,e1,Nat.testBit_two_pow_sub_one]
theorem oJ  (h:s.getLsbD i=true):i<64:=by
 rcases eN i 64 with h1|h1;exact h1;rw[BitVec.getLsbD_of_ge _ _ h1]at h;cases h
theorem px{t:fi}(h:∀i,i<64->s.getLsbD i=t.getLsbD i):s=t:=bS (λi hi=>h i hi)
theorem jg{t:fi}:s &&& ~~~t=0#64↔∀i,s.getLsbD i=true->t.getLsbD i=true:=by
 constructor;intro h i hi;have h1:=eV (λx=>BitVec.getLsbD x i) h;have hl:=oJ hi;simp only[dc,de,hi,hl]at h1;simpa using h1;intro h;refine px (λi hi=>?_);rw[dc,de];cases hs:s.getLsbD i with
 |false=>simp
 |true=>simp[hi,h i hs]
def Rl(r:List fi)(w v:Nat):Prop:=(r.getD w 0#64).getLsbD v=true
structure uk (r:List fi):Prop where
  len:r.length<=64
  lt:∀w v,Rl r w v->v<r.length
theorem Rl.HC {w:Nat}(h:Rl r w v):w<r.length:=by
 rcases eN w r.length with h1|h1;exact h1;unfold Rl at h;simp[cz h1]at h
theorem Em{n:Nat}  (hn:n<=64):Gd n xs k=false↔∀i,(xs.getD k 0#64).getLsbD i=true->i<n:=by
 unfold Gd;rw[bne_eq_false_iff_eq,jg];constructor;intro h i hi;have:=h i hi;rw[kP hn (oJ hi)]at this;simpa using this;intro h i hi;rw[kP hn (oJ hi)];simpa using h i hi
theorem rL :kH r.length r=0↔uk r:=by
 unfold kH;constructor;intro h;split at h;cases h;rename_i h1;have hn:r.length<=64:=aH;simp only[ne_eq,not_true_eq_false,eW,dy]at h;split at h;cases h;rename_i h2;have h2:qd (Gd r.length r) r.length=false:=by simpa using h2
 refine⟨hn,λw v hwv=>?_⟩;exact(Em hn).1 (sV.1 h2 w hwv.HC) v hwv;intro hv;rw[if_neg (by have:=hv.len;omega),if_neg aL,dy,if_neg];rw[sV.2 (λk hk=>(Em hv.len).2 (λi hi=>hv.lt k i hi))];simp
theorem uk.iQ{r:List fi}(h:uk r)(w:Nat):∀i∈iQ (r.getD w 0#64),i<r.length:=λi hi=>h.lt w i (rB.1 hi).2
def xG(r:List fi)(s:fi):fi:=(iQ s).foldl (λo w=>o|||r.getD w 0#64) 0#64
theorem vB(r:List fi)(v:Nat):∀(l:aq) (o:fi),(l.foldl (λo w=>o|||r.getD w 0#64) o).getLsbD v=(o.getLsbD v||l.any (λw=>(r.getD w 0#64).getLsbD v))
 |[],o=>by simp
 |w::l,o=>by rw[dX,vB r v l,du,List.any_cons,Bool.or_assoc]
theorem DD   :(xG r s).getLsbD v=true↔∃w,s.getLsbD w=true/\Rl r w v:=by
 rw[xG,vB];simp only[cU,Bool.false_or,dJ];constructor;rintro ⟨w,hw,h⟩;exact⟨w,(rB.1 hw).2,h⟩;rintro ⟨w,hw,h⟩;exact⟨w,rB.2 ⟨oJ hw,hw⟩,h⟩
def xi(g:Nat->fi->fi)(xs:List fi)(k:Nat):List fi:=xs.mapIdx (λi x=>if i<k then g i x else x)
theorem od   :(xi g xs k).length=xs.length:=by simp[xi]
theorem D1  :xi g xs 0=xs:=by
 apply List.ext_getElem?;intro i;simp[xi]
theorem O8   (hi:i<xs.length):(xi g xs k).getD i 0#64=if i<k then g i (xs.getD i 0#64)else xs.getD i 0#64:=by
 simp[xi,hi]
theorem LH   (hk:k<xs.length):(xi g xs k).set k (g k (xs.getD k 0#64))=xi g xs (k+1):=by
 apply List.ext_getElem?;intro i;rw[List.getElem?_set];simp only[xi,List.getElem?_mapIdx];split;rename_i e;subst e;simp[hk];rename_i e;cases hx:xs[i]? with
 |none=>rfl
 |some x=>
  simp only[ez];by_cases h1:i<k;rw[if_pos h1,if_pos aH];rw[if_neg h1,if_neg aH]
def IC(w:Nat)(s:fi)(out:List fi):List fi:=(iQ s).foldl (λout v=>out.set v (out.getD v 0#64|||1#64<<<w)) out
def u6(r:List fi):List fi:=kC (λw out=>IC w (r.getD w 0#64) out) (List.replicate r.length 0#64) r.length
theorem oc(w:Nat):∀(l:aq) (out:List fi),(l.foldl (λout v=>out.set v (out.getD v 0#64|||1#64<<<w)) out).length=out.length
 |[],_=>rfl
 |v::l,out=>by rw[dX,oc w l];simp
theorem oF(r:List fi)(n:Nat):(kC (λw out=>IC w (r.getD w 0#64) out) (List.replicate r.length 0#64) n).length=r.length:=by
 refine CV (λ_ (out:List fi)=>out.length=r.length) aL (λk a _ h=>?_);rw[IC,oc];exact h
theorem wZ(r:List fi):(u6 r).length=r.length:=oF r _
theorem ud(w:Nat)(hw:w<64)(v i:Nat):∀(l:aq) (out:List fi),(∀x∈l,x<out.length)->v<out.length->
  ((l.foldl (λout v=>out.set v (out.getD v 0#64|||1#64<<<w)) out).getD v 0#64).getLsbD i=((out.getD v 0#64).getLsbD i||(decide (v∈l) && decide (i=w)))
 |[],out,_,_=>by simp
 |x::l,out,hl,hv=>by
  rw[dX,ud w hw v i l _ (λy hy=>by simpa using hl y (cM _ hy)) (by simpa using hv)];have hx:x<out.length:=hl x aF;by_cases e:x=v;subst e;have:(out.set x (out.getD x 0#64|||1#64<<<w)).getD x 0#64=out.getD x 0#64|||1#64<<<w:=by simp[hx]
  rw[this,du,BitVec.getLsbD_shiftLeft];have:(decide (i<64) && !decide (i<w) && (1#64).getLsbD (i - w))=decide (i=w):=by
   rw[BitVec.getLsbD_one];by_cases e2:i=w;subst e2;simp[hw];simp[e2];omega
  rw[this];simp;cases (out[x]?.getD 0#64).getLsbD i<;>cases decide (i=w)<;>simp
  have:(out.set x (out.getD x 0#64|||1#64<<<w)).getD v 0#64=out.getD v 0#64:=by simp[e]
  rw[this];have:decide (v∈x::l)=decide (v∈l):=by simp[Ne.symm e]
  rw[this]
theorem yQ (hv:uk r){w:Nat}(hlt:v<r.length):Rl (u6 r) v w↔Rl r w v:=by
 have key:∀n,n<=r.length->(∀i,((kC (λw out=>IC w (r.getD w 0#64) out) (List.replicate r.length 0#64) n).getD v 0#64).getLsbD i=true↔i<n/\Rl r i v):=by
  intro n
  induction n with
  |zero=>intro _ i;simp[kC,hlt]
  |succ n ih=>
   intro hn i;have hlen:=oF r n;have hn64:n<64:=by have:=hv.len;omega
   rw[kC,IC,ud n hn64 v i _ _ (λx hx=>by rw[hlen];exact hv.iQ n x hx) (by rw[hlen];exact hlt),dV,ih aH];simp only[dG,dE];constructor;rintro (⟨h1,h2⟩|⟨h1,rfl⟩);exact⟨aH,h2⟩;exact⟨aH,(rB.1 h1).2⟩;rintro ⟨h1,h2⟩;by_cases e:i=n;subst e;exact .inr ⟨rB.2 ⟨oJ h2,h2⟩,rfl⟩;exact .inl ⟨aH,h2⟩
 unfold Rl u6;rw[key _ (eR _) w];exact⟨λh=>h.2,λh=>⟨Rl.HC h,h⟩⟩
end
end Go.Proofs.Wit
namespace Go.Proofs.Wit
end Go.Proofs.Wit
namespace Go.Proofs.Wit
open Go Go.RowKit
structure Le (r s:List fi):Prop where
  len:r.length=s.length
  sub:∀u v,Rl r u v->Rl s u v
theorem KY{r s:List fi}(hl:r.length=s.length)(h:∀u v,Rl r u v↔Rl s u v):r=s:=by
 apply dK hl;intro i h1 h2;refine px (λj _=>?_);have:=h i j;unfold Rl at this;simp only[aY,bJ h1,bJ h2,Option.getD_some]at this;exact dU.2 this
structure WS (g:List fi->List fi) (F:List fi->Prop):Prop where
  val:∀{l},uk l->uk (g l)
  Xa:∀{l},uk l->Le l (g l)
  mono:∀{l m},uk l->uk m->Le l m->Le (g l) (g m)
  fix:∀{l},uk l->(g l=l↔F l)
structure WR (F:List fi->Prop) (r out:List fi):Prop where
  val:uk out
  le:Le r out
  has:F out
  least:∀c,uk c->Le r c->F c->Le out c
def GH(l:List fi):Prop:=∀w,w<l.length->Rl l w w
def C0(l:List fi):Prop:=∀u v,Rl l u v->Rl l v u
def CY(l:List fi):Prop:=∀u v x,Rl l u v->Rl l v x->Rl l u x
def D9(l:List fi):Prop:=∀u v x,Rl l u v->Rl l u x->Rl l v x
theorem Ap{w v:Nat}(hw:w<64):(1#64<<<w).getLsbD v=true↔v=w:=by
 rw[BitVec.getLsbD_shiftLeft,BitVec.getLsbD_one];simp only[dG,dw,dE,bV];omega
end Go.Proofs.Wit
namespace Go.Proofs.Wit
section
variable{l:List fi}
def NT(l:List fi):Prop:=0#64∉l
def nF(p:Int)(l:List fi):Prop:=
 if p=1 then NT l else if p=2 then GH l else if p=3 then C0 l else if p=4 then CY l else if p=5 then D9 l else False
def M0(l:List fi)(p:Int):Prop:=kH l.length l=0/\nF p l
noncomputable def hasB(l:List fi)(p:Int):Bool:=@decide (M0 l p) (Classical.propDecidable _)
theorem DS {p:Int}{b:Bool}(h:b=true↔M0 l p):hasB l p=b:=by
 unfold hasB;cases b with
 |true=>exact @decide_eq_true _ (Classical.propDecidable _) (h.1 rfl)
 |false=>exact @decide_eq_false _ (Classical.propDecidable _) (λx=>by cases h.2 x)
theorem Ba {p:Int}:hasB l p=true↔M0 l p:=by unfold hasB;exact @decide_eq_true_iff _ (Classical.propDecidable _)
theorem yG (hv:uk l):l=u6 l↔C0 l:=by
 constructor;intro e u v h;have h1:Rl (u6 l) u v:=e ▸ h;exact(yQ hv h.HC).1 h1;intro h;refine KY (wZ l).symm (λu v=>?_);constructor;intro x;exact(yQ hv x.HC).2 (h u v x);intro x;have hd:=x.HC;rw[wZ]at hd;exact h v u ((yQ hv hd).1 x)
theorem HT{s:fi}{k:Nat}:s.getLsbD k=!((s>>>k) &&& 1#64==0#64):=by
 have h1:((s>>>k) &&& 1#64==0#64)=!(s.getLsbD k):=by
  cases hb:s.getLsbD k with
  |true=>
   rw[Bool.not_true,c9];intro e;have:=eV (λx=>BitVec.getLsbD x 0) e;simp[hb]at this
  |false=>
   rw[Bool.not_false,eU];refine px (λi _=>?_);rw[dc,BitVec.getLsbD_ushiftRight,BitVec.getLsbD_one];by_cases e:i=0;subst e;simp[hb];simp[e]
 rw[h1,Bool.not_not]
end
end Go.Proofs.Wit
namespace Go.Proofs.Wit
open Go Go.RowKit
def XE(P:av)(gf:ay)(args:ai)(w:aB)(q:ah)(Rc:aC->aB->Prop):Prop:=
 Calls P gf args.toArray w λe w'=>∃v,e=.returned v/\Ex q.toList w w'/\Rc v w'
section
variable{w0 w w':aB}{S:aq}{h:Hl}{Y:List (Nat×Obj)}
variable{P:av}{f:ay}{R:aC->aB->Prop}{r:ah}{n:Nat}{k:al}{l:Fl}{fn:Func}
variable{ops:aj}{i d:Nat}{rest:aq}{ty:ax}{pos:aA}{aft:ak}{g:Option (Nat×Bool)}
end
section
variable{P:av}{r:ah}{f:ay}{R:aC->aB->Prop}{w0:aB}{S:aq}{Y:List (Nat×Obj)}{n:Nat}{k:al}{l:Fl}{h:Hl}
variable{ops:aj}{i d:Nat}{rest:aq}{ty:ax}{pos:aA}{aft:ak}{g:Option (Nat×Bool)}
end
theorem ff.gZ{P:av}{r:ah}{f:ay}{R:aC->aB->Prop}{w0:aB}{S:aq}{Y:List (Nat×Obj)}{n:Nat}{k:al}{l:Fl}{h:Hl}(o:Obj)
  (hg:ff P r f R w0 S Y n k l ((none,o)::h)):ff P r f R w0 S Y n k l h:=λt w Ds hF hS=>hg t w Ds hF (hS.none o)
section
variable{P:av}{r:ah}{f:ay}{R:aC->aB->Prop}{w0:aB}{S:aq}{Y:List (Nat×Obj)}{n:Nat}{k:al}{l:Fl}{h:Hl}
variable{ops:aj}{i d:Nat}{rest:aq}{ty:ax}{pos:aA}{aft:ak}{g:Option (Nat×Bool)}
end
section
variable{P:av}{t:ax}{a b:Int}{x y:fi}{v:Bool}
theorem Gf{k:aw}(e:(a==b)=v):oO P .eql t (.int k a) (.int k b) (.bool v):=e ▸ rO
theorem wR{k:aw}(e:(a !=b)=v):oO P .neq t (.int k a) (.int k b) (.bool v):=e ▸ Eo
theorem PI{k:aw}(e:decide (a<b)=v):oO P .lss t (.int k a) (.int k b) (.bool v):=e ▸ AA
theorem V9{k:aw}(e:decide (a>b)=v):oO P .gtr t (.int k a) (.int k b) (.bool v):=e ▸ PJ
end
def Rw(r:List fi)(t:fi):Nat->fi
 |0=>t
 |k+1=>xG (u6 r) (Rw r t k)
structure WM (r:List fi) (f t:fi) (k:Nat):Prop where
  one:1<=k
  ne:f &&& Rw r t k≠0#64
  least:∀j,1<=j->j<k->f &&& Rw r t j=0#64
section
variable{r:List fi}{t:fi}
end
theorem tK{α:Type}{p q:α->Bool}:∀{l:List α},(∀x∈l,p x=true->q x=true)->(∃x∈l,q x=true/\p x=false)->l.countP p<l.countP q
 |[],_,⟨_,h,_⟩=>by cases h
 |a::l,h,⟨x,hx,h1,h2⟩=>by
  have hle:l.countP p<=l.countP q:=List.countP_mono_left (λy hy=>h y (cM _ hy));rw[List.countP_cons,List.countP_cons];rcases eH.1 hx with rfl|hx;rw[h1,h2];simp;omega;have:=tK (λy hy=>h y (cM _ hy)) ⟨x,hx,h1,h2⟩;have h3:=h a aF;cases hp:p a with
  |false=>simp;split<;>omega
  |true=>rw[h3 hp];omega
section
variable{H h:Hl}{Y:List (Nat×Obj)}{α:Type}{w w' w0:aB}{a:ae}{q:ah}{sp:ai}{S:aq}
structure ld (w w':aB) (H:Hl):Prop where
  own:∀p∈H,∀b,p.1=some b->w'.heap[b]?=some p.2/\ub p.2=false/\w.heap.size<=b
  apart:H.Pairwise uH
theorem ld.of   (s:St w [] w' h Y):ld w w' h:=
 ⟨λp hp b hb=>by
  obtain⟨h1,h2,h3⟩:=s.own p hp b hb;exact⟨h1,h2,h3.resolve_right aL⟩,s.apart⟩
theorem ld.sub {H':Hl}(g:ld w w' H)(hs:H'.Sublist H):ld w w' H':=⟨λp hp=>g.own p (hs.subset hp),g.apart.sublist hs⟩
theorem St.lU    (s:St w0 S w h Y)(e:Ex [] w w') (g:ld w w' H):St w0 S w' (H++h) Y:=by
 have s':=s.later e;refine⟨s'.ext,λp hp b hb=>?_,cR.2 ⟨g.apart,s.apart,λp hp q hq b hb hqb=>?_⟩,s'.sys,s'.CP⟩;rcases ed.1 hp with hp|hp;obtain⟨h1,h2,h3⟩:=g.own p hp b hb;exact⟨h1,h2,.inl (eM s.ext.size h3)⟩;exact s'.own p hp b hb;have h1:=(g.own p hp b hb).2.2;have h2:=(aX.1 (s.own q hq b hqb).1).1;omega
theorem St.kq  {pre pre' HR:Hl} (s:St w0 S w (pre++HR) Y)(is:aq)(hn:is.Nodup)(e:is.map (λi=>pre[i]?)=pre'.map some):St w0 S w (pre'++HR) Y:=by
 have hlen:is.length=pre'.length:=by have:=eV List.length e;simpa using this
 have hat:∀j (hj:j<pre'.length),∃i,is[j]?=some i/\pre[i]?=some pre'[j]:=λj hj=>by
  have h1:=eV (λl=>l[j]?) e;have hj2:j<is.length:=aH;simp only[dB,bJ hj,bJ hj2,ez,dD]at h1;exact⟨is[j],bJ hj2,h1⟩
 have hmem:∀p∈pre',p∈pre:=λp hp=>by
  obtain⟨j,hj,rfl⟩:=cN.1 hp;obtain⟨i,_,h2⟩:=hat j hj;exact cP h2
 have hap:=cR.1 s.apart;refine⟨s.ext,λp hp=>?_,cR.2 ⟨?_,hap.2.1,λp hp q hq=>hap.2.2 p (hmem p hp) q hq⟩,s.sys,s.CP⟩;rcases ed.1 hp with hp|hp;exact s.own p (cK _ (hmem p hp));exact s.own p (cD _ hp);rw[bE];intro j j' hj hj' hlt;obtain⟨i,h1,h2⟩:=hat j hj;obtain⟨i',h1',h2'⟩:=hat j' hj';have hne:i≠i':=by
  rintro rfl;obtain⟨a1,a2⟩:=bB.1 h1;obtain⟨b1,b2⟩:=bB.1 h1';have:=(List.nodup_iff_pairwise_ne.1 hn);exact absurd (a2.trans b2.symm) (bE.1 this j j' a1 b1 hlt)
 obtain⟨a1,a2⟩:=bB.1 h2;obtain⟨b1,b2⟩:=bB.1 h2';rw[<-a2,<-b2];rcases Nat.lt_or_gt_of_ne hne with hx|hx;exact bE.1 hap.1 i i' a1 b1 hx;exact xn (bE.1 hap.1 i' i b1 a1 hx)
theorem ff.kq{P:av}{r:ah}{f:ay}{R:aC->aB->Prop}{w0:aB}{S:aq}{Y:List (Nat×Obj)}{n:Nat}{k:al}{l:Fl}{pre pre':Hl}(HR:Hl)(is:aq)(hn:is.Nodup)(e:is.map (λi=>pre[i]?)=pre'.map some)
  (hg:ff P r f R w0 S Y n k l (pre'++HR)):ff P r f R w0 S Y n k l (pre++HR):=λt w Ds hF hS=>hg t w Ds hF (hS.kq is hn e)
theorem ff.pick{P:av}{r:ah}{f:ay}{R:aC->aB->Prop}   {n:Nat}{k:al}{l:Fl}{pre pre':Hl}(is:aq)(hn:is.Nodup)(e:is.map (λi=>pre[i]?)=pre'.map some)
  (hg:ff P r f R w0 S Y n k l pre'):ff P r f R w0 S Y n k l pre:=by
 have:=ff.kq (pre:=pre) (pre':=pre') [] is hn e (by rw[dW];exact hg);rwa[dW]at this
def MZ{α:Type}(enc:α->aC)(H:Hl)(a:ae)(xs:List α):Prop:=
 xs=[]\/∃b e sp,a=some ⟨b,0,none⟩/\(some b,ob enc e xs sp)∈H
theorem MZ.sl {enc:α->aC}     {xs:List α}(g:MZ enc h a xs)(s:St w0 S w h Y):Sl w a (xs.map enc):=by
 rcases g with rfl|⟨b,e,sp,rfl,hm⟩;exact Sl.nil _ _;exact Sl.jd (s.own _ hm b rfl).1
theorem MZ.at {enc:α->aC}  {xs:List α}{e:ax} (hq:q=none->xs.length=0)(hm:(q,ob enc e xs sp)∈H):MZ enc H (q.map aP) xs:=by
 cases q with
 |none=>exact .inl (aV (hq rfl))
 |some b=>exact .inr ⟨b,e,sp,rfl,hm⟩
structure Row where
  a:ae
  cap:Nat
  xs:List fi
def Row.v(r:Row):aC:=.slice r.a r.xs.length r.cap
structure Row.At (r:Row) (w:aB):Prop where
  at_:m6 w r.a r.xs
  len:r.xs.length<=maxLen
  cap:r.xs.length<=r.cap
structure MV where
  n:Int
  ra:ae
  rc:Nat
  rows:List Row
  va:ae
  vc:Nat
  val:List fi
abbrev MV.cs(m:MV):af:=#[aS m.n,.slice m.va m.val.length m.vc,.slice m.ra m.rows.length m.rc]
def MV.v(m:MV):aC:=.agg #[aS m.n,.slice m.va m.val.length m.vc,.slice m.ra m.rows.length m.rc]
def MV.rel(m:MV):List (List fi):=m.rows.map Row.xs
def CH(w:aB)(a:ae)(rs:List Row):Prop:=Sl w a (rs.map Row.v)
structure MV.At (m:MV) (w:aB):Prop where
  rel:CH w m.ra m.rows
  row:∀r∈m.rows,r.At w
  val:m6 w m.va m.val
  lr:m.rows.length<=maxLen
  lv:m.val.length<=maxLen
  cr:m.rows.length<=m.rc
  cv:m.val.length<=m.vc
theorem CH.fD  {xs:List Row}(h:CH w0 a xs) (e:Ex S w0 w)(hS:∀b o,a=some ⟨b,o,none⟩->b∉S:=by simp):CH w a xs:=Sl.ex h e hS
theorem Sl.at {enc:α->aC}  {xs:List α}(h:Sl w a (xs.map enc))(k:Nat)(hk:k<xs.length):w.cell? (tS a k)=some (enc xs[k]):=by
 rw[Sl.cell h k (by simpa using hk)];simp[hk]
theorem Ex.mu (e:Ex [] w w'){b:Nat}{o:Obj}(h:w.heap[b]?=some o):w'.heap[b]?=some o:=by
 rw[e.block b (aX.1 h).1 aL];exact h
theorem Ex.cell{w w':aB}(e:Ex [] w w'){b j:Nat}{cs:af}{t:ax}{fr:Nat×Nat}{v:aC}(h:w.heap[b]?=some (.cells cs t fr))(hv:cs[j]?=some v):w'.cell? ⟨b,j,none⟩=some v:=by
 rw[cell_of_row w' b j cs t fr (e.mu h),hv]
abbrev gu:Int->aC:=Value.int .i64
def oD(w:aB)(a:ae)(xs:ar):Prop:=Sl w a (xs.map gu)
theorem oD.fD  {xs:ar}(h:oD w0 a xs) (e:Ex S w0 w)(hS:∀b o,a=some ⟨b,o,none⟩->b∉S:=by simp):oD w a xs:=Sl.ex h e hS
theorem oD.at{w:aB}{a:ae}{xs:ar}(h:oD w a xs)(k:Nat)(hk:k<xs.length):w.cell? (tS a k)=some (aS xs[k]):=Sl.at h k hk
def pO{α:Type}(enc:α->aC)(e:ax)(w w':aB)(v:aC)(xs:List α):Prop:=
 ∃q cap sp,v=gx q xs.length cap/\(q=none->xs.length=0/\cap=0)/\(xs.map enc++sp).length=cap/\∀b,q=some b->w.heap.size<=b/\w'.heap[b]?=some (ob enc e xs sp)
theorem zo {enc:α->aC}{t:ax}    (s:St w0 S w h Y)(e:Ex [] w w'){v:aC}{xs:List α}(ho:pO enc t w w' v xs):
  ∃q cap sp,v=gx q xs.length cap/\(q=none->xs.length=0/\cap=0)/\(xs.map enc++sp).length=cap/\St w0 S w' ((q,ob enc t xs sp)::h) Y:=by
 obtain⟨q,cap,sp,h1,h2,h3,h4⟩:=ho;refine⟨q,cap,sp,h1,h2,h3,?_⟩;cases q with
 |none=>exact(s.later e).none _
 |some b=>exact s.DW e (h4 b rfl).2 rfl (h4 b rfl).1
theorem pO.mk {enc:α->aC}{t:ax}   (s:St w0 [] w h Y)(j:Nat) {xs:List α} {cap m:Nat}(hj:h[j]?=some (q,ob enc t xs sp))(hm:m=xs.length)
  (hq:q=none->xs.length=0/\cap=0)(fB:(xs.map enc++sp).length=cap):pO enc t w0 w (gx q m cap) xs:=by
 subst hm;refine⟨q,cap,sp,rfl,hq,fB,λb hb=>?_⟩;subst hb;exact⟨s.fresh hj,s.get hj⟩
theorem P9    (s:St w0 S w h Y)(j:Nat) {xs:ar}{e:ax} (hj:h[j]?=some (q,ob gu e xs sp))(hq:q=none->xs.length=0):oD w (q.map aP) xs:=by
 cases q with
 |none=>rw[aV (hq rfl)];exact Sl.nil _ _
 |some b=>exact Sl.jd (s.get hj)
theorem CH.at  {xs:List Row}(h:CH w a xs)(k:Nat)(hk:k<xs.length):w.cell? (tS a k)=some xs[k].v:=by
 rw[Sl.cell h k (by simpa using hk)];simp[hk]
theorem Row.At.fD{w0 w:aB}{r:Row}(h:r.At w0)(e:Ex [] w0 w):r.At w:=⟨h.at_.fD e,h.len,h.cap⟩
theorem MV.At.fD{w0 w:aB}{m:MV}(h:m.At w0)(e:Ex [] w0 w):m.At w:=⟨h.rel.fD e,λr hr=>(h.row r hr).fD e,h.val.fD e,h.lr,h.lv,h.cr,h.cv⟩
structure MV.In (m:MV) (H:Hl):Prop where
  rel:MZ Row.v H m.ra m.rows
  row:∀r∈m.rows,MZ U H r.a r.xs/\r.xs.length<=maxLen/\r.xs.length<=r.cap
  val:MZ U H m.va m.val
  lr:m.rows.length<=maxLen
  lv:m.val.length<=maxLen
  cr:m.rows.length<=m.rc
  cv:m.val.length<=m.vc
end
section
variable{r:List fi}{v:Nat}{s:fi}
def Jf(r:List fi)(s:fi)(n:Nat):fi:=kC (λw out=>if (r.getD w 0#64 &&& s !=0#64)=true then out|||1#64<<<w else out) 0#64 n
def Mx(r:List fi)(s:fi)(n:Nat):fi:=kC (λw out=>if (r.getD w 0#64 &&& ~~~s==0#64)=true then out|||1#64<<<w else out) 0#64 n
theorem AI{p:Nat->Bool}{n:Nat}(hn:n<=64):(kC (λw (out:fi)=>if p w=true then out|||1#64<<<w else out) 0#64 n).getLsbD v=true↔v<n/\p v=true:=by
 induction n with
 |zero=>rw[kC];simp
 |succ n ih=>
  rw[kC];by_cases h:p n=true;rw[if_pos h,du,dV,ih aH,Ap aH];constructor;rintro (⟨h1,h2⟩|rfl);exact⟨aH,h2⟩;exact⟨aH,h⟩;rintro ⟨h1,h2⟩;by_cases e:v=n;exact .inr e;exact .inl ⟨aH,h2⟩;rw[if_neg h,ih aH];constructor;rintro ⟨h1,h2⟩;exact⟨aH,h2⟩;rintro ⟨h1,h2⟩;refine⟨?_,h2⟩;rcases bR.1 h1 with h3|rfl;exact h3;exact absurd h2 h
theorem Mw   (hv:uk r):(Mx r s r.length).getLsbD v=true↔v<r.length/\∀u,Rl r v u->s.getLsbD u=true:=by
 rw[Mx,AI hv.len,eU,jg];rfl
theorem Dv :s≠0#64↔∃i,s.getLsbD i=true:=by
 constructor;intro h;exact⟨tz s,(BB h).2.1⟩;rintro ⟨i,hi⟩ rfl;simp at hi
theorem Ma   (hv:uk r):(Jf r s r.length).getLsbD v=true↔∃u,Rl r v u/\s.getLsbD u=true:=by
 rw[Jf,AI hv.len,bne_iff_ne,Dv];simp only[dc,dG];constructor;rintro ⟨_,u,h1,h2⟩;exact⟨u,h1,h2⟩;rintro ⟨u,h1,h2⟩;exact⟨h1.HC,u,h1,h2⟩
theorem L9  (hv:uk r):jZ r.length &&& ~~~ (Mx r (~~~s) r.length)=Jf r s r.length:=by
 refine px (λi hi=>?_);rw[dU,Ma hv,dc,kP hv.len hi,de,dG,dG,dE,dE,dw,<-dH,Mw hv];constructor;rintro ⟨h1,_,h2⟩;apply bj;intro hn;refine h2 ⟨h1,λu hu=>?_⟩;rw[de,eF (oJ hu),Bool.true_and,dw,<-dH];exact λh3=>hn ⟨u,hu,h3⟩;rintro ⟨u,h1,h2⟩;refine⟨h1.HC,hi,λh3=>?_⟩;have:=h3.2 u h1;rw[de,h2]at this;simp at this
end
end Go.Proofs.Wit
namespace Go.Proofs.Wit
def Rg(e:Bool)(w u:Nat):Nat:=if e=true then u else w
def Of(e:Bool)(w u:Nat):Nat:=if e=true then w else u
def Xg(e:Bool)(w u:Nat)(l:List fi):Prop:=Rl l w u->∀x,Rl l (Of e w u) x->Rl l (Rg e w u) x
def Wc(e:Bool)(l:List fi):Prop:=if e=true then D9 l else CY l
structure Pass (e:Bool) (r o0 out:List fi) (again:Bool) (k j:Nat):Prop where
  val:uk out
  le:Le r out
  min:∀c,uk c->Le r c->Wc e c->Le out c
  up:Le o0 out
  yes:again=true->o0≠out
  no:again=false->out=o0/\∀w u,(w<k\/(w=k/\u<j))->Xg e w u out
end Go.Proofs.Wit
namespace Go.Proofs.Wit
open Go Go.RowKit
def ry(n:Nat)(l:List fi):Bool:=l.any (λs=>s &&& ~~~ jZ n !=0#64)
def iY(n:Int)(val:List fi)(rel:List (List fi)):Int:=
 if n<1\/64<n then 2 else if 4<rel.length\/8<val.length then 8 else if rel.any (λr=>(r.length:Int) !=n)then 3 else if ry n.toNat val||rel.any (ry n.toNat)then 2 else 0
theorem rv{n:Nat}{l:List fi}:ry n l=false↔∀s∈l,s &&& ~~~ jZ n=0#64:=by
 simp[ry]
structure mK (n:Int) (val:List fi) (rel:List (List fi)):Prop where
  n1:1<=n
  IU:n<=64
  qE:rel.length<=4
  facts:val.length<=8
  len:∀r∈rel,(r.length:Int)=n
  qM:∀r∈rel,uk r
  out:ry n.toNat val=false
theorem lY{n:Int}{val:List fi}{rel:List (List fi)}:iY n val rel=0↔mK n val rel:=by
 unfold iY;constructor;intro h;split at h;cases h;split at h;cases h;split at h;cases h;split at h;cases h;rename_i h1 h2 h3 h4;simp only[dH,dz,bne_iff_ne,ne_eq,Decidable.not_not,Bool.or_eq_false_iff]at h3 h4;have hlen:∀r∈rel,(r.length:Int)=n:=λr hr=>h3 r hr;refine⟨aH,aH,aH,aH,hlen,λr hr=>?_,h4.1⟩;have e:=hlen r hr;have h5:=h4.2 r hr;have h5:ry n.toNat r=false:=by simpa using h5
 rw[rv]at h5;refine⟨aH,λu v hv=>?_⟩;have hd:=hv.HC;have h6:=jg.1 (h5 (r.getD u 0#64) (by simp[hd])) v hv;rw[kP aH (oJ h6)]at h6;have:=of_decide_eq_true h6;omega;intro h;rw[if_neg (by have:=h.n1;have:=h.IU;omega),if_neg (by have:=h.qE;have:=h.facts;omega),if_neg ?_,if_neg ?_];rw[dV,not_or];refine⟨by rw[h.out];simp,?_⟩;rw[dH,dz];intro r hr;rw[dH,rv];intro s hs;obtain⟨i,hi,rfl⟩:=cN.1 hs;have e:=h.len r hr;have hv:=h.qM r hr;refine jg.2 (λj hj=>?_);have h1:Rl r i j:=by unfold Rl;simpa[aY,hi]using hj
 rw[kP (by have:=h.IU;omega) (oJ hj)];have:=hv.lt _ _ h1;exact eF aH;rw[dH,dz];intro r hr;have:=h.len r hr;simpa using this
def mT(l:Int):ar:=if l=1 then [1]else if l=2 then [2]else if l=3 then [4]else if l=4 then [2,4]else if l=5 then [1,4,5]else if l=6 then [2,4,5]else []
def m9(l:Int):Int:=if 0<=l/\l<=6 then 0 else 1
theorem E7(l:Int):(mT l).length<=3:=by
 unfold mT
 repeat' split
 all_goals simp
noncomputable def Av(r:List fi)(l:Int):Bool:=(m9 l==0) && (kH r.length r==0) && (mT l).all (hasB r)
noncomputable def OT(n:Int)(val:List fi)(rel:List (List fi))(l:Int):Bool:=(m9 l==0) && (iY n val rel==0) && rel.all (λr=>Av r l)
theorem zY{α:Type}{xs:List α}{p:α->Bool}:(!xs.any (λx=>!p x))=xs.all p:=by rw[List.not_any_eq_all_not];simp
section
variable{c cs:ai}{x y:au}
section
variable{P:av}{r:ah}{f:ay}{R:aC->aB->Prop}{w0:aB}{S:aq}{Y:List (Nat×Obj)}{n:Nat}{k:al}{l:Fl}{h:Hl}
variable{ops:aj}{i d:Nat}{rest:aq}{ty:ax}{pos:aA}{aft:ak}{g:Option (Nat×Bool)}
theorem sW(b o q:Nat):(⟨b,o,none⟩:Addr).add q=⟨b,o+q,none⟩:=by
 unfold Addr.add;split;rename_i h0;subst h0;rfl;rfl
theorem CD(a:ae)(i q:Nat):(tS a i).add q=tS a (i+q):=by
 unfold tS;rw[sW,Nat.add_assoc]
theorem fh.k0{s:ax} {b o q:Nat}{fs:Array Field}{fd:Field}{sz:Nat}(ho:ops[i]?=some ⟨some d,.fieldAddr s x q,ty,pos,aft,g⟩)(hw:fE ops l g=true)
  (hx:fW l x=some (.pointer (some ⟨b,o,none⟩)))(hd:Nat.blt d n=true)(hu:P.underlying s=some (.struct fs))(hq:fs[q]?=some fd)(he:∀w,(sizeOf fd.type).run P w=.ok (sz+1) w)(o':Nat)(hO:o+fd.offset=o'):
  fh P w0 S n h ops i l d (.pointer (some ⟨b,o',none⟩)):=by
 subst hO;exact .of ho hw rfl rfl hd (λt w Ds _ hF hS=>⟨.value (.pointer (some ⟨b,o+fd.offset,none⟩)),by
  simp only[execOp,hF.fW hx,Instr.fieldAt,Sem.run_bind,run_underlying hu,Result.andThen_ok,hq,Instr.sureAddr,Sem.run_pure,fieldPlace,he];rw[if_neg aH];simp[sW],rfl⟩)
theorem fh.rJ{s:ax} {q:Nat}{cs:af}{fs:Array Field}{fd:Field}{v:aC}(ho:ops[i]?=some ⟨some d,.field s x q,ty,pos,aft,g⟩)(hw:fE ops l g=true)
  (hx:fW l x=some (.agg cs))(hd:Nat.blt d n=true)(hu:P.underlying s=some (.struct fs))(hq:fs[q]?=some fd)(ha:∀w,(isAgg fd.type).run P w=.ok false w)(hv:cs[fd.offset]?=some v):
  fh P w0 S n h ops i l d v:=
 .of ho hw rfl rfl hd (λt w Ds _ hF hS=>⟨.value v,by
  simp only[execOp,hF.fW hx,Instr.field,Sem.run_bind,run_underlying hu,Result.andThen_ok,hq,asAgg,Sem.run_pure,part,ha,hv];rfl,rfl⟩)
theorem w7{t:ax}{w:aB}{a:Addr} (ha:∀w,(isAgg t).run P w=.ok true w)(hz:∀w,(sizeOf t).run P w=.ok cs.length w)(hc:∀j v,cs[j]?=some v->w.cell? (a.add j)=some v):
  (Instr.loadAt t (.pointer (some a))).run P w=.ok (.agg cs.toArray) w:=by
 simp only[Instr.loadAt,Instr.sureAddr,loadVar,Sem.run_bind,Sem.run_pure,Result.andThen_ok,ha,hz,eY,run_loadCells_list w a cs hc]
theorem yv{t:ax} {p:Addr} (ho:ops[i]?=some ⟨some d,.load t x,ty,pos,aft,g⟩)(hw:fE ops l g=true)
  (hx:fW l x=some (.pointer (some p)))(hd:Nat.blt d n=true)(ha:∀w,(isAgg t).run P w=.ok true w)(hz:∀w,(sizeOf t).run P w=.ok cs.length w)(hc:∀w Y',St w0 S w h Y'->∀j v,cs[j]?=some v->w.cell? (p.add j)=some v):fh P w0 S n h ops i l d (.agg cs.toArray):=
 .of ho hw rfl rfl hd (λt w Ds _ hF hS=>⟨.value (.agg cs.toArray),by
  simp only[execOp,hF.fW hx,Sem.run_bind,w7 ha hz (hc w _ hS)];rfl,rfl⟩)
theorem fh.lE{t:ax} {p:Addr} (ha:∀w,(isAgg t).run P w=.ok true w)(hz:∀w,(sizeOf t).run P w=.ok cs.length w)(hc:∀w Y',St w0 S w h Y'->∀j v,cs[j]?=some v->w.cell? (p.add j)=some v)(ho:ops[i]?=some ⟨some d,.load t x,ty,pos,aft,g⟩:=by exact rfl)(hw:fE ops l g=true:=by exact rfl)(hx:fW l x=some (.pointer (some p)):=by exact rfl)(hd:Nat.blt d n=true:=by exact rfl):fh P w0 S n h ops i l d (.agg cs.toArray):=yv (ho:=ho) (hw:=hw) (hx:=hx) (hd:=hd) (ha:=ha) (hz:=hz) (hc:=hc)
theorem fh.Al{t:ax} {b:Nat}{cs:af}{e:ax}{fr:Nat×Nat}{m:Nat}(ho:ops[i]?=some ⟨some d,.load t x,ty,pos,aft,g⟩)(hw:fE ops l g=true)
  (hx:fW l x=some (aQ b))(hd:Nat.blt d n=true)(ha:∀w,(isAgg t).run P w=.ok true w)(j:Nat)(hj:h[j]?=some (some b,.cells cs e fr))(hz:∀w,(sizeOf t).run P w=.ok m w)(hm:cs.size=m):fh P w0 S n h ops i l d (.agg cs):=by
 subst hm;have:=yv (P:=P) (w0:=w0) (S:=S) (h:=h) (cs:=cs.toList) ho hw hx hd ha (λw=>by rw[hz];simp) (λw Y' hS q v hv=>by
  rw[sW,eP];simp[World.cell?,hS.get hj]at hv⊢;exact hv);rw[Array.toArray_toList]at this;exact this
theorem ff.qi{t:ax} {b:Nat}{cs:af}{e:ax}{v:aC}{m:Nat}(ho:ops[i]?=some ⟨none,.store t x y,ty,pos,aft,g⟩)(hw:fE ops l g=true)
  (hx:fW l x=some (aQ b))(hy:fW l y=some v)(hz:∀w,(sizeOf t).run P w=.ok m w)(j:Nat)(hj:h[j]?=some (some b,.cells cs e (0,0)))(hm:cs.size=m)(hv:v.cells.size=m)(h1:v.cells.toList.all Value.oneCell'=true)
  (hk:ff P r f R w0 S Y n (.inRegion ops rest::k) l (h.set j (some b,.cells v.cells e (0,0)))):ff P r f R w0 S Y n (.inRegion ops (i::rest)::k) l h:=
 .V0 ho hw rfl rfl (λt' w Ds _ hF hS=>by
  have hb:=hS.get hj;have hrun:=run_storeCells_at (P:=P) b 0 e v.cells.toList 0 cs w hb aN (λu hu=>dI.1 h1 u hu);have hrow:(cs.toList.take (0+0)++v.cells.toList++cs.toList.drop (0+0+v.cells.toList.length)).toArray=v.cells:=by
   rw[<-dF];simp;omega
  rw[hrow]at hrun;refine⟨w.setRow b v.cells,_,?_,hS.xw hj (o':=.cells v.cells e (0,0)) rfl rfl rfl rfl (by simp[World.setRow]) (setRow_heap w b _ _ e _ hb) (λq _ hq=>setRow_other w b q _ hq),hk⟩;simp only[execOp,hF.fW hx,hF.fW hy,Sem.run_bind,Instr.storeAt,Instr.sureAddr,storeVar,Sem.run_pure,Result.andThen_ok,hz,hv];simp only[ne_eq,not_true_eq_false,eW,hrun];rfl)
theorem ff.gl{t:ax} {b:Nat}{cs:af}{e:ax}{v:aC}{m:Nat}(hz:∀w,(sizeOf t).run P w=.ok m w)(j:Nat)(hk:ff P r f R w0 S Y n (.inRegion ops rest::k) l (h.set j (some b,.cells v.cells e (0,0))))(ho:ops[i]?=some ⟨none,.store t x y,ty,pos,aft,g⟩:=by exact rfl)(hw:fE ops l g=true:=by exact rfl)(hx:fW l x=some (aQ b):=by exact rfl)(hy:fW l y=some v:=by exact rfl)(hj:h[j]?=some (some b,.cells cs e (0,0)):=by exact rfl)(hm:cs.size=m:=by exact rfl)(hv:v.cells.size=m:=by exact rfl)(h1:v.cells.toList.all Value.oneCell'=true:=by exact rfl):ff P r f R w0 S Y n (.inRegion ops (i::rest)::k) l h:=ff.qi (ho:=ho) (hw:=hw) (hx:=hx) (hy:=hy) (hz:=hz) (j:=j) (hj:=hj) (hm:=hm) (hv:=hv) (h1:=h1) (hk:=hk)
def setAt(cells:ai)(off:Nat)(vs:ai):ai:=cells.take off++vs++cells.drop (off+vs.length)
def uf(place:Nat->Option (Nat×Nat))(cells:ai):List (Nat×aC)->Option ai
 |[]=>some cells
 |(i,v)::rest=>match place i with
  |none=>none
  |some (off,size)=>match Nat.beq v.cells.toList.length size && Nat.ble (off+size) cells.length with
   |true=>uf place (setAt cells off v.cells.toList) rest
   |false=>none
theorem Bi:∀(vs:ai) (cs:ai) (off j:Nat),off+j+vs.length<=cs.length->
  (vs.zipIdx j).foldl (λ(cs:af) (c:aC×Nat)=>cs.setIfInBounds (off+c.2) c.1) cs.toArray=(setAt cs (off+j) vs).toArray
 |[],cs,off,j,_=>by simp[setAt]
 |v::vs,cs,off,j,hl=>by
  simp only[dM]at hl;rw[List.zipIdx_cons,dX];have h1:cs.toArray.setIfInBounds (off+j) v=(cs.set (off+j) v).toArray:=by simp
  rw[h1,Bi vs (cs.set (off+j) v) off (j+1) aN]
  congr 1
  have hlt:off+j<cs.length:=aH;have hset:cs.set (off+j) v=cs.take (off+j)++v::cs.drop (off+j+1):=by
   rw[List.set_eq_take_append_cons_drop,if_pos hlt]
  have hlen:(cs.take (off+j)).length=off+j:=by simp;omega
  have t1:(cs.set (off+j) v).take (off+(j+1))=cs.take (off+j)++[v]:=by
   rw[hset,List.take_append,bZ aH,hlen,show off+(j+1) - (off+j)=1 from aH];simp
  have t2:(cs.set (off+j) v).drop (off+(j+1)+vs.length)=cs.drop (off+j+(vs.length+1)):=by
   rw[hset,List.drop_append,List.drop_eq_nil_of_le aH,hlen,show off+(j+1)+vs.length - (off+j)=vs.length+1 from aH];simp[Nat.add_assoc,Nat.add_comm 1]
  unfold setAt;rw[t1,t2];simp
theorem fill_eq{place:Nat->Option (Nat×Nat)}:∀{ps:List (Nat×aC)} {cells c:ai},uf place cells ps=some c->Instr.fill place cells.toArray ps=some c.toArray
 |[],cells,c,e=>by cases e;rfl
 |(i,v)::rest,cells,c,e=>by
  unfold uf at e;unfold Instr.fill;split at e;cases e;rename_i off size hp;rw[hp];split at e;rename_i hb;rw[dG,Nat.beq_eq,Nat.ble_eq]at hb;obtain⟨h1,h2⟩:=hb;rw[Array.length_toList]at h1;simp only;rw[if_neg aN];have h3:=Bi v.cells.toList cells off 0 aN;rw[Nat.add_zero]at h3;have h4:v.cells.zipIdx.foldl (λcs (x:aC×Nat)=>cs.setIfInBounds (off+x.2) x.1) cells.toArray=(setAt cells off v.cells.toList).toArray:=by
   rw[<-h3,<-Array.foldl_toList];simp
  rw[h4];exact fill_eq e;cases e
def QD(P:av):List Field->aq->Prop
 |[],[]=>True
 |f::fs,s::ss=>(∀w,(sizeOf f.type).run P w=.ok s w)/\QD P fs ss
 |_,_=>False
theorem QD.nil:QD P [] []:=eZ
theorem QD.cons{f:Field}{fs:List Field}{s:Nat}{ss:aq}(h:∀w,(sizeOf f.type).run P w=.ok s w)(hs:QD P fs ss):QD P (f::fs) (s::ss):=⟨h,hs⟩
theorem Gu:∀{fs:List Field} {ss:aq},QD P fs ss->∀w,(fs.mapM (m:=Sem) λf=>do pure (f.offset,<-sizeOf f.type)).run P w=.ok ((fs.zip ss).map λx=>(x.1.offset,x.2)) w
 |[],[],_,w=>rfl
 |f::fs,s::ss,hs,w=>by
  rw[List.mapM_cons];simp only[Sem.run_bind,Sem.run_pure,Result.andThen_ok,hs.1,Gu hs.2];rfl
 |[],_::_,hs,_=>hs.elim
 |_::_,[],hs,_=>hs.elim
def Vq(P:av)(t:ax)(ps:List (Nat×aC))(v:aC):Prop:=∀w,(Instr.build t ps.toArray).run P w=.ok v w
theorem Px{t:ax}{fs:Array Field}{ss:aq}{z:aC}{ps:List (Nat×aC)}{c:ai}(hu:P.underlying t=some (.struct fs))(hs:QD P fs.toList ss)(hz:∀w,(zeroValue t).run P w=.ok z w)
  (hf:uf (λi=>((fs.toList.zip ss)[i]?).map λx=>(x.1.offset,x.2)) z.cells.toList ps=some c):Vq P t ps (.agg c.toArray):=by
 intro w;have h1:=fill_eq hf;rw[Array.toArray_toList]at h1;simp only[Instr.build,Sem.run_bind,hz,Result.andThen_ok,run_underlying hu];rw[Array.mapM_eq_mapM_toList];simp only[Sem.run_map,Gu hs];have h2:(λ(i:Nat)=>(List.map (λx=>(x.1.offset,x.2)) (fs.toList.zip ss)).toArray[i]?)=λi=>((fs.toList.zip ss)[i]?).map λx=>(x.1.offset,x.2):=by
  funext i;simp
 show((match Instr.fill (λ(i:Nat)=>(List.map (λx=>(x.1.offset,x.2)) (fs.toList.zip ss)).toArray[i]?) z.cells ps with
  |some cells=>pure (.agg cells)
  | _ => stuck "build: no such field, or a part of the wrong size" : Sem Value)).run P w = _;rw [h2,h1];rfl
def qm(l:Fl):List (Nat×au)->Option (List (Nat×aC))
 |[]=>some []
 |(q,x)::xs=>match Wit.fW l x,qm l xs with
  |some v,some vs=>some ((q,v)::vs)
  |_,_=>none
theorem pJ.parts{t:af}(hF:pJ n t l)(ds:List Deferred):∀{xs:List (Nat×au)} {vs:List (Nat×aC)},qm l xs=some vs->xs.map (λx=>(x.1,Act.eval ⟨t,ds⟩ x.2))=vs
 |[],vs,e=>by cases e;rfl
 |(q,x)::xs,vs,e=>by
  simp only[qm]at e;split at e;rename_i v us hx hxs;cases e;rw[eG,hF.fW hx,hF.parts ds hxs];cases e
theorem fh.Px{t:ax}{az:Array (Nat×au)}{ps:List (Nat×aC)}{v:aC}(ho:ops[i]?=some ⟨some d,.build t az,ty,pos,aft,g⟩)(hw:fE ops l g=true)(hx:qm l az.toList=some ps)(hd:Nat.blt d n=true)(hb:Vq P t ps v):
  fh P w0 S n h ops i l d v:=
 .of ho hw rfl rfl hd (λt w Ds _ hF hS=>⟨.value v,by
  have e1:az.map (λ(x:Nat×au)=>(x.1,Act.eval ⟨t,Ds.map mark⟩ x.2))=ps.toArray:=by rw[<-dF];simp[hF.parts (Ds.map mark) hx]
  have:=hb w;rw[<-e1]at this;simp only[execOp,Sem.run_bind];refine(eV (λx=>Result.andThen x _) this).trans ?_;rfl,rfl⟩)
theorem fh.gX{t:ax}{az:Array (Nat×au)}{ps:List (Nat×aC)}{v:aC}(hb:Vq P t ps v)(ho:ops[i]?=some ⟨some d,.build t az,ty,pos,aft,g⟩:=by exact rfl)(hw:fE ops l g=true:=by exact rfl)(hx:qm l az.toList=some ps:=by exact rfl)(hd:Nat.blt d n=true:=by exact rfl):fh P w0 S n h ops i l d v:=fh.Px (ho:=ho) (hw:=hw) (hx:=hx) (hd:=hd) (hb:=hb)
theorem HO{t e:ax}{len:Nat}{az:Array (Nat×au)}{ps:List (Nat×aC)}{z:aC}{size:Nat} {t':af}(hF:pJ n t' l)(hx:qm l az.toList=some ps)
  (hu:P.underlying t=some (.slice e))(hs:∀w,(sizeOf e).run P w=.ok size w)(hz:∀w,(zeroValue e).run P w=.ok z w)(hm:Nat.ble (len*size) 16777216=true)
  (hf:uf (λi=>some (i*size,size)) ((List.range (len*size)).map λi=>z.cells.toList.getD (i%z.cells.toList.length) default) ps=some c)(Ds:aq)(w:aB):
  (execOp (Act.eval ⟨t',Ds.map mark⟩) ⟨some d,.buildSlice t len az,ty,pos,aft,g⟩).run P w=.ok (.value (.slice (aR w.heap.size) len len)) (w.alloc (.cells (c++[]).toArray e)):=by
 have e1:az.map (λ(x:Nat×au)=>(x.1,Act.eval ⟨t',Ds.map mark⟩ x.2))=ps.toArray:=by rw[<-dF];simp[hF.parts (Ds.map mark) hx]
 have h1:=fill_eq hf;have h2:(Array.range (len*size)).map (λi=>(if len*size=0 then #[]else z.cells)[i%(if len*size=0 then #[]else z.cells).size]!)=((List.range (len*size)).map λi=>z.cells.toList.getD (i%z.cells.toList.length) default).toArray:=by
  by_cases h0:len*size=0;rw[h0];simp;rw[if_neg h0,<-dF];simp;intro a _;rw[getElem!_def];cases z.cells[a%z.cells.size]?<;>rfl
 rw[<-h2]at h1;have hrun:(Instr.buildSlice t len ps.toArray).run P w=.ok (.slice (aR w.heap.size) len len) (w.alloc (.cells (c++[]).toArray e)):=by
  have hm':¬len*size>2^24:=by have:=Nat.le_of_ble_eq_true hm;omega
  by_cases h0:len*size=0;simp only[if_pos h0]at h1;simp only[Instr.buildSlice,Sem.run_bind,run_underlying hu,Result.andThen_ok,hs,if_neg hm',if_pos h0,Sem.run_pure];rw[h1];simp[newRow];simp only[if_neg h0]at h1;simp only[Instr.buildSlice,Sem.run_bind,run_underlying hu,Result.andThen_ok,hs,if_neg hm',if_neg h0,Sem.run_pure,hz];rw[h1];simp[newRow]
 rw[<-e1]at hrun;simp only[execOp,Sem.run_bind];refine(eV (λx=>Result.andThen x _) hrun).trans ?_;rfl
theorem ff.An{t e:ax}{len:Nat}{az:Array (Nat×au)}{ps:List (Nat×aC)}{z:aC}{size:Nat} (ho:ops[i]?=some ⟨some d,.buildSlice t len az,ty,pos,aft,g⟩)(hw:fE ops l g=true)(hx:qm l az.toList=some ps)(hd:Nat.blt d n=true)
  (hu:P.underlying t=some (.slice e))(hs:∀w,(sizeOf e).run P w=.ok size w)(hz:∀w,(zeroValue e).run P w=.ok z w)(hm:Nat.ble (len*size) 16777216=true)
  (hf:uf (λi=>some (i*size,size)) ((List.range (len*size)).map λi=>z.cells.toList.getD (i%z.cells.toList.length) default) ps=some c)
  (hk:∀b,ff P r f R w0 S Y n (.inRegion ops rest::k) ((d,.slice (aR b) len len)::l) ((some b,.cells (c++[]).toArray e)::h)):ff P r f R w0 S Y n (.inRegion ops (i::rest)::k) l h:=
 .mem ho hw rfl rfl hd (λ_ w Ds _ hF hS=>⟨.slice (aR w.heap.size) len len,w.alloc (.cells (c++[]).toArray e),_,HO hF hx hu hs hz hm hf Ds w,hS.alloc rfl,hk _⟩)
theorem ff.gG{t e:ax}{len:Nat}{az:Array (Nat×au)}{ps:List (Nat×aC)}{z:aC}{size:Nat} (hu:P.underlying t=some (.slice e))(hs:∀w,(sizeOf e).run P w=.ok size w)(hz:∀w,(zeroValue e).run P w=.ok z w)(hk:∀b,ff P r f R w0 S Y n (.inRegion ops rest::k) ((d,.slice (aR b) len len)::l) ((some b,.cells (c++[]).toArray e)::h))(ho:ops[i]?=some ⟨some d,.buildSlice t len az,ty,pos,aft,g⟩:=by exact rfl)(hw:fE ops l g=true:=by exact rfl)(hx:qm l az.toList=some ps:=by exact rfl)(hd:Nat.blt d n=true:=by exact rfl)(hm:Nat.ble (len*size) 16777216=true:=by exact rfl)(hf:uf (λi=>some (i*size,size)) ((List.range (len*size)).map λi=>z.cells.toList.getD (i%z.cells.toList.length) default) ps=some c:=by exact rfl):ff P r f R w0 S Y n (.inRegion ops (i::rest)::k) l h:=ff.An (ho:=ho) (hw:=hw) (hx:=hx) (hd:=hd) (hu:=hu) (hs:=hs) (hz:=hz) (hm:=hm) (hf:=hf) (hk:=hk)
theorem Ab{t e:ax} {a:ae}{m cap hi:Nat}{kd:aw}{j:Int}{sz:Nat}(ho:ops[i]?=some ⟨some d,.slice t x none (some y) none,ty,pos,aft,g⟩)(hw:fE ops l g=true)
  (hx:fW l x=some (.slice a m cap))(hy:fW l y=some (.int kd j))(hd:Nat.blt d n=true)(hu:P.underlying t=some (.slice e))(he:∀w,(sizeOf e).run P w=.ok sz w)(hj:j=hi)(hc:hi<=cap):
  fh P w0 S n h ops i l d (.slice a hi cap):=
 .of ho hw rfl rfl hd (λt w Ds _ hF hS=>⟨.value (.slice a hi cap),by
  subst hj;simp only[execOp,hF.fW hx,hF.fW hy,ez,Option.map_none,Instr.sliceAt,Sem.run_bind,run_underlying hu,Result.andThen_ok,Instr.slice,Instr.sliceBounds,Instr.sliceBound,asIntOf,Sem.run_pure];rw[if_pos ⟨aH,aH⟩];simp only[Sem.run_pure,Result.andThen_ok,he,dy];cases a<;>simp[Addr.add_zero'],rfl⟩)
theorem ff.UX{az:aa}{ts:ab}{cal:au}{gf:ay}{fs vs:ai}(Rc:aB->aC->aB->Prop)(ho:ops[i]?=some ⟨some d,.call ⟨.value cal,az,ts⟩,ty,pos,aft,g⟩)(hw:fE ops l g=true)
  (hc:fW l cal=some (.func (.func gf) fs.toArray cs.toArray))(hx:iW l az.toList=some vs)(hd:Nat.blt d n=true)(hcf:∀args w,(callFunc gf args).run P w=.ok (.enter gf args) w)
  (hcall:∀w Y',St w0 S w h Y'->Cn P gf (fs++vs++cs) w (Rc w))
  (hk:∀v w w' Y',St w0 S w h Y'->Ex [] w w'->Rc w v w'->∃h',St w0 S w' h' Y'/\ff P r f R w0 S Y n (.inRegion ops rest::k) ((d,v)::l) h'):ff P r f R w0 S Y n (.inRegion ops (i::rest)::k) l h:=
 .HN ho hw hc hx hd hcf (λw Ds hS=>⟨λu w'=>Ex [] w w'/\Rc w u w',by
  have:=hcall w Ds hS;unfold Cn at this;simpa using this,λu w' ⟨he,hu⟩=>hk u w w' Ds hS he hu⟩)
theorem ff.wN{az:aa}{ts:ab}{cal:au}{gf:ay}{fs vs:ai}{v:aC}(ho:ops[i]?=some ⟨some d,.call ⟨.value cal,az,ts⟩,ty,pos,aft,g⟩)(hw:fE ops l g=true)
  (hc:fW l cal=some (.func (.func gf) fs.toArray cs.toArray))(hx:iW l az.toList=some vs)(hd:Nat.blt d n=true)(hcf:∀args w,(callFunc gf args).run P w=.ok (.enter gf args) w)
  (hcall:∀w Y',St w0 S w h Y'->Cn P gf (fs++vs++cs) w (λu _=>u=v))
  (hk:ff P r f R w0 S Y n (.inRegion ops rest::k) ((d,v)::l) h):ff P r f R w0 S Y n (.inRegion ops (i::rest)::k) l h:=
 .UX (λ_ u _=>u=v) ho hw hc hx hd hcf hcall (λ_ _ _ _ hS he e=>⟨h,hS.later he,e ▸ hk⟩)
end
def fP(P:av)(l:Fl)(h:Hl):List ResultVar->ai->Prop
 |[],[]=>True
 |.tmp t::rs,v::vs=>look l t=some v/\fP P l h rs vs
 |.cell a ty::rs,v::vs=>(∃b,look l a=some (aQ b)/\∃(j:Nat) (cs:af) (e:ax) (fr:Nat×Nat),h[j]?=some (some b,Obj.cells cs e fr)/\
  ((∀w,(isAgg ty).run P w=.ok true w)/\(∀w,(sizeOf ty).run P w=.ok cs.size w)/\v=.agg cs\/(∀w,(isAgg ty).run P w=.ok false w)/\cs[0]?=some v))/\fP P l h rs vs
 |_,_=>False
section
variable{P:av}{f:ay}{R:aC->aB->Prop}{w0:aB}{S:aq}{Y:List (Nat×Obj)}{n:Nat}{k:al}{l:Fl}{h:Hl}{fn:Func}
theorem fP.nil:fP P l h [] []:=eZ
theorem fP.tmp{t:Tmp}{v:aC}{rs:List ResultVar}{vs:ai}(hv:look l t=some v)(hr:fP P l h rs vs):fP P l h (.tmp t::rs) (v::vs):=⟨hv,hr⟩
theorem fP.cell{a:Tmp}{ty:ax}{b m j:Nat}{cs:af}{e:ax}{fr:Nat×Nat}{rs:List ResultVar}{vs:ai}(ha:look l a=some (aQ b))(h1:∀w,(isAgg ty).run P w=.ok true w)(h2:∀w,(sizeOf ty).run P w=.ok m w)(hj:h[j]?=some (some b,Obj.cells cs e fr))(hm:cs.size=m)(hr:fP P l h rs vs):fP P l h (.cell a ty::rs) (.agg cs::vs):=
 ⟨⟨b,ha,j,cs,e,fr,hj,.inl ⟨h1,λw=>by rw[h2,hm],rfl⟩⟩,hr⟩
theorem wz{w:aB}{t:af}(hF:pJ n t l)(hS:St w0 S w h Y):∀{rs:List ResultVar} {vs:ai},fP P l h rs vs->
  (rs.mapM (m:=Sem) λ|.tmp t'=>pure (t.getD t' undef)|.cell a ty=>do loadVar ty (<-asAddr (t.getD a undef))).run P w=.ok vs w
 |[],[],_=>rfl
 |.tmp q::rs,v::vs,⟨hv,hr⟩=>by
  rw[List.mapM_cons];simp only[Sem.run_bind,Sem.run_pure,Result.andThen_ok,wz hF hS hr,hF.2 _ _ hv]
 |.cell a ty::rs,v::vs,⟨⟨b,ha,j,cs,e,fr,hj,hv⟩,hr⟩=>by
  rw[List.mapM_cons];have hl2:(loadVar ty ⟨b,0,none⟩).run P w=.ok v w:=by
   rcases hv with⟨hag,hsz,rfl⟩|⟨hag,hv⟩;have hl:=w7 (P:=P) (w:=w) (a:=⟨b,0,none⟩) (cs:=cs.toList) hag (λw=>by rw[hsz];simp) (λq v hv=>by
    rw[sW,eP];simp[World.cell?,hS.get hj]at hv⊢;exact hv);rw[Array.toArray_toList]at hl;simpa only[Instr.loadAt,Instr.sureAddr,Sem.run_bind,Sem.run_pure,Result.andThen_ok]using hl;have hc:=cell_of_row w b 0 cs e fr (hS.get hj);rw[hv]at hc;simp[loadVar,hag,hc]
  have hA:(asAddr (t.getD a undef)).run P w=.ok ⟨b,0,none⟩ w:=by rw[hF.2 _ _ ha];rfl
  simp only[Sem.run_bind,Sem.run_pure,Result.andThen_ok,hA,hl2,wz hF hS hr]
 |[],_::_,hr=>hr.elim
 |.tmp _::_,[],hr=>hr.elim
 |.cell _ _::_,[],hr=>hr.elim
theorem ff.kD(fn:Func)(hf:P.funcs[f]?=some fn)(vs:ai)(hres:fP P l h fn.results.toList vs)(hR:∀w,St w0 S w h Y->R (nV vs) w):ff P none f R w0 S Y n (.code .ret::k) l h:=λt w Ds hF hS=>by
 refine tH hf hS (λcs=>by rw[iH];exact stepR_ret rfl) ?_ (hR _ hS.shut);unfold results;rw[Array.mapM_eq_mapM_toList];have hm:=wz (P:=P) hF hS.shut hres;simp only[Sem.run_bind,Sem.run_map,Sem.run_pure];refine(eV (λx=>(x.andThen λa w'=>Result.ok a.toArray w').andThen λa w'=>Result.ok (if h:a.size=1 then a[0]else Value.tuple a) w') hm).trans ?_;simp only[Result.andThen_ok];cases vs with
 |nil=>rfl
 |cons v us=>cases us with
  |nil=>rfl
  |cons u us=>simp[nV]
end
end
section
variable{a:ae}{x:au}
def Hp{α:Type}(f:Nat->Option α):Nat->Option α
 |0=>none
 |k+1=>match Hp f k with
  |some x=>some x
  |none=>f k
theorem zv{α:Type}{enc:α->ai}{sz:Nat}(hsz:∀x,(enc x).length=sz):∀{xs:List α} {j i:Nat} (hj:j<xs.length),i<sz->(xs.flatMap enc)[j*sz+i]?=(enc xs[j])[i]?
 |[],j,i,hj,_=>by simp at hj
 |x::xs,0,i,_,hi=>by
  rw[List.flatMap_cons,Nat.zero_mul,eP,bu (by rw[hsz];exact hi)];rfl
 |x::xs,j+1,i,hj,hi=>by
  rw[List.flatMap_cons,aZ (by rw[hsz,Nat.add_mul];omega),hsz];rw[show(j+1)*sz+i - sz=j*sz+i from by rw[Nat.add_mul];omega];exact zv hsz (by simpa using hj) hi
theorem qS{α:Type}{enc:α->ai}{sz:Nat}(hsz:∀x,(enc x).length=sz):∀{xs:List α},(xs.flatMap enc).length=xs.length*sz
 |[]=>by simp
 |x::xs=>by rw[List.flatMap_cons,di,hsz,qS hsz,dM,Nat.add_mul];omega
section
variable{P:av}{r:ah}{f:ay}{R:aC->aB->Prop}{w0:aB}{S:aq}{Y:List (Nat×Obj)}{n:Nat}{k:al}{l:Fl}{h:Hl}
variable{ops:aj}{i d:Nat}{rest:aq}{ty:ax}{pos:aA}{aft:ak}{g:Option (Nat×Bool)}
theorem l6{t e:ax}{y:au} {m cap sz:Nat}{kd:aw}{j:Int}{xs:ai}(ho:ops[i]?=some ⟨some d,.indexAddr t x y,ty,pos,aft,g⟩)(hw:fE ops l g=true)
  (hx:fW l x=some (.slice a m cap))(hy:fW l y=some (.int kd j))(hd:Nat.blt d n=true)(hu:P.underlying t=some (.slice e))(he:∀w,(sizeOf e).run P w=.ok sz w)
  (hs:∃w,Sl w a xs)(hm:xs.length=m*sz)(hsz:0<sz)(j':Nat)(hj:j=j'/\j'<m):fh P w0 S n h ops i l d (.pointer (some (tS a (j'*sz)))):=by
 obtain⟨w1,hs⟩:=hs;obtain⟨rfl,hj⟩:=hj;have h0:0<xs.length:=by rw[hm];exact Nat.mul_pos aH hsz
 obtain⟨b,o,rfl,_⟩:=hs.isSome h0;exact .of ho hw rfl rfl hd (λt' w Ds _ hF hS=>⟨.value (.pointer (some ⟨b,o+j'*sz,none⟩)),by
  simp only[execOp,hF.fW hx,hF.fW hy,Sem.run_bind,DP hu he b o m cap kd j' hj w];rfl,rfl⟩)
theorem fh.iT{t e:ax}{y:au} {m cap sz:Nat}{kd:aw}{j:Int}{xs:ai}(hu:P.underlying t=some (.slice e))(he:∀w,(sizeOf e).run P w=.ok sz w)(hs:∃w,Sl w a xs)(hm:xs.length=m*sz)(hsz:0<sz)(j':Nat)(hj:j=j'/\j'<m)(ho:ops[i]?=some ⟨some d,.indexAddr t x y,ty,pos,aft,g⟩:=by exact rfl)(hw:fE ops l g=true:=by exact rfl)(hx:fW l x=some (.slice a m cap):=by exact rfl)(hy:fW l y=some (.int kd j):=by exact rfl)(hd:Nat.blt d n=true:=by exact rfl):fh P w0 S n h ops i l d (.pointer (some (tS a (j'*sz)))):=l6 (ho:=ho) (hw:=hw) (hx:=hx) (hy:=hy) (hd:=hd) (hu:=hu) (he:=he) (hs:=hs) (hm:=hm) (hsz:=hsz) (j':=j') (hj:=hj)
theorem Sl.many{α:Type}{enc:α->ai}{sz:Nat}{w:aB} {xs:List α}(hs:Sl w a (xs.flatMap enc))(hsz:∀x,(enc x).length=sz){j:Nat}(hj:j<xs.length):∀q v,(enc xs[j])[q]?=some v->w.cell? ((tS a (j*sz)).add q)=some v:=by
 intro q v hv;have hq:q<sz:=by have:=(bB.1 hv).1;rwa[hsz]at this
 have h1:=zv hsz hj hq;rw[hv]at h1;obtain⟨h2,h3⟩:=bB.1 h1;rw[CD,hs.cell _ h2,aY,h1];rfl
theorem Sl.rJ{α:Type}{enc:α->ai}{sz:Nat}{w:aB} {xs:List α}(hs:Sl w a (xs.flatMap enc))(hsz:∀x,(enc x).length=sz){j:Nat}(hj:j<xs.length){q:Nat}{v:aC}(hv:(enc xs[j])[q]?=some v):w.cell? (tS a (j*sz+q))=some v:=by
 have:=Sl.many hs hsz hj q v hv;rwa[CD]at this
theorem fh.zu{s:ax}  {o q:Nat}{fs:Array Field}{fd:Field}{sz:Nat}(ho:ops[i]?=some ⟨some d,.fieldAddr s x q,ty,pos,aft,g⟩)(hw:fE ops l g=true)
  (hx:fW l x=some (.pointer (some (tS a o))))(hd:Nat.blt d n=true)(hu:P.underlying s=some (.struct fs))(hq:fs[q]?=some fd)(he:∀w,(sizeOf fd.type).run P w=.ok (sz+1) w)(o':Nat)(hO:o+fd.offset=o'):
  fh P w0 S n h ops i l d (.pointer (some (tS a o'))):=by
 subst hO;exact .of ho hw rfl rfl hd (λt w Ds _ hF hS=>⟨.value (.pointer (some (tS a (o+fd.offset)))),by
  simp only[execOp,hF.fW hx,Instr.fieldAt,Sem.run_bind,run_underlying hu,Result.andThen_ok,hq,Instr.sureAddr,Sem.run_pure,fieldPlace,he];rw[if_neg aH];simp[CD],rfl⟩)
theorem fh.ow{s:ax}  {o q:Nat}{fs:Array Field}{fd:Field}{sz:Nat}(hu:P.underlying s=some (.struct fs))(he:∀w,(sizeOf fd.type).run P w=.ok (sz+1) w)(o':Nat)(ho:ops[i]?=some ⟨some d,.fieldAddr s x q,ty,pos,aft,g⟩:=by exact rfl)(hw:fE ops l g=true:=by exact rfl)(hx:fW l x=some (.pointer (some (tS a o))):=by exact rfl)(hd:Nat.blt d n=true:=by exact rfl)(hq:fs[q]?=some fd:=by exact rfl)(hO:o+fd.offset=o':=by exact rfl):fh P w0 S n h ops i l d (.pointer (some (tS a o'))):=fh.zu (ho:=ho) (hw:=hw) (hx:=hx) (hd:=hd) (hu:=hu) (hq:=hq) (he:=he) (o':=o') (hO:=hO)
end
end
structure DV where
  MM:Int
  prop:Int
  a:ae
  cap:Nat
  ws:ar
def DV.cells(d:DV):ai:=[aS d.MM,aS d.prop,.slice d.a d.ws.length d.cap]
def DV.plain(d:DV):Int×Int×ar:=(d.MM,d.prop,d.ws)
structure DV.At (d:DV) (w:aB):Prop where
  at_:oD w d.a d.ws
  len:d.ws.length<=maxLen
structure Wu (w:aB) (a:ae) (ds:List DV):Prop where
  at_:Sl w a (ds.flatMap DV.cells)
  len:ds.length<=maxLen
  each:∀d∈ds,d.At w
structure Wt (H:Hl) (a:ae) (ds:List DV):Prop where
  at_:ds=[]\/∃b e sp,a=some ⟨b,0,none⟩/\(some b,Obj.cells (ds.flatMap DV.cells++sp).toArray e (0,0))∈H
  len:ds.length<=maxLen
  each:∀d∈ds,MZ gu H d.a d.ws/\d.ws.length<=maxLen
end Go.Proofs.Wit
