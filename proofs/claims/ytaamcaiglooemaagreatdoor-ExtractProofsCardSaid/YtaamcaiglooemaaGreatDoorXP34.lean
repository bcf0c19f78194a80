/- Laws of walks, each under its own conditions. -/
import Derived.Test.YtaamcaiglooemaaGreatDoorXP03
set_option maxRecDepth 100000
set_option maxHeartbeats 40000000
namespace Go.Proofs.Wit
open Go Go.RowKit
section
variable{P:av}{r:ah}{f:ay}{R:aC->aB->Prop}{w0:aB}{S:aq}{Y:List (Nat×Obj)}{n:Nat}{k:al}{l:Fl}{h hb hb2:Hl}{ops:aj}{c q:Nat}{D:aq}
theorem gV.EU{i:Nat}{ty:ax}{pos:aA}{aft:ak}{g:Option (Nat×Bool)}{t:ax}{x y:au}{b:Nat}{cs:af}{e:ax}{v:aC}{m:Nat}(h1:fw ops D=[i])(ho:ops[i]?=some ⟨none,.store t x y,ty,pos,aft,g⟩)(hw:fg ops l g=true)
  (hx:fW l x=some (aQ b))(hy:fW l y=some v)(hz:∀w,(sizeOf t).run P w=.ok m w)(j:Nat)(hj:h[j]?=some (some b,.cells cs e (0,0)))(hm:cs.size=m)(hv:v.cells.size=m)(h2:v.cells.toList.all Value.oneCell'=true)
  (hs:(cur c hb hb2 (i::D)).Sublist (h.set j (some b,.cells v.cells e (0,0))))
  (hk:gV P r f R w0 S Y n k ops c hb hb2 q (i::D) l (h.set j (some b,.cells v.cells e (0,0)))):gV P r f R w0 S Y n k ops c hb hb2 (q+1) D l h:=by
 intro t' hF;rw[Dq];refine .inr ⟨by rw[h1];simp,λi' hi=>?_⟩;rw[h1]at hi;obtain rfl:=de.1 hi;refine .inr ⟨_,ho,rfl,rfl,rfl,kH hF hw,λw Ds Y' hS=>?_⟩;have hbk:=hS.get hj;have hrun:=run_storeCells_at (P:=P) b 0 e v.cells.toList 0 cs w hbk aN (λu hu=>dy.1 h2 u hu);have hrow:(cs.toList.take (0+0)++v.cells.toList++cs.toList.drop (0+0+v.cells.toList.length)).toArray=v.cells:=by
  rw[<-dw];simp;omega
 rw[hrow]at hrun;refine⟨w.setRow b v.cells,_,?_,hS.vq hj (o':=.cells v.cells e (0,0)) rfl rfl rfl rfl (by simp[World.setRow]) (setRow_heap w b _ _ e _ hbk) (λq _ hq=>setRow_other w b q _ hq),hs,hk t' hF⟩;simp only[execOp,hF.fW hx,hF.fW hy,Sem.run_bind,Instr.storeAt,Instr.sureAddr,storeVar,Sem.run_pure,Result.andThen_ok,hz,hv];simp only[ne_eq,not_true_eq_false,eL,hrun];rfl
end
section
variable{P:av}{r:ah}{f:ay}{R:aC->aB->Prop}{w0:aB}{S:aq}{Y:List (Nat×Obj)}{n:Nat}{k:al}{l:Fl}{h:Hl}{ops:aj}{c:Nat}{hb hb2:Hl}
theorem kF.mW{i:Nat}{t:af}{h2:Hl}{K:af->Hl->Prop}(hp:h.Perm h2)(hm:kF P w0 S n ops i t h K)(hk:∀t',K t' h->K t' h2):kF P w0 S n ops i t h2 K:=by
 obtain⟨o,d,ho,hdst,hnd,hsel,hd,hr⟩:=hm;refine⟨o,d,ho,hdst,hnd,hsel,hd,?_⟩;rcases hr with⟨hwant,hr⟩|⟨hskip,hk2⟩;exact .inl ⟨hwant,λw Ds Y' hS=>hr w Ds Y' (hS.perm hp.symm)⟩;exact .inr ⟨hskip,hk _ hk2⟩
theorem Dq.mW(h2:hb2.Sublist hb):∀{q:Nat} {D:aq} {t:af} {h h':Hl},h.Perm h'->(cur c hb hb2 D).Sublist h'->Dq P r f R w0 S Y n k ops c hb hb2 q D t h->Dq P r f R w0 S Y n k ops c hb hb2 q D t h'
 |0,_,_,_,_,_,_,hd=>hd
 |q+1,D,t,h,h',hp,hs,hd=>by
  rw[Dq]at hd⊢;rcases hd with⟨h0,hd⟩|⟨h0,hd⟩;exact .inl ⟨h0,λw Ds hS=>hd w Ds (hS.perm hp.symm)⟩;refine .inr ⟨h0,λi hi=>?_⟩;rcases hd i hi with hd|⟨o,ho,hdst,hnd,hsel,hwant,hr⟩;exact .inl (hd.mW hp (λt' ⟨e1,e2⟩=>⟨(xd h2).trans hs,e2.mW h2 hp ((xd h2).trans hs)⟩));exact .inr ⟨o,ho,hdst,hnd,hsel,hwant,λw Ds Y' hS=>hr w Ds Y' (hS.perm hp.symm)⟩
theorem HE(h2:hb2.Sublist hb){i d:Nat}(hic:i≠c)(hf:DA ops i d)(hd:d<n){q:Nat}{D:aq}{t:af}{h:Hl}{v:aC}(ht:t.size=n)(hi:i∈fw ops D)(ho:oJ P w0 S n [] ops i t d v)(hs:(cur c hb hb2 D).Sublist h)
  (hg:Dq P r f R w0 S Y n k ops c hb hb2 q (i::D) (t.setIfInBounds d v) h):Dq P r f R w0 S Y n k ops c hb hb2 (q+1) D t h:=by
 refine Dq.pure h2 (hx:=hb2) hic hf hd ht hi ?_ (.inl rfl) hs hg;obtain⟨o,h1,h3,h4,h5,h6⟩:=ho;refine⟨o,h1,h3,h4,h5,?_⟩;rcases h6 with⟨a,b⟩|h6;exact .inl ⟨a,λw Ds Y' hS=>b w Ds Y' (hS.ij aE)⟩;exact .inr h6
structure DB where
  i:Nat
  d:Nat
  V:Nat->aC
  O:Obj
def wh:aq->List aq
 |[]=>[[]]
 |i::l=>wh l++(wh l).map (i::·)
theorem rA(p:Nat->Bool):∀l:aq,l.filter p∈wh l
 |[]=>by simp[wh]
 |i::l=>by
  rw[wh,List.filter_cons];split;exact bZ _ (eA.2 ⟨_,rA p l,rfl⟩);exact cD _ (rA p l)
def FK:aq->Bool
 |[]=>true
 |i::l=>!l.contains i && FK l
theorem wL:∀{l:aq},FK l=true->l.Nodup
 |[],_=>ed
 |i::l,h=>by
  rw[FK,dx]at h;exact dS.2 ⟨by simpa using h.1,wL h.2⟩
def Ko(n:Nat)(ops:aj)(l:Fl)(c:Nat)(D ids ds:aq)(ip dp:Nat)(key:aq):Bool:=
 (wh ids).all (λs=>cond (key.all s.contains) ((fw ops (s++D)).contains ip && (s==ids||fw ops (s++(ip::D))==ids.filter (λi=>!s.contains i))) (fw ops (s++D)==ids.filter (λi=>!s.contains i))) &&
 !ids.contains c && !Nat.beq ip c && FK ids && FK ds && ds.all (λd=>(look l d).isNone && Nat.blt d n && !Nat.beq d dp) && (look l dp).isNone && Nat.blt dp n && !ids.contains ip && key.all ids.contains && nC ops ip && (hJ ops ip==some dp)
theorem Ao{a b:Fl}{i:Nat}{v:aC}(h:look (a++b) i=some v):(∃p∈a,p.1=i/\p.2=v)\/look b i=some v:=by
 induction a with
 |nil=>exact .inr h
 |cons p a ih=>
  obtain⟨j,u⟩:=p;rw[dz,look]at h;cases hq:Nat.beq j i with
  |true=>
   rw[hq]at h;exact .inl ⟨(j,u),aF,ct hq,by simpa using h⟩
  |false=>
   rw[hq]at h;rcases ih h with⟨q,h1,h2⟩|h1;exact .inl ⟨q,cF _ h1,h2⟩;exact .inr h1
theorem yz{q:Nat}{D1:aq}(ms rem:List DB)(got:List (DB×Nat)){t:af}(hp:(rem++got.map (·.1)).Perm ms)(hni:(ms.map (·.i)).Nodup)(hnd:(ms.map (·.d)).Nodup)(hl:∀x∈ms,look l x.d=none/\x.d<n)
  (hF:nS n t l)(hT:∀p∈got,t.getD p.1.d undef=p.1.V p.2)(hrd:fw ops (got.map (·.1.i)++D1)=(ms.map (·.i)).filter (λi=>!(got.map (·.1.i)).contains i))(hne:rem≠[])(hs:∀G:aq,(∀j∈G,j∈ms.map (·.i))->(cur c hb hb2 (G++D1)).Sublist h)
  (hm:∀x∈ms,∀t h,nS n t l->kF P w0 S n ops x.i t h (λt' h'=>∃b,t'=t.setIfInBounds x.d (x.V b)/\h'=(some b,x.O)::h))
  (hk:∀(x:DB) (b:Nat) (r':List DB),x∈ms->r'.length+1=rem.length->nS n (t.setIfInBounds x.d (x.V b)) l->(∀p∈(x,b)::got,(t.setIfInBounds x.d (x.V b)).getD p.1.d undef=p.1.V p.2)->(r'++((x,b)::got).map (·.1)).Perm ms->
   Dq P r f R w0 S Y n k ops c hb hb2 q (((x,b)::got).map (·.1.i)++D1) (t.setIfInBounds x.d (x.V b)) (((x,b)::got).map (λp=>(some p.2,p.1.O))++h)):
  Dq P r f R w0 S Y n k ops c hb hb2 (q+1) (got.map (·.1.i)++D1) t (got.map (λp=>(some p.2,p.1.O))++h):=by
 have hpi:(rem.map (·.i)++got.map (·.1.i)).Perm (ms.map (·.i)):=by simpa[Function.comp_def]using hp.map (·.i)
 have hnn:(rem.map (·.i)++got.map (·.1.i)).Nodup:=hpi.nodup_iff.2 hni;have hG:∀j∈got.map (·.1.i),j∈ms.map (·.i):=λj hj=>hpi.subset (bZ _ hj);rw[Dq];refine .inr ⟨?_,λi hi=>.inl ?_⟩;rw[hrd];rcases rem with _|⟨x,rem⟩;exact absurd rfl hne;refine List.ne_nil_of_mem (a:=x.i) (dQ.2 ⟨hpi.subset aL,?_⟩);rw[ep,dz,dS]at hnn;simp only[cC,dh,bP];exact λhx=>hnn.1 (bZ _ hx);rw[hrd,dQ]at hi;have hir:i∈rem.map (·.i):=by
  rcases dP.1 (hpi.symm.subset hi.1)with h1|h1;exact h1;simp[cC]at hi;simp only[eA]at h1;obtain⟨a,h1,h3⟩:=h1;exact absurd h3 (hi.2 _ _ h1)
 obtain⟨x,hx,rfl⟩:=eA.1 hir;obtain⟨s1,s2,rfl⟩:=List.append_of_mem hx;have hxm:x∈ms:=hp.subset (cD _ hx);have hp2:((s1++s2)++(x::got.map (·.1))).Perm ms:=by
  refine List.Perm.trans ?_ hp;refine(List.perm_middle.trans ?_);rw[<-dz];exact List.Perm.append_right _ List.perm_middle.symm
 have hdx:∀p∈got,p.1.d≠x.d:=λp hpg e=>by
  have h5:(((s1++s2)++(x::got.map (·.1))).map (·.d)).Nodup:=(hp2.map (·.d)).nodup_iff.2 hnd;rw[dO,ep,dq]at h5;have h6:=(dS.1 h5.2.1).1;exact h6 (by rw[<-e];exact eA.2 ⟨p.1,eA.2 ⟨p,hpg,rfl⟩,rfl⟩)
 refine(hm x hxm t _ hF).mono ?_;rintro t' h' ⟨b,rfl,rfl⟩;refine⟨?_,hk x b (s1++s2) hxm aN ⟨by simp[hF.1],λj v hv=>?_⟩ (λp hp=>?_) hp2⟩;exact((hs (x.i::got.map (·.1.i)) (λj hj=>by
  rcases ew.1 hj with rfl|hj;exact hi.1;exact hG j hj)).trans (bC _ _)).cons _;have hne:x.d≠j:=λe=>by
  have:=(hl x hxm).1;rw[e,hv]at this;cases this
 have:=hF.2 j v hv;rw[<-this];simp[aV,hne];rcases ew.1 hp with rfl|hp;have hlt:x.d<t.size:=by rw[hF.1];exact(hl x hxm).2
 simp[aV,hlt];rw[<-hT p hp];simp[aV,(hdx p hp).symm]
theorem G5{got:List (DB×Nat)}(hgn:(got.map (·.1.i)).Nodup):∃b:Nat->Nat,∀p∈got,b p.1.i=p.2:=by
 induction got with
 |nil=>exact⟨λ_=>0,λp hp=>by cases hp⟩
 |cons p got ih=>
  rw[ep,dS]at hgn;obtain⟨b,hb⟩:=ih hgn.2;refine⟨λi=>if i=p.1.i then p.2 else b i,λx hx=>?_⟩;rcases ew.1 hx with rfl|hx;exact if_pos rfl;exact(if_neg (λe=>hgn.1 (by rw[<-e];exact eA.2 ⟨x,hx,rfl⟩))).trans (hb x hx)
theorem gV.as{q:Nat}{D:aq}(l':Fl)(h':Hl)(el:l=l')(eh:h=h')(hg:gV P r f R w0 S Y n k ops c hb hb2 q D l' h'):gV P r f R w0 S Y n k ops c hb hb2 q D l h:=by
 rw[el,eh];exact hg
theorem gV.QK{q:Nat}{D:aq}(ms:List DB)(ip dp:Nat)(key:aq)(Vp:(Nat->Nat)->aC)(hok:Ko n ops l c D (ms.map (·.i)) (ms.map (·.d)) ip dp key=true)(h2:hb2.Sublist hb)(hs:(cur c hb hb2 D).Sublist h)
  (hm:∀x∈ms,∀t h,nS n t l->kF P w0 S n ops x.i t h (λt' h'=>∃b,t'=t.setIfInBounds x.d (x.V b)/\h'=(some b,x.O)::h))
  (hV:∀b b',(∀i∈key,b i=b' i)->Vp b=Vp b')
  (ho:∀b:Nat->Nat,eS P w0 S n [] ops ip ((ms.filter (λx=>key.contains x.i)).map (λx=>(x.d,x.V (b x.i)))++l) dp (Vp b))
  (hk:∀b:Nat->Nat,gV P r f R w0 S Y n k ops c hb hb2 q (ms.map (·.i)++ip::D) ((dp,Vp b)::(ms.map (λx=>(x.d,x.V (b x.i)))++l)) (ms.map (λx=>(some (b x.i),x.O))++h)):
  gV P r f R w0 S Y n k ops c hb hb2 (q+ms.length+1) D l h:=by
 simp only[Ko,dx,dy,dh,Option.isNone_iff_eq_none,eJ]at hok;obtain⟨⟨⟨⟨⟨⟨⟨⟨⟨⟨⟨hr,hc⟩,hpc⟩,hni⟩,hnd⟩,hl'⟩,hdp⟩,hdn⟩,hpi'⟩,hkey⟩,hpu⟩,hdst⟩:=hok;replace hni:=wL hni;replace hnd:=wL hnd;have hl:∀x∈ms,look l x.d=none/\x.d<n:=λx hx=>by
  have:=(hl' x.d (eA.2 ⟨x,hx,rfl⟩)).1;exact⟨this.1,by simpa[eI]using this.2⟩
 have hxp:∀x∈ms,x.d≠dp:=λx hx e=>by
  have:=(hl' x.d (eA.2 ⟨x,hx,rfl⟩)).2;rw[e]at this;simp at this
 have hcu:∀G:aq,(∀j∈G,j∈ms.map (·.i))->cur c hb hb2 (G++D)=cur c hb hb2 D/\cur c hb hb2 (G++(ip::D))=cur c hb hb2 D:=λG hG=>by
  have hnc:c∉G:=λhg=>by
   have:=hG _ hg;rw[cC,bP]at hc;exact hc this
  have hnp:c≠ip:=λe=>by rw[e]at hpc;simp at hpc
  unfold cur;have h1:(G++D).contains c=D.contains c:=by
   rw[dJ];simp[hnc]
  have h3:(G++(ip::D)).contains c=D.contains c:=by
   rw[dJ];simp[hnc,hnp]
  rw[h1,h3];exact⟨rfl,rfl⟩
 have hsub:∀(got:List (DB×Nat)),(∀j∈got.map (·.1.i),j∈ms.map (·.i))->∃s,s∈wh (ms.map (·.i))/\∀j,j∈s↔j∈got.map (·.1.i):=λgot hG=>
  ⟨_,rA (λi=>(got.map (·.1.i)).contains i) (ms.map (·.i)),λj=>by
   rw[dQ,cC,du];exact⟨λh=>h.2,λh=>⟨hG j h,h⟩⟩⟩;have hfl:∀(s:aq) (G:aq),(∀j,j∈s↔j∈G)->(ms.map (·.i)).filter (λi=>!s.contains i)=(ms.map (·.i)).filter (λi=>!G.contains i):=λs G h=>by
  refine List.filter_congr (λi _=>?_)
  congr 1;rw[dJ];simp only[cC,du];exact h i
 have hra:∀(s G D1:aq),(∀j,j∈s↔j∈G)->fw ops (s++D1)=fw ops (G++D1):=λs G D1 h=>qI (λj=>by simp only[dP,h j]);have aux1:∀(m:Nat) (rem:List DB) (got:List (DB×Nat)) (t:af),rem.length=m->(rem++got.map (·.1)).Perm ms->nS n t l->(∀p∈got,t.getD p.1.d undef=p.1.V p.2)->
   (∀i∈key,i∈got.map (·.1.i))->(∃b0:Nat->Nat,(∀p∈got,p.1.i∈key->b0 p.1.i=p.2)/\t.getD dp undef=Vp b0)->
   Dq P r f R w0 S Y n k ops c hb hb2 (q+m) (got.map (·.1.i)++(ip::D)) t (got.map (λp=>(some p.2,p.1.O))++h):=by
  intro m
  induction m with
  |zero=>
   intro rem got t hlen hp hF hT hky ⟨b0,hb0,hvp⟩;obtain rfl:=aU hlen;rw[dR]at hp;have hpi:(got.map (·.1.i)).Perm (ms.map (·.i)):=by simpa[Function.comp_def]using hp.map (·.i)
   obtain⟨b,hbd⟩:=G5 (hpi.nodup_iff.2 hni);have hmem:∀x∈ms,∃p∈got,p.1=x:=λx hx=>by simpa using hp.symm.subset hx
   have hperm:(ms.map (λx=>(some (b x.i),x.O))++h).Perm (got.map (λp=>(some p.2,p.1.O))++h):=by
    refine List.Perm.append_right _ ?_;have h1:=(hp.symm.map (λx:DB=>(some (b x.i),x.O)));rw[ez]at h1;refine h1.trans (List.Perm.of_eq (List.map_congr_left (λp hp=>?_)));simp[hbd p hp]
   have hvb:Vp b0=Vp b:=hV _ _ (λi hi=>by
    obtain⟨p,hp,rfl⟩:=eA.1 (hky i hi);rw[hb0 p hp hi,hbd p hp]);have hg:=hk b t ⟨hF.1,λi v hv=>by
    rw[look]at hv;cases hq:Nat.beq dp i with
    |true=>
     rw[hq]at hv;rw[<-ct hq,hvp,hvb];simpa using hv
    |false=>
     rw[hq]at hv;rcases Ao hv with⟨p,h1,h3,h4⟩|hv;obtain⟨x,hx,rfl⟩:=eA.1 h1;obtain⟨p,hpg,rfl⟩:=hmem x hx;dsimp only at h3 h4;rw[<-h3,<-h4,hT p hpg,hbd p hpg];exact hF.2 i v hv⟩;refine Dq.perm (D:=ms.map (·.i)++ip::D) (λj=>?_) (hg.mW h2 hperm ?_);simp only[dP,hpi.mem_iff];rw[(hcu _ (λj hj=>hj)).2];exact hs.trans (bC _ _)
  |succ m ih=>
   intro rem got t hlen hp hF hT hky ⟨b0,hb0,hvp⟩;have hpi:(rem.map (·.i)++got.map (·.1.i)).Perm (ms.map (·.i)):=by simpa[Function.comp_def]using hp.map (·.i)
   have hG:∀j∈got.map (·.1.i),j∈ms.map (·.i):=λj hj=>hpi.subset (bZ _ hj);obtain⟨s,hsm,hsi⟩:=hsub got hG;have hrd:fw ops (got.map (·.1.i)++(ip::D))=(ms.map (·.i)).filter (λi=>!(got.map (·.1.i)).contains i):=by
    have h1:=hr s hsm;rw[show key.all s.contains=true from dy.2 (λi hi=>by rw[cC,du,hsi];exact hky i hi)]at h1;simp only[cond_true,dx,dK,eJ]at h1;rw[<-hra s _ _ hsi,<-hfl s _ hsi];refine h1.2.resolve_left (λe=>?_);rcases rem with _|⟨x,rem⟩;cases hlen;have hx:x.i∈s:=by rw[e];exact hpi.subset aL
    have hnn:((x::rem).map (·.i)++got.map (·.1.i)).Nodup:=hpi.nodup_iff.2 hni;rw[ep,dz,dS]at hnn;exact hnn.1 (bZ _ ((hsi _).1 hx))
   rw[<-Nat.add_assoc];refine yz ms rem got hp hni hnd hl hF hT hrd (by rintro rfl;cases hlen) (λG hG=>by rw[(hcu G hG).2];exact hs) hm (λx b r' hxm hr' hF' hT' hp'=>?_);have hxk:x.i∉key:=λhx=>by
    have h1:=hky _ hx;have hpi2:(r'.map (·.i)++(x.i::got.map (·.1.i))).Perm (ms.map (·.i)):=by simpa[Function.comp_def]using hp'.map (·.i)
    have:=(dq.1 (hpi2.nodup_iff.2 hni)).2.1;exact(dS.1 this).1 h1
   refine ih r' ((x,b)::got) _ aH hp' hF' hT' (λi hi=>cF _ (hky i hi)) ⟨b0,λp hp hpk=>?_,?_⟩;rcases ew.1 hp with rfl|hp;exact absurd hpk hxk;exact hb0 p hp hpk;rw[<-hvp];simp[aV,hxp x hxm]
 have aux0:∀(m:Nat) (rem:List DB) (got:List (DB×Nat)) (t:af),rem.length=m->(rem++got.map (·.1)).Perm ms->nS n t l->(∀p∈got,t.getD p.1.d undef=p.1.V p.2)->
   Dq P r f R w0 S Y n k ops c hb hb2 (q+m+1) (got.map (·.1.i)++D) t (got.map (λp=>(some p.2,p.1.O))++h):=by
  intro m
  induction m using Nat.strongRecOn with
  |_ m ih=>
   intro rem got t hlen hp hF hT;have hpi:(rem.map (·.i)++got.map (·.1.i)).Perm (ms.map (·.i)):=by simpa[Function.comp_def]using hp.map (·.i)
   have hG:∀j∈got.map (·.1.i),j∈ms.map (·.i):=λj hj=>hpi.subset (bZ _ hj);obtain⟨s,hsm,hsi⟩:=hsub got hG;have h1:=hr s hsm;have hgn:=(dq.1 (hpi.nodup_iff.2 hni)).2.1;have hin:∀x∈ms,x.i∈got.map (·.1.i)->∃p∈got,p.1=x:=λx hx hxg=>by
    rcases dP.1 (hp.symm.subset hx)with h3|h3;exact absurd rfl ((dq.1 (hpi.nodup_iff.2 hni)).2.2 _ (eA.2 ⟨x,h3,rfl⟩) _ hxg);simpa using h3
   cases hkb:key.all s.contains with
   |true=>
    rw[hkb]at h1;simp only[cond_true,dx,dK,eJ]at h1;have hky:∀i∈key,i∈got.map (·.1.i):=λi hi=>(hsi i).1 (by simpa using dy.1 hkb i hi);obtain⟨b,hbd⟩:=G5 hgn;obtain⟨d',hf⟩:=wA hpu;obtain rfl:dp=d':=by
     have:=hf.dst;rw[hdst]at this;cases this;rfl
    have hFL:nS n t ((ms.filter (λx=>key.contains x.i)).map (λx=>(x.d,x.V (b x.i)))++l):=⟨hF.1,λi v hv=>by
     rcases Ao hv with⟨z,h3,h4,h5⟩|hv;obtain⟨x,hx,rfl⟩:=eA.1 h3;rw[dQ]at hx;obtain⟨p,hpg,rfl⟩:=hin x hx.1 (hky _ (by simpa using hx.2));dsimp only at h4 h5;rw[<-h4,<-h5,hT p hpg,hbd p hpg];exact hF.2 i v hv⟩;have hO:oJ P w0 S n [] ops ip t dp (Vp b):=by
     obtain⟨o,ho,hw,hdst,hnd,hd,hr⟩:=ho b
     exact⟨o,ho,hdst,by simpa[eI]using hd,hnd,.inl ⟨kH hFL hw,λw Ds Y' hS=>by
      obtain⟨nx,h1,rfl⟩:=hr t w Ds Y' hFL hS;exact .inl h1⟩⟩
    have hdlt:dp<n:=by simpa[eI]using hdn
    refine HE h2 (by rintro rfl;simp at hpc) hf hdlt hF.1 ?_ hO ?_ ?_;rw[<-hra s _ _ hsi];simpa using h1.1;rw[(hcu _ hG).1];exact hs.trans (bC _ _);refine Dq.perm (D:=got.map (·.1.i)++ip::D) (λj=>List.perm_middle.mem_iff) ?_;refine aux1 m rem got _ hlen hp ⟨by simp[hF.1],λj v hv=>?_⟩ (λp hpg=>?_) hky ⟨b,λp hp _=>hbd p hp,?_⟩;have hne:dp≠j:=λe=>by rw[e,hv]at hdp;cases hdp
    have:=hF.2 j v hv;rw[<-this];simp[aV,hne];rw[<-hT p hpg];simp[aV,(hxp p.1 (hp.subset (bZ _ (eA.2 ⟨p,hpg,rfl⟩)))).symm];have:dp<t.size:=by rw[hF.1];exact hdlt
    simp[aV,this]
   |false=>
    rw[hkb]at h1;simp only[cond_false,eJ]at h1;have hrd:fw ops (got.map (·.1.i)++D)=(ms.map (·.i)).filter (λi=>!(got.map (·.1.i)).contains i):=by
     rw[<-hra s _ _ hsi,<-hfl s _ hsi];exact h1
    have hne:rem≠[]:=λe=>by
     subst e;have:key.all s.contains=true:=dy.2 (λi hi=>by
      rw[cC,du,hsi];exact hpi.symm.subset (by simpa using hkey i hi));rw[this]at hkb;cases hkb
    obtain⟨m',rfl⟩:∃m',m=m'+1:=⟨m - 1,by
     rcases rem with _|⟨x,rem⟩;exact absurd rfl hne;simp only[dC]at hlen;omega⟩;refine yz (q:=q+m'+1) ms rem got hp hni hnd hl hF hT hrd hne (λG hG=>by rw[(hcu G hG).1];exact hs) hm (λx b r' hxm hr' hF' hT' hp'=>?_);exact ih m' aH r' ((x,b)::got) _ aH hp' hF' hT'
 intro t hF;simpa using aux0 ms.length ms [] t rfl aL hF (λp hp=>by cases hp)
theorem ik.EA{α:Type}(enc:α->aC)(z:α){i d:Nat}{ty:ax}{pos:aA}{aft:ak}{g:Option (Nat×Bool)}{K:aC->Hl->Prop}{t e:ax}{x y:au}{kx ky:aw}{m:Nat}{inf:TypeInfo}(ho:ops[i]?=some ⟨some d,.makeSlice t x y,ty,pos,aft,g⟩)(hw:fg ops l g=true)(hx:fW l x=some (.int kx m))(hy:fW l y=some (.int ky m))(hd:Nat.blt d n=true)
  (hu:P.underlying t=some (.slice e))(hi:P.info? e=some inf)(hz:inf.zero=some (enc z))(hz1:(enc z).cells=#[enc z])(hs:inf.size=1)(hb:inf.bytes*m<=281474976710656)(hm:m<=maxLen)
  (hk:∀b,K (.slice (aR b) m m) ((some b,ob enc e (List.replicate m z) [])::h)):ik P w0 S n h ops i l d K:=
 ⟨_,ho,rfl,rfl,rfl,hd,.inl ⟨hw,λt' w Ds Y' hF hS=>.inl (by
  obtain⟨w',hrun,⟨_,hown⟩,hg⟩:=run_make_full (P:=P) w w.heap.size t e inf (enc z) 1 hu hi hz hs kx ky m hb hm (eG _);rw[An (enc z) hz1]at hown;rcases hown with⟨h1,_⟩|⟨b,cap,cur,hv,hbg,hheap,hnc,_,hcs,htk⟩;simp at h1;simp only[Value.slice.injEq,dt,Addr.mk.injEq,and_true,true_and]at hv;obtain⟨rfl,rfl⟩:=hv;have hcur:cur=((List.replicate m z).map enc++[]).toArray:=by
   rw[<-dw,dL,List.map_replicate];rw[<-htk,bR (by simp[hcs])]
  rw[hcur]at hheap;refine⟨_,w',_,?_,hS.Gq (AK hg) hheap rfl hbg,hk _⟩;simp only[execOp,hF.fW hx,hF.fW hy,Sem.run_bind,hrun,Result.andThen_ok,Sem.run_pure])⟩⟩
def Cd(P:av)(w0:aB)(S:aq)(n:Nat)(ops:aj)(l:Fl)(x:DB):Prop:=∀t h,nS n t l->kF P w0 S n ops x.i t h (λt' h'=>∃b,t'=t.setIfInBounds x.d (x.V b)/\h'=(some b,x.O)::h)
theorem Cd.mk{x:DB}(hm:∀h,ik P w0 S n h ops x.i l x.d (λv h'=>∃b,v=x.V b/\h'=(some b,x.O)::h)):Cd P w0 S n ops l x:=λ_ h hF=>
 kF.of (hm h) hF (λ_ _ ⟨b,e1,e2⟩=>⟨b,by rw[e1],e2⟩)
end
end Go.Proofs.Wit
