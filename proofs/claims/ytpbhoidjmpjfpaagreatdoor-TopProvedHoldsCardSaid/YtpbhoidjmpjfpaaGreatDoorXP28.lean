/- Laws of walks, each under its own conditions. -/
import Derived.Test.YtpbhoidjmpjfpaaGreatDoorXP27
set_option maxRecDepth 100000
set_option maxHeartbeats 40000000
namespace Go.Proofs.Wit
open Go Go.RowKit
section
variable{α:Type}{f:Nat->Option α}
theorem uC{n k:Nat}{y:α}(hk:k<n)(h0:∀j,j<k->f j=none)(h:f k=some y):(List.range n).findSome? f=some y:=by
 obtain⟨m,rfl⟩:∃m,n=(k+1)+m:=⟨n - (k+1),aH⟩;have h1:∀m,(∀j,j<m->f j=none)->(List.range m).findSome? f=none:=λm hm=>by
  rw[List.findSome?_eq_none_iff];intro j hj;exact hm j (eD.1 hj)
 rw[List.range_add,List.findSome?_append,ep,List.findSome?_append,h1 k h0];simp[h]
theorem Lx{n:Nat}(h0:∀j,j<n->f j=none):(List.range n).findSome? f=none:=by
 rw[List.findSome?_eq_none_iff];intro j hj;exact h0 j (eD.1 hj)
theorem yi{k:Nat}:(List.range (k+1)).filterMap f=(List.range k).filterMap f++(f k).toList:=by
 rw[ep,List.filterMap_append];cases h:f k<;>simp[h]
end
def Sk(c:TC)(s:fi)(i:Nat):Option SD:=
 if ga s i=true then
  if (c.n i).op=2 then some ⟨s,1,i,0,[]⟩
  else if ga s (c.m i)=true then some ⟨s,1,i,c.m i,[]⟩else none
 else none
theorem tL{c:TC}{s:fi}:og c s=(List.range c.b.length).findSome? (Sk c s):=rfl
def G7(c:TC)(s:fi)(i:Nat):Option (SD×List fi):=
 if ga s i=true/\(c.n i).op=5/\s &&& (bW (c.n i).x|||bW (c.n i).y)≠bW (c.n i).x|||bW (c.n i).y then some (SD.mk s 2 i 0 [],[s|||bW (c.n i).x|||bW (c.n i).y])
 else if ga s i=true/\(c.n i).op=9/\c.GG=true/\s &&& bW (c.n i).x=0#64 then some (SD.mk s 5 i 0 [],[s|||bW (c.n i).x])else none
def K6(c:TC)(s:fi)(i:Nat):Option (SD×List fi):=
 if ga s i=true/\(c.n i).op=6/\s &&& (bW (c.n i).x|||bW (c.n i).y)=0#64 then some (SD.mk s 3 i 0 [],[s|||bW (c.n i).x,s|||bW (c.n i).y])
 else if c.cut=true/\(c.n i).op=9/\ga s i=false/\ga s (c.m i)=false then some (SD.mk s 4 i (c.m i) [],[s|||bW i,s|||bW (c.m i)])else none
theorem xZ{c:TC}{s:fi}{r}(h:(List.range c.b.length).findSome? (G7 c s)=some r):lD c s=some r:=by
 unfold lD;show(match (List.range c.b.length).findSome? (G7 c s)with|some r=>some r|none=>(List.range c.b.length).findSome? (K6 c s))=_;rw[h]
theorem B1{c:TC}{s:fi}(h:(List.range c.b.length).findSome? (G7 c s)=none):lD c s=(List.range c.b.length).findSome? (K6 c s):=by
 unfold lD;show(match (List.range c.b.length).findSome? (G7 c s)with|some r=>some r|none=>(List.range c.b.length).findSome? (K6 c s))=_;rw[h]
def Ti(c:TC)(s:fi)(i:Nat):Option (SD×fi):=if ga s i=true/\(c.n i).op=10 then some (SD.mk s 6 i 0 [],bW (c.n i).x|||m4 c.l c.b s (c.n i).i)else none
def Th(c:TC)(s:fi)(a:Nat):Option (SD×fi):=if c.ag.getLsbD a=true/\(c.l=1\/c.l=5)then some (SD.mk s 7 a 0 [],m4 c.l c.b s a)else none
def kK(c:TC)(s:fi)(k a:Nat):List (SD×fi):=(List.range k).filterMap (Ti c s)++(List.range a).filterMap (Th c s)
theorem ur{c:TC}{s:fi}:jP c s=kK c s c.b.length 4:=rfl
theorem JL{c:TC}{s:fi}{k a:Nat}:(kK c s k a).length<=k+a:=by
 unfold kK;rw[di];have h1:=List.length_filterMap_le (Ti c s) (List.range k);have h2:=List.length_filterMap_le (Th c s) (List.range a);rw[List.length_range]at h1 h2;omega
theorem DG{c:TC}{s:fi}{y:SD}{xs:List fi}(e:lD c s=some (y,xs)):y.fr=[]/\0<xs.length/\xs.length<=2:=by
 cases h:(List.range c.b.length).findSome? (G7 c s)with
 |some r=>
  rw[xZ h]at e;cases e;obtain⟨i,_,hi⟩:=aT h;unfold G7 at hi;split at hi;cases hi;exact⟨rfl,by simp,by simp⟩;split at hi;cases hi;exact⟨rfl,by simp,by simp⟩;cases hi
 |none=>
  rw[B1 h]at e;obtain⟨i,_,hi⟩:=aT e;unfold K6 at hi;split at hi;cases hi;exact⟨rfl,by simp,by simp⟩;split at hi;cases hi;exact⟨rfl,by simp,by simp⟩;cases hi
def SF(path:List fi)(σ σ1:TS):Prop:=∀p∈path,p∈σ1.op->p∈σ.op
section
variable{c:TC}{path:List fi}{r:TS->fi->Option ((Int×Int)×TS)}
theorem H5(hr:∀σ s z σ1,r σ s=some (z,σ1)->SF path σ σ1):∀{xs:List fi} {fr:ar} {σ σ1:TS} {z},pN r xs fr σ=some (z,σ1)->SF path σ σ1
 |[],fr,σ,σ1,z,e=>by unfold pN at e;cases e;exact λ_ _ h=>h
 |x::xs,fr,σ,σ1,z,e=>by
  unfold pN at e;cases e1:r σ x with
  |none=>rw[e1]at e;cases e
  |some q=>
   obtain⟨⟨n,low⟩,σ2⟩:=q;rw[e1]at e;simp only at e;have k1:=hr _ _ _ _ e1;by_cases hn:n<0;rw[if_pos hn]at e;cases e;exact k1;rw[if_neg hn]at e;exact λp hp h=>k1 p hp (H5 hr e p hp h)
theorem HY(hr:∀σ s z σ1,r σ s=some (z,σ1)->SF path σ σ1):∀{xs:List (SD×fi)} {low:Int} {σ σ1:TS} {z},pD r xs low σ=some (z,σ1)->SF path σ σ1
 |[],low,σ,σ1,z,e=>by unfold pD at e;cases e;exact λ_ _ h=>h
 |(y,x)::xs,low,σ,σ1,z,e=>by
  unfold pD at e;cases e1:r σ x with
  |none=>rw[e1]at e;cases e
  |some q=>
   obtain⟨⟨n,lw⟩,σ2⟩:=q;rw[e1]at e;simp only at e;have k1:=hr _ _ _ _ e1;by_cases hn:0<=n;rw[if_pos hn]at e;cases e;exact k1;rw[if_neg hn]at e;exact λp hp h=>k1 p hp (HY hr e p hp h)
theorem zy{d:Nat}{s:fi}(hr:∀σ s z σ1,r σ s=some (z,σ1)->SF path σ σ1){σ σ1:TS}{z}(e:jH c r d s σ=some (z,σ1)):SF path σ σ1:=by
 unfold jH at e;cases e1:lD c s with
 |some q=>
  obtain⟨y,xs⟩:=q;rw[e1]at e;simp only at e;cases e2:pN r xs [] σ with
  |none=>rw[e2]at e;cases e
  |some q=>
   obtain⟨u,σ2⟩:=q;have:=H5 hr e2;rw[e2]at e;cases u<;>(cases e;exact this)
 |none=>
  rw[e1]at e;simp only at e;cases e2:pD r (jP c s) (d+1) σ with
  |none=>rw[e2]at e;cases e
  |some q=>
   obtain⟨u,σ2⟩:=q;have:=HY hr e2;rw[e2]at e;cases u<;>(cases e;exact this)
end
theorem yS{c:TC}:∀(k:Nat) (path:List fi) (σ:TS) (s:fi) {z} {σ1:TS},ie c k path σ s=some (z,σ1)->SF path σ σ1
 |0,_,_,_,_,_,e=>by cases e
 |k+1,path,σ,s,z,σ1,e=>by
  rw[ie]at e;cases e1:pg σ.ss s with
  |some n=>rw[e1]at e;cases e;exact λ_ _ h=>h
  |none=>
   rw[e1]at e;simp only at e;by_cases h1:s∈σ.op;rw[if_pos h1]at e;cases e;exact λ_ _ h=>h;rw[if_neg h1]at e;cases e2:path.findIdx? (·==s)with
   |some a=>rw[e2]at e;cases e;exact λ_ _ h=>h
   |none=>
    rw[e2]at e;simp only at e;cases e3:og c s with
    |some y=>rw[e3]at e;cases e;exact λ_ _ h=>h
    |none=>
     rw[e3]at e;simp only at e;cases e4:jH c (ie c k (path++[s])) path.length s σ with
     |none=>rw[e4]at e;cases e
     |some q=>
      obtain⟨⟨n,low⟩,σ2⟩:=q;have hk:=zy (λσ s z σ1 h=>yS k _ σ s h) e4;have hp:s∉path:=λhm=>by
       rw[bt]at e2;have:=e2 s hm;simp at this
      rw[e4]at e;simp only at e;cases e;intro p hpm h;split at h;rcases ed.1 h with h|h;exact hk p (by simp[hpm]) h;rw[dn.1 h]at hpm;exact absurd hpm hp;exact hk p (by simp[hpm]) h
section
variable{P:av}{r:ah}{f:ay}{R:aC->aB->Prop}{w0:aB}{S:aq}{Y:List (Nat×Obj)}{n:Nat}{k:al}{l:Fl}{h hb:Hl}{ops:aj}{q:Nat}{Dn:aq}
theorem gi.nQ{i d:Nat}{ty:ax}{pos:aA}{aft:ak}{g:Option (Nat×Bool)}{az:aa}{ts:ab}{cal:au}{gf:ay}{fs cs vs:ai}{hC hF:Hl}(hp:h.Perm (hC++hF))(Rc:aB->aC->Hl->Prop)(h1:fL ops Dn=[i])(ho:ops[i]?=some ⟨some d,.call ⟨.value cal,az,ts⟩,ty,pos,aft,g⟩)(hw:fE ops l g=true)
  (hc:fW l cal=some (.func (.func gf) fs.toArray cs.toArray))(hx:iW l az.toList=some vs)(hd:Nat.blt d n=true)(hcf:∀args w,(callFunc gf args).run P w=.ok (.enter gf args) w)
  (hcall:∀w Y',St w0 S w (hC++hF) Y'->wX P gf (fs++vs++cs) w hC (Rc w))
  (hk:∀w v h',Rc w v h'->∃H,(h'++hF).Perm H/\hb.Sublist H/\gi P r f R w0 S Y n k ops hb q (i::Dn) ((d,v)::l) H):gi P r f R w0 S Y n k ops hb (q+1) Dn l h:=by
 refine gi.one h1 ⟨_,ho,rfl,rfl,rfl,hd,.inl ⟨hw,λt w Ds Y' hF' hS=>.inr ⟨gf,(fs++vs++cs).toArray,λv w'=>∃h',Rc w v h'/\St w (iR hC) w' h' [],?_,?_,λv w' ⟨h',h1,h2⟩=>?_⟩⟩⟩ hd;have e1:=lR (P:=P) (ty:=ty) (ts:=ts) (Ds:=Ds) (w:=w) hF' hc hx;simp only[execOp,Sem.run_bind,e1,Result.andThen_ok,invoke,hcf];simp;exact Calls.mono (hcall w Y' (hS.perm hp)) (λe w' ⟨v,h',e1,e2,e3⟩=>⟨v,e1,h',e2,e3⟩);obtain⟨H,hp2,hs,hg⟩:=hk w v h' h1;exact⟨H,((hS.perm hp).frame h2).perm hp2,hs,hg⟩
end
section
variable{P:av}{r:ah}{f:ay}{R:aC->aB->Prop}{w0:aB}{Y:List (Nat×Obj)}{n:Nat}{k:al}{l:Fl}{hb:ah×Obj}{ops:aj}{i d:Nat}{ty:ax}{pos:aA}{aft:ak}{g:Option (Nat×Bool)}
variable{az:aa}{ts:ab}{cal:au}{gf:ay}{vs:ai}{t tn:ax}{c:List NV}{na:ae}{nc bk m0 m1 D D':Nat}{L0 L1 La Lb:Nm}{F:Hl}{u:Tr}{q:Nat}{Dn:aq}
theorem gi.vk(hp:uL t tn c na nc bk m0 m1 w0 L0 L1)(gr:jh t c D L0 L1 La Lb F)(hj:D'<=D)(h1:fL ops Dn=[i])(ho:ops[i]?=some ⟨some d,.call ⟨.value cal,az,ts⟩,ty,pos,aft,g⟩)(hw:fE ops l g=true)
  (hc:fW l cal=some (.func (.func gf) #[] #[]))(hx:iW l az.toList=some vs)(hd:Nat.blt d n=true)(hcf:∀args w,(callFunc gf args).run P w=.ok (.enter gf args) w)
  (hof:∀w L0 L1,uL t tn c na nc bk m0 m1 w L0 L1->wX P gf vs w (re m0 L0 m1 L1) (qF t c m0 m1 D' u L0 L1))
  (hk:∀fv La' Lb' F',jh t c D L0 L1 La' Lb' F'->(∀x,mx t La Lb F x->mx t La' Lb' F' x)->fv.f=bT u->mx t La' Lb' F' fv->gi P r f R w0 [m0,m1] Y n k ops [hb] q (i::Dn) ((d,fv.v)::l) (hb::(re m0 La' m1 Lb'++F'))):
  gi P r f R w0 [m0,m1] Y n k ops [hb] (q+1) Dn l (hb::(re m0 La m1 Lb++F)):=by
 refine gi.nQ (hC:=re m0 La m1 Lb) (hF:=hb::F) (fs:=[]) (cs:=[]) xR (λ_=>qF t c m0 m1 D' u La Lb) h1 ho hw hc hx hd hcf (λw Y' hS=>?_) (λw v h' hR=>?_);rw[eh,dW];exact hof w _ _ (hp.step hS (bP _ _) (λ_ h=>cD _ (cM _ h)) gr);obtain⟨fv,La',Lb',F2,rfl,rfl,g2,hf,hh⟩:=hR;exact⟨hb::(re m0 La' m1 Lb'++(F2++F)),GP,.cons_cons _ aE,hk fv La' Lb' (F2++F) (gr.seq g2 hj (bQ _ _) (List.subset_append_left _ _)) (λx hx=>hx.mono g2.s0 g2.s1 (bQ _ _)) hf (hh.mono (λ_ h=>h) (λ_ h=>h) (List.subset_append_left _ _))⟩
theorem gi.lC(hp:uL t tn c na nc bk m0 m1 w0 L0 L1)(gr:jh t c D L0 L1 La Lb F)(hj:D'<=D)(hcf:∀args w,(callFunc gf args).run P w=.ok (.enter gf args) w)(hof:∀w L0 L1,uL t tn c na nc bk m0 m1 w L0 L1->wX P gf vs w (re m0 L0 m1 L1) (qF t c m0 m1 D' u L0 L1))(hk:∀fv La' Lb' F',jh t c D L0 L1 La' Lb' F'->(∀x,mx t La Lb F x->mx t La' Lb' F' x)->fv.f=bT u->mx t La' Lb' F' fv->gi P r f R w0 [m0,m1] Y n k ops [hb] q (i::Dn) ((d,fv.v)::l) (hb::(re m0 La' m1 Lb'++F')))(h1:fL ops Dn=[i]:=by exact rfl)(ho:ops[i]?=some ⟨some d,.call ⟨.value cal,az,ts⟩,ty,pos,aft,g⟩:=by exact rfl)(hw:fE ops l g=true:=by exact rfl)(hc:fW l cal=some (.func (.func gf) #[] #[]):=by exact rfl)(hx:iW l az.toList=some vs:=by exact rfl)(hd:Nat.blt d n=true:=by exact rfl):gi P r f R w0 [m0,m1] Y n k ops [hb] (q+1) Dn l (hb::(re m0 La m1 Lb++F)):=gi.vk (hp:=hp) (gr:=gr) (hj:=hj) (h1:=h1) (ho:=ho) (hw:=hw) (hc:=hc) (hx:=hx) (hd:=hd) (hcf:=hcf) (hof:=hof) (hk:=hk)
theorem gi.BX(gr:jh t c D L0 L1 La Lb F)(h1:fL ops Dn=[i])(ho:ops[i]?=some ⟨some d,.call ⟨.value cal,az,ts⟩,ty,pos,aft,g⟩)(hw:fE ops l g=true)
  (hc:fW l cal=some (.func (.func gf) #[] #[]))(hx:iW l az.toList=some vs)(hd:Nat.blt d n=true)(hcf:∀args w,(callFunc gf args).run P w=.ok (.enter gf args) w)
  (hcall:∀w Y',St w0 [m0,m1] w (hb::(re m0 La m1 Lb++F)) Y'->Cn P gf vs w (λv w'=>fQ t w w' v (bT u)))
  (hk:∀fv F',jh t c D L0 L1 La Lb F'->(∀x,mx t La Lb F x->mx t La Lb F' x)->fv.f=bT u->mx t La Lb F' fv->gi P r f R w0 [m0,m1] Y n k ops [hb] q (i::Dn) ((d,fv.v)::l) (hb::(re m0 La m1 Lb++F'))):
  gi P r f R w0 [m0,m1] Y n k ops [hb] (q+1) Dn l (hb::(re m0 La m1 Lb++F)):=by
 refine gi.call (λw v w'=>fQ t w w' v (bT u)) h1 ho hw hc hx hd hcf hcall (λv w w' Y' hS he hO=>?_);obtain⟨qq,cap,sp,rfl,hq,fB,hS'⟩:=fR hS he hO;have hpm:((qq,jR t (bT u) sp)::hb::(re m0 La m1 Lb++F)).Perm (hb::(re m0 La m1 Lb++((qq,jR t (bT u) sp)::F))):=
  (List.Perm.swap _ _ _).trans (List.Perm.cons _ xR);refine⟨_,hS'.perm hpm,.cons_cons _ aE,?_⟩;have e1:gx qq (bT u).length cap=FV.v ⟨qq.map aP,cap,bT u⟩:=by cases qq<;>rfl
 rw[e1];exact hk _ _ (gr.mono (eR _) (cI _ _)) (λx hx=>hx.mono (λ_ h=>h) (λ_ h=>h) (cI _ _)) rfl (.inl ⟨qq,sp,aF,rfl,hq,fB⟩)
end
structure Ws where
  q:ah
  cap:Nat
  ls:List LV
  sp:ai
  H:Hl
def Tg(tw tl:ax)(er:aC)(bw:Nat)(s:Ws):Hl:=[(some bw,.cells #[gx s.q s.ls.length s.cap,er] tw (0,0)),(s.q,Qc tl s.ls s.sp)]
def iB(tw tl:ax)(er:aC)(bw:Nat)(s:Ws):Hl:=(some bw,.cells #[gx s.q s.ls.length s.cap,er] tw (0,0))::(s.q,Qc tl s.ls s.sp)::s.H
theorem Nr{tw tl:ax}{er:aC}{bw:Nat}{s:Ws}:(Tg tw tl er bw s).Sublist (iB tw tl er bw s):=.cons_cons _ (.cons_cons _ aE)
def Ws.pH(s:Ws)(p:ah×Obj):Ws:={s with H:=p::s.H}
structure lz (tn:ax) (Γ:List FV) (σ:Sg) (s:Ws):Prop where
  nil:s.q=none->s.ls.length=0/\s.cap=0
  cap:(s.ls.flatMap LV.cells++s.sp).length=s.cap*5
  EN:s.ls.map LV.d=σ.ls.map (λx=>x.v.d)
  JF:s.ls.length<=400
  ctx:∀x∈Γ,x.yw tn s.H/\x.f.length<=maxLen
  R0:∀x∈s.ls,x.f∈Γ
  S2:∀x∈σ.ls,x.t.ok
section
variable{tn tw tl:ax}{er:aC}{bw:Nat}{Γ:List FV}{σ:Sg}{s:Ws}
theorem lz.len(h:lz tn Γ σ s):s.ls.length=σ.ls.length:=by have:=eV List.length h.EN;simpa using this
theorem lz.at(h:lz tn Γ σ s){k:Nat}(hk:k<s.ls.length):s.ls[k].f.f=bT (l8 σ k)/\(l8 σ k).ok/\s.ls[k].f∈Γ:=by
 have hk2:k<σ.ls.length:=by rw[<-h.len];exact hk
 have h1:s.ls[k].d=(σ.ls[k]).v.d:=by
  have:=eV (λl=>l[k]?) h.EN;simpa[hk,hk2]using this
 have ht:l8 σ k=(σ.ls[k]).t:=by simp[l8,hk2]
 refine⟨?_,by rw[ht];exact h.S2 _ (dL hk2),h.R0 _ (dL hk)⟩;rw[ht];exact eV LD.f h1
theorem lz.fa(h:lz tn Γ σ s){x:FV}(hx:x∈Γ){w0 w:aB}{S:aq}{pre:Hl}{Y:List (Nat×Obj)}(hS:St w0 S w (pre++iB tw tl er bw s) Y):FA w x.a x.f:=
 ((h.ctx x hx).1.mono (λ_ hp=>cD _ (cM _ (cM _ hp)))).at hS
theorem lz.add(h:lz tn Γ σ s){q:ah}{f:List NV}{cap:Nat}{sp:ai}(hq:q=none->f.length=0/\cap=0)(hl:f.length<=maxLen):lz tn (⟨q.map aP,cap,f⟩::Γ) σ (s.pH (q,jR tn f sp)):=
 ⟨h.nil,h.cap,h.EN,h.JF,λx hx=>by
  rcases eH.1 hx with rfl|hx;exact⟨⟨q,sp,aF,rfl,λe=>(hq e).1⟩,hl⟩;exact⟨(h.ctx x hx).1.mono (cI _ _),(h.ctx x hx).2⟩,λx hx=>cM _ (h.R0 x hx),h.S2⟩
def FV.Z(x:FV):Prop:=x.f=[]->x.a=none
theorem lz.VE(h:lz tn Γ σ s){x:FV}(hx:x∈Γ)(hz:x.Z):x.a=none↔x.f=[]:=by
 refine⟨λe=>?_,hz⟩;obtain⟨q,sp,_,h2,h3⟩:=(h.ctx x hx).1;cases q with
 |none=>exact aV (h3 rfl)
 |some b=>rw[h2]at e;cases e
end
theorem mg.stay{w0 w1:aB}{h0 hR pre h1:Hl}{Y:List (Nat×Obj)}(g:mg w0 (h0++hR))(s:St w0 (iR h0) w1 (pre++h1) Y):mg w1 (h1++(pre++hR)):=by
 have hap:=cR.1 g.apart;have hkeep:∀p∈hR,∀b,p.1=some b->w1.heap[b]?=some p.2/\b<w0.heap.size/\b∉iR h0:=λp hp b hb=>by
  have h2:=(g.own p (cD _ hp) b hb).1;have hlt:=(aX.1 h2).1;have hn:b∉iR h0:=λhm=>by
   obtain⟨o,ho⟩:=np.1 hm;exact hap.2.2 _ ho p hp b rfl hb
  exact⟨by rw[s.ext.block b hlt hn];exact h2,hlt,hn⟩
 have hs:=cR.1 s.apart;have hcross:∀p∈pre++h1,∀q∈hR,uH p q:=λp hp q hq b hb hqb=>by
  obtain⟨_,hlt,hn⟩:=hkeep q hq b hqb;rcases(s.own p hp b hb).2.2 with h|h;omega;exact hn h
 refine⟨λp hp b hb=>?_,?_⟩;rcases ed.1 hp with hp|hp;exact⟨(s.own p (cD _ hp) b hb).1,(s.own p (cD _ hp) b hb).2.1⟩;rcases ed.1 hp with hp|hp;exact⟨(s.own p (cK _ hp) b hb).1,(s.own p (cK _ hp) b hb).2.1⟩;exact⟨(hkeep p hp b hb).1,(g.own p (cD _ hp) b hb).2⟩;refine cR.2 ⟨hs.2.1,cR.2 ⟨hs.1,hap.2.1,λp hp q hq=>hcross p (cK _ hp) q hq⟩,λp hp q hq=>?_⟩;rcases ed.1 hq with hq|hq;exact λb hb hqb=>hs.2.2 q hq p hp b hqb hb;exact hcross p (cD _ hp) q hq
def AD(P:av)(tn tw tl:ax)(ef:Bool->aC)(bw:Nat)(Γ:List FV)(σ:Sg)(gf:ay)(args:ai)(w:aB)(hR:Hl)(r:Nat×Sg):Prop:=
 ∀s,lz tn Γ σ s->mg w (iB tw tl (ef σ.bad) bw s++hR)->wX P gf args w (iB tw tl (ef σ.bad) bw s) (λv h'=>∃s' Γ',v=aS (r.1:Int)/\h'=iB tw tl (ef r.2.bad) bw s'/\lz tn Γ' r.2 s'/\Γ⊆Γ')
section
variable{P:av}{tn tw tl:ax}{er:aC}{ef:Bool->aC}{bw:Nat}{Γ:List FV}{σ:Sg}{s:Ws}
variable{r:ah}{f:ay}{R:aC->aB->Prop}{w0:aB}{S:aq}{Y:List (Nat×Obj)}{n:Nat}{k:al}{l:Fl}{ops:aj}{i d:Nat}{rest:aq}{ty:ax}{pos:aA}{aft:ak}{g:Option (Nat×Bool)}
variable{az:aa}{ts:ab}{cal:au}{gf:ay}{vs:ai}{u:Tr}
theorem pw{q:ah}{f:List NV}{cap:Nat}:gx q f.length cap=FV.v ⟨q.map aP,cap,f⟩:=by cases q<;>rfl
theorem oB{t:Tr}:(bT t).length<=maxLen:=fO rfl
theorem ve{p:ah×Obj}{pre:Hl}:(p::(pre++iB tw tl er bw s)).Perm (pre++iB tw tl er bw (s.pH p)):=by
 refine(dP (l₁:=pre) (a:=p)).symm.trans (List.Perm.append_left pre ?_);unfold iB Ws.pH;exact(List.Perm.swap _ _ _).trans (List.Perm.cons _ (List.Perm.swap _ _ _))
theorem ff.xX{pre:Hl}(hW:lz tn Γ σ s)(ho:ops[i]?=some ⟨some d,.call ⟨.value cal,az,ts⟩,ty,pos,aft,g⟩)(hw:fE ops l g=true)
  (hc:fW l cal=some (.func (.func gf) #[] #[]))(hx:iW l az.toList=some vs)(hd:Nat.blt d n=true)(hcf:∀args w,(callFunc gf args).run P w=.ok (.enter gf args) w)
  (hcall:∀w Y',St w0 S w (pre++iB tw tl er bw s) Y'->Cn P gf vs w (λv w'=>mL tn w w' v (bT u)))
  (hk:∀x s',x.f=bT u->x.Z->lz tn (x::Γ) σ s'->ff P r f R w0 S Y n (.inRegion ops rest::k) ((d,x.v)::l) (pre++iB tw tl er bw s')):
  ff P r f R w0 S Y n (.inRegion ops (i::rest)::k) l (pre++iB tw tl er bw s):=by
 refine ff.vM (λw v w'=>mL tn w w' v (bT u)) ho hw hc hx hd hcf hcall (λv w w' Y' hS he hO=>?_);obtain⟨ho,hz⟩:=hO;obtain⟨q,cap,sp,rfl,hq,fB,hS'⟩:=fR hS he ho;refine⟨_,hS'.perm ve,?_⟩;rw[pw];refine hk _ _ rfl (λe=>?_) (hW.add hq oB);have:=hz e;cases q with
 |none=>rfl
 |some b=>cases this
theorem ff.nI{pre:Hl}(hW:lz tn Γ σ s)(hcf:∀args w,(callFunc gf args).run P w=.ok (.enter gf args) w)(hcall:∀w Y',St w0 S w (pre++iB tw tl er bw s) Y'->Cn P gf vs w (λv w'=>mL tn w w' v (bT u)))(hk:∀x s',x.f=bT u->x.Z->lz tn (x::Γ) σ s'->ff P r f R w0 S Y n (.inRegion ops rest::k) ((d,x.v)::l) (pre++iB tw tl er bw s'))(ho:ops[i]?=some ⟨some d,.call ⟨.value cal,az,ts⟩,ty,pos,aft,g⟩:=by exact rfl)(hw:fE ops l g=true:=by exact rfl)(hc:fW l cal=some (.func (.func gf) #[] #[]):=by exact rfl)(hx:iW l az.toList=some vs:=by exact rfl)(hd:Nat.blt d n=true:=by exact rfl):ff P r f R w0 S Y n (.inRegion ops (i::rest)::k) l (pre++iB tw tl er bw s):=ff.xX (hW:=hW) (ho:=ho) (hw:=hw) (hc:=hc) (hx:=hx) (hd:=hd) (hcf:=hcf) (hcall:=hcall) (hk:=hk)
theorem ff.Fk{pre:Hl}(hW:lz tn Γ σ s)(ho:ops[i]?=some ⟨some d,.call ⟨.value cal,az,ts⟩,ty,pos,aft,g⟩)(hw:fE ops l g=true)
  (hc:fW l cal=some (.func (.func gf) #[] #[]))(hx:iW l az.toList=some vs)(hd:Nat.blt d n=true)(hcf:∀args w,(callFunc gf args).run P w=.ok (.enter gf args) w)
  (hcall:∀w Y',St w0 S w (pre++iB tw tl er bw s) Y'->Cn P gf vs w (λv w'=>fQ tn w w' v (bT u)))
  (hk:∀x s',x.f=bT u->lz tn (x::Γ) σ s'->ff P r f R w0 S Y n (.inRegion ops rest::k) ((d,x.v)::l) (pre++iB tw tl er bw s')):
  ff P r f R w0 S Y n (.inRegion ops (i::rest)::k) l (pre++iB tw tl er bw s):=by
 refine ff.vM (λw v w'=>fQ tn w w' v (bT u)) ho hw hc hx hd hcf hcall (λv w w' Y' hS he hO=>?_);obtain⟨q,cap,sp,rfl,hq,fB,hS'⟩:=fR hS he hO;refine⟨_,hS'.perm ve,?_⟩;rw[pw];exact hk _ _ rfl (hW.add hq oB)
theorem ff.j9{pre hR hR':Hl}{s0:Ws}{er0:aC}{res:Nat×Sg}(h0:mg w0 (iB tw tl er0 bw s0++hR))(hW:lz tn Γ σ s)(hsub:hR'.Sublist (pre++hR))(ho:ops[i]?=some ⟨some d,.call ⟨.value cal,az,ts⟩,ty,pos,aft,g⟩)(hw:fE ops l g=true)
  (hc:fW l cal=some (.func (.func gf) #[] #[]))(hx:iW l az.toList=some vs)(hd:Nat.blt d n=true)(hcf:∀args w,(callFunc gf args).run P w=.ok (.enter gf args) w)
  (hcall:∀w Y',St w0 (iR (iB tw tl er0 bw s0)) w (pre++iB tw tl (ef σ.bad) bw s) Y'->AD P tn tw tl ef bw Γ σ gf vs w hR' res)
  (hk:∀s' Γ',lz tn Γ' res.2 s'->Γ⊆Γ'->ff P r f R w0 (iR (iB tw tl er0 bw s0)) Y n (.inRegion ops rest::k) ((d,aS (res.1:Int))::l) (pre++iB tw tl (ef res.2.bad) bw s')):
  ff P r f R w0 (iR (iB tw tl er0 bw s0)) Y n (.inRegion ops (i::rest)::k) l (pre++iB tw tl (ef σ.bad) bw s):=by
 refine jI (h':=iB tw tl (ef σ.bad) bw s++pre) cG ?_;refine ff.nQ (h:=iB tw tl (ef σ.bad) bw s) (hF:=pre) (fs:=[]) (cs:=[]) (λ_ v h'=>∃s' Γ',v=aS (res.1:Int)/\h'=iB tw tl (ef res.2.bad) bw s'/\lz tn Γ' res.2 s'/\Γ⊆Γ') ho hw hc hx hd hcf (λw Y' hS=>?_) (λw v h' hR2=>?_);rw[eh,dW];have hS2:=hS.perm (cG (l₁:=iB tw tl (ef σ.bad) bw s) (l₂:=pre));exact hcall w _ hS2 s hW ((h0.stay hS2).sub (cX aD hsub));obtain⟨s',Γ',rfl,rfl,hW',hs⟩:=hR2;exact jI cG (hk s' Γ' hW' hs)
theorem ff.jC{pre hR hR':Hl}{s0:Ws}{er0:aC}{res:Nat×Sg}(h0:mg w0 (iB tw tl er0 bw s0++hR))(hW:lz tn Γ σ s)(hsub:hR'.Sublist (pre++hR))(hcf:∀args w,(callFunc gf args).run P w=.ok (.enter gf args) w)(hcall:∀w Y',St w0 (iR (iB tw tl er0 bw s0)) w (pre++iB tw tl (ef σ.bad) bw s) Y'->AD P tn tw tl ef bw Γ σ gf vs w hR' res)(hk:∀s' Γ',lz tn Γ' res.2 s'->Γ⊆Γ'->ff P r f R w0 (iR (iB tw tl er0 bw s0)) Y n (.inRegion ops rest::k) ((d,aS (res.1:Int))::l) (pre++iB tw tl (ef res.2.bad) bw s'))(ho:ops[i]?=some ⟨some d,.call ⟨.value cal,az,ts⟩,ty,pos,aft,g⟩:=by exact rfl)(hw:fE ops l g=true:=by exact rfl)(hc:fW l cal=some (.func (.func gf) #[] #[]):=by exact rfl)(hx:iW l az.toList=some vs:=by exact rfl)(hd:Nat.blt d n=true:=by exact rfl):ff P r f R w0 (iR (iB tw tl er0 bw s0)) Y n (.inRegion ops (i::rest)::k) l (pre++iB tw tl (ef σ.bad) bw s):=ff.j9 (h0:=h0) (hW:=hW) (hsub:=hsub) (ho:=ho) (hw:=hw) (hc:=hc) (hx:=hx) (hd:=hd) (hcf:=hcf) (hcall:=hcall) (hk:=hk)
end
section
variable{P:av}{tn tw tl:ax}{er:aC}{ef:Bool->aC}{bw:Nat}{Γ:List FV}{σ:Sg}{s:Ws}
variable{r:ah}{f:ay}{R:aC->aB->Prop}{w0:aB}{S:aq}{Y:List (Nat×Obj)}{n:Nat}{k:al}{l:Fl}{ops:aj}{i d:Nat}{ty:ax}{pos:aA}{aft:ak}{g:Option (Nat×Bool)}
variable{az:aa}{ts:ab}{cal:au}{gf:ay}{vs:ai}{u:Tr}{hb:Hl}{q:Nat}{Dn:aq}
theorem Q1{pre:Hl}(hs:hb.Sublist (pre++Tg tw tl er bw s)){s':Ws}(e:Tg tw tl er bw s'=Tg tw tl er bw s):hb.Sublist (pre++iB tw tl er bw s'):=hs.trans (cX aD (by rw[<-e];exact Nr))
theorem gi.xX{pre:Hl}(hW:lz tn Γ σ s)(hs:hb.Sublist (pre++Tg tw tl er bw s))(h1:fL ops Dn=[i])(ho:ops[i]?=some ⟨some d,.call ⟨.value cal,az,ts⟩,ty,pos,aft,g⟩)(hw:fE ops l g=true)
  (hc:fW l cal=some (.func (.func gf) #[] #[]))(hx:iW l az.toList=some vs)(hd:Nat.blt d n=true)(hcf:∀args w,(callFunc gf args).run P w=.ok (.enter gf args) w)
  (hcall:∀w Y',St w0 S w (pre++iB tw tl er bw s) Y'->Cn P gf vs w (λv w'=>mL tn w w' v (bT u)))
  (hk:∀x p,x.f=bT u->x.Z->lz tn (x::Γ) σ (s.pH p)->gi P r f R w0 S Y n k ops hb q (i::Dn) ((d,x.v)::l) (pre++iB tw tl er bw (s.pH p))):
  gi P r f R w0 S Y n k ops hb (q+1) Dn l (pre++iB tw tl er bw s):=by
 refine gi.call (λw v w'=>mL tn w w' v (bT u)) h1 ho hw hc hx hd hcf hcall (λv w w' Y' hS he hO=>?_);obtain⟨ho,hz⟩:=hO;obtain⟨q,cap,sp,rfl,hq,fB,hS'⟩:=fR hS he ho;refine⟨_,hS'.perm ve,Q1 hs rfl,?_⟩;rw[pw];refine hk _ _ rfl (λe=>?_) (hW.add hq oB);have:=hz e;cases q with
 |none=>rfl
 |some b=>cases this
theorem gi.j9{pre hR hR':Hl}{s0:Ws}{er0:aC}{res:Nat×Sg}(h0:mg w0 (iB tw tl er0 bw s0++hR))(hW:lz tn Γ σ s)(hsub:hR'.Sublist (pre++hR))(hs:hb.Sublist pre)(h1:fL ops Dn=[i])(ho:ops[i]?=some ⟨some d,.call ⟨.value cal,az,ts⟩,ty,pos,aft,g⟩)(hw:fE ops l g=true)
  (hc:fW l cal=some (.func (.func gf) #[] #[]))(hx:iW l az.toList=some vs)(hd:Nat.blt d n=true)(hcf:∀args w,(callFunc gf args).run P w=.ok (.enter gf args) w)
  (hcall:∀w Y',St w0 (iR (iB tw tl er0 bw s0)) w (pre++iB tw tl (ef σ.bad) bw s) Y'->AD P tn tw tl ef bw Γ σ gf vs w hR' res)
  (hk:∀s' Γ',lz tn Γ' res.2 s'->Γ⊆Γ'->gi P r f R w0 (iR (iB tw tl er0 bw s0)) Y n k ops hb q (i::Dn) ((d,aS (res.1:Int))::l) (pre++iB tw tl (ef res.2.bad) bw s')):
  gi P r f R w0 (iR (iB tw tl er0 bw s0)) Y n k ops hb (q+1) Dn l (pre++iB tw tl (ef σ.bad) bw s):=by
 refine gi.nQ (hC:=iB tw tl (ef σ.bad) bw s) (hF:=pre) (fs:=[]) (cs:=[]) cG (λ_ v h'=>∃s' Γ',v=aS (res.1:Int)/\h'=iB tw tl (ef res.2.bad) bw s'/\lz tn Γ' res.2 s'/\Γ⊆Γ') h1 ho hw hc hx hd hcf (λw Y' hS=>?_) (λw v h' hR2=>?_);rw[eh,dW];have hS2:=hS.perm (cG (l₁:=iB tw tl (ef σ.bad) bw s) (l₂:=pre));exact hcall w _ hS2 s hW ((h0.stay hS2).sub (cX aD hsub));obtain⟨s',Γ',rfl,rfl,hW',hs'⟩:=hR2;exact⟨_,cG,hs.trans (bP _ _),hk s' Γ' hW' hs'⟩
theorem AD.of{gf:ay}{fn:Func}{c:Code}{args:ai}{w:aB}{hR:Hl}{res:Nat×Sg}(hf:P.funcs[gf]?=some fn)(hb:fn.body=some c)(hn:Nat.ble args.length fn.ntmps=true)
  (hgo:∀s,lz tn Γ σ s->mg w (iB tw tl (ef σ.bad) bw s++hR)->ff P none gf (λv w'=>∃h',(∃s' Γ',v=aS (res.1:Int)/\h'=iB tw tl (ef res.2.bad) bw s'/\lz tn Γ' res.2 s'/\Γ⊆Γ')/\St w (iR (iB tw tl (ef σ.bad) bw s)) w' h' []) w (iR (iB tw tl (ef σ.bad) bw s)) [] fn.ntmps [.code c] (Ar 0 args) (iB tw tl (ef σ.bad) bw s)):
  AD P tn tw tl ef bw Γ σ gf args w hR res:=λs hW hH=>wX.of (hH.sub (bP _ _)) hf hb hn (hgo s hW hH)
end
theorem Vr{tn tw tl:ax}{ef:Bool->aC}{bw:Nat}{Γ Γ':List FV}{res:Nat×Sg}{s':Ws}{w w':aB}{S:aq}{pre:Hl}{v:aC}(hv:v=aS (res.1:Int))(hW:lz tn Γ' res.2 s')(hg:Γ⊆Γ')(hS:St w S w' (pre++iB tw tl (ef res.2.bad) bw s') []):
  ∃h',(∃s' Γ',v=aS (res.1:Int)/\h'=iB tw tl (ef res.2.bad) bw s'/\lz tn Γ' res.2 s'/\Γ⊆Γ')/\St w S w' h' []:=⟨_,⟨s',Γ',hv,rfl,hW,hg⟩,hS.js (bG _ _)⟩
theorem lz.bad{tn:ax}{Γ:List FV}{σ:Sg}{s:Ws}{b:Bool}(h:lz tn Γ σ s):lz tn Γ ⟨σ.ls,b⟩ s:=⟨h.nil,h.cap,h.EN,h.JF,h.ctx,h.R0,h.S2⟩
theorem ko{tn tw tl:ax}{ef:Bool->aC}{bw:Nat}{Γ Γ':List FV}{res res':Nat×Sg}{s':Ws}{w w':aB}{S:aq}{pre:Hl}{v:aC}(he:res=res')(hv:v=aS (res'.1:Int))(hW:lz tn Γ' res'.2 s')(hg:Γ⊆Γ')(hS:St w S w' (pre++iB tw tl (ef res'.2.bad) bw s') []):
  ∃h',(∃s' Γ',v=aS (res.1:Int)/\h'=iB tw tl (ef res.2.bad) bw s'/\lz tn Γ' res.2 s'/\Γ⊆Γ')/\St w S w' h' []:=by subst he;exact Vr hv hW hg hS
structure Ta (S:aq) (w:aB) (a:ae) (xs:ar):Prop where
  at_:oD w a xs
  sep:∀b o,a=some ⟨b,o,none⟩->b∉S
theorem Ta.fD{S:aq}{w0 w:aB}{a:ae}{xs:ar}(h:Ta S w0 a xs)(e:Ex S w0 w):oD w a xs:=oD.fD h.at_ e h.sep
theorem mg.read{w:aB}{h0 hR:Hl}(g:mg w (h0++hR)){b:Nat}{o:Obj}(hm:(some b,o)∈hR):w.heap[b]?=some o/\b∉iR h0:=by
 refine⟨(g.own _ (cD _ hm) b rfl).1,λhb=>?_⟩;obtain⟨o',ho⟩:=np.1 hb;exact(cR.1 g.apart).2.2 _ ho _ hm b rfl rfl
theorem mg.Wy{w:aB}{h0 hR:Hl}(g:mg w (h0++hR)){q:ah}{xs:ar}{e:ax}{sp:ai}(hm:(q,ob gu e xs sp)∈hR)(hq:q=none->xs=[]):Ta (iR h0) w (q.map aP) xs:=by
 cases q with
 |none=>rw[hq rfl];exact⟨Sl.nil _ _,λb o e=>by cases e⟩
 |some b=>exact⟨Sl.jd (g.read hm).1,λb' o e=>by cases e;exact(g.read hm).2⟩
theorem lz.put{tn:ax}{Γ:List FV}{σ:Sg}{s:Ws}(h:lz tn Γ σ s){x:FV}(h1:x.yw tn s.H)(h2:x.f.length<=maxLen):lz tn (x::Γ) σ s:=⟨h.nil,h.cap,h.EN,h.JF,λy hy=>by
  rcases eH.1 hy with rfl|hy;exact⟨h1,h2⟩;exact h.ctx y hy,λy hy=>cM _ (h.R0 y hy),h.S2⟩
theorem mg.gZ{w:aB}{h:Hl}(g:mg w h)(o:Obj):mg w (h++[(none,o)]):=by
 constructor;intro p hp b hb;rcases ed.1 hp with hp|hp;exact g.own p hp b hb;rw[dn.1 hp]at hb;cases hb;refine cR.2 ⟨g.apart,List.pairwise_singleton _ _,λp _ q hq b _ hqb=>?_⟩;rw[dn.1 hq]at hqb;cases hqb
section
variable{P:av}{tn tw tl:ax}{ef:Bool->aC}{bw:Nat}{Γ:List FV}{σ:Sg}{s:Ws}
variable{r:ah}{f:ay}{R:aC->aB->Prop}{w0:aB}{S:aq}{Y:List (Nat×Obj)}{n:Nat}{k:al}{l:Fl}{ops:aj}{i d:Nat}{rest:aq}{ty:ax}{pos:aA}{aft:ak}{g:Option (Nat×Bool)}
variable{az:aa}{ts:ab}{cal:au}{gf:ay}{vs:ai}
theorem ff.Cs{pre hR':Hl}{res:Nat×Sg}(hW:lz tn Γ σ s)(hsub:hR'.Sublist pre)(ho:ops[i]?=some ⟨some d,.call ⟨.value cal,az,ts⟩,ty,pos,aft,g⟩)(hw:fE ops l g=true)
  (hc:fW l cal=some (.func (.func gf) #[] #[]))(hx:iW l az.toList=some vs)(hd:Nat.blt d n=true)(hcf:∀args w,(callFunc gf args).run P w=.ok (.enter gf args) w)
  (hcall:∀w Y',St w0 S w (pre++iB tw tl (ef σ.bad) bw s) Y'->AD P tn tw tl ef bw Γ σ gf vs w hR' res)
  (hk:∀s' Γ',lz tn Γ' res.2 s'->Γ⊆Γ'->ff P r f R w0 S Y n (.inRegion ops rest::k) ((d,aS (res.1:Int))::l) (pre++iB tw tl (ef res.2.bad) bw s')):
  ff P r f R w0 S Y n (.inRegion ops (i::rest)::k) l (pre++iB tw tl (ef σ.bad) bw s):=by
 refine jI (h':=iB tw tl (ef σ.bad) bw s++pre) cG ?_;refine ff.nQ (h:=iB tw tl (ef σ.bad) bw s) (hF:=pre) (fs:=[]) (cs:=[]) (λ_ v h'=>∃s' Γ',v=aS (res.1:Int)/\h'=iB tw tl (ef res.2.bad) bw s'/\lz tn Γ' res.2 s'/\Γ⊆Γ') ho hw hc hx hd hcf (λw Y' hS=>?_) (λw v h' hR2=>?_);rw[eh,dW];have hS2:=hS.perm (cG (l₁:=iB tw tl (ef σ.bad) bw s) (l₂:=pre));exact hcall w _ hS2 s hW (hS.has.sub (cX aD hsub));obtain⟨s',Γ',rfl,rfl,hW',hs⟩:=hR2;exact jI cG (hk s' Γ' hW' hs)
end
theorem lz.own{tn tw tl:ax}{Γ:List FV}{σ:Sg}{s:Ws}{er:aC}{bw:Nat}{w0 w:aB}{pre:Hl}{Y:List (Nat×Obj)}(h:lz tn Γ σ s)(hS:St w0 [] w (pre++iB tw tl er bw s) Y):uK tn tl w0 w (gx s.q s.ls.length s.cap) s.ls:=
 ⟨s.q,s.cap,s.sp,s.H,rfl,h.nil,h.cap,(ld.of hS).sub ((List.sublist_cons_self _ _).trans (bG pre _)),λx hx=>h.ctx _ (h.R0 x hx)⟩
theorem lz.start{tn:ax}:lz tn [] ⟨[],false⟩ ⟨none,0,[],[],[]⟩:=by
 refine⟨λ_=>⟨rfl,rfl⟩,rfl,rfl,aG,?_,?_,?_⟩<;>(intro _ h;cases h)
theorem nG.u64{P:av}{kt:ax}(hu:P.underlying kt=some (.int .u64)):nG P kt U (λa b:fi=>a==b):=
 .now hu (λe a w=>Go.MapKept.run_checkKey hu (by simp[Go.MapKept.IsKey,U]) e 9999) (λa b=>by
  simp only[U,Instr.sameNow,eY,dD];rw[dU,eU,eU];constructor;intro h;exact BitVec.eq_of_toNat_eq aH;intro h;rw[h])
abbrev qU(a b:fi):Bool:=a==b
theorem W9{ss:List fi}{u:fi}{r:Int}(h:(∃k:Nat,r=k/\ss[k]?=some u/\∀j,j<k->ss[j]?≠some u)\/(r=-1/\∀k:Nat,ss[k]?≠some u)):(0<=r->ss.findIdx? (·==u)=some r.toNat/\r=(r.toNat:Int))/\(¬0<=r->ss.findIdx? (·==u)=none):=by
 rcases h with⟨k,rfl,h1,h2⟩|⟨rfl,h⟩;refine⟨λ_=>⟨?_,by simp⟩,λh=>absurd (Int.natCast_nonneg k) h⟩;obtain⟨hk,he⟩:=bB.1 h1;rw[dy,List.findIdx?_eq_some_iff_getElem];refine⟨hk,by simp[he],λj hj=>?_⟩;have:=h2 j hj;rw[bJ aH]at this;simpa using λe=>this (by rw[e]);refine⟨λh=>absurd h aI,λ_=>?_⟩;rw[bt];intro y hy;obtain⟨k,hk⟩:=List.getElem?_of_mem hy;simpa using λe=>h k (by rw[hk,e])
abbrev eI(n:Nat):aC:=aS (n:Int)
structure Tx where
  tt:ax
  tn:ax
  ti:ax
  tu:ax
  ts:ax
  bs:Nat
  mr:Nat
  mo:Nat
  qb:ah
  cb:Nat
  sb:ai
  qn:ah
  cn:Nat
  sn:ai
structure Tm where
  L1:List (fi×Nat)
  L2:List (fi×Bool)
  qp:ah
  cp:Nat
  sp:ai
  qs:ah
  cs:Nat
  ss:List SV
  sq:ai
  H:Hl
def xz(l:Int)(vb vn:aC)(ag:fi)(mr mo:Nat)(vp vs:aC):af:=#[aS l,vb,vn,aS (ag.toNat:Int),.map (some mr),.map (some mo),vp,vs]
def uO(x:Tx)(c:TC)(path:List fi)(s:Tm):Hl:=
 (some x.bs,.cells (xz c.l (gx x.qb c.b.length x.cb) (gx x.qn c.ng.length x.cn) c.ag x.mr x.mo (gx s.qp path.length s.cp) (gx s.qs s.ss.length s.cs)) x.tt (0,0))::
 (x.qb,jR x.tn c.b x.sb)::(x.qn,ob gu x.ti c.ng x.sn)::(some x.mr,nZ U eI s.L1)::(some x.mo,nZ U Value.bool s.L2)::(s.qp,ob U x.tu path s.sp)::(s.qs,oY x.ts s.ss s.sq)::s.H
structure Ju (x:Tx) (c:TC):Prop where
  qb:x.qb=none->c.b.length=0
  qn:x.qn=none->c.ng.length=0
  ok:CG c
  WA:c.ng.length=c.b.length
  JF:c.b.length<=24
  ag:c.ag.toNat<16
structure wW (x:Tx) (σ:TS) (path:List fi) (s:Tm):Prop where
  m1:∀u,iJ qU s.L1 u=pg σ.ss u
  m2:∀u,iJ qU s.L2 u=if u∈σ.op then some true else none
  pn:s.qp=none->path.length=0/\s.cp=0
  pc:(path.map U++s.sp).length=s.cp
  sn:s.qs=none->s.ss.length=0/\s.cs=0
  sc:(s.ss.flatMap SV.cells++s.sq).length=s.cs*5
  EN:s.ss.map SV.d=σ.ss
  Ax:∀y∈s.ss,y.yw x.ti s.H/\y.d.fr.length<=maxLen
theorem wW.len{x:Tx}{σ:TS}{path:List fi}{s:Tm}(h:wW x σ path s):s.ss.length=σ.ss.length:=by have:=eV List.length h.EN;simpa using this
def Tm.pH(s:Tm)(p:ah×Obj):Tm:={s with H:=p::s.H}
theorem wW.pH{x:Tx}{σ:TS}{path:List fi}{s:Tm}(h:wW x σ path s)(p:ah×Obj):wW x σ path (s.pH p):=
 ⟨h.m1,h.m2,h.pn,h.pc,h.sn,h.sc,h.EN,λy hy=>⟨(h.Ax y hy).1.mono (cI _ _),(h.Ax y hy).2⟩⟩
theorem Fb{x:Tx}{c:TC}{path:List fi}{s:Tm}{p:ah×Obj}{pre:Hl}:(p::(pre++uO x c path s)).Perm (pre++uO x c path (s.pH p)):=by
 refine(dP (l₁:=pre) (a:=p)).symm.trans (List.Perm.append_left pre ?_);unfold uO Tm.pH;have sw:∀{a b:ah×Obj} {l l':Hl},(a::l).Perm l'->(a::b::l).Perm (b::l'):=λh=>(List.Perm.swap _ _ _).trans (h.cons _);exact sw (sw (sw (sw (sw (sw (sw (List.Perm.refl _)))))))
theorem Ol{ss:List SD}{u:fi}(h:∀y∈ss,y.set≠u):pg ss u=none:=by
 unfold pg;rw[bt];intro y hy;simpa using h y hy
theorem IQ{ss:List SD}{y:SD}(_hn:pg ss y.set=none)(u:fi):pg (ss++[y]) u=(pg ss u).or (if u=y.set then some ss.length else none):=by
 unfold pg at*;rw[List.findIdx?_append];by_cases e:u=y.set;subst e;simp;have:¬y.set=u:=λh=>e h.symm;simp[e,this]
theorem wW.step{x:Tx}{σ:TS}{path:List fi}{s:Tm}(h:wW x σ path s){y:SV}(hn:pg σ.ss y.d.set=none)(hy:y.yw x.ti s.H/\y.d.fr.length<=maxLen){b' cap':Nat}{sp':ai}(hlen:((s.ss++[y]).flatMap SV.cells++sp').length=cap'*5):
  wW x ⟨σ.ss++[y.d],σ.op⟩ path {s with L1:=s.L1++[(y.d.set,σ.ss.length)],qs:=some b',cs:=cap',ss:=s.ss++[y],sq:=sp'}:=
 ⟨(λu=>by
  rw[vq,h.m1,IQ hn]
  congr 1
  by_cases e:u=y.d.set;subst e;simp;have:¬(qU u y.d.set=true):=by simpa using e
  rw[if_neg this,if_neg e]),h.m2,h.pn,h.pc,aK,hlen,(by show(s.ss++[y]).map SV.d=_;rw[ec,h.EN];rfl),(λz hz=>by
  rcases ed.1 hz with hz|hz;exact h.Ax z hz;rw[dn.1 hz];exact hy)⟩
theorem wW.push{x:Tx}{σ:TS}{path:List fi}{s:Tm}(h:wW x σ path s){u:fi}{b' cap':Nat}{sp':ai}(hlen:((path++[u]).map U++sp').length=cap'):wW x σ (path++[u]) {s with qp:=some b',cp:=cap',sp:=sp'}:=
 ⟨h.m1,h.m2,aK,hlen,h.sn,h.sc,h.EN,h.Ax⟩
theorem wW.pop{x:Tx}{σ:TS}{path:List fi}{s:Tm}{u:fi}(h:wW x σ (path++[u]) s):wW x σ path {s with sp:=U u::s.sp}:=
 ⟨h.m1,h.m2,(λe=>by have:=(h.pn e).1;simp at this),by have:=h.pc;simp at this⊢;omega,h.sn,h.sc,h.EN,h.Ax⟩
theorem wW.W1{x:Tx}{σ:TS}{path:List fi}{s:Tm}(h:wW x σ path s){u:fi}:wW x ⟨σ.ss,σ.op++[u]⟩ path {s with L2:=s.L2++[(u,true)]}:=
 ⟨h.m1,(λv=>by
  rw[vq,h.m2];by_cases e1:v∈σ.op;rw[if_pos e1,if_pos (cK _ e1)];rfl;by_cases e2:v=u;subst e2;rw[if_neg e1,if_pos aL,if_pos aL];rfl;have:¬(qU v u=true):=by simpa using e2
  rw[if_neg e1,if_neg this,if_neg (by simp[e1,e2])];rfl),h.pn,h.pc,h.sn,h.sc,h.EN,h.Ax⟩
def H8(x:Tx)(c:TC)(res:aC)(σ':TS)(path':List fi)(H0:Hl)(v:aC)(h':Hl):Prop:=∃s',v=res/\h'=uO x c path' s'/\wW x σ' path' s'/\H0⊆s'.H
def PW(P:av)(x:Tx)(c:TC)(path:List fi)(s:Tm)(gf:ay)(args:ai)(w:aB)(res:aC)(σ':TS)(path':List fi):Prop:=
 mg w (uO x c path s)->wX P gf args w (uO x c path s) (H8 x c res σ' path' s.H)
section
variable{P:av}{x:Tx}{c:TC}{σ σ':TS}{path path':List fi}{s:Tm}{res:aC}
variable{r:ah}{f:ay}{R:aC->aB->Prop}{w0:aB}{S:aq}{Y:List (Nat×Obj)}{n:Nat}{k:al}{l:Fl}{ops:aj}{i d:Nat}{rest:aq}{ty:ax}{pos:aA}{aft:ak}{g:Option (Nat×Bool)}
variable{az:aa}{ts:ab}{cal:au}{gf:ay}{vs:ai}
theorem ff.zQ{pre:Hl}(ho:ops[i]?=some ⟨some d,.call ⟨.value cal,az,ts⟩,ty,pos,aft,g⟩)(hw:fE ops l g=true)
  (hc:fW l cal=some (.func (.func gf) #[] #[]))(hx:iW l az.toList=some vs)(hd:Nat.blt d n=true)(hcf:∀args w,(callFunc gf args).run P w=.ok (.enter gf args) w)
  (hcall:∀w,PW P x c path s gf vs w res σ' path')
  (hk:∀s',wW x σ' path' s'->s.H⊆s'.H->ff P r f R w0 S Y n (.inRegion ops rest::k) ((d,res)::l) (pre++uO x c path' s')):
  ff P r f R w0 S Y n (.inRegion ops (i::rest)::k) l (pre++uO x c path s):=by
 refine jI (h':=uO x c path s++pre) cG ?_;refine ff.nQ (h:=uO x c path s) (hF:=pre) (fs:=[]) (cs:=[]) (λ_=>H8 x c res σ' path' s.H) ho hw hc hx hd hcf (λw Y' hS=>?_) (λw v h' hR2=>?_);rw[eh,dW];exact hcall w (hS.has.sub (bP _ _));obtain⟨s',rfl,rfl,hT',hs⟩:=hR2;exact jI cG (hk s' hT' hs)
theorem PW.of{gf:ay}{fn:Func}{cd:Code}{args:ai}{w:aB}(hf:P.funcs[gf]?=some fn)(hb:fn.body=some cd)(hn:Nat.ble args.length fn.ntmps=true)
  (hgo:ff P none gf (λv w'=>∃h',H8 x c res σ' path' s.H v h'/\St w (iR (uO x c path s)) w' h' []) w (iR (uO x c path s)) [] fn.ntmps [.code cd] (Ar 0 args) (uO x c path s)):
  PW P x c path s gf args w res σ' path':=λhH=>wX.of hH hf hb hn hgo
end
theorem xy{x:Tx}{c:TC}{σ':TS}{path':List fi}{H0:Hl}{s':Tm}{res v:aC}{w w':aB}{S:aq}{pre:Hl}(hv:v=res)(hT:wW x σ' path' s')(hs:H0⊆s'.H)(hS:St w S w' (pre++uO x c path' s') []):
  ∃h',H8 x c res σ' path' H0 v h'/\St w S w' h' []:=⟨_,⟨s',hv,rfl,hT,hs⟩,hS.js (bG _ _)⟩
structure PY (w:aB) (x:Tx) (c:TC) (vp vs:aC):Prop where
  jd:w.heap[x.bs]?=some (.cells (xz c.l (gx x.qb c.b.length x.cb) (gx x.qn c.ng.length x.cn) c.ag x.mr x.mo vp vs) x.tt (0,0))
  fa:FA w (x.qb.map aP) c.b
  na:oD w (x.qn.map aP) c.ng
theorem PY.ex{w w':aB}{x:Tx}{c:TC}{vp vs:aC}(h:PY w x c vp vs)(e:Ex [] w w'):PY w' x c vp vs:=⟨e.mu h.jd,h.fa.fD e,h.na.fD e⟩
theorem Q3{x:Tx}{c:TC}(hx:Ju x c){w0 w:aB}{S:aq}{pre:Hl}{Y:List (Nat×Obj)}{path:List fi}{s:Tm}(hS:St w0 S w (pre++uO x c path s) Y):PY w x c (gx s.qp path.length s.cp) (gx s.qs s.ss.length s.cs):=by
 have hm:∀p∈uO x c path s,∀b,p.1=some b->w.heap[b]?=some p.2:=λp hp b hb=>(hS.own p (cD _ hp) b hb).1;refine⟨hm _ aF _ rfl,?_,?_⟩;cases e:x.qb with
 |none=>rw[aV (hx.qb e)];exact⟨Sl.nil _ _⟩
 |some b=>exact⟨Sl.jd (hm (x.qb,jR x.tn c.b x.sb) (by simp[uO]) b e)⟩
 cases e:x.qn with
 |none=>rw[aV (hx.qn e)];exact Sl.nil _ _
 |some b=>exact Sl.jd (hm (x.qn,ob gu x.ti c.ng x.sn) (by simp[uO]) b e)
end Go.Proofs.Wit
