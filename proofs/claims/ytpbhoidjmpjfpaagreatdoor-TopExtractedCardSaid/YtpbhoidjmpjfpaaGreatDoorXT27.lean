/- Laws of walks, each under its own conditions. -/
import Derived.Test.YtpbhoidjmpjfpaaGreatDoorXT26
set_option maxRecDepth 100000
set_option maxHeartbeats 40000000
namespace Go.Proofs.Wit
open Go Go.RowKit
structure Ws where
  q:ah
  cap:Nat
  ls:List LV
  sp:ai
  H:Hl
def Md(tw tl:ax)(er:aC)(bw:Nat)(s:Ws):Hl:=[(some bw,.cells #[fL s.q s.ls.length s.cap,er] tw (0,0)),(s.q,Ke tl s.ls s.sp)]
def gw(tw tl:ax)(er:aC)(bw:Nat)(s:Ws):Hl:=(some bw,.cells #[fL s.q s.ls.length s.cap,er] tw (0,0))::(s.q,Ke tl s.ls s.sp)::s.H
theorem GL{tw tl:ax}{er:aC}{bw:Nat}{s:Ws}:(Md tw tl er bw s).Sublist (gw tw tl er bw s):=.cons_cons _ (.cons_cons _ aE)
def Ws.nC(s:Ws)(p:ah×Obj):Ws:={s with H:=p::s.H}
structure kf (tn:ax) (Γ:List FV) (σ:Sg) (s:Ws):Prop where
  nil:s.q=none->s.ls.length=0/\s.cap=0
  cap:(s.ls.flatMap LV.cells++s.sp).length=s.cap*5
  Al:s.ls.map LV.d=σ.ls.map (λx=>x.v.d)
  DL:s.ls.length<=400
  ctx:∀x∈Γ,x.uW tn s.H/\x.f.length<=maxLen
  KU:∀x∈s.ls,x.f∈Γ
  LW:∀x∈σ.ls,x.t.ok
section
variable{tn tw tl:ax}{er:aC}{bw:Nat}{Γ:List FV}{σ:Sg}{s:Ws}
theorem kf.len(h:kf tn Γ σ s):s.ls.length=σ.ls.length:=by have:=eh List.length h.Al;simpa using this
theorem kf.at(h:kf tn Γ σ s){k:Nat}(hk:k<s.ls.length):s.ls[k].f.f=bT (lg σ k)/\(lg σ k).ok/\s.ls[k].f∈Γ:=by
 have hk2:k<σ.ls.length:=by rw[<-h.len];exact hk
 have h1:s.ls[k].d=(σ.ls[k]).v.d:=by
  have:=eh (λl=>l[k]?) h.Al;simpa[hk,hk2]using this
 have ht:lg σ k=(σ.ls[k]).t:=by simp[lg,hk2]
 refine⟨?_,by rw[ht];exact h.LW _ (dq hk2),h.KU _ (dq hk)⟩;rw[ht];exact eh LD.f h1
theorem kf.fa(h:kf tn Γ σ s){x:FV}(hx:x∈Γ){w0 w:aB}{S:aq}{pre:Hl}{Y:List (Nat×Obj)}(hS:St w0 S w (pre++gw tw tl er bw s) Y):FA w x.a x.f:=
 ((h.ctx x hx).1.mono (λ_ hp=>bX _ (cy _ (cy _ hp)))).at hS
theorem kf.add(h:kf tn Γ σ s){q:ah}{f:List NV}{cap:Nat}{sp:ai}(hq:q=none->f.length=0/\cap=0)(hl:f.length<=maxLen):kf tn (⟨q.map aP,cap,f⟩::Γ) σ (s.nC (q,jc tn f sp)):=
 ⟨h.nil,h.cap,h.Al,h.DL,λx hx=>by
  rcases dS.1 hx with rfl|hx;exact⟨⟨q,sp,aF,rfl,λe=>(hq e).1⟩,hl⟩;exact⟨(h.ctx x hx).1.mono (cm _ _),(h.ctx x hx).2⟩,λx hx=>cy _ (h.KU x hx),h.LW⟩
def FV.Z(x:FV):Prop:=x.f=[]->x.a=none
theorem kf.OB(h:kf tn Γ σ s){x:FV}(hx:x∈Γ)(hz:x.Z):x.a=none↔x.f=[]:=by
 refine⟨λe=>?_,hz⟩;obtain⟨q,sp,_,h2,h3⟩:=(h.ctx x hx).1;cases q with
 |none=>exact aV (h3 rfl)
 |some b=>rw[h2]at e;cases e
end
theorem kN.stay{w0 w1:aB}{h0 hR pre h1:Hl}{Y:List (Nat×Obj)}(g:kN w0 (h0++hR))(s:St w0 (gV h0) w1 (pre++h1) Y):kN w1 (h1++(pre++hR)):=by
 have hap:=cH.1 g.apart;have hkeep:∀p∈hR,∀b,p.1=some b->w1.heap[b]?=some p.2/\b<w0.heap.size/\b∉gV h0:=λp hp b hb=>by
  have h2:=(g.own p (bX _ hp) b hb).1;have hlt:=(aX.1 h2).1;have hn:b∉gV h0:=λhm=>by
   obtain⟨o,ho⟩:=lL.1 hm;exact hap.2.2 _ ho p hp b rfl hb
  exact⟨by rw[s.ext.block b hlt hn];exact h2,hlt,hn⟩
 have hs:=cH.1 s.apart;have hcross:∀p∈pre++h1,∀q∈hR,rn p q:=λp hp q hq b hb hqb=>by
  obtain⟨_,hlt,hn⟩:=hkeep q hq b hqb;rcases(s.own p hp b hb).2.2 with h|h;omega;exact hn h
 refine⟨λp hp b hb=>?_,?_⟩;rcases dG.1 hp with hp|hp;exact⟨(s.own p (bX _ hp) b hb).1,(s.own p (bX _ hp) b hb).2.1⟩;rcases dG.1 hp with hp|hp;exact⟨(s.own p (cx _ hp) b hb).1,(s.own p (cx _ hp) b hb).2.1⟩;exact⟨(hkeep p hp b hb).1,(g.own p (bX _ hp) b hb).2⟩;refine cH.2 ⟨hs.2.1,cH.2 ⟨hs.1,hap.2.1,λp hp q hq=>hcross p (cx _ hp) q hq⟩,λp hp q hq=>?_⟩;rcases dG.1 hq with hq|hq;exact λb hb hqb=>hs.2.2 q hq p hp b hqb hb;exact hcross p (bX _ hp) q hq
def wJ(P:av)(tn tw tl:ax)(ef:Bool->aC)(bw:Nat)(Γ:List FV)(σ:Sg)(gf:ay)(args:ai)(w:aB)(hR:Hl)(r:Nat×Sg):Prop:=
 ∀s,kf tn Γ σ s->kN w (gw tw tl (ef σ.bad) bw s++hR)->tU P gf args w (gw tw tl (ef σ.bad) bw s) (λv h'=>∃s' Γ',v=aS (r.1:Int)/\h'=gw tw tl (ef r.2.bad) bw s'/\kf tn Γ' r.2 s'/\Γ⊆Γ')
section
variable{P:av}{tn tw tl:ax}{er:aC}{ef:Bool->aC}{bw:Nat}{Γ:List FV}{σ:Sg}{s:Ws}
variable{r:ah}{f:ay}{R:aC->aB->Prop}{w0:aB}{S:aq}{Y:List (Nat×Obj)}{n:Nat}{k:al}{l:Fl}{ops:aj}{i d:Nat}{rest:aq}{ty:ax}{pos:aA}{aft:ak}{g:Option (Nat×Bool)}
variable{az:aa}{ts:ab}{cal:au}{gf:ay}{vs:ai}{u:Tr}
theorem nk{q:ah}{f:List NV}{cap:Nat}:fL q f.length cap=FV.v ⟨q.map aP,cap,f⟩:=by cases q<;>rfl
theorem l4{t:Tr}:(bT t).length<=maxLen:=eU rfl
theorem rS{p:ah×Obj}{pre:Hl}:(p::(pre++gw tw tl er bw s)).Perm (pre++gw tw tl er bw (s.nC p)):=by
 refine(List.perm_middle (l₁:=pre) (a:=p)).symm.trans (List.Perm.append_left pre ?_);unfold gw Ws.nC;exact(List.Perm.swap _ _ _).trans (List.Perm.cons _ (List.Perm.swap _ _ _))
theorem eB.uL{pre:Hl}(hW:kf tn Γ σ s)(ho:ops[i]?=some ⟨some d,.call ⟨.value cal,az,ts⟩,ty,pos,aft,g⟩)(hw:eL ops l g=true)
  (hc:eZ l cal=some (.func (.func gf) #[] #[]))(hx:iw l az.toList=some vs)(hd:Nat.blt d n=true)(hcf:∀args w,(callFunc gf args).run P w=.ok (.enter gf args) w)
  (hcall:∀w Y',St w0 S w (pre++gw tw tl er bw s) Y'->Cn P gf vs w (λv w'=>lq tn w w' v (bT u)))
  (hk:∀x s',x.f=bT u->x.Z->kf tn (x::Γ) σ s'->eB P r f R w0 S Y n (.inRegion ops rest::k) ((d,x.v)::l) (pre++gw tw tl er bw s')):
  eB P r f R w0 S Y n (.inRegion ops (i::rest)::k) l (pre++gw tw tl er bw s):=by
 refine eB.sP (λw v w'=>lq tn w w' v (bT u)) ho hw hc hx hd hcf hcall (λv w w' Y' hS he hO=>?_);obtain⟨ho,hz⟩:=hO;obtain⟨q,cap,sp,rfl,hq,eK,hS'⟩:=eW hS he ho;refine⟨_,hS'.perm rS,?_⟩;rw[nk];refine hk _ _ rfl (λe=>?_) (hW.add hq l4);have:=hz e;cases q with
 |none=>rfl
 |some b=>cases this
theorem eB.lT{pre:Hl}(hW:kf tn Γ σ s)(hcf:∀args w,(callFunc gf args).run P w=.ok (.enter gf args) w)(hcall:∀w Y',St w0 S w (pre++gw tw tl er bw s) Y'->Cn P gf vs w (λv w'=>lq tn w w' v (bT u)))(hk:∀x s',x.f=bT u->x.Z->kf tn (x::Γ) σ s'->eB P r f R w0 S Y n (.inRegion ops rest::k) ((d,x.v)::l) (pre++gw tw tl er bw s'))(ho:ops[i]?=some ⟨some d,.call ⟨.value cal,az,ts⟩,ty,pos,aft,g⟩:=by exact rfl)(hw:eL ops l g=true:=by exact rfl)(hc:eZ l cal=some (.func (.func gf) #[] #[]):=by exact rfl)(hx:iw l az.toList=some vs:=by exact rfl)(hd:Nat.blt d n=true:=by exact rfl):eB P r f R w0 S Y n (.inRegion ops (i::rest)::k) l (pre++gw tw tl er bw s):=eB.uL (hW:=hW) (ho:=ho) (hw:=hw) (hc:=hc) (hx:=hx) (hd:=hd) (hcf:=hcf) (hcall:=hcall) (hk:=hk)
theorem eB.AG{pre:Hl}(hW:kf tn Γ σ s)(ho:ops[i]?=some ⟨some d,.call ⟨.value cal,az,ts⟩,ty,pos,aft,g⟩)(hw:eL ops l g=true)
  (hc:eZ l cal=some (.func (.func gf) #[] #[]))(hx:iw l az.toList=some vs)(hd:Nat.blt d n=true)(hcf:∀args w,(callFunc gf args).run P w=.ok (.enter gf args) w)
  (hcall:∀w Y',St w0 S w (pre++gw tw tl er bw s) Y'->Cn P gf vs w (λv w'=>eV tn w w' v (bT u)))
  (hk:∀x s',x.f=bT u->kf tn (x::Γ) σ s'->eB P r f R w0 S Y n (.inRegion ops rest::k) ((d,x.v)::l) (pre++gw tw tl er bw s')):
  eB P r f R w0 S Y n (.inRegion ops (i::rest)::k) l (pre++gw tw tl er bw s):=by
 refine eB.sP (λw v w'=>eV tn w w' v (bT u)) ho hw hc hx hd hcf hcall (λv w w' Y' hS he hO=>?_);obtain⟨q,cap,sp,rfl,hq,eK,hS'⟩:=eW hS he hO;refine⟨_,hS'.perm rS,?_⟩;rw[nk];exact hk _ _ rfl (hW.add hq l4)
theorem eB.jr{pre hR hR':Hl}{s0:Ws}{er0:aC}{res:Nat×Sg}(h0:kN w0 (gw tw tl er0 bw s0++hR))(hW:kf tn Γ σ s)(hsub:hR'.Sublist (pre++hR))(ho:ops[i]?=some ⟨some d,.call ⟨.value cal,az,ts⟩,ty,pos,aft,g⟩)(hw:eL ops l g=true)
  (hc:eZ l cal=some (.func (.func gf) #[] #[]))(hx:iw l az.toList=some vs)(hd:Nat.blt d n=true)(hcf:∀args w,(callFunc gf args).run P w=.ok (.enter gf args) w)
  (hcall:∀w Y',St w0 (gV (gw tw tl er0 bw s0)) w (pre++gw tw tl (ef σ.bad) bw s) Y'->wJ P tn tw tl ef bw Γ σ gf vs w hR' res)
  (hk:∀s' Γ',kf tn Γ' res.2 s'->Γ⊆Γ'->eB P r f R w0 (gV (gw tw tl er0 bw s0)) Y n (.inRegion ops rest::k) ((d,aS (res.1:Int))::l) (pre++gw tw tl (ef res.2.bad) bw s')):
  eB P r f R w0 (gV (gw tw tl er0 bw s0)) Y n (.inRegion ops (i::rest)::k) l (pre++gw tw tl (ef σ.bad) bw s):=by
 refine iP (h':=gw tw tl (ef σ.bad) bw s++pre) bZ ?_;refine eB.l0 (h:=gw tw tl (ef σ.bad) bw s) (hF:=pre) (fs:=[]) (cs:=[]) (λ_ v h'=>∃s' Γ',v=aS (res.1:Int)/\h'=gw tw tl (ef res.2.bad) bw s'/\kf tn Γ' res.2 s'/\Γ⊆Γ') ho hw hc hx hd hcf (λw Y' hS=>?_) (λw v h' hR2=>?_);rw[dI,dC];have hS2:=hS.perm (bZ (l₁:=gw tw tl (ef σ.bad) bw s) (l₂:=pre));exact hcall w _ hS2 s hW ((h0.stay hS2).sub (cJ aD hsub));obtain⟨s',Γ',rfl,rfl,hW',hs⟩:=hR2;exact iP bZ (hk s' Γ' hW' hs)
theorem eB.iH{pre hR hR':Hl}{s0:Ws}{er0:aC}{res:Nat×Sg}(h0:kN w0 (gw tw tl er0 bw s0++hR))(hW:kf tn Γ σ s)(hsub:hR'.Sublist (pre++hR))(hcf:∀args w,(callFunc gf args).run P w=.ok (.enter gf args) w)(hcall:∀w Y',St w0 (gV (gw tw tl er0 bw s0)) w (pre++gw tw tl (ef σ.bad) bw s) Y'->wJ P tn tw tl ef bw Γ σ gf vs w hR' res)(hk:∀s' Γ',kf tn Γ' res.2 s'->Γ⊆Γ'->eB P r f R w0 (gV (gw tw tl er0 bw s0)) Y n (.inRegion ops rest::k) ((d,aS (res.1:Int))::l) (pre++gw tw tl (ef res.2.bad) bw s'))(ho:ops[i]?=some ⟨some d,.call ⟨.value cal,az,ts⟩,ty,pos,aft,g⟩:=by exact rfl)(hw:eL ops l g=true:=by exact rfl)(hc:eZ l cal=some (.func (.func gf) #[] #[]):=by exact rfl)(hx:iw l az.toList=some vs:=by exact rfl)(hd:Nat.blt d n=true:=by exact rfl):eB P r f R w0 (gV (gw tw tl er0 bw s0)) Y n (.inRegion ops (i::rest)::k) l (pre++gw tw tl (ef σ.bad) bw s):=eB.jr (h0:=h0) (hW:=hW) (hsub:=hsub) (ho:=ho) (hw:=hw) (hc:=hc) (hx:=hx) (hd:=hd) (hcf:=hcf) (hcall:=hcall) (hk:=hk)
end
section
variable{P:av}{tn tw tl:ax}{er:aC}{ef:Bool->aC}{bw:Nat}{Γ:List FV}{σ:Sg}{s:Ws}
variable{r:ah}{f:ay}{R:aC->aB->Prop}{w0:aB}{S:aq}{Y:List (Nat×Obj)}{n:Nat}{k:al}{l:Fl}{ops:aj}{i d:Nat}{ty:ax}{pos:aA}{aft:ak}{g:Option (Nat×Bool)}
variable{az:aa}{ts:ab}{cal:au}{gf:ay}{vs:ai}{u:Tr}{hb:Hl}{q:Nat}{Dn:aq}
theorem JV{pre:Hl}(hs:hb.Sublist (pre++Md tw tl er bw s)){s':Ws}(e:Md tw tl er bw s'=Md tw tl er bw s):hb.Sublist (pre++gw tw tl er bw s'):=hs.trans (cJ aD (by rw[<-e];exact GL))
theorem fh.uL{pre:Hl}(hW:kf tn Γ σ s)(hs:hb.Sublist (pre++Md tw tl er bw s))(h1:eR ops Dn=[i])(ho:ops[i]?=some ⟨some d,.call ⟨.value cal,az,ts⟩,ty,pos,aft,g⟩)(hw:eL ops l g=true)
  (hc:eZ l cal=some (.func (.func gf) #[] #[]))(hx:iw l az.toList=some vs)(hd:Nat.blt d n=true)(hcf:∀args w,(callFunc gf args).run P w=.ok (.enter gf args) w)
  (hcall:∀w Y',St w0 S w (pre++gw tw tl er bw s) Y'->Cn P gf vs w (λv w'=>lq tn w w' v (bT u)))
  (hk:∀x p,x.f=bT u->x.Z->kf tn (x::Γ) σ (s.nC p)->fh P r f R w0 S Y n k ops hb q (i::Dn) ((d,x.v)::l) (pre++gw tw tl er bw (s.nC p))):
  fh P r f R w0 S Y n k ops hb (q+1) Dn l (pre++gw tw tl er bw s):=by
 refine fh.call (λw v w'=>lq tn w w' v (bT u)) h1 ho hw hc hx hd hcf hcall (λv w w' Y' hS he hO=>?_);obtain⟨ho,hz⟩:=hO;obtain⟨q,cap,sp,rfl,hq,eK,hS'⟩:=eW hS he ho;refine⟨_,hS'.perm rS,JV hs rfl,?_⟩;rw[nk];refine hk _ _ rfl (λe=>?_) (hW.add hq l4);have:=hz e;cases q with
 |none=>rfl
 |some b=>cases this
theorem fh.jr{pre hR hR':Hl}{s0:Ws}{er0:aC}{res:Nat×Sg}(h0:kN w0 (gw tw tl er0 bw s0++hR))(hW:kf tn Γ σ s)(hsub:hR'.Sublist (pre++hR))(hs:hb.Sublist pre)(h1:eR ops Dn=[i])(ho:ops[i]?=some ⟨some d,.call ⟨.value cal,az,ts⟩,ty,pos,aft,g⟩)(hw:eL ops l g=true)
  (hc:eZ l cal=some (.func (.func gf) #[] #[]))(hx:iw l az.toList=some vs)(hd:Nat.blt d n=true)(hcf:∀args w,(callFunc gf args).run P w=.ok (.enter gf args) w)
  (hcall:∀w Y',St w0 (gV (gw tw tl er0 bw s0)) w (pre++gw tw tl (ef σ.bad) bw s) Y'->wJ P tn tw tl ef bw Γ σ gf vs w hR' res)
  (hk:∀s' Γ',kf tn Γ' res.2 s'->Γ⊆Γ'->fh P r f R w0 (gV (gw tw tl er0 bw s0)) Y n k ops hb q (i::Dn) ((d,aS (res.1:Int))::l) (pre++gw tw tl (ef res.2.bad) bw s')):
  fh P r f R w0 (gV (gw tw tl er0 bw s0)) Y n k ops hb (q+1) Dn l (pre++gw tw tl (ef σ.bad) bw s):=by
 refine fh.l0 (hC:=gw tw tl (ef σ.bad) bw s) (hF:=pre) (fs:=[]) (cs:=[]) bZ (λ_ v h'=>∃s' Γ',v=aS (res.1:Int)/\h'=gw tw tl (ef res.2.bad) bw s'/\kf tn Γ' res.2 s'/\Γ⊆Γ') h1 ho hw hc hx hd hcf (λw Y' hS=>?_) (λw v h' hR2=>?_);rw[dI,dC];have hS2:=hS.perm (bZ (l₁:=gw tw tl (ef σ.bad) bw s) (l₂:=pre));exact hcall w _ hS2 s hW ((h0.stay hS2).sub (cJ aD hsub));obtain⟨s',Γ',rfl,rfl,hW',hs'⟩:=hR2;exact⟨_,bZ,hs.trans (bL _ _),hk s' Γ' hW' hs'⟩
theorem wJ.of{gf:ay}{fn:Func}{c:Code}{args:ai}{w:aB}{hR:Hl}{res:Nat×Sg}(hf:P.funcs[gf]?=some fn)(hb:fn.body=some c)(hn:Nat.ble args.length fn.ntmps=true)
  (hgo:∀s,kf tn Γ σ s->kN w (gw tw tl (ef σ.bad) bw s++hR)->eB P none gf (λv w'=>∃h',(∃s' Γ',v=aS (res.1:Int)/\h'=gw tw tl (ef res.2.bad) bw s'/\kf tn Γ' res.2 s'/\Γ⊆Γ')/\St w (gV (gw tw tl (ef σ.bad) bw s)) w' h' []) w (gV (gw tw tl (ef σ.bad) bw s)) [] fn.ntmps [.code c] (xS 0 args) (gw tw tl (ef σ.bad) bw s)):
  wJ P tn tw tl ef bw Γ σ gf args w hR res:=λs hW hH=>tU.of (hH.sub (bL _ _)) hf hb hn (hgo s hW hH)
end
theorem Oo{tn tw tl:ax}{ef:Bool->aC}{bw:Nat}{Γ Γ':List FV}{res:Nat×Sg}{s':Ws}{w w':aB}{S:aq}{pre:Hl}{v:aC}(hv:v=aS (res.1:Int))(hW:kf tn Γ' res.2 s')(hg:Γ⊆Γ')(hS:St w S w' (pre++gw tw tl (ef res.2.bad) bw s') []):
  ∃h',(∃s' Γ',v=aS (res.1:Int)/\h'=gw tw tl (ef res.2.bad) bw s'/\kf tn Γ' res.2 s'/\Γ⊆Γ')/\St w S w' h' []:=⟨_,⟨s',Γ',hv,rfl,hW,hg⟩,hS.iV (bE _ _)⟩
theorem kf.bad{tn:ax}{Γ:List FV}{σ:Sg}{s:Ws}{b:Bool}(h:kf tn Γ σ s):kf tn Γ ⟨σ.ls,b⟩ s:=⟨h.nil,h.cap,h.Al,h.DL,h.ctx,h.KU,h.LW⟩
theorem jy{tn tw tl:ax}{ef:Bool->aC}{bw:Nat}{Γ Γ':List FV}{res res':Nat×Sg}{s':Ws}{w w':aB}{S:aq}{pre:Hl}{v:aC}(he:res=res')(hv:v=aS (res'.1:Int))(hW:kf tn Γ' res'.2 s')(hg:Γ⊆Γ')(hS:St w S w' (pre++gw tw tl (ef res'.2.bad) bw s') []):
  ∃h',(∃s' Γ',v=aS (res.1:Int)/\h'=gw tw tl (ef res.2.bad) bw s'/\kf tn Γ' res.2 s'/\Γ⊆Γ')/\St w S w' h' []:=by subst he;exact Oo hv hW hg hS
structure L7 (S:aq) (w:aB) (a:ae) (xs:ar):Prop where
  at_:mJ w a xs
  sep:∀b o,a=some ⟨b,o,none⟩->b∉S
theorem L7.eQ{S:aq}{w0 w:aB}{a:ae}{xs:ar}(h:L7 S w0 a xs)(e:Ex S w0 w):mJ w a xs:=mJ.eQ h.at_ e h.sep
theorem kN.read{w:aB}{h0 hR:Hl}(g:kN w (h0++hR)){b:Nat}{o:Obj}(hm:(some b,o)∈hR):w.heap[b]?=some o/\b∉gV h0:=by
 refine⟨(g.own _ (bX _ hm) b rfl).1,λhb=>?_⟩;obtain⟨o',ho⟩:=lL.1 hb;exact(cH.1 g.apart).2.2 _ ho _ hm b rfl rfl
theorem kN.Pp{w:aB}{h0 hR:Hl}(g:kN w (h0++hR)){q:ah}{xs:ar}{e:ax}{sp:ai}(hm:(q,ob fH e xs sp)∈hR)(hq:q=none->xs=[]):L7 (gV h0) w (q.map aP) xs:=by
 cases q with
 |none=>rw[hq rfl];exact⟨Sl.nil _ _,λb o e=>by cases e⟩
 |some b=>exact⟨Sl.ie (g.read hm).1,λb' o e=>by cases e;exact(g.read hm).2⟩
theorem kf.put{tn:ax}{Γ:List FV}{σ:Sg}{s:Ws}(h:kf tn Γ σ s){x:FV}(h1:x.uW tn s.H)(h2:x.f.length<=maxLen):kf tn (x::Γ) σ s:=⟨h.nil,h.cap,h.Al,h.DL,λy hy=>by
  rcases dS.1 hy with rfl|hy;exact⟨h1,h2⟩;exact h.ctx y hy,λy hy=>cy _ (h.KU y hy),h.LW⟩
theorem kN.gi{w:aB}{h:Hl}(g:kN w h)(o:Obj):kN w (h++[(none,o)]):=by
 constructor;intro p hp b hb;rcases dG.1 hp with hp|hp;exact g.own p hp b hb;rw[cS.1 hp]at hb;cases hb;refine cH.2 ⟨g.apart,List.pairwise_singleton _ _,λp _ q hq b _ hqb=>?_⟩;rw[cS.1 hq]at hqb;cases hqb
section
variable{P:av}{tn tw tl:ax}{ef:Bool->aC}{bw:Nat}{Γ:List FV}{σ:Sg}{s:Ws}
variable{r:ah}{f:ay}{R:aC->aB->Prop}{w0:aB}{S:aq}{Y:List (Nat×Obj)}{n:Nat}{k:al}{l:Fl}{ops:aj}{i d:Nat}{rest:aq}{ty:ax}{pos:aA}{aft:ak}{g:Option (Nat×Bool)}
variable{az:aa}{ts:ab}{cal:au}{gf:ay}{vs:ai}
theorem eB.yE{pre hR':Hl}{res:Nat×Sg}(hW:kf tn Γ σ s)(hsub:hR'.Sublist pre)(ho:ops[i]?=some ⟨some d,.call ⟨.value cal,az,ts⟩,ty,pos,aft,g⟩)(hw:eL ops l g=true)
  (hc:eZ l cal=some (.func (.func gf) #[] #[]))(hx:iw l az.toList=some vs)(hd:Nat.blt d n=true)(hcf:∀args w,(callFunc gf args).run P w=.ok (.enter gf args) w)
  (hcall:∀w Y',St w0 S w (pre++gw tw tl (ef σ.bad) bw s) Y'->wJ P tn tw tl ef bw Γ σ gf vs w hR' res)
  (hk:∀s' Γ',kf tn Γ' res.2 s'->Γ⊆Γ'->eB P r f R w0 S Y n (.inRegion ops rest::k) ((d,aS (res.1:Int))::l) (pre++gw tw tl (ef res.2.bad) bw s')):
  eB P r f R w0 S Y n (.inRegion ops (i::rest)::k) l (pre++gw tw tl (ef σ.bad) bw s):=by
 refine iP (h':=gw tw tl (ef σ.bad) bw s++pre) bZ ?_;refine eB.l0 (h:=gw tw tl (ef σ.bad) bw s) (hF:=pre) (fs:=[]) (cs:=[]) (λ_ v h'=>∃s' Γ',v=aS (res.1:Int)/\h'=gw tw tl (ef res.2.bad) bw s'/\kf tn Γ' res.2 s'/\Γ⊆Γ') ho hw hc hx hd hcf (λw Y' hS=>?_) (λw v h' hR2=>?_);rw[dI,dC];have hS2:=hS.perm (bZ (l₁:=gw tw tl (ef σ.bad) bw s) (l₂:=pre));exact hcall w _ hS2 s hW (hS.has.sub (cJ aD hsub));obtain⟨s',Γ',rfl,rfl,hW',hs⟩:=hR2;exact iP bZ (hk s' Γ' hW' hs)
end
theorem kf.own{tn tw tl:ax}{Γ:List FV}{σ:Sg}{s:Ws}{er:aC}{bw:Nat}{w0 w:aB}{pre:Hl}{Y:List (Nat×Obj)}(h:kf tn Γ σ s)(hS:St w0 [] w (pre++gw tw tl er bw s) Y):ru tn tl w0 w (fL s.q s.ls.length s.cap) s.ls:=
 ⟨s.q,s.cap,s.sp,s.H,rfl,h.nil,h.cap,(jR.of hS).sub ((List.sublist_cons_self _ _).trans (bE pre _)),λx hx=>h.ctx _ (h.KU x hx)⟩
theorem kf.start{tn:ax}:kf tn [] ⟨[],false⟩ ⟨none,0,[],[],[]⟩:=by
 refine⟨λ_=>⟨rfl,rfl⟩,rfl,rfl,aG,?_,?_,?_⟩<;>(intro _ h;cases h)
theorem lS.u64{P:av}{kt:ax}(hu:P.underlying kt=some (.int .u64)):lS P kt U (λa b:eF=>a==b):=
 .now hu (λe a w=>Go.MapKept.run_checkKey hu (by simp[Go.MapKept.IsKey,U]) e 9999) (λa b=>by
  simp only[U,Instr.sameNow,ew,df];rw[dA,eg,eg];constructor;intro h;exact BitVec.eq_of_toNat_eq aH;intro h;rw[h])
abbrev qU(a b:eF):Bool:=a==b
theorem P6{ss:List eF}{u:eF}{r:Int}(h:(∃k:Nat,r=k/\ss[k]?=some u/\∀j,j<k->ss[j]?≠some u)\/(r=-1/\∀k:Nat,ss[k]?≠some u)):(0<=r->ss.findIdx? (·==u)=some r.toNat/\r=(r.toNat:Int))/\(¬0<=r->ss.findIdx? (·==u)=none):=by
 rcases h with⟨k,rfl,h1,h2⟩|⟨rfl,h⟩;refine⟨λ_=>⟨?_,by simp⟩,λh=>absurd (Int.natCast_nonneg k) h⟩;obtain⟨hk,he⟩:=bu.1 h1;rw[c7,List.findIdx?_eq_some_iff_getElem];refine⟨hk,by simp[he],λj hj=>?_⟩;have:=h2 j hj;rw[bH aH]at this;simpa using λe=>this (by rw[e]);refine⟨λh=>absurd h aI,λ_=>?_⟩;rw[br];intro y hy;obtain⟨k,hk⟩:=List.getElem?_of_mem hy;simpa using λe=>h k (by rw[hk,e])
abbrev eI(n:Nat):aC:=aS (n:Int)
structure Tx where
  tt:ax
  tn:ax
  ti:ax
  tu:ax
  ts:ax
  bs:Nat
  mr:Nat
  mo:Nat
  qb:ah
  cb:Nat
  sb:ai
  qn:ah
  cn:Nat
  sn:ai
structure Tm where
  L1:List (eF×Nat)
  L2:List (eF×Bool)
  qp:ah
  cp:Nat
  sp:ai
  qs:ah
  cs:Nat
  ss:List SV
  sq:ai
  H:Hl
def uu(l:Int)(vb vn:aC)(ag:eF)(mr mo:Nat)(vp vs:aC):af:=#[aS l,vb,vn,aS (ag.toNat:Int),.map (some mr),.map (some mo),vp,vs]
def rD(x:Tx)(c:TC)(path:List eF)(s:Tm):Hl:=
 (some x.bs,.cells (uu c.l (fL x.qb c.b.length x.cb) (fL x.qn c.ng.length x.cn) c.ag x.mr x.mo (fL s.qp path.length s.cp) (fL s.qs s.ss.length s.cs)) x.tt (0,0))::
 (x.qb,jc x.tn c.b x.sb)::(x.qn,ob fH x.ti c.ng x.sn)::(some x.mr,mc U eI s.L1)::(some x.mo,mc U Value.bool s.L2)::(s.qp,ob U x.tu path s.sp)::(s.qs,mW x.ts s.ss s.sq)::s.H
structure DD (x:Tx) (c:TC):Prop where
  qb:x.qb=none->c.b.length=0
  qn:x.qn=none->c.ng.length=0
  ok:yK c
  Pt:c.ng.length=c.b.length
  DL:c.b.length<=24
  ag:c.ag.toNat<16
structure tT (x:Tx) (σ:TS) (path:List eF) (s:Tm):Prop where
  m1:∀u,gL qU s.L1 u=nG σ.ss u
  m2:∀u,gL qU s.L2 u=if u∈σ.op then some true else none
  pn:s.qp=none->path.length=0/\s.cp=0
  pc:(path.map U++s.sp).length=s.cp
  sn:s.qs=none->s.ss.length=0/\s.cs=0
  sc:(s.ss.flatMap SV.cells++s.sq).length=s.cs*5
  Al:s.ss.map SV.d=σ.ss
  wF:∀y∈s.ss,y.uW x.ti s.H/\y.d.fr.length<=maxLen
theorem tT.len{x:Tx}{σ:TS}{path:List eF}{s:Tm}(h:tT x σ path s):s.ss.length=σ.ss.length:=by have:=eh List.length h.Al;simpa using this
def Tm.nC(s:Tm)(p:ah×Obj):Tm:={s with H:=p::s.H}
theorem tT.nC{x:Tx}{σ:TS}{path:List eF}{s:Tm}(h:tT x σ path s)(p:ah×Obj):tT x σ path (s.nC p):=
 ⟨h.m1,h.m2,h.pn,h.pc,h.sn,h.sc,h.Al,λy hy=>⟨(h.wF y hy).1.mono (cm _ _),(h.wF y hy).2⟩⟩
theorem AE{x:Tx}{c:TC}{path:List eF}{s:Tm}{p:ah×Obj}{pre:Hl}:(p::(pre++rD x c path s)).Perm (pre++rD x c path (s.nC p)):=by
 refine(List.perm_middle (l₁:=pre) (a:=p)).symm.trans (List.Perm.append_left pre ?_);unfold rD Tm.nC;have sw:∀{a b:ah×Obj} {l l':Hl},(a::l).Perm l'->(a::b::l).Perm (b::l'):=λh=>(List.Perm.swap _ _ _).trans (h.cons _);exact sw (sw (sw (sw (sw (sw (sw (List.Perm.refl _)))))))
theorem Hx{ss:List SD}{u:eF}(h:∀y∈ss,y.set≠u):nG ss u=none:=by
 unfold nG;rw[br];intro y hy;simpa using h y hy
theorem C2{ss:List SD}{y:SD}(_hn:nG ss y.set=none)(u:eF):nG (ss++[y]) u=(nG ss u).or (if u=y.set then some ss.length else none):=by
 unfold nG at*;rw[List.findIdx?_append];by_cases e:u=y.set;subst e;simp;have:¬y.set=u:=λh=>e h.symm;simp[e,this]
theorem tT.step{x:Tx}{σ:TS}{path:List eF}{s:Tm}(h:tT x σ path s){y:SV}(hn:nG σ.ss y.d.set=none)(hy:y.uW x.ti s.H/\y.d.fr.length<=maxLen){b' cap':Nat}{sp':ai}(hlen:((s.ss++[y]).flatMap SV.cells++sp').length=cap'*5):
  tT x ⟨σ.ss++[y.d],σ.op⟩ path {s with L1:=s.L1++[(y.d.set,σ.ss.length)],qs:=some b',cs:=cap',ss:=s.ss++[y],sq:=sp'}:=
 ⟨(λu=>by
  rw[r0,h.m1,C2 hn]
  congr 1
  by_cases e:u=y.d.set;subst e;simp;have:¬(qU u y.d.set=true):=by simpa using e
  rw[if_neg this,if_neg e]),h.m2,h.pn,h.pc,aK,hlen,(by show(s.ss++[y]).map SV.d=_;rw[dF,h.Al];rfl),(λz hz=>by
  rcases dG.1 hz with hz|hz;exact h.wF z hz;rw[cS.1 hz];exact hy)⟩
theorem tT.push{x:Tx}{σ:TS}{path:List eF}{s:Tm}(h:tT x σ path s){u:eF}{b' cap':Nat}{sp':ai}(hlen:((path++[u]).map U++sp').length=cap'):tT x σ (path++[u]) {s with qp:=some b',cp:=cap',sp:=sp'}:=
 ⟨h.m1,h.m2,aK,hlen,h.sn,h.sc,h.Al,h.wF⟩
theorem tT.pop{x:Tx}{σ:TS}{path:List eF}{s:Tm}{u:eF}(h:tT x σ (path++[u]) s):tT x σ path {s with sp:=U u::s.sp}:=
 ⟨h.m1,h.m2,(λe=>by have:=(h.pn e).1;simp at this),by have:=h.pc;simp at this⊢;omega,h.sn,h.sc,h.Al,h.wF⟩
theorem tT.PV{x:Tx}{σ:TS}{path:List eF}{s:Tm}(h:tT x σ path s){u:eF}:tT x ⟨σ.ss,σ.op++[u]⟩ path {s with L2:=s.L2++[(u,true)]}:=
 ⟨h.m1,(λv=>by
  rw[r0,h.m2];by_cases e1:v∈σ.op;rw[if_pos e1,if_pos (cx _ e1)];rfl;by_cases e2:v=u;subst e2;rw[if_neg e1,if_pos aL,if_pos aL];rfl;have:¬(qU v u=true):=by simpa using e2
  rw[if_neg e1,if_neg this,if_neg (by simp[e1,e2])];rfl),h.pn,h.pc,h.sn,h.sc,h.Al,h.wF⟩
def CA(x:Tx)(c:TC)(res:aC)(σ':TS)(path':List eF)(H0:Hl)(v:aC)(h':Hl):Prop:=∃s',v=res/\h'=rD x c path' s'/\tT x σ' path' s'/\H0⊆s'.H
def IW(P:av)(x:Tx)(c:TC)(path:List eF)(s:Tm)(gf:ay)(args:ai)(w:aB)(res:aC)(σ':TS)(path':List eF):Prop:=
 kN w (rD x c path s)->tU P gf args w (rD x c path s) (CA x c res σ' path' s.H)
section
variable{P:av}{x:Tx}{c:TC}{σ σ':TS}{path path':List eF}{s:Tm}{res:aC}
variable{r:ah}{f:ay}{R:aC->aB->Prop}{w0:aB}{S:aq}{Y:List (Nat×Obj)}{n:Nat}{k:al}{l:Fl}{ops:aj}{i d:Nat}{rest:aq}{ty:ax}{pos:aA}{aft:ak}{g:Option (Nat×Bool)}
variable{az:aa}{ts:ab}{cal:au}{gf:ay}{vs:ai}
theorem eB.wg{pre:Hl}(ho:ops[i]?=some ⟨some d,.call ⟨.value cal,az,ts⟩,ty,pos,aft,g⟩)(hw:eL ops l g=true)
  (hc:eZ l cal=some (.func (.func gf) #[] #[]))(hx:iw l az.toList=some vs)(hd:Nat.blt d n=true)(hcf:∀args w,(callFunc gf args).run P w=.ok (.enter gf args) w)
  (hcall:∀w,IW P x c path s gf vs w res σ' path')
  (hk:∀s',tT x σ' path' s'->s.H⊆s'.H->eB P r f R w0 S Y n (.inRegion ops rest::k) ((d,res)::l) (pre++rD x c path' s')):
  eB P r f R w0 S Y n (.inRegion ops (i::rest)::k) l (pre++rD x c path s):=by
 refine iP (h':=rD x c path s++pre) bZ ?_;refine eB.l0 (h:=rD x c path s) (hF:=pre) (fs:=[]) (cs:=[]) (λ_=>CA x c res σ' path' s.H) ho hw hc hx hd hcf (λw Y' hS=>?_) (λw v h' hR2=>?_);rw[dI,dC];exact hcall w (hS.has.sub (bL _ _));obtain⟨s',rfl,rfl,hT',hs⟩:=hR2;exact iP bZ (hk s' hT' hs)
theorem IW.of{gf:ay}{fn:Func}{cd:Code}{args:ai}{w:aB}(hf:P.funcs[gf]?=some fn)(hb:fn.body=some cd)(hn:Nat.ble args.length fn.ntmps=true)
  (hgo:eB P none gf (λv w'=>∃h',CA x c res σ' path' s.H v h'/\St w (gV (rD x c path s)) w' h' []) w (gV (rD x c path s)) [] fn.ntmps [.code cd] (xS 0 args) (rD x c path s)):
  IW P x c path s gf args w res σ' path':=λhH=>tU.of hH hf hb hn hgo
end
theorem ur{x:Tx}{c:TC}{σ':TS}{path':List eF}{H0:Hl}{s':Tm}{res v:aC}{w w':aB}{S:aq}{pre:Hl}(hv:v=res)(hT:tT x σ' path' s')(hs:H0⊆s'.H)(hS:St w S w' (pre++rD x c path' s') []):
  ∃h',CA x c res σ' path' H0 v h'/\St w S w' h' []:=⟨_,⟨s',hv,rfl,hT,hs⟩,hS.iV (bE _ _)⟩
structure IY (w:aB) (x:Tx) (c:TC) (vp vs:aC):Prop where
  ie:w.heap[x.bs]?=some (.cells (uu c.l (fL x.qb c.b.length x.cb) (fL x.qn c.ng.length x.cn) c.ag x.mr x.mo vp vs) x.tt (0,0))
  fa:FA w (x.qb.map aP) c.b
  na:mJ w (x.qn.map aP) c.ng
theorem IY.ex{w w':aB}{x:Tx}{c:TC}{vp vs:aC}(h:IY w x c vp vs)(e:Ex [] w w'):IY w' x c vp vs:=⟨e.lM h.ie,h.fa.eQ e,h.na.eQ e⟩
theorem JX{x:Tx}{c:TC}(hx:DD x c){w0 w:aB}{S:aq}{pre:Hl}{Y:List (Nat×Obj)}{path:List eF}{s:Tm}(hS:St w0 S w (pre++rD x c path s) Y):IY w x c (fL s.qp path.length s.cp) (fL s.qs s.ss.length s.cs):=by
 have hm:∀p∈rD x c path s,∀b,p.1=some b->w.heap[b]?=some p.2:=λp hp b hb=>(hS.own p (bX _ hp) b hb).1;refine⟨hm _ aF _ rfl,?_,?_⟩;cases e:x.qb with
 |none=>rw[aV (hx.qb e)];exact⟨Sl.nil _ _⟩
 |some b=>exact⟨Sl.ie (hm (x.qb,jc x.tn c.b x.sb) (by simp[rD]) b e)⟩
 cases e:x.qn with
 |none=>rw[aV (hx.qn e)];exact Sl.nil _ _
 |some b=>exact Sl.ie (hm (x.qn,ob fH x.ti c.ng x.sn) (by simp[rD]) b e)
end Go.Proofs.Wit
