/- Laws of walks, each under its own conditions. -/
import Derived.Test.YtpbhoidjmpjfpaaGreatDoorXT02
import Derived.MapKept
set_option maxRecDepth 100000
set_option maxHeartbeats 40000000
namespace Go.Proofs.Wit
open Go Go.RowKit
section
variable{P:av}{r:ah}{f:ay}{R:aC->aB->Prop}{w0:aB}{S:aq}{Y:List (Nat×Obj)}{n:Nat}{k:al}{l:Fl}{h:Hl}{ops:aj}
structure LI (ops:aj) (c:Nat):Prop where
  size:c<ops.size
  lt:∀i,i<ops.size->∀j∈gZ ops i,j<i
  Gv:∀i,i<=c->∀o,ops[i]?=some o->kU o.op=true
  inj:∀i j d,i<=c->j<=c->gh ops i=some d->gh ops j=some d->i=j
  LZ:∀i,i<=c->∀o,ops[i]?=some o->∀s∈lW ops o,∀j,j<=c->gh ops j=some s->j∈gZ ops i
  late:∀i,c<i->i<ops.size->(∀j,j<=c->j∈gZ ops i)\/∃j∈gZ ops i,c<j
  OF:forced ops (List.range (c+1)) (List.range' (c+1) (ops.size - (c+1)))=true
theorem eB.pO{id:Nat}(m q:Nat)(hb:Hl)(hsub:hb.Sublist h)(hmix:P.follows .mixedOrders=true)(hc:xL ops l m=true)(hg:jX P w0 S n ops hb (λl'=>Tl P r f R w0 S Y n k ops m hb q [] l' h) 0 m l):eB P r f R w0 S Y n (.code (.region id ops true)::k) l h:=by
 intro t w Ds hF hS;have hf:=rF hc;refine .m6 (λτ=>?_);obtain⟨D,V,hout,l',hF',htl⟩:=(hg t hF).seq;simp only[dX]at hout;simp only[Region.schedule,hmix,Bool.true_or,ew,Region.linearise];have hDst:∀j,j<m->gh ops j=some (D j):=λj hj=>by
  obtain⟨o,h1,h2,_⟩:=hout j hj;simp[gh,h1,h2]
 have hDlt:∀j,j<m->D j<t.size:=λj hj=>by
  obtain⟨o,_,_,h3,_⟩:=hout j hj;rw[hF.1];exact h3
 have hmN:=hf.size;have hDinj:∀i j,i<m->j<m->D i=D j->i=j:=λi j hi hj e=>hf.inj i j (D i) hi aH (hDst i hi) (by rw[hDst j hj,e]);obtain⟨g1,g2⟩:=qm hDlt hDinj m (dZ _);have harr:∀j,(Array.replicate ops.size false).getD j false=false:=λj=>by
  simp[bG];split<;>simp
 refine wR hf hF.1 hout ops.size τ _ [] q l' h t _ aL (λj hj=>?_) (λj _=>?_) aL hF' htl hsub hF.1 g1 (λs hs=>?_) (λs hs _=>?_) ?_ _ Ds hS.drew;rw[harr]at hj;cases hj;rw[harr];simp;rw[g2 s (λj hj=>hs j hj (harr j))];exact g2 s (λj hj e=>hs j hj e);exact dV (List.countP_le_length) aL
theorem ik.app{i d:Nat}{ty:ax}{pos:aA}{aft:ak}{g:Option (Nat×Bool)}{K:aC->Hl->Prop}{t e:ax}{x y:au}{inf:TypeInfo}{z:aC}{q:ah}{xs sp:ai}{nx cap:Nat}{bn m c:Nat}{news spn:ai}{en:ax}{frn:Nat×Nat}(size:Nat)
  (ho:ops[i]?=some ⟨some d,.call ⟨.builtin .append,#[x,y],#[t,t]⟩,ty,pos,aft,g⟩)(hw:eL ops l g=true)(hx:eZ l x=some (fL q nx cap))(hy:eZ l y=some (.slice (aR bn) m c))(hd:Nat.blt d n=true)
  (hu:P.underlying t=some (.slice e))(hi:P.info? e=some inf)(hz:inf.zero=some z)(hsz:inf.size=size)(hz1:z.cells.size=size)
  (hq:q=none->nx=0/\cap=0)(j:Nat)(hj:h[j]?=some (q,.cells (xs++sp).toArray e (0,0)))(jn:Nat)(hjn:h[jn]?=some (some bn,.cells (news++spn).toArray en frn))
  (hnx:xs.length=nx*size)(eK:(xs++sp).length=cap*size)(hl:news.length=m*size)(hm0:0<m)(h1:∀u∈news,u.oneCell'=true)(hmx:nx+m<=maxLen)(hbytes:(nx+m)*inf.bytes<=140737488355328)
  (hk:∀b' sp' cap',(xs++news++sp').length=cap'*size->K (fL (some b') (nx+m) cap') (h.set j (some b',.cells (xs++news++sp').toArray e (0,0)))):ik P w0 S n h ops i l d K:=
 ⟨_,ho,rfl,rfl,rfl,hd,.inl ⟨hw,λt' w Ds Y' hF hS=>.inl (by
  have hbn:=hS.get hjn;have hnews:∀j u,news[j]?=some u->w.cell? ((⟨bn,0,none⟩:Addr).add j)=some u:=by
   intro j u hv;have hjl:=(bu.1 hv).1;have e1:(⟨bn,0,none⟩:Addr).add j=⟨bn,j,none⟩:=by unfold Addr.add;split;(rename_i h0;rw[h0]);simp
   rw[e1];rw[bH hjl]at hv;cases hv;simp[World.cell?,hbn,List.getElem?_append,hjl]
  obtain⟨b',sp',cap',w',hrun,hlen,hS'⟩:=uU hu hi hz hsz hz1 hS hnx eK hq hj (c:=c) hl hm0 hnews h1 hmx hbytes ty;refine⟨_,w',_,?_,hS',hk b' sp' cap' hlen⟩;have e1:(#[x,y]:aa).map (Act.eval ⟨t',Ds.map mark⟩)=#[fL q nx cap,.slice (aR bn) m c]:=by simp[hF.eZ hx,hF.eZ hy]
  simp only[execOp,resolve,e1,Sem.run_bind,Sem.run_pure,Result.andThen_ok,invoke,builtin,hrun])⟩⟩
end
def gV(h:Hl):aq:=h.filterMap (·.1)
theorem lL{h:Hl}{b:Nat}:b∈gV h↔∃o,(some b,o)∈h:=by
 simp only[gV,cR];constructor;rintro ⟨⟨q,o⟩,h1,h2⟩;dsimp only at h2;subst h2;exact⟨o,h1⟩;rintro ⟨o,h1⟩;exact⟨_,h1,rfl⟩
structure kN (w:aB) (h:Hl):Prop where
  own:∀p∈h,∀b,p.1=some b->w.heap[b]?=some p.2/\tZ p.2=false
  apart:h.Pairwise rn
theorem St.has{w0 w:aB}{S:aq}{h:Hl}{Y:List (Nat×Obj)}(s:St w0 S w h Y):kN w h:=⟨λp hp b hb=>⟨(s.own p hp b hb).1,(s.own p hp b hb).2.1⟩,s.apart⟩
theorem kN.st{w:aB}{h:Hl}(g:kN w h):St w (gV h) w h []:=
 ⟨Ex.refl _ _,λp hp b hb=>⟨(g.own p hp b hb).1,(g.own p hp b hb).2,.inr (lL.2 ⟨p.2,by rw[<-hb];exact hp⟩)⟩,g.apart,(λp hp=>by cases hp),dP⟩
theorem kN.sub{w:aB}{h h':Hl}(g:kN w h)(hs:h'.Sublist h):kN w h':=⟨λp hp=>g.own p (hs.subset hp),g.apart.sublist hs⟩
theorem St.frame{w0 w w':aB}{S:aq}{h h' hF:Hl}{Y:List (Nat×Obj)}(s:St w0 S w (h++hF) Y)(g:St w (gV h) w' h' []):St w0 S w' (h'++hF) Y:=by
 have hown:∀b∈gV h,w0.heap.size<=b\/b∈S:=λb hb=>by
  obtain⟨o,ho⟩:=lL.1 hb;exact(s.own _ (cx _ ho) b rfl).2.2
 have hap:=cH.1 s.apart;have hkeep:∀b o,w.heap[b]?=some o->b∉gV h->w'.heap[b]?=some o:=λb o ho hb=>by
  rw[g.ext.block b (aX.1 ho).1 hb];exact ho
 have hsz:=g.ext.size;have hsz0:=s.ext.size;refine⟨s.ext.trans g.ext (λx hx=>(hown x hx).symm),λp hp b hb=>?_,cH.2 ⟨g.apart,hap.2.1,λp hp q hq b hb hqb=>?_⟩,λp hp=>?_,s.CD⟩;rcases dG.1 hp with hp|hp;obtain⟨h1,h2,h3⟩:=g.own p hp b hb;refine⟨h1,h2,?_⟩;rcases h3 with h3|h3;exact .inl aH;exact hown b h3;obtain⟨h1,h2,h3⟩:=s.own p (bX _ hp) b hb;refine⟨hkeep b _ h1 (λhm=>?_),h2,h3⟩;obtain⟨o,ho⟩:=lL.1 hm;exact hap.2.2 _ ho p hp b rfl hb;obtain⟨h1,h2,h3⟩:=g.own p hp b hb;obtain⟨k1,k2,k3⟩:=s.own q (bX _ hq) b hqb;rcases h3 with h3|h3;have:=(aX.1 k1).1;omega;obtain⟨o,ho⟩:=lL.1 h3;exact hap.2.2 _ ho q hq b rfl hqb;obtain⟨h1,h2,h3⟩:=s.sys p hp;refine⟨h1,hkeep p.1 _ h2 (λhm=>?_),h3⟩;obtain⟨o,ho⟩:=lL.1 hm;obtain⟨k1,k2,_⟩:=s.own _ (cx _ ho) p.1 rfl;rw[h2]at k1;cases k1;dsimp only at k2;rw[h3]at k2;cases k2
def tU(P:av)(gf:ay)(args:ai)(w:aB)(h:Hl)(Rc:aC->Hl->Prop):Prop:=
 Calls P gf args.toArray w λe w'=>∃v h',e=.returned v/\Rc v h'/\St w (gV h) w' h' []
section
variable{P:av}{r:ah}{f:ay}{R:aC->aB->Prop}{w0:aB}{S:aq}{Y:List (Nat×Obj)}{n:Nat}{k:al}{l:Fl}{h:Hl}{ops:aj}{i d:Nat}{rest:aq}{ty:ax}{pos:aA}{aft:ak}{g:Option (Nat×Bool)}
theorem tU.of{gf:ay}{fn:Func}{c:Code}{args:ai}{w:aB}{Rc:aC->Hl->Prop}(hh:kN w h)(hf:P.funcs[gf]?=some fn)(hb:fn.body=some c)(hn:Nat.ble args.length fn.ntmps=true)
  (hgo:eB P none gf (λv w'=>∃h',Rc v h'/\St w (gV h) w' h' []) w (gV h) [] fn.ntmps [.code c] (xS 0 args) h):tU P gf args w h Rc:=by
 unfold tU;refine Calls.mono (zY hf hb hn h hh.st hgo) ?_;rintro e w' ⟨v,rfl,h',h1,h2⟩;exact⟨v,h',rfl,h1,h2⟩
theorem eB.l0{hF:Hl}{az:aa}{ts:ab}{cal:au}{gf:ay}{fs cs vs:ai}(Rc:aB->aC->Hl->Prop)(ho:ops[i]?=some ⟨some d,.call ⟨.value cal,az,ts⟩,ty,pos,aft,g⟩)(hw:eL ops l g=true)
  (hc:eZ l cal=some (.func (.func gf) fs.toArray cs.toArray))(hx:iw l az.toList=some vs)(hd:Nat.blt d n=true)(hcf:∀args w,(callFunc gf args).run P w=.ok (.enter gf args) w)
  (hcall:∀w Y',St w0 S w (h++hF) Y'->tU P gf (fs++vs++cs) w h (Rc w))
  (hk:∀w v h',Rc w v h'->eB P r f R w0 S Y n (.inRegion ops rest::k) ((d,v)::l) (h'++hF)):eB P r f R w0 S Y n (.inRegion ops (i::rest)::k) l (h++hF):=
 .Cp ho hw hc hx hd hcf (λw Y' hS=>⟨λv w'=>∃h',Rc w v h'/\St w (gV h) w' h' [],by
  have:=hcall w Y' hS;unfold tU at this;simp only[List.append_toArray];exact Calls.mono this (λe w' ⟨v,h',e1,e2,e3⟩=>⟨v,e1,h',e2,e3⟩),λv w' ⟨h',h1,h2⟩=>⟨h'++hF,hS.frame h2,hk w v h' h1⟩⟩)
end
section
variable{κ ν:Type}
def sE(ek:κ->aC)(ev:ν->aC):List (κ×ν)->Nat->List MapEntry
 |[],_=>[]
 |p::L,i=>⟨ek p.1,ev p.2,i⟩::sE ek ev L (i+1)
abbrev mc(ek:κ->aC)(ev:ν->aC)(L:List (κ×ν)):Obj:=.map (sE ek ev L 0).toArray L.length
def gL(q:κ->κ->Bool):List (κ×ν)->κ->Option ν
 |[],_=>none
 |p::L,k=>if q k p.1=true then some p.2 else gL q L k
variable{ek:κ->aC}{ev:ν->aC}{q:κ->κ->Bool}
theorem ub:∀{L:List (κ×ν)} {k:κ} {v:ν} {i:Nat},sE ek ev (L++[(k,v)]) i=sE ek ev L i++[⟨ek k,ev v,i+L.length⟩]
 |[],k,v,i=>rfl
 |p::L,k,v,i=>by rw[List.cons_append,sE,ub,sE,List.cons_append,dt,Nat.add_assoc,Nat.add_comm 1]
def found(q:κ->κ->Bool)(ev:ν->aC):List (κ×ν)->κ->Nat->Option (Nat×aC)
 |[],_,_=>none
 |p::L,k,i=>if q k p.1=true then some (i,ev p.2)else found q ev L k (i+1)
theorem rf:∀{L:List (κ×ν)} {k:κ} {i:Nat},(found q ev L k i).map (·.2)=(gL q L k).map ev
 |[],_,_=>rfl
 |p::L,k,i=>by
  rw[found,gL];split;rfl;exact rf
theorem vW{kd:TypeDesc}(hs:∀a b:κ,Instr.sameNow kd (ek a) (ek b)=some (q a b)):∀{L:List (κ×ν)} {k:κ} {i j:Nat},Instr.findNow kd (ek k) (sE ek ev L j) i=some (found q ev L k i)
 |[],_,_,_=>rfl
 |p::L,k,i,j=>by
  rw[sE,Instr.findNow,hs,found];cases q k p.1 with
  |true=>rfl
  |false=>exact vW hs
theorem vX{P:av}{kt:ax}{w:aB}(hs:∀a b:κ,(Op.equal kt (ek a) (ek b)).run P w=.ok (q a b) w):∀{L:List (κ×ν)} {k:κ} {i j:Nat},(Instr.findAsking kt (ek k) (sE ek ev L j) i).run P w=.ok (found q ev L k i) w
 |[],_,_,_=>rfl
 |p::L,k,i,j=>by
  rw[sE,Instr.findAsking,found];simp only[Sem.run_bind,hs,Result.andThen_ok];cases q k p.1 with
  |true=>rfl
  |false=>exact vX hs
structure lS (P:av) (kt:ax) (ek:κ->aC) (q:κ->κ->Bool):Prop where
  oe:∀(e:Bool) (a:κ) (w:aB),(Instr.checkKey e 10000 kt (ek a)).run P w=.ok () w
  find:∀{ν:Type} (ev:ν->aC) (L:List (κ×ν)) (k:κ) (w:aB),(Instr.findKey kt (ek k) (sE ek ev L 0)).run P w=.ok (found q ev L k 0) w
theorem lS.now{P:av}{kt:ax}{kd:TypeDesc}(hu:P.underlying kt=some kd)(hc:∀(e:Bool) (a:κ) (w:aB),(Instr.checkKey e 10000 kt (ek a)).run P w=.ok () w)(hs:∀a b:κ,Instr.sameNow kd (ek a) (ek b)=some (q a b)):lS P kt ek q:=
 ⟨hc,λev L k w=>by
  simp only[Instr.findKey,Sem.run_bind,run_underlying hu,Result.andThen_ok,vW hs];rfl⟩
theorem lS.int{P:av}{kt:ax}{kd:aw}(hu:P.underlying kt=some (.int kd)):lS P kt (Value.int kd) (λa b=>a==b):=
 .now hu (λe a w=>Go.MapKept.run_checkKey hu (by simp[Go.MapKept.IsKey]) e 9999) (λa b=>by simp[Instr.sameNow])
theorem OW{P:av}{t et:ax}{n s:Nat}{z:aC}{ps:List (Nat×aC)}{c:ai}(hu:P.underlying t=some (.array n et))(hs:∀w,(sizeOf et).run P w=.ok s w)(hz:∀w,(zeroValue t).run P w=.ok z w)
  (hf:qR (λi=>some (i*s,s)) z.cells.toList ps=some c):On P t ps (.agg c.toArray):=by
 intro w;have h1:=fill_eq hf;rw[Array.toArray_toList]at h1;simp only[Instr.build,Sem.run_bind,hz,Result.andThen_ok,run_underlying hu,hs];rw[h1];rfl
theorem oA{P:av}{et:ax}(ha:∀w,(isAgg et).run P w=.ok false w){cs:af}{j:Nat}{v:aC}(hv:cs[j]?=some v)(w:aB):(part et cs j).run P w=.ok v w:=by
 simp only[part,Sem.run_bind,ha,Result.andThen_ok,hv];rfl
theorem Fx{P:av}{t:ax}{kd:aw}(dd:Nat){p q:Int}(hu:P.underlying t=some (.int kd))(w:aB):(Op.equalIn (dd+1) t (.int kd p) (.int kd q)).run P w=.ok (p==q) w:=by
 simp only[Op.equalIn,Sem.run_bind,run_underlying hu,Result.andThen_ok];simp
end
section
variable{P:av}{r:ah}{f:ay}{R:aC->aB->Prop}{w0:aB}{S:aq}{Y:List (Nat×Obj)}{n:Nat}{k:al}{l:Fl}{h:Hl}
variable{ops:aj}{i d:Nat}{rest:aq}{ty:ax}{pos:aA}{aft:ak}{g:Option (Nat×Bool)}
variable{κ ν:Type}{ek:κ->aC}{ev:ν->aC}{q:κ->κ->Bool}
theorem oH(ek:κ->aC)(ev:ν->aC){t:ax}(ho:ops[i]?=some ⟨some d,.makeMap t none,ty,pos,aft,g⟩)(hw:eL ops l g=true)(hd:Nat.blt d n=true)
  (hk:∀b,eB P r f R w0 S Y n (.inRegion ops rest::k) ((d,.map (some b))::l) ((some b,mc ek ev [])::h)):eB P r f R w0 S Y n (.inRegion ops (i::rest)::k) l h:=
 .mem ho hw rfl rfl hd (λt' w Ds _ hF hS=>⟨.map (some w.heap.size),w.alloc (.map #[] 0),_,by
  simp[execOp,Instr.makeMap],hS.alloc rfl,hk _⟩)
theorem pW{t kt el:ax}(hK:lS P kt ek q){z:aC}{x ix:au}{b:Nat}{a:κ}{L:List (κ×ν)}(ho:ops[i]?=some ⟨some d,.lookup t x ix true,ty,pos,aft,g⟩)(hw:eL ops l g=true)
  (hx:eZ l x=some (.map (some b)))(hy:eZ l ix=some (ek a))(hd:Nat.blt d n=true)(hu:P.underlying t=some (.map kt el))(hz:∀w,(zeroValue el).run P w=.ok z w)(j:Nat)(hj:h[j]?=some (some b,mc ek ev L)):
  eD P w0 S n h ops i l d (.tuple #[((gL q L a).map ev).getD z,.bool (gL q L a).isSome]):=
 .of ho hw rfl rfl hd (λt' w Ds _ hF hS=>⟨.value (.tuple #[((gL q L a).map ev).getD z,.bool (gL q L a).isSome]),by
  have hg:(getObj b).run P w=.ok (mc ek ev L) w:=by simp[getObj,Sem.run,hS.get hj]
  have hf:=hK.find ev L a w;have e1:(found q ev L a 0).map (·.2)=(gL q L a).map ev:=rf;simp only[execOp,hF.eZ hx,hF.eZ hy,Sem.run_bind,Instr.lookup,run_underlying hu,Result.andThen_ok,hg,hK.oe,Sem.run_pure,hf];cases hfo:found q ev L a 0 with
  |none=>
   rw[hfo]at e1;cases ha:gL q L a with
   |none=>simp[hz]
   |some v=>rw[ha]at e1;cases e1
  |some y=>
   rw[hfo]at e1;cases ha:gL q L a with
   |none=>rw[ha]at e1;cases e1
   |some v=>rw[ha]at e1;simp at e1⊢;exact e1,rfl⟩)
theorem vR:∀{L:List (κ×ν)} {a:κ} {i:Nat},gL q L a=none->found q ev L a i=none
 |[],_,_,_=>rfl
 |p::L,a,i,h=>by
  rw[gL]at h;rw[found];split at h;cases h;rename_i hq;rw[if_neg hq];exact vR h
theorem AH{t kt el:ax}(hK:lS P kt ek q){b:Nat}{a:κ}{v:ν}{L:List (κ×ν)}{w:aB}(hu:P.underlying t=some (.map kt el))(hb:w.heap[b]?=some (mc ek ev L))(ha:gL q L a=none):
  (Instr.mapUpdate t (.map (some b)) (ek a) (ev v)).run P w=.ok () {w with heap:=w.heap.setIfInBounds b (mc ek ev (L++[(a,v)]))}:=by
 have hg:(getObj b).run P w=.ok (mc ek ev L) w:=by simp[getObj,Sem.run,hb]
 have hf:=hK.find ev L a w;rw[vR ha]at hf;simp only[Instr.mapUpdate,Sem.run_bind,run_underlying hu,Result.andThen_ok,hg,hK.oe,hf];have e1:((sE ek ev L 0).toArray.push ⟨ek a,ev v,L.length⟩)=(sE ek ev (L++[(a,v)]) 0).toArray:=by rw[ub];simp
 rw[e1];simp[setObj,Sem.run,hb,mc]
theorem eB.qZ{t kt el:ax}(hK:lS P kt ek q){m x y:au}{b:Nat}{a:κ}{v:ν}{L:List (κ×ν)}{o:Oper}(ho:ops[i]?=some o)(hop:o.op=.mapUpdate t m x y\/o.op=.insert t m x y)(hdst:o.dst=none)(hw:eL ops l o.guard=true)
  (hm:eZ l m=some (.map (some b)))(hx:eZ l x=some (ek a))(hy:eZ l y=some (ev v))(hu:P.underlying t=some (.map kt el))(j:Nat)(hj:h[j]?=some (some b,mc ek ev L))(ha:gL q L a=none)
  (hk:eB P r f R w0 S Y n (.inRegion ops rest::k) l (h.set j (some b,mc ek ev (L++[(a,v)])))):eB P r f R w0 S Y n (.inRegion ops (i::rest)::k) l h:=
 .OS ho hw hdst (by rcases hop with e|e<;>rw[e]<;>rfl) (λt' w Ds _ hF hS=>by
  have hb:=hS.get hj;refine⟨{w with heap:=w.heap.setIfInBounds b (mc ek ev (L++[(a,v)]))},_,?_,hS.uq hj (o':=mc ek ev (L++[(a,v)])) rfl rfl rfl rfl aL ?_ ?_,hk⟩;have hrun:=AH hK (v:=v) hu hb ha;unfold execOp;rcases hop with e|e<;>rw[e]<;>simp only[hF.eZ hm,hF.eZ hx,hF.eZ hy,Sem.run_bind,hrun]<;>rfl
  have hlt:=hS.lt hj;simp[hlt];intro q _ hq;simp[Ne.symm hq])
end
section
variable{fs:Array Field}
def NV.v(n:NV):aC:=.agg #[fH n.op,fH n.i,fH n.e,fH n.g,fH n.x,fH n.y]
structure FA (w:aB) (a:ae) (f:List NV):Prop where
  at_:Sl w a (f.flatMap NV.cells)
theorem FA.eQ{w0 w:aB}{a:ae}{f:List NV}(h:FA w0 a f){S:aq}(e:Ex S w0 w)(hS:∀b o,a=some ⟨b,o,none⟩->b∉S:=by simp):FA w a f:=⟨Sl.ex h.at_ e hS⟩
abbrev jc(e:ax)(ns:List NV)(sp:ai):Obj:=.cells (ns.flatMap NV.cells++sp).toArray e (0,0)
theorem sy{ns:List NV}:(ns.flatMap NV.cells).length=ns.length*6:=oC (enc:=NV.cells) (sz:=6) (λ_=>rfl)
theorem fe{w0 w:aB}{S:aq}{h:Hl}{Y:List (Nat×Obj)}(s:St w0 S w h Y)(j:Nat){q:ah}{ns:List NV}{e:ax}{sp:ai}(hj:h[j]?=some (q,jc e ns sp))(hq:q=none->ns.length=0):FA w (q.map aP) ns:=by
 cases q with
 |none=>rw[aV (hq rfl)];exact⟨Sl.nil _ _⟩
 |some b=>exact⟨Sl.ie (s.get hj)⟩
def eV(e:ax)(w w':aB)(v:aC)(ns:List NV):Prop:=
 ∃q cap sp,v=fL q ns.length cap/\(q=none->ns.length=0/\cap=0)/\(ns.flatMap NV.cells++sp).length=cap*6/\∀b,q=some b->w.heap.size<=b/\w'.heap[b]?=some (jc e ns sp)
theorem eW{t:ax}{w0 w w':aB}{S:aq}{h:Hl}{Y:List (Nat×Obj)}(s:St w0 S w h Y)(e:Ex [] w w'){v:aC}{ns:List NV}(ho:eV t w w' v ns):
  ∃q cap sp,v=fL q ns.length cap/\(q=none->ns.length=0/\cap=0)/\(ns.flatMap NV.cells++sp).length=cap*6/\St w0 S w' ((q,jc t ns sp)::h) Y:=by
 obtain⟨q,cap,sp,h1,h2,h3,h4⟩:=ho;refine⟨q,cap,sp,h1,h2,h3,?_⟩;cases q with
 |none=>exact(s.later e).none _
 |some b=>exact s.Ib e (h4 b rfl).2 rfl (h4 b rfl).1
theorem eV.mk{t:ax}{w0 w:aB}{h:Hl}{Y:List (Nat×Obj)}(s:St w0 [] w h Y)(j:Nat){q:ah}{ns:List NV}{sp:ai}{cap m:Nat}(hj:h[j]?=some (q,jc t ns sp))(hm:m=ns.length)
  (hq:q=none->ns.length=0/\cap=0)(eK:(ns.flatMap NV.cells++sp).length=cap*6):eV t w0 w (fL q m cap) ns:=by
 subst hm;refine⟨q,cap,sp,rfl,hq,eK,λb hb=>?_⟩;subst hb;exact⟨s.fresh hj,s.get hj⟩
theorem eV.tC{t:ax}{w w':aB}:eV t w w' (.slice none 0 0) []:=⟨none,0,[],rfl,λ_=>⟨rfl,rfl⟩,rfl,λ_ e=>by cases e⟩
section
variable{P:av}{r:ah}{f:ay}{R:aC->aB->Prop}{w0:aB}{S:aq}{Y:List (Nat×Obj)}{n:Nat}{k:al}{l:Fl}{h:Hl}
variable{ops:aj}{i d:Nat}{rest:aq}{ty:ax}{pos:aA}{aft:ak}{g:Option (Nat×Bool)}
theorem eD.qP{x:au}{a:Addr}(ho:ops[i]?=some ⟨some d,.nilCheck x,ty,pos,aft,g⟩)(hw:eL ops l g=true)(hx:eZ l x=some (.pointer (some a)))(hd:Nat.blt d n=true):eD P w0 S n h ops i l d (.pointer (some a)):=
 .of ho hw rfl rfl hd (λt' w Ds _ hF hS=>⟨.value (.pointer (some a)),by simp only[execOp,hF.eZ hx];rfl,rfl⟩)
end
def tv(fs:Array Field)(it:ax):Prop:=∃f0 f1 f2 f3 f4 f5:Field,fs=#[f0,f1,f2,f3,f4,f5]/\
 (f0.name ≠ "_" ∧ f0.type = it ∧ f0.offset = 0) ∧ (f1.name ≠ "_" ∧ f1.type = it ∧ f1.offset = 1) ∧ (f2.name ≠ "_" ∧ f2.type = it ∧ f2.offset = 2) ∧
 (f3.name ≠ "_" ∧ f3.type = it ∧ f3.offset = 3) ∧ (f4.name ≠ "_" ∧ f4.type = it ∧ f4.offset = 4) ∧ (f5.name ≠ "_" ∧ f5.type = it ∧ f5.offset = 5)
theorem tJ{P:av}{t it:ax} (hu:P.underlying t=some (.struct fs))(hfs:tv fs it)(hi:P.underlying it=some (.int .i64))(ha:∀w,(isAgg it).run P w=.ok false w)(pz:P.stoodInHeld t=false)(m:Nat)(a b:NV)(w:aB):
  (Op.equalIn (m+2) t a.v b.v).run P w=.ok (a==b) w:=by
 obtain⟨f0,f1,f2,f3,f4,f5,rfl,⟨n0,t0,o0⟩,⟨n1,t1,o1⟩,⟨n2,t2,o2⟩,⟨n3,t3,o3⟩,⟨n4,t4,o4⟩,⟨n5,t5,o5⟩⟩:=hfs;have hp:∀(c:NV) (w:aB),(part it c.v.cells 0).run P w=.ok (fH c.op) w/\(part it c.v.cells 1).run P w=.ok (fH c.i) w/\(part it c.v.cells 2).run P w=.ok (fH c.e) w/\(part it c.v.cells 3).run P w=.ok (fH c.g) w/\(part it c.v.cells 4).run P w=.ok (fH c.x) w/\(part it c.v.cells 5).run P w=.ok (fH c.y) w:=λc w=>
  ⟨oA ha rfl w,oA ha rfl w,oA ha rfl w,oA ha rfl w,oA ha rfl w,oA ha rfl w⟩;obtain⟨a0,a1,a2,a3,a4,a5⟩:=hp a w;obtain⟨b0,b1,b2,b3,b4,b5⟩:=hp b w;have hq:∀p q:Int,(Op.equalIn (m+1) it (aS p) (aS q)).run P w=.ok (p==q) w:=λp q=>Fx m hi w;have hv:∀c:NV,c.v=.agg c.v.cells:=λc=>rfl;rw[hv a,hv b,show m+2=(m+1)+1 from rfl,Op.equalIn];have hprog:(program:Sem av).run P w=.ok P w:=rfl;simp only[Sem.run_bind,run_underlying hu,Result.andThen_ok,hprog,pz,<-Array.forIn_toList];have hab:(a==b)=(a.op==b.op && (a.i==b.i && (a.e==b.e && (a.g==b.g && (a.x==b.x && a.y==b.y))))):=by
  rw[dA];simp only[eg,di];obtain⟨_,_,_,_,_,_⟩:=a;obtain⟨_,_,_,_,_,_⟩:=b;simp[NV.mk.injEq]
 rw[hab];cases h0:a.op==b.op;simp[n0,t0,o0,a0,b0,hq,h0];cases h1:a.i==b.i;simp[n0,t0,o0,a0,b0,hq,h0,n1,t1,o1,a1,b1,h1];cases h2:a.e==b.e;simp[n0,t0,o0,a0,b0,hq,h0,n1,t1,o1,a1,b1,h1,n2,t2,o2,a2,b2,h2];cases h3:a.g==b.g;simp[n0,t0,o0,a0,b0,hq,h0,n1,t1,o1,a1,b1,h1,n2,t2,o2,a2,b2,h2,n3,t3,o3,a3,b3,h3];cases h4:a.x==b.x;simp[n0,t0,o0,a0,b0,hq,h0,n1,t1,o1,a1,b1,h1,n2,t2,o2,a2,b2,h2,n3,t3,o3,a3,b3,h3,n4,t4,o4,a4,b4,h4];cases h5:a.y==b.y;simp[n0,t0,o0,a0,b0,hq,h0,n1,t1,o1,a1,b1,h1,n2,t2,o2,a2,b2,h2,n3,t3,o3,a3,b3,h3,n4,t4,o4,a4,b4,h4,n5,t5,o5,a5,b5,h5];simp[n0,t0,o0,a0,b0,hq,h0,n1,t1,o1,a1,b1,h1,n2,t2,o2,a2,b2,h2,n3,t3,o3,a3,b3,h3,n4,t4,o4,a4,b4,h4,n5,t5,o5,a5,b5,h5]
theorem FK{P:av}{t it:ax} (hu:P.underlying t=some (.struct fs))(hfs:tv fs it)(hi:P.underlying it=some (.int .i64))(ha:∀w,(isAgg it).run P w=.ok false w)(e:Bool)(m:Nat)(a:NV)(w:aB):
  (Instr.checkKey e (m+2) t a.v).run P w=.ok () w:=by
 obtain⟨f0,f1,f2,f3,f4,f5,rfl,⟨n0,t0,o0⟩,⟨n1,t1,o1⟩,⟨n2,t2,o2⟩,⟨n3,t3,o3⟩,⟨n4,t4,o4⟩,⟨n5,t5,o5⟩⟩:=hfs;have a0:(part it a.v.cells 0).run P w=.ok (fH a.op) w:=oA ha rfl w;have a1:(part it a.v.cells 1).run P w=.ok (fH a.i) w:=oA ha rfl w;have a2:(part it a.v.cells 2).run P w=.ok (fH a.e) w:=oA ha rfl w;have a3:(part it a.v.cells 3).run P w=.ok (fH a.g) w:=oA ha rfl w;have a4:(part it a.v.cells 4).run P w=.ok (fH a.x) w:=oA ha rfl w;have a5:(part it a.v.cells 5).run P w=.ok (fH a.y) w:=oA ha rfl w;have hk:∀p:Int,(Instr.checkKey e (m+1) it (aS p)).run P w=.ok () w:=λp=>Go.MapKept.run_checkKey hi (by simp[Go.MapKept.IsKey]) e m;rw[show a.v=.agg a.v.cells from rfl,show m+2=(m+1)+1 from rfl,Instr.checkKey];simp only[Sem.run_bind,run_underlying hu,Result.andThen_ok,<-Array.forIn_toList];simp[n0,t0,o0,a0,hk,n1,t1,o1,a1,n2,t2,o2,a2,n3,t3,o3,a3,n4,t4,o4,a4,n5,t5,o5,a5]
theorem lS.node{P:av}{t it:ax} (hu:P.underlying t=some (.struct fs))(hfs:tv fs it)(hi:P.underlying it=some (.int .i64))(ha:∀w,(isAgg it).run P w=.ok false w)(pz:P.stoodInHeld t=false):lS P t NV.v (λa b=>a==b):=by
 refine⟨λe a w=>FK hu hfs hi ha e 9998 a w,λev L k w=>?_⟩;have hq:∀a b:NV,(Op.equal t a.v b.v).run P w=.ok (a==b) w:=λa b=>tJ hu hfs hi ha pz 9998 a b w;simp only[Instr.findKey,Sem.run_bind,run_underlying hu,Result.andThen_ok];cases L with
 |nil=>rfl
 |cons p L=>
  have h0:Instr.findNow (.struct fs) k.v (sE NV.v ev (p::L) 0) 0=none:=rfl;rw[h0];exact vX (q:=λa b:NV=>a==b) hq
theorem IL{P:av}{t it:ax} (hu:P.underlying t=some (.struct fs))(hfs:tv fs it)(hi:P.underlying it=some (.int .i64))(ha:∀w,(isAgg it).run P w=.ok false w)(pz:P.stoodInHeld t=false)(hg:P.eqGuardType P.depth t=false){a b:NV}:
  nE P .eql t a.v b.v (.bool (a==b)):=by
 intro x y w;have h1:(Op.equal t a.v b.v).run P w=.ok (a==b) w:=tJ hu hfs hi ha pz 9998 a b w;have hprog:(program:Sem av).run P w=.ok P w:=rfl;have h2:(eqGuard .eql t x y a.v b.v).run P w=.ok () w:=by
  unfold eqGuard;simp only[NV.v];simp[hg]
 have h3:(binOp .eql t a.v b.v).run P w=.ok (.bool (a==b)) w:=by
  show(do pure (Value.bool (<-Op.equal t a.v b.v)):Sem aC).run P w=_;simp only[Sem.run_bind,h1,Result.andThen_ok];rfl
 simp only[Sem.run_bind,h2,Result.andThen_ok,h3]
end
section
variable{az:aa}{ts:ab}{t:af}{vs:ai}{aft:ak}{cal:au}{ty:ax}
def mE(ops:aj)(i:Nat):Bool:=match ops[i]? with
 |none=>false
 |some o=>kU o.op && match o.dst with
  |none=>false
  |some d=>(List.range ops.size).all (λj=>Nat.beq j i||(!(gh ops j==some d) && (match ops[j]? with
   |none=>true
   |some p=>(!(lW ops p).contains d||(gZ ops j).contains i||(gZ ops i).contains j)) && (match gh ops j with
   |none=>true
   |some e=>(!(lW ops o).contains e||(gZ ops i).contains j||(gZ ops j).contains i))))
structure Gg (ops:aj) (i d:Nat):Prop where
  Gv:∀o,ops[i]?=some o->kU o.op=true
  dst:gh ops i=some d
  one:∀j,j<ops.size->j≠i->gh ops j≠some d
  seen:∀j p,j<ops.size->j≠i->ops[j]?=some p->d∈lW ops p->i∈gZ ops j\/j∈gZ ops i
  JZ:∀j e o,j<ops.size->j≠i->gh ops j=some e->ops[i]?=some o->e∈lW ops o->j∈gZ ops i\/i∈gZ ops j
theorem y9{ops:aj}{i:Nat}(h:mE ops i=true):∃d,Gg ops i d:=by
 unfold mE at h;split at h;cases h;rename_i o ho;rw[di]at h;obtain⟨h1,h2⟩:=h;split at h2;cases h2;rename_i d hd;simp only[dk,dO,dB,Nat.beq_eq,di,c6]at h2;refine⟨d,λp hp=>by rw[ho]at hp;cases hp;exact h1,by simp[gh,ho,hd],λj hj hne=>?_,λj p hj hne hp hm=>?_,λj e p hj hne he hp hm=>?_⟩;rcases h2 j hj with h|h;exact absurd h hne;simpa using h.1.1;rcases h2 j hj with h|h;exact absurd h hne;have:=h.1.2;rw[hp]at this;simp only[dB,c6]at this;rcases this with(h3|h3)|h3;rw[List.contains_eq_mem,bQ]at h3;exact absurd hm h3;exact .inl (by simpa using h3);exact .inr (by simpa using h3);rcases h2 j hj with h|h;exact absurd h hne;have:=h.2;rw[he]at this;simp only[dB,c6]at this;rw[ho]at hp;cases hp;rcases this with(h3|h3)|h3;rw[List.contains_eq_mem,bQ]at h3;exact absurd hm h3;exact .inl (by simpa using h3);exact .inr (by simpa using h3)
section
variable{P:av}{r:ah}{f:ay}{R:aC->aB->Prop}{w0:aB}{S:aq}{Y:List (Nat×Obj)}{n:Nat}{k:al}{l:Fl}{h:Hl}{ops:aj}
def kQ(P:av)(w0:aB)(S:aq)(n:Nat)(ops:aj)(i:Nat)(t:af)(h:Hl)(K:af->Hl->Prop):Prop:=
 ∃o d,ops[i]?=some o/\o.dst=some d/\ko o.op=false/\kU o.op=true/\d<n/\
  ((Region.wanted o (yielded ops t)=true/\∀(w:aB) (Ds:aq) (Y':List (Nat×Obj)),St w0 S w h Y'->
   (∃v w' h',(execOp (Act.eval ⟨t,Ds.map mark⟩) o).run P w=.ok (.value v) w'/\St w0 S w' h' Y'/\K (t.setIfInBounds d v) h')\/
   (∃gf args,∃Rc:aC->aB->Prop,(execOp (Act.eval ⟨t,Ds.map mark⟩) o).run P w=.ok (.enter gf args) w/\(Calls P gf args w λe w'=>∃v,e=.returned v/\Rc v w')/\∀v w',Rc v w'->∃h',St w0 S w' h' Y'/\K (t.setIfInBounds d v) h'))\/
  (Region.wanted o (yielded ops t)=false/\K (t.setIfInBounds d undef) h))
theorem kQ.of{i d:Nat}{K:aC->Hl->Prop}{K':af->Hl->Prop} (hm:ik P w0 S n h ops i l d K)(hF:om n t l)(hK:∀v h',K v h'->K' (t.setIfInBounds d v) h'):kQ P w0 S n ops i t h K':=by
 obtain⟨o,ho,hdst,hnd,hsel,hd,hr⟩:=hm;refine⟨o,d,ho,hdst,hnd,hsel,by simpa[ed]using hd,?_⟩;rcases hr with⟨hw,hr⟩|⟨hs,hk⟩;refine .inl ⟨jV hF hw,λw Ds Y' hS=>?_⟩;rcases hr t w Ds Y' hF hS with⟨v,w',h',h1,h2,h3⟩|⟨gf,args,Rc,h1,h2,h3⟩;exact .inl ⟨v,w',h',h1,h2,hK v h' h3⟩;refine .inr ⟨gf,args,Rc,h1,h2,λv w' hR=>?_⟩;obtain⟨h',h4,h5⟩:=h3 v w' hR;exact⟨h',h4,hK v h' h5⟩;exact .inr ⟨rK hF hs,hK undef h hk⟩
theorem kQ.congr{i:Nat}{t':af}{K K':af->Hl->Prop}(hm:kQ P w0 S n ops i t h K)(hs:t'.size=t.size)(he:∀o,ops[i]?=some o->∀s∈lW ops o,t'.getD s undef=t.getD s undef)
  (hK:∀d v h',gh ops i=some d->K (t.setIfInBounds d v) h'->K' (t'.setIfInBounds d v) h'):kQ P w0 S n ops i t' h K':=by
 obtain⟨o,d,ho,hdst,hnd,hsel,hd,hr⟩:=hm;have hdo:gh ops i=some d:=by simp[gh,ho,hdst]
 have hw:=oN (ops:=ops) (o:=o) hs (he o ho);refine⟨o,d,ho,hdst,hnd,hsel,hd,?_⟩;rcases hr with⟨hwant,hr⟩|⟨hskip,hk⟩;refine .inl ⟨hw.trans hwant,λw Ds Y' hS=>?_⟩;have hexec:execOp (Act.eval ⟨t',Ds.map mark⟩) o=execOp (Act.eval ⟨t,Ds.map mark⟩) o:=execOp_congr (ρ':=Act.eval ⟨t,Ds.map mark⟩) o (λcs bb e=>by rw[e]at hsel;cases hsel) (λx hx=>by
  cases x with
  |tmp s=>exact he o ho s (by
    simp only[lW,dG];exact .inr (cR.2 ⟨.tmp s,by simpa using hx,rfl⟩))
  |const v=>rfl
  |global g=>rfl
  |func g=>rfl);rw[hexec];rcases hr w Ds Y' hS with⟨v,w',h',h1,h2,h3⟩|⟨gf,args,Rc,h1,h2,h3⟩;exact .inl ⟨v,w',h',h1,h2,hK d v h' hdo h3⟩;refine .inr ⟨gf,args,Rc,h1,h2,λv w' hR=>?_⟩;obtain⟨h',h4,h5⟩:=h3 v w' hR;exact⟨h',h4,hK d v h' hdo h5⟩;exact .inr ⟨hw.trans hskip,hK d undef h hdo hk⟩
theorem kQ.pure{i d:Nat}{v:aC} {hb:Hl}{K:af->Hl->Prop}(ho:px P w0 S n hb ops i t d v)(hsel:∀o,ops[i]?=some o->kU o.op=true)(hs:hb.Sublist h)(hK:K (t.setIfInBounds d v) h):kQ P w0 S n ops i t h K:=by
 obtain⟨o,h1,h2,h3,h4,h5⟩:=ho;refine⟨o,d,h1,h2,h4,hsel o h1,h3,?_⟩;rcases h5 with⟨a,b⟩|⟨a,rfl⟩;refine .inl ⟨a,λw Ds Y' hS=>?_⟩;rcases b w Ds Y' (hS.iV hs)with hb2|⟨gf,args,hb2,hcall⟩;exact .inl ⟨v,w,h,hb2,hS,hK⟩;exact .inr ⟨gf,args,_,hb2,hcall,λu w' ⟨he,hu⟩=>⟨h,hS.later he,by rw[hu];exact hK⟩⟩;exact .inr ⟨a,hK⟩
def Dt(P:av)(r:ah)(f:ay)(R:aC->aB->Prop)(w0:aB)(S:aq)(Y:List (Nat×Obj))(n:Nat)(k:al)(ops:aj)(hb:Hl):Nat->aq->af->Hl->Prop
 |0,_,_,_=>False
 |q+1,D,t,h=>
  (eR ops D=[]/\∀w Ds,St w0 S w h (uM Ds++Y)->jK P r f R (.inRegion ops []::k) t (Ds.map mark) w)\/
  (eR ops D≠[]/\∀i∈eR ops D,kQ P w0 S n ops i t h (λt' h'=>hb.Sublist h'/\Dt P r f R w0 S Y n k ops hb q (i::D) t' h'))
theorem kQ.mono{i:Nat} {K K':af->Hl->Prop}(hm:kQ P w0 S n ops i t h K)(hK:∀t' h',K t' h'->K' t' h'):kQ P w0 S n ops i t h K':=hm.congr rfl (λ_ _ _ _=>rfl) (λ_ _ _ _ h=>hK _ _ h)
theorem Dt.perm{hb:Hl}:∀{q:Nat} {D D':aq} {t:af} {h:Hl},(∀j,j∈D↔j∈D')->Dt P r f R w0 S Y n k ops hb q D t h->Dt P r f R w0 S Y n k ops hb q D' t h
 |0,_,_,_,_,_,hd=>hd
 |q+1,D,D',t,h,hp,hd=>by
  rw[Dt]at hd⊢;rw[<-rQ hp];rcases hd with hd|⟨h1,h2⟩;exact .inl hd;exact .inr ⟨h1,λi hi=>(h2 i hi).mono (λt' h' ⟨e1,e2⟩=>⟨e1,e2.perm (λj=>by rw[dS,dS,hp j])⟩)⟩
theorem set_comm {d e:Nat}{u v:aC}(hne:d≠e):(t.setIfInBounds d u).setIfInBounds e v=(t.setIfInBounds e v).setIfInBounds d u:=by
 apply Array.ext_getElem?;intro j;simp only[Array.getElem?_setIfInBounds,Array.size_setIfInBounds];by_cases h1:e=j;by_cases h2:d=j;exact absurd (h2.trans h1.symm) hne;simp[h1,h2];by_cases h2:d=j<;>simp[h1,h2]
theorem Dt.pure{hb:Hl}{i d:Nat}(hf:Gg ops i d)(hd:d<n):∀{q:Nat} {D:aq} {t:af} {h:Hl} {v:aC},t.size=n->i∈eR ops D->px P w0 S n hb ops i t d v->hb.Sublist h->Dt P r f R w0 S Y n k ops hb q (i::D) (t.setIfInBounds d v) h->Dt P r f R w0 S Y n k ops hb (q+1) D t h
 |0,_,_,_,_,_,_,_,_,hd=>hd.elim
 |q+1,D,t,h,v,hts,hi,ho,hs,hdt=>by
  have hme:kQ P w0 S n ops i t h (λt' h'=>hb.Sublist h'/\Dt P r f R w0 S Y n k ops hb (q+1) (i::D) t' h'):=kQ.pure ho hf.Gv hs ⟨hs,hdt⟩;have hne:eR ops D≠[]:=λe=>by rw[e]at hi;cases hi
  obtain⟨hiS,hiD,hid⟩:=gl.1 hi;rw[Dt];refine .inr ⟨hne,λj hj=>?_⟩;by_cases hji:j=i;rw[hji];exact hme;obtain⟨hjS,hjD,hjd⟩:=gl.1 hj;have hj2:j∈eR ops (i::D):=gl.2 ⟨hjS,by simp[hji,hjD],λe he=>cy _ (hjd e he)⟩;rw[Dt]at hdt;rcases hdt with⟨h1,_⟩|⟨_,h2⟩;rw[h1]at hj2;cases hj2;have hjo:∀o,ops[j]?=some o->d∉lW ops o:=λo hoo hm=>(hf.seen j o hjS hji hoo hm).elim (λh5=>hiD (hjd i h5)) (λh5=>hjD (hid j h5));refine(h2 j hj2).congr aL (λo hoo s hse=>?_) (λe u h' hde hk=>?_);have hds:d≠s:=λe1=>hjo o hoo (by rw[e1];exact hse);rw[jN (by rw[hts];exact hd),if_neg hds];obtain⟨hk1,hk2⟩:=hk;refine⟨hk1,?_⟩;have hde2:d≠e:=λe1=>hf.one j hjS hji (by rw[hde,e1]);rw[set_comm hde2]at hk2;have hi2:i∈eR ops (j::D):=gl.2 ⟨hiS,by simp[Ne.symm hji,hiD],λe he=>cy _ (hid e he)⟩;refine Dt.pure hf hd (by simpa using hts) hi2 (ho.congr hf.Gv aL (λo hoo s hse=>?_)) hk1 (hk2.perm (λx=>by simp only[dS];exact or_left_comm));have hes:e≠s:=λe1=>by
   subst e1;rcases hf.JZ j e o hjS hji hde hoo hse with h5|h5;exact hjD (hid j h5);exact hiD (hjd i h5)
  by_cases hlt:e<t.size;rw[jN hlt,if_neg hes];rw[show t.setIfInBounds e u=t from Array.setIfInBounds_eq_of_size_le (Nat.le_of_not_lt hlt)]
theorem Dt.go{hb:Hl}:∀(fuel τ:Nat) (arr:Array Bool) (D:aq) (q:Nat) (t:af) (h:Hl) (w:aB) (Ds:aq),arr.size=ops.size->(∀j,arr.getD j false=D.contains j)->Dt P r f R w0 S Y n k ops hb q D t h->St w0 S w h (uM Ds++Y)->(List.range ops.size).countP (λj=>!D.contains j)<=fuel->
  jK P r f R (.inRegion ops (Region.linearise.go .any ops fuel τ arr [])::k) t (Ds.map mark) w
 |_,_,_,_,0,_,_,_,_,_,_,hd,_,_=>hd.elim
 |fuel,τ,arr,D,q+1,t,h,w,Ds,hs,ha,hd,hS,hfu=>by
  rw[Dt]at hd;rcases hd with⟨h0,hg⟩|⟨h1,h2⟩;have:Region.linearise.go .any ops fuel τ arr []=[]:=by
   cases fuel with
   |zero=>rfl
   |succ fuel=>
    simp only[Region.linearise.go];change (match (Region.ready .any ops arr)[_%(Region.ready .any ops arr).length]? with
     |some i=>_
     |none=>[].reverse)=[];rw[ox hs ha,h0];rfl
  rw[this];exact hg w Ds hS;cases fuel with
  |zero=>
   exfalso;obtain⟨x,hx⟩:=List.exists_mem_of_ne_nil _ h1;obtain⟨e1,e2,_⟩:=gl.1 hx;have:0<(List.range ops.size).countP (λj=>!D.contains j):=List.countP_pos_iff.2 ⟨x,by simpa using e1,by simpa using e2⟩;omega
  |succ fuel=>
   have hpos:0<(eR ops D).length:=List.length_pos_iff.2 h1;simp only[Region.linearise.go];change jK P r f R (.inRegion ops (match (Region.ready .any ops arr)[τ%(Region.ready .any ops arr).length]? with
    |some i=>Region.linearise.go .any ops fuel (τ / (Region.ready .any ops arr).length) (arr.setIfInBounds i true) [i]
    |none=>[].reverse)::k) t (Ds.map mark) w;rw[ox hs ha];have hlt:τ%(eR ops D).length<(eR ops D).length:=Nat.mod_lt _ hpos;rw[bH hlt];obtain⟨x,hx⟩:∃x,x=(eR ops D)[τ%(eR ops D).length]:=⟨_,rfl⟩;rw[<-hx];have hxm:x∈eR ops D:=by rw[hx];exact dq hlt
   obtain⟨e1,e2,_⟩:=gl.1 hxm;dsimp only;rw[linearise_go_acc,List.reverse_singleton,List.singleton_append];have hnext:∀(t':af) (h':Hl) (w':aB),hb.Sublist h'/\Dt P r f R w0 S Y n k ops hb q (x::D) t' h'->St w0 S w' h' (uM Ds++Y)->jK P r f R (.inRegion ops (Region.linearise.go .any ops fuel (τ / (eR ops D).length) (arr.setIfInBounds x true) [])::k) t' (Ds.map mark) w':=λt' h' w' hK hS'=>by
    refine Dt.go fuel _ _ (x::D) q t' h' w' Ds (by simpa using hs) (λj=>?_) hK.2 hS' ?_;rw[fQ aH,ha j,List.contains_cons];split;rename_i e;subst e;simp;rename_i e;rw[beq_false_of_ne (Ne.symm e)];rfl;have:=qB (l:=List.range ops.size) (p:=λj=>!(x::D).contains j) (q:=λj=>!D.contains j) (λy _ hy=>by simp at hy⊢;exact hy.2) ⟨x,by simpa using e1,by simpa using e2,by simp⟩;omega
   obtain⟨o,d,ho,hdst,hnd,hsel,hdn,hr⟩:=h2 x hxm;rcases hr with⟨hw,hr⟩|⟨hw,hk⟩;rcases hr w Ds _ hS with⟨v,w',h',h3,h4,h5⟩|⟨gf,args,Rc,h3,h4,h5⟩;refine jK.op ho hw (iy hnd) h3 (.inl rfl) ?_;rw[hdst];exact hnext _ _ _ h5 h4;refine jK.call ho hw (iy hnd) h3 h4 (λu w2 hu=>?_);obtain⟨h',h6,h7⟩:=h5 u w2 hu;rw[hdst];exact hnext _ _ _ h7 h6;refine mh ho hw ?_;rw[hdst];exact hnext _ _ _ hk hS
def fh(P:av)(r:ah)(f:ay)(R:aC->aB->Prop)(w0:aB)(S:aq)(Y:List (Nat×Obj))(n:Nat)(k:al)(ops:aj)(hb:Hl)(q:Nat)(D:aq)(l:Fl)(h:Hl):Prop:=
 ∀t,om n t l->Dt P r f R w0 S Y n k ops hb q D t h
variable{hb:Hl}{q:Nat}{D:aq}
theorem iQ{id:Nat}(q:Nat)(hb:Hl)(hmix:P.follows .mixedOrders=true)(hg:fh P r f R w0 S Y n k ops hb q [] l h):eB P r f R w0 S Y n (.code (.region id ops true)::k) l h:=by
 intro t w Ds hF hS;refine .m6 (λτ=>?_);simp only[Region.schedule,hmix,Bool.true_or,ew,Region.linearise];refine Dt.go ops.size τ _ [] q t h _ Ds aL (λj=>?_) (hg t hF) hS.drew ?_;simp[bG];split<;>simp
 exact dV List.countP_le_length aL
theorem fE{id:Nat}(q:Nat)(hmix:P.follows .mixedOrders=true)(hg:fh P r f R w0 S Y n k ops h q [] l h):eB P r f R w0 S Y n (.code (.region id ops true)::k) l h:=iQ q h hmix hg
theorem kJ{id:Nat}{p:ah×Obj}(q:Nat)(hmix:P.follows .mixedOrders=true)(hg:fh P r f R w0 S Y n k ops [p] q [] l (p::h)):eB P r f R w0 S Y n (.code (.region id ops true)::k) l (p::h):=iQ q [p] hmix hg
theorem fh.done(h0:eR ops D=[])(hg:eB P r f R w0 S Y n (.inRegion ops []::k) l h):fh P r f R w0 S Y n k ops hb (q+1) D l h:=λt hF=>.inl ⟨h0,λw Ds hS=>hg t w Ds hF hS⟩
theorem fh.Er{i d:Nat}{v:aC}(hi:(eR ops D).contains i=true)(hp:mE ops i=true)(ho:∀t,om n t l->px P w0 S n hb ops i t d v)(hs:hb.Sublist h)(hg:fh P r f R w0 S Y n k ops hb q (i::D) ((d,v)::l) h):fh P r f R w0 S Y n k ops hb (q+1) D l h:=by
 intro t hF;obtain⟨d',hf⟩:=y9 hp;have hO:=ho t hF;obtain⟨o,h1,h2,h3,_⟩:=hO;have e:d'=d:=by
  have:=hf.dst;simp[gh,h1,h2]at this;exact this.symm
 subst e;exact Dt.pure hf h3 hF.1 (by simpa using hi) (ho t hF) hs (hg _ (hF.put v (by simpa[ed]using h3)))
theorem fh.v{i d:Nat}{v:aC}(hv:eD P w0 S n hb ops i l d v)(hi:(eR ops D).contains i=true)(hp:mE ops i=true)(hs:hb.Sublist h)(hg:fh P r f R w0 S Y n k ops hb q (i::D) ((d,v)::l) h):fh P r f R w0 S Y n k ops hb (q+1) D l h:=by
 refine fh.Er hi hp (λt hF=>?_) hs hg;obtain⟨o,ho,hw,hdst,hnd,hd,hr⟩:=hv
 exact⟨o,ho,hdst,by simpa[ed]using hd,hnd,.inl ⟨jV hF hw,λw Ds Y' hS=>by
  obtain⟨nx,h1,rfl⟩:=hr t w Ds Y' hF hS;exact .inl h1⟩⟩
theorem fh.no{i d:Nat}{o:Oper}(ho:ops[i]?=some o)(hw:qM ops l o.guard=true)(hdst:o.dst=some d)(hnd:ko o.op=false)(hd:Nat.blt d n=true)(hi:(eR ops D).contains i=true)(hp:mE ops i=true)(hs:hb.Sublist h)(hg:fh P r f R w0 S Y n k ops hb q (i::D) ((d,undef)::l) h):fh P r f R w0 S Y n k ops hb (q+1) D l h:=
 fh.Er hi hp (λ_ hF=>⟨o,ho,hdst,by simpa[ed]using hd,hnd,.inr ⟨rK hF hw,rfl⟩⟩) hs hg
theorem fh.cases{d:Nat}{b:Bool}(hv:look l d=some (.bool b))(ht:b=true->fh P r f R w0 S Y n k ops hb q D ((d,.bool true)::l) h)(hf:b=false->fh P r f R w0 S Y n k ops hb q D ((d,.bool false)::l) h):fh P r f R w0 S Y n k ops hb q D l h:=by
 intro t hF;cases hb2:b with
 |true=>exact ht hb2 t (su hF hv hb2)
 |false=>exact hf hb2 t (su hF hv hb2)
theorem fh.one{i d:Nat}(h1:eR ops D=[i])(hm:ik P w0 S n h ops i l d (λv h'=>hb.Sublist h'/\fh P r f R w0 S Y n k ops hb q (i::D) ((d,v)::l) h'))(hd:Nat.blt d n=true):fh P r f R w0 S Y n k ops hb (q+1) D l h:=by
 intro t hF;rw[Dt];refine .inr ⟨by rw[h1];simp,λj hj=>?_⟩;rw[h1]at hj;obtain rfl:=cS.1 hj;exact kQ.of hm hF (λv h' ⟨e1,e2⟩=>⟨e1,e2 _ (hF.put v hd)⟩)
theorem fh.call{i d:Nat}{ty:ax}{pos:aA}{aft:ak}{g:Option (Nat×Bool)}{az:aa}{ts:ab}{cal:au}{gf:ay}{vs:ai}(Rc:aB->aC->aB->Prop)(h1:eR ops D=[i])(ho:ops[i]?=some ⟨some d,.call ⟨.value cal,az,ts⟩,ty,pos,aft,g⟩)(hw:eL ops l g=true)
  (hc:eZ l cal=some (.func (.func gf) #[] #[]))(hx:iw l az.toList=some vs)(hd:Nat.blt d n=true)(hcf:∀args w,(callFunc gf args).run P w=.ok (.enter gf args) w)
  (hcall:∀w Y',St w0 S w h Y'->Cn P gf vs w (Rc w))
  (hk:∀v w w' Y',St w0 S w h Y'->Ex [] w w'->Rc w v w'->∃h',St w0 S w' h' Y'/\hb.Sublist h'/\fh P r f R w0 S Y n k ops hb q (i::D) ((d,v)::l) h'):fh P r f R w0 S Y n k ops hb (q+1) D l h:=
 fh.one h1 (ik.call Rc ho hw hc hx hd hcf hcall (λv w w' Y' hS he hr=>by
  obtain⟨h',e1,e2,e3⟩:=hk v w w' Y' hS he hr;exact⟨h',e1,e2,e3⟩)) hd
theorem fh.ku{i d:Nat} {pos:aA} {g:Option (Nat×Bool)}   {gf:ay} (Rc:aB->aC->aB->Prop)(hcf:∀args w,(callFunc gf args).run P w=.ok (.enter gf args) w)(hcall:∀w Y',St w0 S w h Y'->Cn P gf vs w (Rc w))(hk:∀v w w' Y',St w0 S w h Y'->Ex [] w w'->Rc w v w'->∃h',St w0 S w' h' Y'/\hb.Sublist h'/\fh P r f R w0 S Y n k ops hb q (i::D) ((d,v)::l) h')(h1:eR ops D=[i]:=by exact rfl)(ho:ops[i]?=some ⟨some d,.call ⟨.value cal,az,ts⟩,ty,pos,aft,g⟩:=by exact rfl)(hw:eL ops l g=true:=by exact rfl)(hc:eZ l cal=some (.func (.func gf) #[] #[]):=by exact rfl)(hx:iw l az.toList=some vs:=by exact rfl)(hd:Nat.blt d n=true:=by exact rfl):fh P r f R w0 S Y n k ops hb (q+1) D l h:=fh.call (Rc:=Rc) (h1:=h1) (ho:=ho) (hw:=hw) (hc:=hc) (hx:=hx) (hd:=hd) (hcf:=hcf) (hcall:=hcall) (hk:=hk)
theorem fh.qS{i d:Nat}{v:aC} {pos:aA} {g:Option (Nat×Bool)}   {gf:ay} (h1:eR ops D=[i])(ho:ops[i]?=some ⟨some d,.call ⟨.value cal,az,ts⟩,ty,pos,aft,g⟩)(hw:eL ops l g=true)
  (hc:eZ l cal=some (.func (.func gf) #[] #[]))(hx:iw l az.toList=some vs)(hd:Nat.blt d n=true)(hcf:∀args w,(callFunc gf args).run P w=.ok (.enter gf args) w)
  (hcall:∀w Y',St w0 S w h Y'->Cn P gf vs w (λu _=>u=v))(hs:hb.Sublist h)(hg:fh P r f R w0 S Y n k ops hb q (i::D) ((d,v)::l) h):fh P r f R w0 S Y n k ops hb (q+1) D l h:=
 fh.call (λ_ u _=>u=v) h1 ho hw hc hx hd hcf hcall (λ_u _ _ _ hS he e=>⟨h,hS.later he,hs,e ▸ hg⟩)
theorem fh.iJ{i d:Nat}{v:aC} {pos:aA} {g:Option (Nat×Bool)}   {gf:ay} (hcf:∀args w,(callFunc gf args).run P w=.ok (.enter gf args) w)(hcall:∀w Y',St w0 S w h Y'->Cn P gf vs w (λu _=>u=v))(hs:hb.Sublist h)(hg:fh P r f R w0 S Y n k ops hb q (i::D) ((d,v)::l) h)(h1:eR ops D=[i]:=by exact rfl)(ho:ops[i]?=some ⟨some d,.call ⟨.value cal,az,ts⟩,ty,pos,aft,g⟩:=by exact rfl)(hw:eL ops l g=true:=by exact rfl)(hc:eZ l cal=some (.func (.func gf) #[] #[]):=by exact rfl)(hx:iw l az.toList=some vs:=by exact rfl)(hd:Nat.blt d n=true:=by exact rfl):fh P r f R w0 S Y n k ops hb (q+1) D l h:=fh.qS (h1:=h1) (ho:=ho) (hw:=hw) (hc:=hc) (hx:=hx) (hd:=hd) (hcf:=hcf) (hcall:=hcall) (hs:=hs) (hg:=hg)
end
end
section
variable{az:aa}{ts:ab}{vs:ai}{c cal x y:au}
section
variable{P:av}{r:ah}{f:ay}{R:aC->aB->Prop}{w0:aB}{S:aq}{Y:List (Nat×Obj)}{n:Nat}{k:al}{l:Fl}{h:Hl}{ops:aj}{i d m:Nat}{rest:aq}{ty:ax}{pos:aA}{aft:ak}{g:Option (Nat×Bool)}
theorem gE(hk:eB P r f R w0 S Y n k l h):eB P r f R w0 S Y n (.inRegion ops []::k) l h:=.qu hk
theorem gS{x y:Code}(hk:eB P r f R w0 S Y n (.code x::.code y::k) l h):eB P r f R w0 S Y n (.code (.seq x y)::k) l h:=.seq hk
theorem gR{id:Nat}(hk:eB P r f R w0 S Y n (.inRegion ops (List.range' 0 ops.size)::k) l h):eB P r f R w0 S Y n (.code (.region id ops false)::k) l h:=.region hk
theorem gK(hk:eB P r f R w0 S Y n k l h):eB P r f R w0 S Y n (.code .skip::k) l h:=.skip hk
theorem gB{id:Nat}{c:Code}(hk:eB P r f R w0 S Y n (.code c::.inBlock id::k) l h):eB P r f R w0 S Y n (.code (.block id c)::k) l h:=.block hk
theorem B0{id:Nat}(hk:eB P r f R w0 S Y n k l h):eB P r f R w0 S Y n (.inBlock id::k) l h:=.inBlock hk
theorem QR{c:Code}(hk:eB P r f R w0 S Y n k l h):eB P r f R w0 S Y n (.inScope c::k) l h:=.inScope hk
theorem uy {v:aC}(hk:eB P r f R w0 S Y n (.inRegion ops rest::k) ((d,v)::l) h)(ho:ops[i]?=some ⟨some d,.move x,ty,pos,aft,g⟩:=by exact rfl)(hw:eL ops l g=true:=by exact rfl)(hx:eZ l x=some v:=by exact rfl)(hd:Nat.blt d n=true:=by exact rfl):eB P r f R w0 S Y n (.inRegion ops (i::rest)::k) l h:=eB.v (.mv ho hw hx hd) hk
theorem lD {v:aC}(hk:eB P r f R w0 S Y n (.inRegion ops rest::k) ((d,v)::l) h)(ho:ops[i]?=some ⟨some d,.assign x,ty,pos,aft,g⟩:=by exact rfl)(hw:eL ops l g=true:=by exact rfl)(hx:eZ l x=some v:=by exact rfl)(hd:Nat.blt d n=true:=by exact rfl):eB P r f R w0 S Y n (.inRegion ops (i::rest)::k) l h:=eB.v (.Cu ho hw hx hd) hk
theorem qQ {u:aC}(hk:eB P r f R w0 S Y n (.inRegion ops rest::k) ((d,u)::l) h)(ho:ops[i]?=some ⟨some d,.pick c x y,ty,pos,aft,g⟩:=by exact rfl)(hw:eL ops l g=true:=by exact rfl)(hc:eZ l c=some (.bool true):=by exact rfl)(hx:eZ l x=some u:=by exact rfl)(hd:Nat.blt d n=true:=by exact rfl):eB P r f R w0 S Y n (.inRegion ops (i::rest)::k) l h:=eB.v (.jq ho hw hc hx hd) hk
theorem qA {u:aC}(hk:eB P r f R w0 S Y n (.inRegion ops rest::k) ((d,u)::l) h)(ho:ops[i]?=some ⟨some d,.pick c x y,ty,pos,aft,g⟩:=by exact rfl)(hw:eL ops l g=true:=by exact rfl)(hc:eZ l c=some (.bool false):=by exact rfl)(hx:eZ l y=some u:=by exact rfl)(hd:Nat.blt d n=true:=by exact rfl):eB P r f R w0 S Y n (.inRegion ops (i::rest)::k) l h:=eB.v (.I6 ho hw hc hx hd) hk
theorem P9{o:UnOp}{tx:ax} {a v:aC}(hb:Oi P o a v)(hk:eB P r f R w0 S Y n (.inRegion ops rest::k) ((d,v)::l) h)(ho:ops[i]?=some ⟨some d,.unOp o tx x,ty,pos,aft,g⟩:=by exact rfl)(hw:eL ops l g=true:=by exact rfl)(hx:eZ l x=some a:=by exact rfl)(hd:Nat.blt d n=true:=by exact rfl):eB P r f R w0 S Y n (.inRegion ops (i::rest)::k) l h:=eB.v (.un ho hw hx hb hd) hk
theorem oM{o:BinOp}{tx tyy:ax} {a b v:aC}(hb:nE P o tx a b v)(hk:eB P r f R w0 S Y n (.inRegion ops rest::k) ((d,v)::l) h)(ho:ops[i]?=some ⟨some d,.binOp o tx x y tyy,ty,pos,aft,g⟩:=by exact rfl)(hw:eL ops l g=true:=by exact rfl)(hx:eZ l x=some a:=by exact rfl)(hy:eZ l y=some b:=by exact rfl)(hd:Nat.blt d n=true:=by exact rfl):eB P r f R w0 S Y n (.inRegion ops (i::rest)::k) l h:=eB.v (.bin ho hw hx hy hb hd) hk
theorem KQ{t:ax} {b off:Nat}{cs:af}{e:ax}{fr:Nat×Nat}{v:aC}(ha:∀w,(isAgg t).run P w=.ok false w)(j:Nat)(hk:eB P r f R w0 S Y n (.inRegion ops rest::k) ((d,v)::l) h)(ho:ops[i]?=some ⟨some d,.load t x,ty,pos,aft,g⟩:=by exact rfl)(hw:eL ops l g=true:=by exact rfl)(hx:eZ l x=some (.pointer (some ⟨b,off,none⟩)):=by exact rfl)(hd:Nat.blt d n=true:=by exact rfl)(hj:h[j]?=some (some b,.cells cs e fr):=by exact rfl)(hv:cs[off]?=some v:=by exact rfl):eB P r f R w0 S Y n (.inRegion ops (i::rest)::k) l h:=eB.v (.ux ho hw hx hd ha j hj hv) hk
theorem KR{s tt:ax} {b o q:Nat}{fs:Array Field}{fd:Field}{sz:Nat}(hu:P.underlying s=some (.struct fs))(he:∀w,(sizeOf tt).run P w=.ok (sz+1) w)(o':Nat)(hk:eB P r f R w0 S Y n (.inRegion ops rest::k) ((d,.pointer (some ⟨b,o',none⟩))::l) h)(ho:ops[i]?=some ⟨some d,.fieldAddr s x q,ty,pos,aft,g⟩:=by exact rfl)(hw:eL ops l g=true:=by exact rfl)(hx:eZ l x=some (.pointer (some ⟨b,o,none⟩)):=by exact rfl)(hd:Nat.blt d n=true:=by exact rfl)(hq:fs[q]?=some fd:=by exact rfl)(ht:fd.type=tt:=by exact rfl)(hO:o+fd.offset=o':=by exact rfl):eB P r f R w0 S Y n (.inRegion ops (i::rest)::k) l h:=eB.v (.lV ho hw hx hd hu hq (ht ▸ he) o' hO) hk
theorem nD{o:Oper}(hk:eB P r f R w0 S Y n (.inRegion ops rest::k) ((d,undef)::l) h)(ho:ops[i]?=some o:=by exact rfl)(hw:qM ops l o.guard=true:=by exact rfl)(hdst:o.dst=some d:=by exact rfl)(hd:Nat.blt d n=true:=by exact rfl):eB P r f R w0 S Y n (.inRegion ops (i::rest)::k) l h:=eB.no ho hw hdst hd hk
theorem gP   {gf:ay} {v:aC}(ho:ops[i]?=some ⟨some d,.call ⟨.value cal,az,ts⟩,ty,pos,aft,g⟩)(hw:eL ops l g=true)(hc:eZ l cal=some (.func (.func gf) #[] #[]))(hx:iw l az.toList=some vs)(hd:Nat.blt d n=true)(hcf:∀args w,(callFunc gf args).run P w=.ok (.enter gf args) w)(hcall:∀w Y',St w0 S w h Y'->Cn P gf vs w (λu _=>u=v))(hk:eB P r f R w0 S Y n (.inRegion ops rest::k) ((d,v)::l) h):eB P r f R w0 S Y n (.inRegion ops (i::rest)::k) l h:=.qS ho hw hc hx hd hcf hcall hk
theorem q9   {gf:ay} {v:aC}(hcf:∀args w,(callFunc gf args).run P w=.ok (.enter gf args) w)(hcall:∀w Y',St w0 S w h Y'->Cn P gf vs w (λu _=>u=v))(hk:eB P r f R w0 S Y n (.inRegion ops rest::k) ((d,v)::l) h)(ho:ops[i]?=some ⟨some d,.call ⟨.value cal,az,ts⟩,ty,pos,aft,g⟩:=by exact rfl)(hw:eL ops l g=true:=by exact rfl)(hc:eZ l cal=some (.func (.func gf) #[] #[]):=by exact rfl)(hx:iw l az.toList=some vs:=by exact rfl)(hd:Nat.blt d n=true:=by exact rfl):eB P r f R w0 S Y n (.inRegion ops (i::rest)::k) l h:=gP (ho:=ho) (hw:=hw) (hc:=hc) (hx:=hx) (hd:=hd) (hcf:=hcf) (hcall:=hcall) (hk:=hk)
theorem gM   {gf:ay} {Rc:aB->aC->aB->Prop}(ho:ops[i]?=some ⟨some d,.call ⟨.value cal,az,ts⟩,ty,pos,aft,g⟩)(hw:eL ops l g=true)(hc:eZ l cal=some (.func (.func gf) #[] #[]))(hx:iw l az.toList=some vs)(hd:Nat.blt d n=true)(hcf:∀args w,(callFunc gf args).run P w=.ok (.enter gf args) w)(hcall:∀w Y',St w0 S w h Y'->Cn P gf vs w (Rc w))(hk:∀v w w' Y',St w0 S w h Y'->Ex [] w w'->Rc w v w'->∃h',St w0 S w' h' Y'/\eB P r f R w0 S Y n (.inRegion ops rest::k) ((d,v)::l) h'):eB P r f R w0 S Y n (.inRegion ops (i::rest)::k) l h:=.sP Rc ho hw hc hx hd hcf hcall hk
theorem sY   {gf:ay} {Rc:aB->aC->aB->Prop}(hcf:∀args w,(callFunc gf args).run P w=.ok (.enter gf args) w)(hcall:∀w Y',St w0 S w h Y'->Cn P gf vs w (Rc w))(hk:∀v w w' Y',St w0 S w h Y'->Ex [] w w'->Rc w v w'->∃h',St w0 S w' h' Y'/\eB P r f R w0 S Y n (.inRegion ops rest::k) ((d,v)::l) h')(ho:ops[i]?=some ⟨some d,.call ⟨.value cal,az,ts⟩,ty,pos,aft,g⟩:=by exact rfl)(hw:eL ops l g=true:=by exact rfl)(hc:eZ l cal=some (.func (.func gf) #[] #[]):=by exact rfl)(hx:iw l az.toList=some vs:=by exact rfl)(hd:Nat.blt d n=true:=by exact rfl):eB P r f R w0 S Y n (.inRegion ops (i::rest)::k) l h:=gM (ho:=ho) (hw:=hw) (hc:=hc) (hx:=hx) (hd:=hd) (hcf:=hcf) (hcall:=hcall) (hk:=hk)
theorem gT{fn:Func} (hf:P.funcs[f]?=some fn)(hR:∀w,St w0 S w h Y->R (mn vs) w)(hres:CU l fn.results.toList=some vs:=by exact rfl):eB P none f R w0 S Y n (.code .ret::k) l h:=.ret fn hf hres hR
theorem gC {x y:Code}{b:Bool}(ht:b=true->eB P r f R w0 S Y n (.code x::k) l h)(hf:b=false->eB P r f R w0 S Y n (.code y::k) l h)(hc:eZ l c=some (.bool b):=by exact rfl):eB P r f R w0 S Y n (.code (.cond c x y)::k) l h:=.cond hc ht hf
theorem QT(d:Nat){b:Bool}(ht:b=true->eB P r f R w0 S Y n k ((d,.bool true)::l) h)(hf:b=false->eB P r f R w0 S Y n k ((d,.bool false)::l) h)(hv:look l d=some (.bool b):=by exact rfl):eB P r f R w0 S Y n k l h:=.cases hv ht hf
theorem mC{o:BinOp}{tx tyy:ax} {a b v:aC}(ho:ops[i]?=some ⟨some d,.binOp o tx x y tyy,ty,pos,aft,g⟩)(hw:eL ops l g=true)(hx:eZ l x=some a)(hy:eZ l y=some b)(hb:nE P o tx a b v)(hk:eB P r f R w0 S Y n (.inRegion ops rest::k) ((d,v)::l) h)(hd:Nat.blt d n=true:=by exact rfl):eB P r f R w0 S Y n (.inRegion ops (i::rest)::k) l h:=.v (.bin ho hw hx hy hb hd) hk
theorem cV{q:Nat}{D:aq}{hb:Hl}{d:Nat}{v:aC}(i:Nat)(hv:eD P w0 S n hb ops i l d v)(hg:fh P r f R w0 S Y n k ops hb q (i::D) ((d,v)::l) h)(hi:(eR ops D).contains i=true:=by exact rfl)(hp:mE ops i=true:=by exact rfl)(hs:hb.Sublist h:=by repeat(first|exact aD|exact aE|refine List.Sublist.cons_cons _ ?_|refine List.Sublist.cons _ ?_)):fh P r f R w0 S Y n k ops hb (q+1) D l h:=.v hv hi hp hs hg
theorem sL{a b:Hl}(hs:a.Sublist b:=by repeat(first|exact aD|exact aE|refine List.Sublist.cons_cons _ ?_|refine List.Sublist.cons _ ?_)):a.Sublist b:=hs
theorem sM{a b:Hl}(hs:a.Sublist b:=by repeat(first|exact aD|refine List.Sublist.cons _ ?_)):a.Sublist b:=hs
theorem sF{a b:Fl}(hs:lY a b:=by repeat(first|exact lY.nil|refine lY.cons rfl ?_)):lY a b:=hs
end
end
section
variable{aft:ak}{ty:ax}
def cur(c:Nat)(hb hb2:Hl)(D:aq):Hl:=if D.contains c=true then hb2 else hb
theorem Fz{c i:Nat}{hb hb2:Hl}{D:aq}(h2:hb2.Sublist hb):(cur c hb hb2 (i::D)).Sublist (cur c hb hb2 D):=by
 unfold cur;by_cases h:D.contains c=true;rw[if_pos h,if_pos (by rw[List.contains_cons,h,Bool.or_true])];exact aD;rw[if_neg h];split;exact h2;exact aD
theorem Iq{c:Nat}{hb hb2:Hl}{D:aq}(h2:hb2.Sublist hb):hb2.Sublist (cur c hb hb2 D):=by
 unfold cur;split;exact aD;exact h2
theorem Dk{c:Nat}{hb hb2:Hl}{D D':aq}(h:∀j,j∈D↔j∈D'):cur c hb hb2 D=cur c hb hb2 D':=by
 unfold cur;have:D.contains c=D'.contains c:=by rw[dA];simp[h c]
 rw[this]
theorem K7{c:Nat}{hb hb2:Hl}{D:aq}(h:D.contains c=false):cur c hb hb2 D=hb:=if_neg (by rw[h];simp)
theorem L5{c:Nat}{hb hb2:Hl}{D:aq}(h:D.contains c=true):cur c hb hb2 D=hb2:=if_pos h
section
variable{P:av}{r:ah}{f:ay}{R:aC->aB->Prop}{w0:aB}{S:aq}{Y:List (Nat×Obj)}{n:Nat}{k:al}{l:Fl}{h:Hl}{ops:aj}{c:Nat}{hb hb2:Hl}
def IX(P:av)(w0:aB)(S:aq)(ops:aj)(i:Nat)(t:af)(h:Hl)(K:Hl->Prop):Prop:=
 ∃o,ops[i]?=some o/\o.dst=none/\ko o.op=false/\kU o.op=true/\Region.wanted o (yielded ops t)=true/\∀(w:aB) (Ds:aq) (Y':List (Nat×Obj)),St w0 S w h Y'->
  ∃w' h',(execOp (Act.eval ⟨t,Ds.map mark⟩) o).run P w=.ok .skip w'/\St w0 S w' h' Y'/\K h'
theorem IX.congr{i:Nat}{t t':af}{K K':Hl->Prop}(hm:IX P w0 S ops i t h K)(hs:t'.size=t.size)(he:∀o,ops[i]?=some o->∀s∈lW ops o,t'.getD s undef=t.getD s undef)
  (hK:∀h',K h'->K' h'):IX P w0 S ops i t' h K':=by
 obtain⟨o,ho,hdst,hnd,hsel,hwant,hr⟩:=hm;have hw:=oN (ops:=ops) (o:=o) hs (he o ho);refine⟨o,ho,hdst,hnd,hsel,hw.trans hwant,λw Ds Y' hS=>?_⟩;have hexec:execOp (Act.eval ⟨t',Ds.map mark⟩) o=execOp (Act.eval ⟨t,Ds.map mark⟩) o:=execOp_congr (ρ':=Act.eval ⟨t,Ds.map mark⟩) o (λcs bb e=>by rw[e]at hsel;cases hsel) (λx hx=>by
  cases x with
  |tmp s=>exact he o ho s (by
    simp only[lW,dG];exact .inr (cR.2 ⟨.tmp s,by simpa using hx,rfl⟩))
  |const v=>rfl
  |global g=>rfl
  |func g=>rfl);rw[hexec];obtain⟨w',h',h1,h2,h3⟩:=hr w Ds Y' hS;exact⟨w',h',h1,h2,hK h' h3⟩
def Dq(P:av)(r:ah)(f:ay)(R:aC->aB->Prop)(w0:aB)(S:aq)(Y:List (Nat×Obj))(n:Nat)(k:al)(ops:aj)(c:Nat)(hb hb2:Hl):Nat->aq->af->Hl->Prop
 |0,_,_,_=>False
 |q+1,D,t,h=>
  (eR ops D=[]/\∀w Ds,St w0 S w h (uM Ds++Y)->jK P r f R (.inRegion ops []::k) t (Ds.map mark) w)\/
  (eR ops D≠[]/\∀i∈eR ops D,kQ P w0 S n ops i t h (λt' h'=>(cur c hb hb2 (i::D)).Sublist h'/\Dq P r f R w0 S Y n k ops c hb hb2 q (i::D) t' h')\/IX P w0 S ops i t h (λh'=>(cur c hb hb2 (i::D)).Sublist h'/\Dq P r f R w0 S Y n k ops c hb hb2 q (i::D) t h'))
theorem Dq.perm:∀{q:Nat} {D D':aq} {t:af} {h:Hl},(∀j,j∈D↔j∈D')->Dq P r f R w0 S Y n k ops c hb hb2 q D t h->Dq P r f R w0 S Y n k ops c hb hb2 q D' t h
 |0,_,_,_,_,_,hd=>hd
 |q+1,D,D',t,h,hp,hd=>by
  rw[Dq]at hd⊢;rw[<-rQ hp];rcases hd with hd|⟨h1,h2⟩;exact .inl hd;refine .inr ⟨h1,λi hi=>?_⟩;have e3:cur c hb hb2 (i::D)=cur c hb hb2 (i::D'):=Dk (λj=>by simp only[dS,hp j]);have hp2:∀j,j∈i::D↔j∈i::D':=λj=>by simp only[dS,hp j]
  rcases h2 i hi with h3|h3;exact .inl (h3.mono (λt' h' ⟨e1,e2⟩=>⟨by rw[<-e3];exact e1,e2.perm hp2⟩));exact .inr (h3.congr rfl (λ_ _ _ _=>rfl) (λh' ⟨e1,e2⟩=>⟨by rw[<-e3];exact e1,e2.perm hp2⟩))
theorem Dq.pure(h2:hb2.Sublist hb){hx:Hl}{i d:Nat}(hic:i≠c)(hf:Gg ops i d)(hd:d<n):∀{q:Nat} {D:aq} {t:af} {h:Hl} {v:aC},t.size=n->i∈eR ops D->px P w0 S n hx ops i t d v->(hx=hb2\/(hx=hb/\i∈gZ ops c/\c∉D))->(cur c hb hb2 D).Sublist h->Dq P r f R w0 S Y n k ops c hb hb2 q (i::D) (t.setIfInBounds d v) h->Dq P r f R w0 S Y n k ops c hb hb2 (q+1) D t h
 |0,_,_,_,_,_,_,_,_,_,hd=>hd.elim
 |q+1,D,t,h,v,hts,hi,ho,hX,hs,hdt=>by
  have hsx:hx.Sublist h:=by
   rcases hX with rfl|⟨rfl,_,h4⟩;exact(Iq h2).trans hs;have:cur c hx hb2 D=hx:=if_neg (by simpa using h4);rw[this]at hs;exact hs
  have hme:kQ P w0 S n ops i t h (λt' h'=>(cur c hb hb2 (i::D)).Sublist h'/\Dq P r f R w0 S Y n k ops c hb hb2 (q+1) (i::D) t' h'):=kQ.pure ho hf.Gv hsx ⟨(Fz h2).trans hs,hdt⟩;have hne:eR ops D≠[]:=λe=>by rw[e]at hi;cases hi
  obtain⟨hiS,hiD,hid⟩:=gl.1 hi;rw[Dq];refine .inr ⟨hne,λj hj=>?_⟩;by_cases hji:j=i;rw[hji];exact .inl hme;obtain⟨hjS,hjD,hjd⟩:=gl.1 hj;have hj2:j∈eR ops (i::D):=gl.2 ⟨hjS,by simp[hji,hjD],λe he=>cy _ (hjd e he)⟩;rw[Dq]at hdt;rcases hdt with⟨h1,_⟩|⟨_,h3⟩;rw[h1]at hj2;cases hj2;have hjo:∀o,ops[j]?=some o->d∉lW ops o:=λo hoo hm=>(hf.seen j o hjS hji hoo hm).elim (λh5=>hiD (hjd i h5)) (λh5=>hjD (hid j h5));have hjt:∀o,ops[j]?=some o->∀s∈lW ops o,t.getD s undef=(t.setIfInBounds d v).getD s undef:=λo hoo s hse=>by
   have hds:d≠s:=λe1=>hjo o hoo (by rw[e1];exact hse);rw[jN (by rw[hts];exact hd),if_neg hds]
  have hX':hx=hb2\/(hx=hb/\i∈gZ ops c/\c∉j::D):=by
   rcases hX with h5|⟨h5,h6,h7⟩;exact .inl h5;refine .inr ⟨h5,h6,λh8=>?_⟩;rcases dS.1 h8 with h8|h8;subst h8;exact hiD (hjd i h6);exact h7 h8
  have hk0:cur c hb hb2 (j::D)=cur c hb hb2 (j::i::D):=by
   unfold cur;have e:(j::D).contains c=(j::i::D).contains c:=by
    rw[dA];simp only[List.contains_eq_mem,dg,dS];constructor;rintro (h|h);exact .inl h;exact .inr (.inr h);rintro (h|h|h);exact .inl h;exact absurd h.symm hic;exact .inr h
   rw[e]
  have hi2:i∈eR ops (j::D):=gl.2 ⟨hiS,by simp[Ne.symm hji,hiD],λe he=>cy _ (hid e he)⟩;rcases h3 j hj2 with h3|h3;refine .inl (h3.congr aL hjt (λe u h' hde hk=>?_));obtain⟨hk1,hk2⟩:=hk;refine⟨by rw[hk0];exact hk1,?_⟩;have hde2:d≠e:=λe1=>hf.one j hjS hji (by rw[hde,e1]);rw[set_comm hde2]at hk2;refine Dq.pure h2 hic hf hd (by simpa using hts) hi2 (ho.congr hf.Gv aL (λo hoo s hse=>?_)) hX' (by rw[hk0];exact hk1) (hk2.perm (λx=>by simp only[dS];exact or_left_comm));have hes:e≠s:=λe1=>by
   subst e1;rcases hf.JZ j e o hjS hji hde hoo hse with h5|h5;exact hjD (hid j h5);exact hiD (hjd i h5)
  by_cases hlt:e<t.size;rw[jN hlt,if_neg hes];rw[show t.setIfInBounds e u=t from Array.setIfInBounds_eq_of_size_le (Nat.le_of_not_lt hlt)];refine .inr (h3.congr aL hjt (λh' hk=>?_));obtain⟨hk1,hk2⟩:=hk;exact⟨by rw[hk0];exact hk1,Dq.pure h2 hic hf hd hts hi2 ho hX' (by rw[hk0];exact hk1) (hk2.perm (λx=>by simp only[dS];exact or_left_comm))⟩
theorem Dq.go:∀(fuel τ:Nat) (arr:Array Bool) (D:aq) (q:Nat) (t:af) (h:Hl) (w:aB) (Ds:aq),arr.size=ops.size->(∀j,arr.getD j false=D.contains j)->Dq P r f R w0 S Y n k ops c hb hb2 q D t h->St w0 S w h (uM Ds++Y)->(List.range ops.size).countP (λj=>!D.contains j)<=fuel->
  jK P r f R (.inRegion ops (Region.linearise.go .any ops fuel τ arr [])::k) t (Ds.map mark) w
 |_,_,_,_,0,_,_,_,_,_,_,hd,_,_=>hd.elim
 |fuel,τ,arr,D,q+1,t,h,w,Ds,hs,ha,hd,hS,hfu=>by
  rw[Dq]at hd;rcases hd with⟨h0,hg⟩|⟨h1,h2⟩;have:Region.linearise.go .any ops fuel τ arr []=[]:=by
   cases fuel with
   |zero=>rfl
   |succ fuel=>
    simp only[Region.linearise.go];change (match (Region.ready .any ops arr)[_%(Region.ready .any ops arr).length]? with
     |some i=>_
     |none=>[].reverse)=[];rw[ox hs ha,h0];rfl
  rw[this];exact hg w Ds hS;cases fuel with
  |zero=>
   exfalso;obtain⟨x,hx⟩:=List.exists_mem_of_ne_nil _ h1;obtain⟨e1,e2,_⟩:=gl.1 hx;have:0<(List.range ops.size).countP (λj=>!D.contains j):=List.countP_pos_iff.2 ⟨x,by simpa using e1,by simpa using e2⟩;omega
  |succ fuel=>
   have hpos:0<(eR ops D).length:=List.length_pos_iff.2 h1;simp only[Region.linearise.go];change jK P r f R (.inRegion ops (match (Region.ready .any ops arr)[τ%(Region.ready .any ops arr).length]? with
    |some i=>Region.linearise.go .any ops fuel (τ / (Region.ready .any ops arr).length) (arr.setIfInBounds i true) [i]
    |none=>[].reverse)::k) t (Ds.map mark) w;rw[ox hs ha];have hlt:τ%(eR ops D).length<(eR ops D).length:=Nat.mod_lt _ hpos;rw[bH hlt];obtain⟨x,hx⟩:∃x,x=(eR ops D)[τ%(eR ops D).length]:=⟨_,rfl⟩;rw[<-hx];have hxm:x∈eR ops D:=by rw[hx];exact dq hlt
   obtain⟨e1,e2,_⟩:=gl.1 hxm;dsimp only;rw[linearise_go_acc,List.reverse_singleton,List.singleton_append];have hnext:∀(t':af) (h':Hl) (w':aB),(cur c hb hb2 (x::D)).Sublist h'/\Dq P r f R w0 S Y n k ops c hb hb2 q (x::D) t' h'->St w0 S w' h' (uM Ds++Y)->jK P r f R (.inRegion ops (Region.linearise.go .any ops fuel (τ / (eR ops D).length) (arr.setIfInBounds x true) [])::k) t' (Ds.map mark) w':=λt' h' w' hK hS'=>by
    refine Dq.go fuel _ _ (x::D) q t' h' w' Ds (by simpa using hs) (λj=>?_) hK.2 hS' ?_;rw[fQ aH,ha j,List.contains_cons];split;rename_i e;subst e;simp;rename_i e;rw[beq_false_of_ne (Ne.symm e)];rfl;have:=qB (l:=List.range ops.size) (p:=λj=>!(x::D).contains j) (q:=λj=>!D.contains j) (λy _ hy=>by simp at hy⊢;exact hy.2) ⟨x,by simpa using e1,by simpa using e2,by simp⟩;omega
   rcases h2 x hxm with h2x|h2x
   case inr=>
    obtain⟨o,ho,hdst,hnd,hsel,hw,hr⟩:=h2x;obtain⟨w',h',h3,h4,h5⟩:=hr w Ds _ hS;refine jK.op ho hw (iy hnd) h3 (.inr ⟨rfl,rfl⟩) ?_;rw[hdst];exact hnext _ _ _ h5 h4
   obtain⟨o,d,ho,hdst,hnd,hsel,hdn,hr⟩:=h2x;rcases hr with⟨hw,hr⟩|⟨hw,hk⟩;rcases hr w Ds _ hS with⟨v,w',h',h3,h4,h5⟩|⟨gf,args,Rc,h3,h4,h5⟩;refine jK.op ho hw (iy hnd) h3 (.inl rfl) ?_;rw[hdst];exact hnext _ _ _ h5 h4;refine jK.call ho hw (iy hnd) h3 h4 (λu w2 hu=>?_);obtain⟨h',h6,h7⟩:=h5 u w2 hu;rw[hdst];exact hnext _ _ _ h7 h6;refine mh ho hw ?_;rw[hdst];exact hnext _ _ _ hk hS
def ia(P:av)(r:ah)(f:ay)(R:aC->aB->Prop)(w0:aB)(S:aq)(Y:List (Nat×Obj))(n:Nat)(k:al)(ops:aj)(c:Nat)(hb hb2:Hl)(q:Nat)(D:aq)(l:Fl)(h:Hl):Prop:=
 ∀t,om n t l->Dq P r f R w0 S Y n k ops c hb hb2 q D t h
variable{q:Nat}{D:aq}
theorem qE{id:Nat}(q c:Nat)(hb2:Hl)(hmix:P.follows .mixedOrders=true)(hg:ia P r f R w0 S Y n k ops c h hb2 q [] l h):eB P r f R w0 S Y n (.code (.region id ops true)::k) l h:=by
 intro t w Ds hF hS;refine .m6 (λτ=>?_);simp only[Region.schedule,hmix,Bool.true_or,ew,Region.linearise];refine Dq.go ops.size τ _ [] q t h _ Ds aL (λj=>?_) (hg t hF) hS.drew ?_;simp[bG];split<;>simp
 exact dV List.countP_le_length aL
theorem ia.done(h0:eR ops D=[])(hg:eB P r f R w0 S Y n (.inRegion ops []::k) l h):ia P r f R w0 S Y n k ops c hb hb2 (q+1) D l h:=λt hF=>.inl ⟨h0,λw Ds hS=>hg t w Ds hF hS⟩
theorem ia.Er{hx:Hl}{i d:Nat}{v:aC}(h2:hb2.Sublist hb)(hic:Nat.beq i c=false)(hi:(eR ops D).contains i=true)(hp:mE ops i=true)(ho:∀t,om n t l->px P w0 S n hx ops i t d v)(hX:hx=hb2\/(hx=hb/\i∈gZ ops c/\c∉D))(hs:(cur c hb hb2 D).Sublist h)(hg:ia P r f R w0 S Y n k ops c hb hb2 q (i::D) ((d,v)::l) h):ia P r f R w0 S Y n k ops c hb hb2 (q+1) D l h:=by
 intro t hF;obtain⟨d',hf⟩:=y9 hp;have hO:=ho t hF;obtain⟨o,h1,h2',h3,_⟩:=hO;have e:d'=d:=by
  have:=hf.dst;simp[gh,h1,h2']at this;exact this.symm
 subst e;exact Dq.pure h2 (by intro e;subst e;simp at hic) hf h3 hF.1 (by simpa using hi) (ho t hF) hX hs (hg _ (hF.put v (by simpa[ed]using h3)))
theorem ia.v{i d:Nat}{v:aC}(hv:eD P w0 S n hb ops i l d v)(h2:hb2.Sublist hb)(hic:Nat.beq i c=false)(hi:(eR ops D).contains i=true)(hp:mE ops i=true)(hX:((gZ ops c).contains i && !D.contains c)=true)(hs:hb.Sublist h)(hg:ia P r f R w0 S Y n k ops c hb hb2 q (i::D) ((d,v)::l) h):ia P r f R w0 S Y n k ops c hb hb2 (q+1) D l h:=by
 rw[di,c6]at hX;refine ia.Er (hx:=hb) h2 hic hi hp (λt hF=>?_) (.inr ⟨rfl,by simpa using hX.1,by simpa using hX.2⟩) (by unfold cur;rw[if_neg (by rw[hX.2];simp)];exact hs) hg;obtain⟨o,ho,hw,hdst,hnd,hd,hr⟩:=hv
 exact⟨o,ho,hdst,by simpa[ed]using hd,hnd,.inl ⟨jV hF hw,λw Ds Y' hS=>by
  obtain⟨nx,h1,rfl⟩:=hr t w Ds Y' hF hS;exact .inl h1⟩⟩
theorem ia.u{i d:Nat}{v:aC}(hv:eD P w0 S n hb2 ops i l d v)(h2:hb2.Sublist hb)(hic:Nat.beq i c=false)(hi:(eR ops D).contains i=true)(hp:mE ops i=true)(hs:(cur c hb hb2 D).Sublist h)(hg:ia P r f R w0 S Y n k ops c hb hb2 q (i::D) ((d,v)::l) h):ia P r f R w0 S Y n k ops c hb hb2 (q+1) D l h:=by
 refine ia.Er (hx:=hb2) h2 hic hi hp (λt hF=>?_) (.inl rfl) hs hg;obtain⟨o,ho,hw,hdst,hnd,hd,hr⟩:=hv
 exact⟨o,ho,hdst,by simpa[ed]using hd,hnd,.inl ⟨jV hF hw,λw Ds Y' hS=>by
  obtain⟨nx,h1,rfl⟩:=hr t w Ds Y' hF hS;exact .inl h1⟩⟩
theorem ia.uZ{i d:Nat}{v:aC}(hv:eD P w0 S n hb2 ops i l d v)(h2:hb2.Sublist hb)(hs:(cur c hb hb2 D).Sublist h)(hg:ia P r f R w0 S Y n k ops c hb hb2 q (i::D) ((d,v)::l) h)(hic:Nat.beq i c=false:=by exact rfl)(hi:(eR ops D).contains i=true:=by exact rfl)(hp:mE ops i=true:=by exact rfl):ia P r f R w0 S Y n k ops c hb hb2 (q+1) D l h:=ia.u (hv:=hv) (h2:=h2) (hic:=hic) (hi:=hi) (hp:=hp) (hs:=hs) (hg:=hg)
theorem ia.one{i d:Nat}(h1:eR ops D=[i])(hm:ik P w0 S n h ops i l d (λv h'=>(cur c hb hb2 (i::D)).Sublist h'/\ia P r f R w0 S Y n k ops c hb hb2 q (i::D) ((d,v)::l) h'))(hd:Nat.blt d n=true):ia P r f R w0 S Y n k ops c hb hb2 (q+1) D l h:=by
 intro t hF;rw[Dq];refine .inr ⟨by rw[h1];simp,λj hj=>?_⟩;rw[h1]at hj;obtain rfl:=cS.1 hj;exact .inl (kQ.of hm hF (λv h' ⟨e1,e2⟩=>⟨e1,e2 _ (hF.put v hd)⟩))
theorem ia.call{i d:Nat}{ty:ax}{pos:aA}{aft:ak}{g:Option (Nat×Bool)}{az:aa}{ts:ab}{cal:au}{gf:ay}{vs:ai}(Rc:aB->aC->aB->Prop)(h1:eR ops D=[i])(ho:ops[i]?=some ⟨some d,.call ⟨.value cal,az,ts⟩,ty,pos,aft,g⟩)(hw:eL ops l g=true)
  (hc:eZ l cal=some (.func (.func gf) #[] #[]))(hx:iw l az.toList=some vs)(hd:Nat.blt d n=true)(hcf:∀args w,(callFunc gf args).run P w=.ok (.enter gf args) w)
  (hcall:∀w Y',St w0 S w h Y'->Cn P gf vs w (Rc w))
  (hk:∀v w w' Y',St w0 S w h Y'->Ex [] w w'->Rc w v w'->∃h',St w0 S w' h' Y'/\(cur c hb hb2 (i::D)).Sublist h'/\ia P r f R w0 S Y n k ops c hb hb2 q (i::D) ((d,v)::l) h'):ia P r f R w0 S Y n k ops c hb hb2 (q+1) D l h:=
 ia.one h1 (ik.call Rc ho hw hc hx hd hcf hcall (λv w w' Y' hS he hr=>by
  obtain⟨h',e1,e2,e3⟩:=hk v w w' Y' hS he hr;exact⟨h',e1,e2,e3⟩)) hd
theorem ia.qS{i d:Nat}{v:aC} {pos:aA} {g:Option (Nat×Bool)}{az:aa}{ts:ab}{cal:au}{gf:ay}{vs:ai}(h1:eR ops D=[i])(ho:ops[i]?=some ⟨some d,.call ⟨.value cal,az,ts⟩,ty,pos,aft,g⟩)(hw:eL ops l g=true)
  (hc:eZ l cal=some (.func (.func gf) #[] #[]))(hx:iw l az.toList=some vs)(hd:Nat.blt d n=true)(hcf:∀args w,(callFunc gf args).run P w=.ok (.enter gf args) w)
  (hcall:∀w Y',St w0 S w h Y'->Cn P gf vs w (λu _=>u=v))(hs:(cur c hb hb2 (i::D)).Sublist h)(hg:ia P r f R w0 S Y n k ops c hb hb2 q (i::D) ((d,v)::l) h):ia P r f R w0 S Y n k ops c hb hb2 (q+1) D l h:=
 ia.call (λ_ u _=>u=v) h1 ho hw hc hx hd hcf hcall (λ_u _ _ _ hS he e=>⟨h,hS.later he,hs,e ▸ hg⟩)
theorem ia.st{i:Nat} {pos:aA} {g:Option (Nat×Bool)}{t:ax}{x y:au}{b off:Nat}{cs:af}{e:ax}{v:aC}(h1:eR ops D=[i])(ho:ops[i]?=some ⟨none,.store t x y,ty,pos,aft,g⟩)(hw:eL ops l g=true)
  (hx:eZ l x=some (.pointer (some ⟨b,off,none⟩)))(hy:eZ l y=some v)(hz:∀w,(sizeOf t).run P w=.ok 1 w)(hv:v.oneCell'=true)(j:Nat)(hj:h[j]?=some (some b,.cells cs e (0,0)))(hoff:Nat.blt off cs.size=true)
  (hs:(cur c hb hb2 (i::D)).Sublist (h.set j (some b,.cells (cs.setIfInBounds off v) e (0,0))))
  (hk:ia P r f R w0 S Y n k ops c hb hb2 q (i::D) l (h.set j (some b,.cells (cs.setIfInBounds off v) e (0,0)))):ia P r f R w0 S Y n k ops c hb hb2 (q+1) D l h:=by
 intro t' hF;rw[Dq];refine .inr ⟨by rw[h1];simp,λi' hi=>?_⟩;rw[h1]at hi;obtain rfl:=cS.1 hi;refine .inr ⟨_,ho,rfl,rfl,rfl,jV hF hw,λw Ds Y' hS=>?_⟩;refine⟨w.setCell ⟨b,off,none⟩ v,_,?_,hS.uq hj (o':=.cells (cs.setIfInBounds off v) e (0,0)) rfl rfl rfl rfl ?_ ?_ ?_,hs,hk t' hF⟩;simp only[execOp,hF.eZ hx,hF.eZ hy,Sem.run_bind,wS hz (hS.get hj) (by simpa[ed]using hoff) hv];rfl;simp[World.setCell];obtain⟨hlt,hg⟩:=aX.1 (hS.get hj);simp only[World.setCell];rw[Array.getElem?_modify,if_pos rfl,hS.get hj];rfl;intro q _ hq;exact Below.heap_setCell _ _ _ _ hq
theorem ia.Ah{α:Type}(enc:α->aC)(v:α){i:Nat} {pos:aA} {g:Option (Nat×Bool)}{t:ax}{x y:au}{b m:Nat}{xs:List α}{sp:ai}{e:ax}(h1:eR ops D=[i])(ho:ops[i]?=some ⟨none,.store t x y,ty,pos,aft,g⟩)(hw:eL ops l g=true)
  (hx:eZ l x=some (.pointer (some ⟨b,0+m*1,none⟩)))(hy:eZ l y=some (enc v))(hz:∀w,(sizeOf t).run P w=.ok 1 w)(hv:(enc v).oneCell'=true)(j:Nat)(hj:h[j]?=some (some b,ob enc e xs sp))(hq:m<xs.length)
  (hs:(cur c hb hb2 (i::D)).Sublist (h.set j (some b,ob enc e (xs.set m v) sp)))
  (hk:ia P r f R w0 S Y n k ops c hb hb2 q (i::D) l (h.set j (some b,ob enc e (xs.set m v) sp))):ia P r f R w0 S Y n k ops c hb hb2 (q+1) D l h:=by
 have:((xs.map enc++sp).toArray.setIfInBounds (0+m*1) (enc v))=((xs.set m v).map enc++sp).toArray:=by
  rw[dX,ec,List.map_set];have hq2:m<(xs.map enc).length:=by simpa using hq
  simp[List.set_append_left _ _ hq2]
 refine ia.st h1 ho hw hx hy hz hv j hj (by rw[ed];simp;omega) ?_ ?_;rw[this];exact hs;rw[this];exact hk
end
end
section
variable{P:av}{r:ah}{f:ay}{R:aC->aB->Prop}{w0:aB}{S:aq}{Y:List (Nat×Obj)}{n:Nat}{k:al}{l:Fl}{h:Hl}{ops:aj}{i d m:Nat}{rest:aq}{ty:ax}{pos:aA}{aft:ak}{g:Option (Nat×Bool)}{x y c:au}{v u a b:aC}
structure Vo (P:av) (w0:aB) (S:aq) (n:Nat) (h:Hl) (l:Fl) (o:Op) (v:aC):Prop where
  at_:∀{ops:aj} {i d:Nat} {ty:ax} {pos:aA} {aft:ak} {g:Option (Nat×Bool)},ops[i]?=some ⟨some d,o,ty,pos,aft,g⟩->eL ops l g=true->Nat.blt d n=true->eD P w0 S n h ops i l d v
theorem Vo.mv(hx:eZ l x=some v):Vo P w0 S n h l (.move x) v:=⟨λa b c=>.mv a b hx c⟩
theorem Vo.Cu(hx:eZ l x=some v):Vo P w0 S n h l (.assign x) v:=⟨λa b c=>.Cu a b hx c⟩
theorem Vo.pt(hc:eZ l c=some (.bool true))(hx:eZ l x=some v):Vo P w0 S n h l (.pick c x y) v:=⟨λa b c=>.jq a b hc hx c⟩
theorem PB(hc:eZ l c=some (.bool false))(hx:eZ l y=some v):Vo P w0 S n h l (.pick c x y) v:=⟨λa b c=>.I6 a b hc hx c⟩
theorem PC{q:Addr}(hx:eZ l x=some (.pointer (some q))):Vo P w0 S n h l (.nilCheck x) (.pointer (some q)):=⟨λa b c=>.qP a b hx c⟩
theorem Vo.ex{j:Nat}{vs:af}(hx:eZ l x=some (.tuple vs))(hb:vs[j]?=some v):Vo P w0 S n h l (.extract x j) v:=⟨λa b c=>.ext a b hx hb c⟩
theorem Vo.un{o:UnOp}{tx:ax}(hx:eZ l x=some a)(hb:Oi P o a v):Vo P w0 S n h l (.unOp o tx x) v:=⟨λa b c=>.un a b hx hb c⟩
theorem Vo.bi{o:BinOp}{tx tyy:ax}(hx:eZ l x=some a)(hy:eZ l y=some b)(hb:nE P o tx a b v):Vo P w0 S n h l (.binOp o tx x y tyy) v:=⟨λa b c=>.bin a b hx hy hb c⟩
theorem Vo.bl{t e:ax}{A:ae}{q cp:Nat}(hx:iw l [x]=some [.slice A q cp])(hu:P.underlying t=some (.slice e)):Vo P w0 S n h l (.call ⟨.builtin .len,#[x],#[t]⟩) (aS q):=⟨λa b c=>.blt a b hx (wH hu) c⟩
theorem QP{o:Op}(ho:ops[i]?=some ⟨some d,o,ty,pos,aft,g⟩)(hw:eL ops l g=true)(hd:Nat.blt d n=true)(hv:Vo P w0 S n h l o v)(hk:eB P r f R w0 S Y n (.inRegion ops rest::k) ((d,v)::l) h):eB P r f R w0 S Y n (.inRegion ops (i::rest)::k) l h:=.v (hv.at_ ho hw hd) hk
theorem QK{o:Op}(ho:ops[i]?=some ⟨some d,o,ty,pos,aft,g⟩)(hw:eL ops l g=true)(hd:Nat.blt d n=true)(hv:Vo P w0 S n h l o v)(hk:fi P r f R w0 S Y n k ops (i+1) m ((d,v)::l) h):fi P r f R w0 S Y n k ops i (m+1) l h:=.v (hv.at_ ho hw hd) hk
theorem Pq{D:aq}{j:Nat}(h:(eR ops D)[j]?=some i):(eR ops D).contains i=true:=by simpa using cD h
theorem QW(j:Nat){q:Nat}{D:aq}{hb:Hl}{o:Op}(hi:(eR ops D)[j]?=some i)(ho:ops[i]?=some ⟨some d,o,ty,pos,aft,g⟩)(hw:eL ops l g=true)(hd:Nat.blt d n=true)(hv:Vo P w0 S n hb l o v)(hp:mE ops i=true)(hs:hb.Sublist h)(hg:fh P r f R w0 S Y n k ops hb q (i::D) ((d,v)::l) h):fh P r f R w0 S Y n k ops hb (q+1) D l h:=.v (hv.at_ ho hw hd) (Pq hi) hp hs hg
theorem QX(j:Nat){q:Nat}{D:aq}{hb:Hl}{o:Oper}(hi:(eR ops D)[j]?=some i)(ho:ops[i]?=some o)(hw:qM ops l o.guard=true)(hdst:o.dst=some d)(hnd:ko o.op=false)(hd:Nat.blt d n=true)(hp:mE ops i=true)(hs:hb.Sublist h)(hg:fh P r f R w0 S Y n k ops hb q (i::D) ((d,undef)::l) h):fh P r f R w0 S Y n k ops hb (q+1) D l h:=.no ho hw hdst hnd hd (Pq hi) hp hs hg
theorem QQ{o:Oper}(ho:ops[i]?=some o)(hw:qM ops l o.guard=true)(hdst:o.dst=some d)(hd:Nat.blt d n=true)(hk:eB P r f R w0 S Y n (.inRegion ops rest::k) ((d,undef)::l) h):eB P r f R w0 S Y n (.inRegion ops (i::rest)::k) l h:=.no ho hw hdst hd hk
theorem QL{o:Oper}(ho:ops[i]?=some o)(hw:qM ops l o.guard=true)(hdst:o.dst=some d)(hnd:ko o.op=false)(hd:Nat.blt d n=true)(hk:fi P r f R w0 S Y n k ops (i+1) m ((d,undef)::l) h):fi P r f R w0 S Y n k ops i (m+1) l h:=.no ho hw hdst hnd hd hk
theorem O6{t:ax}{B off:Nat}{cs:af}{e:ax}{fr:Nat×Nat}(hx:eZ l x=some (.pointer (some ⟨B,off,none⟩)))(ha:∀w,(isAgg t).run P w=.ok false w)(hj:∃j:Nat,h[j]?=some (some B,.cells cs e fr))(hv:cs[off]?=some v):Vo P w0 S n h l (.load t x) v:=⟨λa b c=>let ⟨j,hj⟩:=hj;.ux a b hx c ha j hj hv⟩
theorem O7{t:ax}{B m:Nat}{cs:af}{e:ax}{fr:Nat×Nat}(hx:eZ l x=some (aQ B))(ha:∀w,(isAgg t).run P w=.ok true w)(hj:∃j:Nat,h[j]?=some (some B,.cells cs e fr))(hz:∀w,(sizeOf t).run P w=.ok m w)(hm:cs.size=m):Vo P w0 S n h l (.load t x) (.agg cs):=⟨λa b c=>let ⟨j,hj⟩:=hj;.Of a b hx c ha j hj hz hm⟩
theorem Vo.fp{s tt:ax}{B o q o':Nat}{fs:Array Field}{fd:Field}{sz:Nat}(hx:eZ l x=some (.pointer (some ⟨B,o,none⟩)))(hu:P.underlying s=some (.struct fs))(hq:fs[q]?=some fd)(ht:fd.type=tt)(he:∀w,(sizeOf tt).run P w=.ok (sz+1) w)(hO:o+fd.offset=o'):Vo P w0 S n h l (.fieldAddr s x q) (.pointer (some ⟨B,o',none⟩)):=⟨λa b c=>.lV a b hx c hu hq (ht ▸ he) o' hO⟩
theorem Vo.fd{s:ax}{q:Nat}{cs:af}{fs:Array Field}{fd:Field}(hx:eZ l x=some (.agg cs))(hu:P.underlying s=some (.struct fs))(hq:fs[q]?=some fd)(ha:∀w,(isAgg fd.type).run P w=.ok false w)(hv:cs[fd.offset]?=some v):Vo P w0 S n h l (.field s x q) v:=⟨λa b c=>.pq a b hx c hu hq ha hv⟩
section
variable{p q:Prop}{X Y:Code}{B:Bool}{Yy:List (Nat×Obj)}
theorem B1(ht:p->eB P r f R w0 S Yy n (.code X::k) l h)(hf:q->eB P r f R w0 S Yy n (.code Y::k) l h)(hc:eZ l c=some (.bool B):=by exact rfl)(et:B=true->p:=by intro h;first|simpa using h|(simp at h;omega)|exact h)(ef:B=false->q:=by intro h;first|simpa using h|(simp at h;omega)|exact h):eB P r f R w0 S Yy n (.code (.cond c X Y)::k) l h:=.cond hc (λe=>ht (et e)) (λe=>hf (ef e))
theorem QS(ht:p->eB P r f R w0 S Yy n (.code X::k) l h)(hf:B=false->eB P r f R w0 S Yy n (.code Y::k) l h)(hc:eZ l c=some (.bool B):=by exact rfl)(et:B=true->p:=by intro h;first|simpa using h|(simp at h;omega)|exact h):eB P r f R w0 S Yy n (.code (.cond c X Y)::k) l h:=.cond hc (λe=>ht (et e)) hf
theorem Qa(ht:B=true->eB P r f R w0 S Yy n (.code X::k) l h)(hf:q->eB P r f R w0 S Yy n (.code Y::k) l h)(hc:eZ l c=some (.bool B):=by exact rfl)(ef:B=false->q:=by intro h;first|simpa using h|(simp at h;omega)|exact h):eB P r f R w0 S Yy n (.code (.cond c X Y)::k) l h:=.cond hc ht (λe=>hf (ef e))
theorem Ic(d:Nat)(ht:p->eB P r f R w0 S Yy n k ((d,.bool true)::l) h)(hf:q->eB P r f R w0 S Yy n k ((d,.bool false)::l) h)(hv:look l d=some (.bool B):=by exact rfl)(et:B=true->p:=by intro h;first|simpa using h|(simp at h;omega)|exact h)(ef:B=false->q:=by intro h;first|simpa using h|(simp at h;omega)|exact h):eB P r f R w0 S Yy n k l h:=.cases hv (λe=>ht (et e)) (λe=>hf (ef e))
end
structure Bj (P:av) (o:BinOp) (t:ax) (a b v:aC):Prop where
  b:nE P o t a b v
section
variable{t:ax}{x y:Int}{k:aw}{p q:eF}
theorem Bj.eq(_hk:k≠.u64):Bj P .eql t (.int k x) (.int k y) (.bool (x==y)):=⟨Ct⟩
theorem Bj.ne(_hk:k≠.u64):Bj P .neq t (.int k x) (.int k y) (.bool (x !=y)):=⟨Du⟩
theorem Bj.lt(_hk:k≠.u64):Bj P .lss t (.int k x) (.int k y) (.bool (decide (x<y))):=⟨IJ⟩
theorem Bj.le(_hk:k≠.u64):Bj P .leq t (.int k x) (.int k y) (.bool (decide (x<=y))):=⟨Qg⟩
theorem Bj.gt(_hk:k≠.u64):Bj P .gtr t (.int k x) (.int k y) (.bool (decide (x>y))):=⟨NS⟩
theorem PO(_hk:k≠.u64):Bj P .geq t (.int k x) (.int k y) (.bool (decide (x>=y))):=⟨Oh⟩
theorem Bj.or:Bj P .or t (U p) (U q) (U (p|||q)):=⟨Ll⟩
theorem Bj.an:Bj P .and t (U p) (U q) (U (p &&& q)):=⟨Dv⟩
theorem Bj.ad:Bj P .andNot t (U p) (U q) (U (p &&& ~~~q)):=⟨IM⟩
theorem PN:Bj P .neq t (U p) (U q) (.bool (p !=q)):=⟨IG⟩
theorem Bj.eu:Bj P .eql t (U p) (U q) (.bool (p==q)):=⟨z9⟩
theorem Pm(h:-9223372036854775808<=x+y/\x+y<=9223372036854775807):Bj P .add t (aS x) (aS y) (aS (x+y)):=⟨NU h⟩
end
theorem PD{o:BinOp}{tx tyy:ax}(hx:eZ l x=some a)(hy:eZ l y=some b)(hb:Bj P o tx a b v):Vo P w0 S n h l (.binOp o tx x y tyy) v:=.bi hx hy hb.b
end
end Go.Proofs.Wit
