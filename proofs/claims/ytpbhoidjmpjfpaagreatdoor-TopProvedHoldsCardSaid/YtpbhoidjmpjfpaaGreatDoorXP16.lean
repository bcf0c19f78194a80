/- Laws of walks, each under its own conditions. -/
import Derived.Test.YtpbhoidjmpjfpaaGreatDoorXP14
set_option maxRecDepth 100000
set_option maxHeartbeats 40000000
namespace Go.Proofs.Wit
structure X3 (n:Nat) (P:ar) (s:fi):Prop where
  len:P.length=n
  ok:Xu P
  inv:XA n P s
theorem BA{n:Int}{val:List fi}{rel:List (List fi)}(hv:mK n val rel){k:Nat}(w:n=(k:Int)):∀r∈rel,∀a b,Rl r a b->b<k:=λr p a b h=>by
 have h1:=(hv.qM r p).lt a b h;have h2:=hv.len r p;omega
section
variable{m:Int}{n:Nat}{val:List fi}{rel:List (List fi)}{t:Tr}
end
structure XB (c:List NV) (k:Nat) (gs:ar):Prop where
  has:∀(i:Nat) (hi:i<c.length),i<k->c[i].op=12->c[i].g∈gs
  of:∀g∈gs,∃n∈c,n.op=12/\n.g=g
  nd:gs.Nodup
theorem Pw{P:av}{t ty:ax}{a b c:Int}(h:c=max a b):Vg P .max #[t,t] ty [aS a,aS b] (aS c):=by
 intro cs w;have e:(if b>a then b else a)=c:=by rw[h];split<;>omega
 simp[builtin,Builtin.max_,Builtin.max2,e]
theorem Pv{P:av}{t ty:ax}{a b c:Int}(h:c=min a b):Vg P .min #[t,t] ty [aS a,aS b] (aS c):=by
 intro cs w;have e:(if b<a then b else a)=c:=by rw[h];split<;>omega
 simp[builtin,Builtin.min_,Builtin.min2,e]
end Go.Proofs.Wit
namespace Go.Proofs.Wit
open Go
def fst(q:Nat->Bool):Nat->ah
 |0=>none
 |k+1=>match fst q k with
  |some j=>some j
  |none=>if q k=true then some k else none
def Xk(n:Nat)(val:List fi)(rel:List (List fi))(v w k:Nat):Bool:=(TG n val rel k).getD v 0 !=(TG n val rel k).getD w 0
def dst(n:Nat)(val:List fi)(rel:List (List fi))(v w:Nat):ah:=fst (Xk n val rel v w) (dep n val rel+1)
section
variable{n:Nat}{val:List fi}{rel:List (List fi)}
end
section
variable{n:Nat}{val:List fi}{rel:List (List fi)}
def Xt(A B:Nat)(t:Tr):Prop:=jE (λop i g=>Ac A B op i g/\op<=10) t
structure U7 (n:Nat) (val:List fi) (rel:List (List fi)) (v w k:Nat) (t:Tr):Prop where
  ok:t.ok
  pl:Xt rel.length val.length t
  yes:(rk n val rel t).getLsbD v=true
  no:(rk n val rel t).getLsbD w=false
  dp:Pf t<=k
theorem Cw(h:n<=64){s:fi}{v:Nat}(hv:v<n):(jZ n &&& ~~~ s).getLsbD v=!s.getLsbD v:=by
 rw[dc,Et h hv,On aH,Bool.true_and]
end
def KC(U:List Tr):Prop:=∀t∈U,∀c∈kids t,c∈U
abbrev Mm:=List ((Int×Int)×FV)
section
variable{n:Nat}{val:List fi}{rel:List (List fi)}
def Fo(n:Nat)(val:List fi)(rel:List (List fi))(v w k:Nat)(f:List NV):Prop:=(f=[]/\5<n)\/∃t,U7 n val rel v w k t/\f=bT t/\f≠[]
structure Xm (U:List Tr) (L:Mm):Prop where
  kc:KC U
  top:Tr.leaf 1 0 0 0∈U
  Xf:∀e∈L,∀t,t.ok->e.2.f=bT t->e.2.f≠[]->t∈U
structure Wp (n:Nat) (val:List fi) (rel:List (List fi)) (L:Mm):Prop where
  nd:(L.map (·.1)).Nodup
  Xf:∀e∈L,∃v w k:Nat,e.1=((v:Int),(w:Int))/\v<n/\w<n/\dst n val rel v w=some k/\Fo n val rel v w k e.2.f
  XG:n<=5->∃U,Xm U L/\U.length<=6*L.length+1
end
end Go.Proofs.Wit
namespace Go.Proofs.Wit
abbrev Wl:=Int->Int->Int->Int->Tr->Tr->Tr
def qG:Wl:=λop i e g a b=>BY ⟨op,i,e,g,0,0⟩ a b
theorem CU{op:Int}(h:ji op=false):iM op=false:=by
 cases e:iM op with
 |false=>rfl
 |true=>exact absurd ((jL e).symm.trans h) aI
theorem Qv{t:Tr}:bT t≠[]↔(iA t).length<=200:=by rw[Ne,Ge];omega
def cT(o:Int):Tr:=.leaf o 0 0 0
def v8:Tr->Int->Bool
 |.leaf op _ _ _,o=>op==o
 |_,_=>false
def EU:Tr->Option Tr
 |.un op _ _ _ a=>if op=4 then some a else none
 |_=>none
def fU(t:Tr):Tr:=.un 4 0 0 0 t
def Ox(t:Tr):Tr:=(EU t).getD (fU t)
def TQ(a b:Tr):Bool:=EU a==some b||EU b==some a
def Lf(op i e g:Int)(a b:Tr)(ne dm:Int):Tr:=
 if (v8 a dm||v8 b dm||(TQ a b && !v8 a ne && !v8 b ne))=true then cT dm
 else if v8 a ne=true then b else if (v8 b ne||a==b)=true then a else qG op i e g a b
def Qq(a b:Tr):Tr:=
 if (v8 a 2||v8 b 1||a==b)=true then cT 1 else if v8 a 1=true then b else if v8 b 2=true then Ox a else qG 7 0 0 0 a b
def VZ(a b:Tr):Tr:=
 if (a==b)=true then cT 1 else if TQ a b=true then cT 2 else if v8 a 1=true then b else if v8 b 1=true then a
 else if v8 a 2=true then Ox b else if v8 b 2=true then Ox a else qG 8 0 0 0 a b
def Vw:Wl:=λop i e g a b=>
 if op=4 then(if v8 a 1=true then cT 2 else if v8 a 2=true then cT 1 else Ox a)
 else if op=5 then Lf op i e g a b 1 2
 else if op=6 then Lf op i e g a b 2 1
 else if op=7 then Qq a b
 else if op=8 then VZ a b
 else if op=10 then(if v8 a 2=true then cT 2 else qG op i e g a b)
 else if op=16 then(if (v8 a 1 && !v8 b 1)=true then b else if (v8 a 2||v8 b 1)=true then cT 1 else qG op i e g a b)
 else if op=13\/op=14 then(if (v8 a 2||v8 b 1)=true then cT 1 else qG op i e g a b)
 else if op=9\/op=11\/op=12\/op=15\/op=17 then(if v8 a 1=true then cT 1 else qG op i e g a b)
 else qG op i e g a b
theorem Qs{o:Int}(h:o=1\/o=2):(cT o).ok:=by rcases h with rfl|rfl<;>exact⟨aI,rfl,rfl⟩
theorem Fj{t:Tr}(h:t.ok):(fU t).ok:=⟨aI,rfl,rfl,rfl,h⟩
inductive CI (op i e g:Int) (a b:Tr):Tr->Prop
  |c1:CI op i e g a b (cT 1)
  |c2:CI op i e g a b (cT 2)
  |a (h:ji op=true):CI op i e g a b a
  |b (h:iM op=true):CI op i e g a b b
  |sa (h:ji op=true) (c:Tr) (h:EU a=some c):CI op i e g a b c
  |sb (h:iM op=true) (c:Tr) (h:EU b=some c):CI op i e g a b c
  |na (h:ji op=true) (h0:EU a=none) (h1:v8 a 1=false) (h2:v8 a 2=false):CI op i e g a b (fU a)
  |nb (h:iM op=true) (h0:EU b=none) (h1:v8 b 1=false) (h2:v8 b 2=false):CI op i e g a b (fU b)
  |mk (h:Vw op i e g a b=qG op i e g a b):CI op i e g a b (qG op i e g a b)
end Go.Proofs.Wit
namespace Go.Proofs.Wit
open Go Go.RowKit
structure IV where
  a:ae
  c:Nat
  xs:ar
def IV.v(x:IV):aC:=.slice x.a x.xs.length x.c
abbrev T2(m:MV)(mD:Nat)(pa:ae)(pl pc:Nat):af:=#[aS m.n,.slice m.va m.val.length m.vc,.slice m.ra m.rows.length m.rc,.map (some mD),.slice pa pl pc]
structure Xy (e:ax) (w:aB) (mD bk:Nat) (m:MV) (pa:ae) (pc:Nat) (ps:List IV):Prop where
  jd:w.heap[bk]?=some (.cells (T2 m mD pa ps.length pc) e (0,0))
  mod:m.At w
  pre:Sl w pa (ps.map IV.v)
  row:∀p∈ps,oD w p.a p.xs
def FV.In(t:ax)(H:Hl)(x:FV):Prop:=∃q sp,(q,jR t x.f sp)∈H/\x.a=q.map aP/\(q=none->x.f.length=0/\x.c=0)/\(x.f.flatMap NV.cells++sp).length=x.c*6
theorem FV.In.mono{t:ax}{H H':Hl}{x:FV}(h:x.In t H)(hs:H⊆H'):x.In t H':=by
 obtain⟨q,sp,h1,h2⟩:=h;exact⟨q,sp,hs h1,h2⟩
theorem FV.In.at{t:ax}{w0 w:aB}{S:aq}{h:Hl}{Y:List (Nat×Obj)}{x:FV}(g:x.In t h)(s:St w0 S w h Y):FA w x.a x.f:=by
 obtain⟨q,sp,h1,h2,h3,_⟩:=g;obtain⟨j,hj⟩:=List.mem_iff_getElem?.1 h1;rw[h2];exact fZ s j hj (λe=>(h3 e).1)
theorem FV.In.own{t:ax}{w0 w:aB}{h:Hl}{Y:List (Nat×Obj)}{x:FV}(g:x.In t h)(s:St w0 [] w h Y):fQ t w0 w x.v x.f:=by
 obtain⟨q,sp,h1,h2,h3,h4⟩:=g;refine⟨q,x.c,sp,?_,h3,h4,λb e=>?_⟩;cases q with
 |none=>rw[FV.v,h2];rfl
 |some b=>rw[FV.v,h2];rfl
 obtain⟨k1,_,k2⟩:=s.own _ h1 b e;exact⟨k2.resolve_right aL,k1⟩
theorem M8{w w':aB}{S:aq}(e:Ex S w w'){b j:Nat}(hb:b∉S){cs:af}{t:ax}{fr:Nat×Nat}{v:aC}(h:w.heap[b]?=some (.cells cs t fr))(hv:cs[j]?=some v):w'.cell? ⟨b,j,none⟩=some v:=by
 have h1:=e.block b (aX.1 h).1 hb;rw[h]at h1;unfold World.cell?;simp only[h1];exact hv
section
variable{P:av}{t:ax}{x y:fi}
end
structure XC (t:ax) (n:Nat) (val:List fi) (rel:List (List fi)) (d:Nat) (L L':Mm) (F:Hl):Prop where
  rA:Wp n val rel L'
  sub:L⊆L'
  nw:∀e∈L',e∈L\/∃a b i:Nat,e.1=((a:Int),(b:Int))/\dst n val rel a b=some i/\i<d
  at_:∀e∈L',e∈L\/e.2.In t F
section
variable{t:ax}{n:Nat}{val:List fi}{rel:List (List fi)}
end
theorem St.mM{w0 w w':aB}{S:aq}{h:Hl}{Y:List (Nat×Obj)}(s:St w0 S w h Y)(e:Ex [] w w'){pre HR:Hl}(g:ld w w' (pre++HR)):St w0 S w' (pre++(h++HR)) Y:=by
 refine(s.lU e g).perm ?_;rw[dA];exact List.perm_append_comm.append_left pre
theorem jI{P:av}{r:ah}{f:ay}{R:aC->aB->Prop}{w0:aB}{S:aq}{Y:List (Nat×Obj)}{n:Nat}{k:al}{l:Fl}{h h':Hl}(hp:h.Perm h')(hg:ff P r f R w0 S Y n k l h'):ff P r f R w0 S Y n k l h:=λt w Ds hF hS=>hg t w Ds hF (hS.perm hp)
section
variable{e e' g g' i i' op:Int}{a b:Tr}
theorem Dx  (hX:ji op=false):qG op i e g a b=.leaf op i e g:=mC (n:=⟨op,i,e,g,0,0⟩) hX
theorem KP  (hX:ji op=true)(hY:iM op=false):qG op i e g a b=.un op i e g a:=qu (n:=⟨op,i,e,g,0,0⟩) hX hY
theorem G2  (hY:iM op=true):qG op i e g a b=.bin op i e g a b:=oq (n:=⟨op,i,e,g,0,0⟩) hY
theorem tp (h:1<=op/\op<=21):op=1\/op=2\/op=3\/op=4\/op=5\/op=6\/op=7\/op=8\/op=9\/op=10\/op=11\/op=12\/op=13\/op=14\/op=15\/op=16\/op=17\/op=18\/op=19\/op=20\/op=21:=aH
def QE(w:aB)(u:Bool)(x:FV)(t:Tr):Prop:=u=true->FA w x.a x.f/\x.f=bT t/\t.ok
theorem QE.len{w:aB}{u:Bool}{x:FV}{t:Tr}(h:QE w u x t)(hu:u=true):x.f.length<=maxLen:=by
 rw[(h hu).2.1];have:=Qw t;unfold maxLen;omega
theorem Mz  (hop:1<=op/\op<=21)(hX:ji op=false)(hf:kG op i e g=0)(hi:i'=i)(he:e'=e)(hg:g'=g):gh ⟨op,i',e',g',0,0⟩ []=bT (qG op i e g a b):=by
 subst hi he hg;rw[Dx hX];exact Sp (n:=⟨op,_,_,_,0,0⟩) hop hX hf rfl rfl
theorem vO  {f:List NV}(hop:1<=op/\op<=21)(hX:ji op=true)(hY:iM op=false)(hf:kG op i e g=0)(hi:i'=i)(he:e'=e)(hg:g'=g)(h:f=bT a/\a.ok):gh ⟨op,i',e',g',0,0⟩ [f]=bT (qG op i e g a b):=by
 subst hi he hg;rw[KP hX hY,h.1];exact qC h.2 hop hX hY hf
theorem vN  {f k:List NV}(hop:1<=op/\op<=21)(hY:iM op=true)(hf:kG op i e g=0)(hi:i'=i)(he:e'=e)(hg:g'=g)(h:f=bT a/\a.ok)(h':k=bT b/\b.ok):gh ⟨op,i',e',g',0,0⟩ [f,k]=bT (qG op i e g a b):=by
 subst hi he hg;rw[G2 hY,h.1,h'.1];exact jS h.2 h'.2 hop hY hf
abbrev FV.z:FV:=⟨none,0,[]⟩
def Xn(t:ax)(w w':aB)(v:aC)(a b:FV)(u:Tr):Prop:=∃fv:FV,v=fv.v/\fv.f=bT u/\(fQ t w w' v fv.f\/fv=a\/fv=b)
structure Xo (P:av) (t:ax) (r:Wl) (gf:ay) (cs:ai) (w0:aB):Prop where
  enter:∀args w,(callFunc gf args).run P w=.ok (.enter gf args) w
  run:∀w,Ex [] w0 w->∀(n:NV) (a b:FV) (ta tb:Tr),(1<=n.op/\n.op<=21)->kG n.op n.i n.e n.g=0->QE w (ji n.op) a ta->QE w (iM n.op) b tb->(ji n.op=true->a.f≠[])->(iM n.op=true->b.f≠[])->Cn P gf ([n.v,a.v,b.v]++cs) w (λv w'=>Xn t w w' v a b (r n.op n.i n.e n.g ta tb))
def fC:Tr->Tr×Tr
 |.leaf op i e g=>(.leaf op i e g,if op=1 then cT 2 else if op=2 then cT 1 else fU (.leaf op i e g))
 |.un op i e g a=>
  if op=4 then((fC a).2,(fC a).1)
  else if op=9 then(.un op i e g (fC a).1,.un 10 i 0 0 (fC a).2)
  else if op=10 then(.un op i e g (fC a).1,.un 9 i 0 0 (fC a).2)
  else(.un op i e g (fC a).1,fU (.un op i e g (fC a).1))
 |.bin op i e g a b=>
  if op=5 then(.bin op i e g (fC a).1 (fC b).1,.bin 6 0 0 0 (fC a).2 (fC b).2)
  else if op=6 then(.bin op i e g (fC a).1 (fC b).1,.bin 5 0 0 0 (fC a).2 (fC b).2)
  else if op=7 then(.bin 6 0 0 0 (fC a).2 (fC b).1,.bin 5 0 0 0 (fC a).1 (fC b).2)
  else if op=8 then(.bin 5 0 0 0 (.bin 6 0 0 0 (fC a).2 (fC b).1) (.bin 6 0 0 0 (fC a).1 (fC b).2),.bin 6 0 0 0 (.bin 5 0 0 0 (fC a).1 (fC b).2) (.bin 5 0 0 0 (fC a).2 (fC b).1))
  else(.bin op i e g (fC a).1 (fC b).1,fU (.bin op i e g (fC a).1 (fC b).1))
theorem rQ (ha:a.ok)(hb:b.ok):(Tr.bin 6 0 0 0 a b).ok:=⟨aH,rfl,rfl,ha,hb⟩
theorem wB  (ho:op=9\/op=10)(hi:0<=i/\i<4)(ha:a.ok):(Tr.un op i 0 0 a).ok:=Tp ho hi.1 hi.2 ha
theorem nj:∀{t:Tr},t.ok->(fC t).1.ok/\(fC t).2.ok
 |.leaf op i e g,h=>by
  rw[fC];refine⟨h,?_⟩;dsimp only;split;exact Qs (.inr rfl);split;exact Qs (.inl rfl);exact Fj h
 |.un op i e g a,h=>by
  obtain⟨h1,h2⟩:=nj h.2.2.2.2;have hme:(Tr.un op i e g (fC a).1).ok:=⟨h.1,h.2.1,h.2.2.1,h.2.2.2.1,h1⟩;rw[fC];split;exact⟨h2,h1⟩;split;rename_i h9;subst h9;exact⟨hme,wB (.inr rfl) ((lW h.2.2.2.1).ag rfl) h2⟩;split;rename_i h9;subst h9;exact⟨hme,wB (.inl rfl) ((lW h.2.2.2.1).ag rfl) h2⟩;exact⟨hme,Fj hme⟩
 |.bin op i e g a b,h=>by
  obtain⟨h1,h2⟩:=nj h.2.2.2.1;obtain⟨k1,k2⟩:=nj h.2.2.2.2;have hme:(Tr.bin op i e g (fC a).1 (fC b).1).ok:=⟨h.1,h.2.1,h.2.2.1,h1,k1⟩;rw[fC];split;exact⟨hme,rQ h2 k2⟩;split;exact⟨hme,pE h2 k2⟩;split;exact⟨rQ h2 k1,pE h1 k2⟩;split;exact⟨pE (rQ h2 k1) (rQ h1 k2),rQ (pE h1 k2) (pE h2 k1)⟩;exact⟨hme,Fj hme⟩
end
section
variable{f:List NV}{t:Tr}
theorem NJ{u:Tr}(h:u∈iu (fU t)):u=fU t\/u∈iu t:=by
 unfold iu fU at h;rw[visit]at h;split at h;cases h;rcases ed.1 h with h|h;exact .inr h;exact .inl (dn.1 h)
theorem Mu{s:Tr}(hs:s.ok)(ht:t.ok)(h:iA s=iA t):s=t:=by rw[<-oV hs.wf,h,oV ht.wf]
def l9:Tr->Int
 |.leaf op _ _ _=>op
 |.un op _ _ _ _=>op
 |.bin op _ _ _ _ _=>op
theorem Jk (h:t.ok):fe (iA t) ((iA t).length - 1)=t:=by rw[<-je];exact oV h.wf
structure Cf (f:List NV) (t:Tr):Prop where
  eq:f=bT t
  ne:f≠[]
  ok:t.ok
theorem Cf.can  (h:Cf f t):f=iA t/\(iA t).length<=200:=by
 have h1:¬200<(iA t).length:=λhl=>h.ne (h.eq.trans (Ge.2 hl));exact⟨h.eq.trans (MD h1),aH⟩
theorem Cf.okF  (h:Cf f t):JH f:=by rw[h.can.1];exact zP h.ok h.can.2
theorem Cf.qA  (h:Cf f t):gp f=0:=fA.2 h.okF
theorem Cf.top  (h:Cf f t):fF f=t:=by rw[h.can.1];exact oV h.ok.wf
theorem Cf.of (h:t.ok)(hl:(iA t).length<=200):Cf (iA t) t:=⟨(MD aH).symm,λe=>by have:=pz t;rw[e]at this;exact absurd this aL,h⟩
theorem nH (h:t.ok)(hl:bT t≠[]):Cf (bT t) t:=⟨rfl,hl,h⟩
theorem Cf.pos{f:List NV}{t:Tr}(h:Cf f t):0<f.length:=h.okF.pos
theorem Cf.le  (h:Cf f t):f.length<=200:=h.okF.len
theorem Cf.inj{g:List NV}{s:Tr}(h:Cf f s)(h':Cf g t):f=g↔s=t:=⟨λe=>by rw[<-h.top,e,h'.top],λe=>by rw[h.eq,e,<-h'.eq]⟩
end
def r8(p:Tr->Prop):Tr->Prop
 |.leaf op i e g=>p (.leaf op i e g)
 |.un op i e g a=>p (.un op i e g a)/\r8 p a
 |.bin op i e g a b=>p (.bin op i e g a b)/\r8 p a/\r8 p b
theorem r8.self{p:Tr->Prop}:∀{t:Tr},r8 p t->p t
 |.leaf ..,h=>h
 |.un ..,h=>h.1
 |.bin ..,h=>h.1
theorem r8.Am{p:Tr->Prop}:∀(t:Tr),r8 p t->∀c∈kids t,r8 p c
 |.leaf ..,_,c,hc=>by cases hc
 |.un ..,h,c,hc=>by rw[dn.1 hc];exact h.2
 |.bin ..,h,c,hc=>by
  simp only[kids,eH,dO,eX]at hc;rcases hc with rfl|rfl;exact h.2.1;exact h.2.2
theorem G5{op:Int}(h:1<=op/\op<=21)(hX:ji op=false):op=1\/op=2\/op=3:=by
 rcases tp h with rfl|rfl|rfl|rfl|rfl|rfl|rfl|rfl|rfl|rfl|rfl|rfl|rfl|rfl|rfl|rfl|rfl|rfl|rfl|rfl|rfl<;>first|(simp;done)|exact absurd hX aI
def MW(t tl:ax)(w w':aB)(v:aC)(gs:List FV):Prop:=∃(q:ah) (cap:Nat) (sp:ai) (H:Hl),v=gx q gs.length cap/\(q=none->gs.length=0/\cap=0)/\(gs.map FV.v++sp).length=cap/\ld w w' ((q,ob FV.v tl gs sp)::H)/\∀g∈gs,g.In t H
theorem ld.nil{w w':aB}{o:Obj}:ld w w' [(none,o)]:=⟨λp hp b hb=>(by rw[dn.1 hp]at hb;cases hb),by simp⟩
theorem MW.mk{t tl:ax}{w0 w:aB}{h:Hl}{Y:List (Nat×Obj)}(s:St w0 [] w h Y){q:ah}{gs:List FV}{sp:ai}{cap:Nat}{H:Hl}(hs:((q,ob FV.v tl gs sp)::H).Sublist h)(hq:q=none->gs.length=0/\cap=0)(fB:(gs.map FV.v++sp).length=cap)(hin:∀g∈gs,g.In t H):MW t tl w0 w (gx q gs.length cap) gs:=
 ⟨q,cap,sp,H,rfl,hq,fB,(ld.of s).sub hs,hin⟩
theorem FV.In.sep{t:ax}{w0 w:aB}{S:aq}{h hF:Hl}{Y:List (Nat×Obj)}{x:FV}(g:x.In t hF)(s:St w0 S w (h++hF) Y):M7 (iR h) w x.a x.f:=by
 refine⟨((g.mono (bQ h hF)).at s).at_,λb o e hm=>?_⟩;obtain⟨q,sp,h1,h2,_⟩:=g;rw[h2]at e;obtain⟨o1,ho⟩:=np.1 hm;cases q with
 |none=>cases e
 |some c=>
  cases e;exact(cR.1 s.apart).2.2 _ ho _ h1 b rfl rfl
structure XF (t:ax) (H:Hl) (gs:List FV) (ts:List Tr):Prop where
  eq:gs.map FV.f=ts.map bT
  cf:∀u∈ts,u.ok/\bT u≠[]
  XO:∀g∈gs,g.In t H
def Vc(f o:List NV)(e:Int):Prop:=(gp f≠0/\o=[]/\e=gp f)\/(gp f=0/\o=bT (fC (fF f)).1/\e=if o=[]then 8 else 0)
theorem oy(f:List NV):fT (fw f):=by
 by_cases h:gp f=0;exact(ox h).nodes;rw[fw,if_pos h];intro i hi;exact absurd hi (ew _)
def tX(f g:List NV):Bool:=decide (gp f=0/\gp g=0/\fw f=fw g)
theorem NY{f g:List NV}{u:Tr}(h0:gp f=0)(hg:Cf g u):tX f g=decide (fF f=u):=by
 unfold tX;rw[decide_eq_decide];have hT:=(fA.1 h0).top;have hcg:fw g=iA u:=by rw[jm hg.qA,hg.top]
 constructor;rintro ⟨_,_,h⟩;rw[jm h0,hcg]at h;exact Mu hT hg.ok h;intro h;exact⟨h0,hg.qA,by rw[jm h0,hcg,h]⟩
theorem tv{f:List NV}{i:Nat}(hi:i<f.length)(hO:fT f):l9 (fe f i)=f[i].op:=by
 rcases jv hi hO with⟨_,h⟩|⟨_,_,h⟩|⟨_,h⟩<;>rw[h]<;>rfl
end Go.Proofs.Wit
namespace Go.Proofs.Wit
open Go
def xI(r:List fi)(n:Nat)(c s:fi):Nat->fi
 |0=>jZ n
 |k+1=>wO r n ((jZ n &&& ~~~c)|||(s &&& xI r n c s k))
section
variable{r:List fi}{n:Nat}{c s:fi}
theorem pF(p:n<=64){i:Nat}:(jZ n).getLsbD i=true↔i<n:=by
 by_cases hi:i<64;rw[kP p hi];simp;constructor;intro h;rw[BitVec.getLsbD_of_ge _ _ aH]at h;cases h;intro h;omega
theorem He(p:n<=64):∀k i,(xI r n c s k).getLsbD i=true->i<n
 |0,_i,h=>(pF p).1 h
 |_k+1,_i,h=>((kB p).1 h).1
theorem yg(p:n<=64){k u:Nat}:(((jZ n &&& ~~~c)|||(s &&& xI r n c s k)).getLsbD u=true)↔(u<n/\c.getLsbD u=false)\/(s.getLsbD u=true/\(xI r n c s k).getLsbD u=true):=by
 rw[du,dV,dc,dG,dc,dG,pF p,de,dG,dE,dw];constructor;rintro (⟨h1,h2⟩|h);exact .inl ⟨h1,h2.2⟩;exact .inr h;rintro (⟨h1,h2⟩|h);exact .inl ⟨h1,aH,h2⟩;exact .inr h
theorem Ls(p:n<=64):∀k i,(xI r n c s (k+1)).getLsbD i=true->(xI r n c s k).getLsbD i=true
 |0,i,h=>(pF p).2 ((kB p).1 h).1
 |k+1,i,h=>by
  obtain⟨h1,h2⟩:=(kB p).1 h;refine(kB p).2 ⟨h1,λu hu=>(yg p).2 ?_⟩;rcases(yg p).1 (h2 u hu)with w|⟨w,C⟩;exact .inl w;exact .inr ⟨w,Ls p k u C⟩
theorem Mi(p:n<=64)(C:∀a b,Rl r a b->b<n):∀k i,(FX r n c s).getLsbD i=true->(xI r n c s k).getLsbD i=true
 |0,i,h=>(pF p).2 ((py p C).1 h).1
 |k+1,i,h=>by
  obtain⟨h1,h2⟩:=(py p C).1 h;refine(kB p).2 ⟨h1,λu hu=>(yg p).2 ?_⟩;cases hc:c.getLsbD u with
  |false=>exact .inl ⟨C _ _ hu,rfl⟩
  |true=>
   refine .inr ⟨h2 u (.one hu hc),Mi p C k u ((py p C).2 ⟨C _ _ hu,λx hx=>h2 x ?_⟩)⟩;clear h2
   induction hx with
   |one h w=>exact .step (.one hu hc) h w
   |step _ E w D=>exact .step D E w
theorem RX(p:n<=64)(E:∀a b,Rl r a b->b<n){k:Nat}(h:xI r n c s (k+1)=xI r n c s k):xI r n c s k=FX r n c s:=by
 refine zV (He p k) (λi hi=>((py p E).1 hi).1) (λi _=>⟨λhi=>(py p E).2 ⟨He p k i hi,λu hu=>?_⟩,Mi p E k i⟩);have step:∀a b,(xI r n c s k).getLsbD a=true->Rl r a b->c.getLsbD b=true->s.getLsbD b=true/\(xI r n c s k).getLsbD b=true:=λa b ha J F=>by
  rw[<-h]at ha;have h2:=((kB p).1 ha).2 b J;rcases(yg p).1 h2 with C|C;rw[F]at C;exact absurd C.2 aL;exact C
 have D:s.getLsbD u=true/\(xI r n c s k).getLsbD u=true:=by
  induction hu with
  |one h2 w=>exact step _ _ hi h2 w
  |step _ h2 w K=>exact step _ _ K.2 h2 w
 exact D.1
theorem O2(p:n<=64){k:Nat}(h:xI r n c s (k+1)≠xI r n c s k):Eb n (xI r n c s (k+1))<Eb n (xI r n c s k):=
 Cl (He p (k+1)) (He p k) (Ls p k) h
end
end Go.Proofs.Wit
namespace Go.Proofs.Wit
open Go Go.RowKit
section
variable{n:Nat}{rel:List (List fi)}{g k w:Nat}
theorem rD:pX rel g w (k+1)=if gb g k=1 then pX rel g w k|||(rel.getD k []).getD w 0#64 else pX rel g w k:=rfl
theorem Fy(h:∀a,a<k->gb g a=0):pX rel g w k=0#64:=by
 induction k with
 |zero=>rfl
 |succ k ih=>
  rw[rD,if_neg (by rw[h k (dS k)];decide)];exact ih (λa ha=>h a (Nat.lt_succ_of_lt ha))
theorem A7:(ke n rel g k).length=n:=by simp[ke]
theorem Fx(h:gb g k=0):ke n rel g (k+1)=ke n rel g k:=by
 unfold ke
 congr 1
 funext w;rw[rD,if_neg (by rw[h];decide)]
theorem DK(_hn:n<=64)(h0:∀a,a<k->gb g a=0)(h1:gb g k=1){r:List fi}(hr:rel.getD k []=r)(hl:r.length=n)(_hv:uk r):ke n rel g (k+1)=r:=by
 apply dK (by simp[ke,hl]);intro i e1 e2;have hi:i<n:=aH;have e3:(ke n rel g (k+1))[i]=pX rel g i (k+1):=by simp[ke]
 rw[e3,rD,if_pos h1,Fy h0,hr];simp[e2]
theorem Fw(h1:gb g k=1){r:List fi}(hr:rel.getD k []=r):xi (λw x=>x|||r.getD w 0#64) (ke n rel g k) n=ke n rel g (k+1):=by
 apply dK (by simp[ke,xi]);intro i e1 e2;have hi:i<n:=by simpa[ke]using e2
 have e3:(ke n rel g (k+1))[i]=pX rel g i (k+1):=by simp[ke]
 rw[e3,rD,if_pos h1,hr];simp[xi,ke,hi]
end
theorem A8{n:Nat}{val:List fi}{rel:List (List fi)}(hv:mK (n:Int) val rel)(g:Nat):uk (mZ n rel g)/\(mZ n rel g).length=n:=by
 have h64:=hv.IU;have hl:(mZ n rel g).length=n:=A7;refine⟨⟨aH,λa b hab=>?_⟩,hl⟩;rw[hl];obtain⟨_,i,hi,_,h⟩:=wC.1 hab;have hm:rel.getD i []∈rel:=by simp[hi]
 have:=(hv.qM _ hm).lt _ _ h;have:=hv.len _ hm;omega
theorem IW{n:Nat}{val:List fi}{rel:List (List fi)}(hv:mK (n:Int) val rel)(g:Nat):uk (sD n rel g)/\(sD n rel g).length=n:=by
 have h64:=hv.IU;have hl:(sD n rel g).length=n:=ze;refine⟨⟨aH,λa b hab=>?_⟩,hl⟩;rw[hl];have ha:=hab.HC;rw[hl]at ha;unfold Rl at hab;rw[sD,Fp ha]at hab;exact zd aH _ _ hab
theorem BQ{m k A:Nat}(hm:m<2^k):S3 m k A=decide (m / 2^A=0):=by
 have h1:S3 m k A=true↔m / 2^A=0:=by
  rw[BR,Nat.div_eq_zero_iff_lt (Nat.two_pow_pos A)];constructor;intro h;refine Nat.lt_pow_two_of_testBit m (λi hi=>?_);by_cases hk:i<k;cases hb:m.testBit i with
  |false=>rfl
  |true=>have:=h i hk hb;omega
  exact cm (dt hm (cS aI aH));intro h i _ hb;refine bj (λhn=>?_);rw[cm (dt h (cS aI aH))]at hb;cases hb
 by_cases h:m / 2^A=0;rw[eF h];exact h1.2 h;rw[eC h,dv];exact λh2=>h (h1.1 h2)
theorem U5{op:Int}(h:ui op=true):rZ op=false:=by
 simp only[ui,dV,eU]at h;simp only[rZ,ct,bV];omega
theorem VJ{n:NV}(h:td n.op n.i n.e n.g):0<=n.g:=by
 cases hg:rZ n.op with
 |true=>have:=h.gr hg;omega
 |false=>have:=h.g0 hg;omega
theorem CC{n:Nat}(hn:n<=64):(18446744073709551615#64:fi)>>>(64 - n)=jZ n:=by
 apply bS;intro i hi;rw[BitVec.getLsbD_ushiftRight,z7,BitVec.getLsbD_allOnes,kP hn hi];rw[decide_eq_decide];omega
theorem Kp{r:List fi}{x:fi}(hv:uk r):Jf r x r.length=jZ r.length &&& ~~~wO r r.length (jZ r.length &&& ~~~x):=by
 rw[<-L9 hv]
 congr 2
 have hl:=hv.len;apply bS;intro i _;rw[dU];show(wO r r.length (~~~x)).getLsbD i=true↔_;rw[kB hl,kB hl];refine and_congr_right (λ_=>forall_congr' (λu=>imp_congr_right (λhu=>?_)));have hlt:=hv.lt _ _ hu;rw[dc,dG,pF hl];exact⟨λh=>⟨hlt,h⟩,λh=>h.2⟩
def qi(A B:Nat)(op i g:Int):Bool:=decide (op<=13) && ((!ui op||decide (i.toNat<A)) && ((!(op==3)||decide (i.toNat<B)) && decide (g.toNat<2^A)))
theorem iP{A B:Nat}{op i g:Int}:qi A B op i g=true↔Ac A B op i g:=by
 unfold qi Ac EG;simp only[dG,dV,dw,dE,c9];refine and_congr_right (λ_=>and_congr ?_ (and_congr ?_ Iff.rfl));cases ui op<;>simp
 by_cases h:op=3<;>simp[h]
def nK(A B:Nat):Tr->Bool
 |.leaf op i _ g=>qi A B op i g
 |.un op i _ g a=>qi A B op i g && nK A B a
 |.bin op i _ g a b=>qi A B op i g && (nK A B a && nK A B b)
theorem vD{A B:Nat}:∀{t:Tr},nK A B t=true↔jE (Ac A B) t
 |.leaf ..=>iP
 |.un ..=>by rw[nK,dG,iP,vD];rfl
 |.bin ..=>by rw[nK,dG,dG,iP,vD,vD];rfl
theorem wF{A B:Nat}{f:List NV}{i:Nat}(hi:i<f.length)(hO:fT f):
  nK A B (fe f i)=(qi A B f[i].op f[i].i f[i].g && ((!ji f[i].op||nK A B (fe f f[i].x.toNat)) && (!iM f[i].op||nK A B (fe f f[i].y.toNat)))):=by
 rcases jv hi hO with⟨h1,h2⟩|⟨h1,h1',h2⟩|⟨h1,h2⟩;rw[h2,nK,h1,CU h1];simp;rw[h2,nK,h1,h1'];simp;rw[h2,nK,h1,jL h1];simp
theorem KA{n:Nat}{val:List fi}{rel:List (List fi)}{op i g:Int}(hop:1<=op/\op<=13){x y x' y':fi}(hx:ji op=true->x=x')(hy:iM op=true->y=y'):pf n val rel op i g x y=pf n val rel op i g x' y':=by
 have:op=1\/op=2\/op=3\/op=4\/op=5\/op=6\/op=7\/op=8\/op=9\/op=10\/op=11\/op=12\/op=13:=aH;rcases this with rfl|rfl|rfl|rfl|rfl|rfl|rfl|rfl|rfl|rfl|rfl|rfl|rfl<;>
  first
   |rfl
   |(rw[hx rfl,hy rfl];done)
   |(have e:=hx rfl;subst e;rfl)
section
variable{rel:List (List fi)}{f:List NV}{val:List fi}
def oK{α:Type}(L:Nat)(P:Nat->α)(d:α)(k:Nat):List α:=(List.range L).map (λj=>if j<k then P j else d)
section
variable{α:Type}{L:Nat}{P:Nat->α}{d:α}{k j:Nat}
theorem gm:(oK L P d k).length=L:=by simp[oK]
theorem rm(hj:j<k)(hL:j<L){e:α}:(oK L P d k).getD j e=P j:=by simp[oK,hL,hj]
theorem yU:oK L P d 0=List.replicate L d:=by
 apply dK (by simp[oK]);intro i h1 h2;simp[oK]
theorem Ob:oK L P d L=(List.range L).map P:=by
 unfold oK;exact c6 (λi hi=>if_pos (eD.1 hi))
theorem mc(_hk:k<L):(oK L P d k).set k (P k)=oK L P d (k+1):=by
 apply dK (by simp[oK]);intro i h1 h2;rw[List.getElem_set];by_cases hi:k=i;subst hi;simp[oK];rw[if_neg hi];simp only[oK,List.getElem_map,List.getElem_range];by_cases h3:i<k;rw[if_pos h3,if_pos aH];rw[if_neg h3,if_neg aH]
theorem lp(h:P k=d):oK L P d (k+1)=oK L P d k:=by
 unfold oK;refine c6 (λi _=>?_);by_cases h3:i<k;rw[if_pos h3,if_pos aH];rw[if_neg h3];by_cases h4:i=k;subst h4;rw[if_pos aH,h];rw[if_neg aH]
end
theorem ri{op:Int}(h:1<=op/\op<=21):ji op=decide (4<=op):=by
 rcases tp h with rfl|rfl|rfl|rfl|rfl|rfl|rfl|rfl|rfl|rfl|rfl|rfl|rfl|rfl|rfl|rfl|rfl|rfl|rfl|rfl|rfl<;>rfl
def tO(n:Nat)(val:List fi)(rel:List (List fi))(f:List NV)(k:Nat):fi:=if nK rel.length val.length (fe f k)=true then rk n val rel (fe f k)else 0#64
def uY(n:Nat)(val:List fi)(rel:List (List fi))(f:List NV):List fi:=(List.range f.length).map (tO n val rel f)
theorem su{n:Nat}   {k:Nat}(hk:k<f.length)(hO:fT f){x y:fi}(hfx:ji f[k].op=true->nK rel.length val.length (fe f f[k].x.toNat)=true)(hfy:iM f[k].op=true->f[k].op<=13->nK rel.length val.length (fe f f[k].y.toNat)=true)
  (hx:ji f[k].op=true->x=tO n val rel f f[k].x.toNat)(hy:iM f[k].op=true->y=tO n val rel f f[k].y.toNat):
  qi rel.length val.length f[k].op f[k].i f[k].g=nK rel.length val.length (fe f k)/\(if qi rel.length val.length f[k].op f[k].i f[k].g=true then pf n val rel f[k].op f[k].i f[k].g x y else 0#64)=tO n val rel f k:=by
 have hop:=(hO k hk).op;have e1:qi rel.length val.length f[k].op f[k].i f[k].g=nK rel.length val.length (fe f k):=by
  rw[wF hk hO];by_cases hs:qi rel.length val.length f[k].op f[k].i f[k].g=true;have h13:=(iP.1 hs).1;rw[hs];symm;rw[Bool.true_and,dG];refine⟨?_,?_⟩;cases hX:ji f[k].op with
  |false=>rfl
  |true=>simpa using hfx hX
  cases hY:iM f[k].op with
  |false=>rfl
  |true=>simpa using hfy hY h13
  rw[show qi rel.length val.length f[k].op f[k].i f[k].g=false from by simpa using hs,Bool.false_and]
 refine⟨e1,?_⟩;unfold tO;rw[<-e1];by_cases hs:qi rel.length val.length f[k].op f[k].i f[k].g=true;have h13:=(iP.1 hs).1;rw[if_pos hs,if_pos hs,Ix hO hk];refine KA ⟨hop.1,h13⟩ (λhX=>?_) (λhY=>?_);rw[if_pos hX,hx hX,tO,if_pos (hfx hX)];rw[if_pos hY,hy hY,tO,if_pos (hfy hY h13)];rw[if_neg hs,if_neg hs]
theorem yk{A B:Nat} {k:Nat}(hk:k<f.length)(hO:fT f)(hX:ji f[k].op=true)(h:nK A B (fe f f[k].x.toNat)=false):nK A B (fe f k)=false:=by
 rw[wF hk hO,hX,h];simp
theorem Hq{A B:Nat} {k:Nat}(hk:k<f.length)(hO:fT f)(hY:iM f[k].op=true)(h:nK A B (fe f f[k].y.toNat)=false):nK A B (fe f k)=false:=by
 rw[wF hk hO,hY,h];simp
theorem tB{n:Nat}   {k:Nat}(h:nK rel.length val.length (fe f k)=false):tO n val rel f k=0#64:=if_neg (by rw[h];simp)
theorem Iw{n:Nat}   (hl:0<f.length)(h:jE (Ac rel.length val.length) (fF f)):(uY n val rel f).getD (f.length - 1) 0#64=rk n val rel (fF f):=by
 have h1:f.length - 1<f.length:=aH;rw[show(uY n val rel f).getD (f.length - 1) 0#64=tO n val rel f (f.length - 1)from by simp[uY,h1]];rw[tO,<-je,if_pos (vD.2 h)]
end
section
variable{e g i op:Int}{f:List NV}
def Bf(f:List NV):Option Tr->Prop
 |none=>f=[]
 |some t=>Cf f t
theorem Bf.le{f:List NV}{o:Option Tr}(h:Bf f o):f.length<=200:=by
 cases o with
 |none=>rw[show f=[]from h];decide
 |some t=>exact Cf.le h
theorem Bf.max {o:Option Tr}(h:Bf f o):f.length<=maxLen:=by have:=h.le;unfold maxLen;omega
theorem EB{w w':aB}{o o':Obj}:ld w w' [(none,o),(none,o')]:=
 have h:∀p∈[((none:ah),o),(none,o')],∀b,p.1=some b->False:=λp hp b hb=>by
  simp only[eH,dO,eX]at hp;rcases hp with rfl|rfl<;>cases hb
 ⟨λp hp b hb=>(h p hp b hb).elim,List.pairwise_cons.2 ⟨λ_ _ _ hb=>(by cases hb),List.pairwise_cons.2 ⟨λ_ hp=>(by cases hp),List.Pairwise.nil⟩⟩⟩
theorem St.gZ{w0 w:aB}{S:aq}{h:Hl}{Y:List (Nat×Obj)}(s:St w0 S w h Y){o:Obj}:St w0 S w ((Option.none,o)::h) Y:=
 ⟨s.ext,λp hp b hb=>by
  rcases eH.1 hp with rfl|hp;cases hb;exact s.own p hp b hb,List.pairwise_cons.2 ⟨λ_ _ _ hb=>(by cases hb),s.apart⟩,s.sys,s.CP⟩
def rV:Option Tr->Int
 |none=>0
 |some t=>l9 t
def fI:Tr->Int
 |.leaf _ i _ _=>i
 |.un _ i _ _ _=>i
 |.bin _ i _ _ _ _=>i
def fG:Tr->Int
 |.leaf _ _ _ g=>g
 |.un _ _ _ g _=>g
 |.bin _ _ _ g _ _=>g
def Uo:Option Tr->Int
 |none=>0
 |some t=>fI t
def VO:Option Tr->Int
 |none=>0
 |some t=>fG t
def nP:Option Tr->Option Tr
 |some (.un _ _ _ _ a)=>some a
 |some (.bin _ _ _ _ a _)=>some a
 |_=>none
def Ha:Option Tr->Option Tr
 |some (.bin op _ _ _ _ b)=>if op=5\/op=6\/op=7\/op=8\/op=13 then some b else none
 |_=>none
abbrev gv(a b:Tr):Tr:=.bin 7 0 0 0 a b
abbrev uj(a b:Tr):Tr:=.bin 5 0 0 0 a b
abbrev xH(a b:Tr):Tr:=.bin 8 0 0 0 a b
abbrev fN(i:Int)(a:Tr):Tr:=.un 9 i 0 0 a
abbrev pU(i:Int)(a:Tr):Tr:=.un 10 i 0 0 a
abbrev Ay(g:Int)(a:Tr):Tr:=.un 11 0 0 g a
abbrev uM(g:Int)(a b:Tr):Tr:=.bin 13 0 0 g a b
theorem Ri {a b:Tr}(h:(Tr.bin op i e g a b).ok)(hop:op=5\/op=6\/op=7\/op=8):i=0/\e=0/\g=0:=by
 have hF:=lW h.2.2.1;rcases hop with rfl|rfl|rfl|rfl<;>exact⟨hF.i0 rfl,hF.e0 aI,hF.g0 rfl⟩
theorem Rh {a b:Tr}(h:(Tr.bin 13 i e g a b).ok):i=0/\e=0/\1<=g/\g<16:=by
 have hF:=lW h.2.2.1;exact⟨hF.i0 rfl,hF.e0 aI,hF.gr rfl⟩
theorem tY {a:Tr}(h:(Tr.un op i e g a).ok)(hop:op=9\/op=10):(0<=i/\i<4)/\e=0/\g=0:=by
 have hF:=lW h.2.2.2.1;rcases hop with rfl|rfl<;>exact⟨hF.ag rfl,hF.e0 aI,hF.g0 rfl⟩
theorem TR {a:Tr}(h:(Tr.un 11 i e g a).ok):i=0/\e=0/\1<=g/\g<16:=by
 have hF:=lW h.2.2.2.1;exact⟨hF.i0 rfl,hF.e0 aI,hF.gr rfl⟩
theorem uP{t:Tr}(h:t.ok):(ji (l9 t)=false/\kids t=[])\/(ji (l9 t)=true/\iM (l9 t)=false/\∃i e g a,t=.un (l9 t) i e g a)\/(iM (l9 t)=true/\∃i e g a b,t=.bin (l9 t) i e g a b):=by
 cases t with
 |leaf op i e g=>exact .inl ⟨h.2.1,rfl⟩
 |un op i e g a=>exact .inr (.inl ⟨h.2.1,h.2.2.1,i,e,g,a,rfl⟩)
 |bin op i e g a b=>exact .inr (.inr ⟨h.2.1,i,e,g,a,b,rfl⟩)
theorem NA{t:Tr}(h:t.ok) (e:l9 t=op)(hop:op=5\/op=6\/op=7\/op=8):∃a b,t=.bin op 0 0 0 a b:=by
 rcases uP h with⟨h1,_⟩|⟨_,h1,_⟩|⟨_,i,e',g,a,b,ht⟩;rw[e]at h1;rcases hop with rfl|rfl|rfl|rfl<;>exact absurd h1 aI
 rw[e]at h1;rcases hop with rfl|rfl|rfl|rfl<;>exact absurd h1 aI
 rw[e]at ht;rw[ht]at h;obtain⟨rfl,rfl,rfl⟩:=Ri h hop;exact⟨a,b,ht⟩
theorem Nz{t:Tr}(h:t.ok)(e:l9 t=13):∃g a b,t=uM g a b/\1<=g/\g<16:=by
 rcases uP h with⟨h1,_⟩|⟨_,h1,_⟩|⟨_,i,e',g,a,b,ht⟩;rw[e]at h1;exact absurd h1 aI;rw[e]at h1;exact absurd h1 aI;rw[e]at ht;rw[ht]at h;obtain⟨rfl,rfl,hg⟩:=Rh h;exact⟨g,a,b,ht,hg⟩
theorem QW{t:Tr}(h:t.ok) (e:l9 t=op)(hop:op=9\/op=10):∃i a,t=.un op i 0 0 a/\0<=i/\i<4:=by
 rcases uP h with⟨h1,_⟩|⟨_,_,i,e',g,a,ht⟩|⟨h1,_⟩;rw[e]at h1;rcases hop with rfl|rfl<;>exact absurd h1 aI
 rw[e]at ht;rw[ht]at h;obtain⟨hi,rfl,rfl⟩:=tY h hop;exact⟨i,a,ht,hi⟩;rw[e]at h1;rcases hop with rfl|rfl<;>exact absurd h1 aI
theorem QX{t:Tr}(h:t.ok)(e:l9 t=11):∃g a,t=Ay g a/\1<=g/\g<16:=by
 rcases uP h with⟨h1,_⟩|⟨_,_,i,e',g,a,ht⟩|⟨h1,_⟩;rw[e]at h1;exact absurd h1 aI;rw[e]at ht;rw[ht]at h;obtain⟨rfl,rfl,hg⟩:=TR h;exact⟨g,a,ht,hg⟩;rw[e]at h1;exact absurd h1 aI
def Fit(t:Tr):Prop:=(iA t).length<=200
theorem Fit.Am{t c:Tr}(h:Fit t)(hc:c∈kids t):Fit c:=eM (pA hc) h
theorem Cf.I1 {t:Tr}(h:Cf f t)(hl:f.length - 1<f.length)(h4:4<=l9 t):Bf (lN f f[f.length - 1].x) (nP (some t)):=by
 have ht:fe f (f.length - 1)=t:=by rw[<-je];exact h.top
 have hn:=h.okF.nodes;have hO:=hn _ hl;have hc:=h.can;have key:∀c,c∈kids t->∀x:Int,fe f x.toNat=c->0<=x->x<f.length->Bf (lN f x) (some c):=λc hck x hx h0 hlt=>by
  have hcl:(iA c).length<=200:=eM (pA hck) hc.2;rw[lN,if_neg (by rintro (e|e|e)<;>first|exact e h.qA|omega),hx];exact Cf.of (h.ok.Am hck) hcl
 rcases jv hl hn with⟨h1,h2⟩|⟨h1,h1',h2⟩|⟨h1,h2⟩;rw[ht]at h2;have e:f[f.length - 1].op=l9 t:=by rw[h2];rfl
 rw[ri hO.op,bV]at h1;omega;rw[ht]at h2;have hx:=hO.x h1;rw[h2];exact key _ (by rw[h2];exact aF) _ rfl hx.1 aH;rw[ht]at h2;have hx:=hO.x (jL h1);rw[h2];exact key _ (by rw[h2];exact aF) _ rfl hx.1 aH
theorem Cf.Fv {t:Tr}(h:Cf f t)(hl:f.length - 1<f.length)(h5:l9 t=5\/l9 t=6\/l9 t=7\/l9 t=8\/l9 t=13):Bf (lN f f[f.length - 1].y) (Ha (some t)):=by
 have ht:fe f (f.length - 1)=t:=by rw[<-je];exact h.top
 have hn:=h.okF.nodes;have hO:=hn _ hl;have hc:=h.can;rcases jv hl hn with⟨h1,h2⟩|⟨h1,h1',h2⟩|⟨h1,h2⟩;rw[ht]at h2;have e:f[f.length - 1].op=l9 t:=by rw[h2];rfl
 rw[e]at h1;rcases h5 with h5|h5|h5|h5|h5<;>rw[h5]at h1<;>exact absurd h1 aI
 rw[ht]at h2;have e:f[f.length - 1].op=l9 t:=by rw[h2];rfl
 rw[e]at h1';rcases h5 with h5|h5|h5|h5|h5<;>rw[h5]at h1'<;>exact absurd h1' aI
 rw[ht]at h2;have e:f[f.length - 1].op=l9 t:=by rw[h2];rfl
 have hy:=hO.y h1;have hck:fe f f[f.length - 1].y.toNat∈kids t:=by rw[h2];exact cM _ aF
 have hcl:(iA (fe f f[f.length - 1].y.toNat)).length<=200:=eM (pA hck) hc.2;have hk:Ha (some t)=some (fe f f[f.length - 1].y.toNat):=by
  rw[h2];exact if_pos (by rw[e];exact h5)
 rw[hk,lN,if_neg (by rintro (e|e|e)<;>first|exact e h.qA|omega)];exact Cf.of (h.ok.Am hck) hcl
theorem Cf.O9 {t:Tr}(h:Cf f t)(hl:f.length - 1<f.length):f[f.length - 1].op=l9 t/\f[f.length - 1].i=fI t/\f[f.length - 1].g=fG t:=by
 have ht:fe f (f.length - 1)=t:=by rw[<-je];exact h.top
 rcases jv hl h.okF.nodes with⟨h1,h2⟩|⟨h1,h1',h2⟩|⟨h1,h2⟩<;>rw[ht]at h2<;>rw[h2]<;>exact⟨rfl,rfl,rfl⟩
theorem Lc{t:Tr}(h:¬(l9 t=5\/l9 t=6\/l9 t=7\/l9 t=8\/l9 t=13)):Ha (some t)=none:=by
 cases t with
 |leaf=>rfl
 |un=>rfl
 |bin op i e g a b=>exact if_neg h
theorem Ld{t:Tr}(hok:t.ok)(h:¬4<=l9 t):nP (some t)=none:=by
 cases t with
 |leaf=>rfl
 |un op i e g a=>have h1:=hok.2.1;rw[ri hok.1,dE]at h1;exact absurd h1 h
 |bin op i e g a b=>have h1:=jL hok.2.1;rw[ri hok.1,dE]at h1;exact absurd h1 h
theorem K4 (h:gp f=0):Fit (fF f):=by
 have h1:=wH h;rw[jm h]at h1;have:=(fA.1 h).len;show(iA (fF f)).length<=200;omega
def SO(t:Tr):Prop:=∃i x y,t=gv (fN i (gv x y)) (gv (fN i x) (fN i y))
def QG(t:Tr):Prop:=∃i x,t=gv (fN i x) x
def QI(t:Tr):Prop:=∃i x,t=gv (fN i x) (fN i (fN i x))
def SU(t:Tr):Prop:=∃i x,t=gv (fU (fN i x)) (fN i (fU (fN i x)))
def QH(t:Tr):Prop:=∃i x,t=gv (fN i x) (fU (fN i (fU x)))
def SN(t:Tr):Prop:=∃i x,t=xH (pU i x) (fU (fN i (fU x)))
def SS(t:Tr):Prop:=∃g x y,t=xH (uM g x y) (Ay g (gv x (uj y (uM g x y))))
def P4(u t:Tr):Prop:=∃z g x y,t=gv z (uM g x y)/\u=gv z (Ay g (gv x (uj y z)))
section
variable{t:Tr}
theorem Fit.r {a b:Tr}(h:Fit (.bin op i e g a b)):Fit b:=h.Am (cM _ aF)
theorem Fit.u {a:Tr}(h:Fit (.un op i e g a)):Fit a:=h.Am aF
end
end
section
variable{g i:Int}{k:Nat}
section
variable{t u:Tr}
theorem yP{f:List NV}{X:Tr}(h:gp f=0)(hX:X.ok):tX f (bT X)=decide (fF f=X):=by
 by_cases hl:Fit X;exact NY h (nH hX (Qv.2 hl));have e:bT X=[]:=Ge.2 (by unfold Fit at hl;omega);rw[e,show tX f []=false from eC (λe=>absurd e.2.1 aI)];exact(eC (λe:fF f=X=>hl (e ▸ K4 h))).symm
theorem lj{f:List NV}{t X:Tr}(h:Cf f t)(hX:X.ok):tX f (bT X)=decide (t=X):=by rw[yP h.qA hX,h.top]
theorem SO.iff {p q:Tr}(h:nP (some t)=some (fN i (gv p q))):t=gv (fN i (gv p q)) (gv (fN i p) (fN i q))↔SO t:=
 ⟨λe=>⟨i,p,q,e⟩,λ⟨i',x,y,e⟩=>by
  subst e;have h':some (fN i' (gv x y))=some (fN i (gv p q)):=h;cases h';rfl⟩
theorem SO.gd(h:SO t):rV (nP (some t))=9/\rV (nP (nP (some t)))=7:=by obtain⟨i,x,y,rfl⟩:=h;exact⟨rfl,rfl⟩
theorem QG.iff {x:Tr}(h:nP (some t)=some (fN i x)):t=gv (fN i x) x↔QG t:=
 ⟨λe=>⟨i,x,e⟩,λ⟨i',y,e⟩=>by
  subst e;have h':some (fN i' y)=some (fN i x):=h;cases h';rfl⟩
theorem QG.gd(h:QG t):rV (nP (some t))=9:=by obtain⟨i,x,rfl⟩:=h;rfl
theorem QI.iff {x:Tr}(h:nP (some t)=some (fN i x)):t=gv (fN i x) (fN i (fN i x))↔QI t:=
 ⟨λe=>⟨i,x,e⟩,λ⟨i',y,e⟩=>by
  subst e;have h':some (fN i' y)=some (fN i x):=h;cases h';rfl⟩
theorem QI.gd(h:QI t):rV (nP (some t))=9:=by obtain⟨i,x,rfl⟩:=h;rfl
theorem QH.iff {x:Tr}(h:nP (some t)=some (fN i x)):t=gv (fN i x) (fU (fN i (fU x)))↔QH t:=
 ⟨λe=>⟨i,x,e⟩,λ⟨i',y,e⟩=>by
  subst e;have h':some (fN i' y)=some (fN i x):=h;cases h';rfl⟩
theorem QH.gd(h:QH t):rV (nP (some t))=9:=by obtain⟨i,x,rfl⟩:=h;rfl
theorem SU.iff {x:Tr}(h:nP (nP (some t))=some (fN i x)):t=gv (fU (fN i x)) (fN i (fU (fN i x)))↔SU t:=
 ⟨λe=>⟨i,x,e⟩,λ⟨i',y,e⟩=>by
  subst e;have h':some (fN i' y)=some (fN i x):=h;cases h';rfl⟩
theorem SU.gd(h:SU t):rV (nP (nP (some t)))=9:=by obtain⟨i,x,rfl⟩:=h;rfl
theorem SN.iff {x:Tr}(h:nP (some t)=some (pU i x)):t=xH (pU i x) (fU (fN i (fU x)))↔SN t:=
 ⟨λe=>⟨i,x,e⟩,λ⟨i',y,e⟩=>by
  subst e;have h':some (pU i' y)=some (pU i x):=h;cases h';rfl⟩
theorem SN.gd(h:SN t):rV (nP (some t))=10:=by obtain⟨i,x,rfl⟩:=h;rfl
theorem SS.iff {x y:Tr}(h:nP (some t)=some (uM g x y)):t=xH (uM g x y) (Ay g (gv x (uj y (uM g x y))))↔SS t:=
 ⟨λe=>⟨g,x,y,e⟩,λ⟨g',x',y',e⟩=>by
  subst e;have h':some (uM g' x' y')=some (uM g x y):=h;cases h';rfl⟩
theorem SS.gd(h:SS t):rV (nP (some t))=13:=by obtain⟨g,x,y,rfl⟩:=h;rfl
theorem P4.iff{z:Tr} {x y:Tr}(hz:nP (some t)=some z)(h:Ha (some t)=some (uM g x y)):(t=gv z (uM g x y)/\u=gv z (Ay g (gv x (uj y z))))↔P4 u t:=
 ⟨λe=>⟨z,g,x,y,e⟩,λ⟨z',g',x',y',e,e2⟩=>by
  subst e;subst e2;have h':some (uM g' x' y')=some (uM g x y):=h;have hz':some z'=some z:=hz;cases h';cases hz';exact⟨rfl,rfl⟩⟩
theorem P4.gd(h:P4 u t):rV (Ha (some t))=13:=by obtain⟨z,g,x,y,rfl,_⟩:=h;rfl
def AB(g k:Nat):aq:=(List.range k).filter (λi=>gb g i==1)
theorem MN{g:Nat}(h:gb g k=1):AB g (k+1)=AB g k++[k]:=by simp[AB,ep,List.filter_append,h]
theorem PQ{g:Nat}(h:gb g k≠1):AB g (k+1)=AB g k:=by simp[AB,ep,List.filter_append,h]
theorem MO{g k:Nat}:(AB g k).length<=k:=by have:=List.length_filter_le (λi=>gb g i==1) (List.range k);simpa[AB]using this
theorem PT{g i:Nat}(h:i∈AB g k):i<k:=by simpa using(eg.1 h).1
def OL(g k:Nat)(x:Tr):List Tr:=(AB g k).map (λ(j:Nat)=>fN (j:Int) x)
def Eu(g:Nat)(x:Tr):Tr:=p7 (OL g 4 x)
def SQ(t:Tr):Prop:=∃(g:Int) (x:Tr),t=xH (Ay g x) (Eu g.toNat x)
theorem SQ.iff {x:Tr}(h:nP (some t)=some (Ay g x)):t=xH (Ay g x) (Eu g.toNat x)↔SQ t:=
 ⟨λe=>⟨g,x,e⟩,λ⟨g',y,e⟩=>by
  subst e;have h':some (Ay g' y)=some (Ay g x):=h;cases h';rfl⟩
theorem SQ.gd(h:SQ t):rV (nP (some t))=11:=by obtain⟨g,x,rfl⟩:=h;rfl
end
def oi(o:Option Tr):Prop:=∀A,o=some A->A.ok
theorem oi.a{o:Option Tr}(h:oi o):oi (nP o):=λA e=>by
 cases o with
 |none=>cases e
 |some t=>
  cases t with
  |leaf=>cases e
  |un op i e' g a=>have e2:some a=some A:=e;cases e2;exact(h _ rfl).Am aF
  |bin op i e' g a b=>have e2:some a=some A:=e;cases e2;exact(h _ rfl).Am aF
theorem oi.b{o:Option Tr}(h:oi o):oi (Ha o):=λA e=>by
 cases o with
 |none=>cases e
 |some t=>
  cases t with
  |leaf=>cases e
  |un=>cases e
  |bin op i e' g a b=>
   have e2:(if op=5\/op=6\/op=7\/op=8\/op=13 then some b else none)=some A:=e;split at e2;cases e2;exact(h _ rfl).Am (cM _ aF);cases e2
theorem oi.of{t:Tr}(h:t.ok):oi (some t):=λA e=>by cases e;exact h
theorem vg{o:Option Tr}{n:Int}(h:rV o=n)(hn:n≠0):∃t,o=some t/\l9 t=n:=by
 cases o with
 |none=>exact absurd h.symm hn
 |some t=>exact⟨t,rfl,h⟩
theorem oi.kn{o:Option Tr}(h:oi o){op:Int}(e:rV o=op)(hop:op=9\/op=10):∃i G,o=some (.un op i 0 0 G)/\(0<=i/\i<4)/\G.ok:=by
 obtain⟨t,rfl,ht⟩:=vg e aH;obtain⟨i,G,rfl,hi⟩:=QW (h _ rfl) ht hop;exact⟨i,G,rfl,hi,(h _ rfl).Am aF⟩
theorem oi.bn{o:Option Tr}(h:oi o){op:Int}(e:rV o=op)(hop:op=5\/op=6\/op=7\/op=8):∃p q,o=some (.bin op 0 0 0 p q)/\p.ok/\q.ok:=by
 obtain⟨t,rfl,ht⟩:=vg e aH;obtain⟨p,q,rfl⟩:=NA (h _ rfl) ht hop;exact⟨p,q,rfl,(h _ rfl).Am aF,(h _ rfl).Am (cM _ aF)⟩
theorem oi.co{o:Option Tr}(h:oi o)(e:rV o=13):∃g p q,o=some (uM g p q)/\(1<=g/\g<16)/\p.ok/\q.ok:=by
 obtain⟨t,rfl,ht⟩:=vg e aH;obtain⟨g,p,q,rfl,hg⟩:=Nz (h _ rfl) ht;exact⟨g,p,q,rfl,hg,(h _ rfl).Am aF,(h _ rfl).Am (cM _ aF)⟩
theorem oi.ev{o:Option Tr}(h:oi o)(e:rV o=11):∃g p,o=some (Ay g p)/\(1<=g/\g<16)/\p.ok:=by
 obtain⟨t,rfl,ht⟩:=vg e aH;obtain⟨g,p,rfl,hg⟩:=QX (h _ rfl) ht;exact⟨g,p,rfl,hg,(h _ rfl).Am aF⟩
theorem jG{a b:Tr}(ha:a.ok)(hb:b.ok):(gv a b).ok:=⟨aI,rfl,aI,ha,hb⟩
theorem sX{a b:Tr}(ha:a.ok)(hb:b.ok):(uj a b).ok:=⟨aI,rfl,aI,ha,hb⟩
theorem DO{a b:Tr}(ha:a.ok)(hb:b.ok):(xH a b).ok:=⟨aI,rfl,aI,ha,hb⟩
theorem jF{a:Tr}(ha:a.ok):(fU a).ok:=⟨aI,rfl,rfl,aI,ha⟩
theorem Ca (hi:0<=i/\i<4):kG 9 i 0 0=0:=by
 obtain⟨k,rfl⟩:∃k:Nat,i=(k:Int):=⟨i.toNat,aH⟩;have:∀j:Fin 4,kG 9 ((j.val:Nat):Int) 0 0=0:=aI;exact this ⟨k,aH⟩
theorem LJ (hg:1<=g/\g<16):kG 11 0 0 g=0:=by
 obtain⟨k,rfl⟩:∃k:Nat,g=(k:Int):=⟨g.toNat,aH⟩;have:∀j:Fin 16,1<=j.val->kG 11 0 0 ((j.val:Nat):Int)=0:=aI;exact this ⟨k,aH⟩ (by show 1<=k;omega)
theorem gI {a:Tr}(hi:0<=i/\i<4)(ha:a.ok):(fN i a).ok:=⟨aI,rfl,rfl,Ca hi,ha⟩
theorem Hv {a:Tr}(hg:1<=g/\g<16)(ha:a.ok):(Ay g a).ok:=⟨aI,rfl,rfl,LJ hg,ha⟩
theorem K8{g:Nat}{x:Tr}(hk:k<=4)(hx:x.ok):∀u∈OL g k x,u.ok:=λu hu=>by
 obtain⟨j,hj,rfl⟩:=eL.1 hu;have:=PT hj;exact gI aH hx
theorem Pk:∀{ts:List Tr},(∀u∈ts,u.ok)->(p7 ts).ok
 |[],_=>⟨aI,rfl,aI⟩
 |t::ts,h=>by
  have key:∀(l:List Tr) (a:Tr),a.ok->(∀u∈l,u.ok)->(l.foldl (λa b=>.bin 5 0 0 0 a b) a).ok:=λl=>by
   induction l with
   |nil=>exact λa ha _=>ha
   |cons b l ih=>exact λa ha hl=>ih _ (sX ha (hl b aL)) (λu hu=>hl u (by simp[hu]))
  exact key ts t (h t aL) (λu hu=>h u (by simp[hu]))
theorem H3{g:Nat}{x:Tr}(hx:x.ok):(Eu g x).ok:=Pk (K8 (eR _) hx)
theorem J7{w0 w:aB}{S:aq}{h:Hl}{Y:List (Nat×Obj)}(s:St w0 S w h Y)(j:Nat){q:ah}{gs:List FV}{e:ax}{sp:ai}(hj:h[j]?=some (q,ob FV.v e gs sp))(hq:q=none->gs.length=0):AG w (q.map aP) gs:=by
 cases q with
 |none=>rw[aV (hq rfl)];exact Sl.nil _ _
 |some b=>exact Sl.jd (s.get hj)
theorem K9{t c:Tr}(h:Ha (some t)=some c):∃z,nP (some t)=some z:=by
 cases t with
 |leaf=>cases h
 |un=>cases h
 |bin op i e g a b=>exact⟨a,rfl⟩
def gJ(l r:Int):Bool:=if r=3 then decide (l=2\/l=4\/l=6)else if r=4 then decide (3<=l)else if r=5 then decide (5<=l)else if r=6 then decide (l=1\/l=5)else true
def sE(xs:ar):fi:=xs.foldl (λa x=>a|||(1#64<<<x.toNat)) 0#64
theorem IX{xs:ar}{x:Int}:sE (xs++[x])=sE xs|||(1#64<<<x.toNat):=by simp[sE]
theorem Uh{l r:Int}(hl:0<=l/\l<=6):gJ l r=(((if r=3 then sE [2,4,6]else if r=4 then sE [3,4,5,6]else if r=5 then sE [5,6]else if r=6 then sE [1,5]else BitVec.allOnes 64)>>>l.toNat) &&& 1#64==1#64):=by
 obtain⟨k,rfl⟩:∃k:Nat,l=(k:Int):=⟨l.toNat,aH⟩;have key:∀j:Fin 7,(decide (((j.val:Nat):Int)=2\/((j.val:Nat):Int)=4\/((j.val:Nat):Int)=6)=((sE [2,4,6]>>>((j.val:Nat):Int).toNat) &&& 1#64==1#64))/\(decide (3<=((j.val:Nat):Int))=((sE [3,4,5,6]>>>((j.val:Nat):Int).toNat) &&& 1#64==1#64))/\
   (decide (5<=((j.val:Nat):Int))=((sE [5,6]>>>((j.val:Nat):Int).toNat) &&& 1#64==1#64))/\(decide (((j.val:Nat):Int)=1\/((j.val:Nat):Int)=5)=((sE [1,5]>>>((j.val:Nat):Int).toNat) &&& 1#64==1#64))/\(true=((BitVec.allOnes 64>>>((j.val:Nat):Int).toNat) &&& 1#64==1#64)):=by decide+kernel
 obtain⟨k1,k2,k3,k4,k5⟩:=key ⟨k,aH⟩;unfold gJ;by_cases h3:r=3;rw[if_pos h3,if_pos h3];exact k1;rw[if_neg h3,if_neg h3];by_cases h4:r=4;rw[if_pos h4,if_pos h4];exact k2;rw[if_neg h4,if_neg h4];by_cases h5:r=5;rw[if_pos h5,if_pos h5];exact k3;rw[if_neg h5,if_neg h5];by_cases h6:r=6;rw[if_pos h6,if_pos h6];exact k4;rw[if_neg h6,if_neg h6];exact k5
def j7(f:List NV):Int:=if gp f≠0 then gp f else if mf (nJ (fw f)) 11≠0 then 10 else 0
def kI(r:Int):Int:=if r=10 then 2 else if r=11\/r=12 then 1 else 0
end
end Go.Proofs.Wit
