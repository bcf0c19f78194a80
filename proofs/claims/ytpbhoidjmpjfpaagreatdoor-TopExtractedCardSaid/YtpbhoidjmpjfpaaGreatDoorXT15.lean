/- Laws of walks, each under its own conditions. -/
import Derived.Test.YtpbhoidjmpjfpaaGreatDoorXT13
set_option maxRecDepth 100000
set_option maxHeartbeats 40000000
namespace Go.Proofs.Wit
structure Q5 (n:Nat) (P:ar) (s:eF):Prop where
  len:P.length=n
  ok:Qu P
  inv:QA n P s
section
variable{m:Int}{n:Nat}{val:List eF}{rel:List (List eF)}{t:Tr}
end
structure QB (c:List NV) (k:Nat) (gs:ar):Prop where
  has:∀(i:Nat) (hi:i<c.length),i<k->c[i].op=12->c[i].g∈gs
  of:∀g∈gs,∃n∈c,n.op=12/\n.g=g
  nd:gs.Nodup
theorem Iz{P:av}{t ty:ax}{a b c:Int}(h:c=min a b):Om P .min #[t,t] ty [aS a,aS b] (aS c):=by
 intro cs w;have e:(if b<a then b else a)=c:=by rw[h];split<;>omega
 simp[builtin,Builtin.min_,Builtin.min2,e]
end Go.Proofs.Wit
namespace Go.Proofs.Wit
open Go
def fst(q:Nat->Bool):Nat->ah
 |0=>none
 |k+1=>match fst q k with
  |some j=>some j
  |none=>if q k=true then some k else none
def Qi(n:Nat)(val:List eF)(rel:List (List eF))(v w k:Nat):Bool:=(Mz n val rel k).getD v 0 !=(Mz n val rel k).getD w 0
def dst(n:Nat)(val:List eF)(rel:List (List eF))(v w:Nat):ah:=fst (Qi n val rel v w) (dep n val rel+1)
section
variable{n:Nat}{val:List eF}{rel:List (List eF)}
end
section
variable{n:Nat}{val:List eF}{rel:List (List eF)}
def Qt(A B:Nat)(t:Tr):Prop:=kI (λop i g=>N1 A B op i g/\op<=10) t
structure NZ (n:Nat) (val:List eF) (rel:List (List eF)) (v w k:Nat) (t:Tr):Prop where
  ok:t.ok
  pl:Qt rel.length val.length t
  yes:(Ef n val rel t).getLsbD v=true
  no:(Ef n val rel t).getLsbD w=false
  dp:Io t<=k
end
def KC(U:List Tr):Prop:=∀t∈U,∀c∈kids t,c∈U
abbrev Mm:=List ((Int×Int)×FV)
section
variable{n:Nat}{val:List eF}{rel:List (List eF)}
def Fo(n:Nat)(val:List eF)(rel:List (List eF))(v w k:Nat)(f:List NV):Prop:=(f=[]/\5<n)\/∃t,NZ n val rel v w k t/\f=bT t/\f≠[]
structure Qk (U:List Tr) (L:Mm):Prop where
  kc:KC U
  top:Tr.leaf 1 0 0 0∈U
  Qd:∀e∈L,∀t,t.ok->e.2.f=bT t->e.2.f≠[]->t∈U
structure Pe (n:Nat) (val:List eF) (rel:List (List eF)) (L:Mm):Prop where
  nd:(L.map (·.1)).Nodup
  Qd:∀e∈L,∃v w k:Nat,e.1=((v:Int),(w:Int))/\v<n/\w<n/\dst n val rel v w=some k/\Fo n val rel v w k e.2.f
  QG:n<=5->∃U,Qk U L/\U.length<=6*L.length+1
end
end Go.Proofs.Wit
namespace Go.Proofs.Wit
abbrev Pa:=Int->Int->Int->Int->Tr->Tr->Tr
def ot:Pa:=λop i e g a b=>zj ⟨op,i,e,g,0,0⟩ a b
theorem D1{op:Int}(h:iX op=false):ij op=false:=by
 cases e:ij op with
 |false=>rfl
 |true=>exact absurd ((jz e).symm.trans h) aI
theorem Jp{t:Tr}:bT t≠[]↔(gv t).length<=200:=by rw[Ne,Bc];omega
def cT(o:Int):Tr:=.leaf o 0 0 0
def sX:Tr->Int->Bool
 |.leaf op _ _ _,o=>op==o
 |_,_=>false
def Ar:Tr->Option Tr
 |.un op _ _ _ a=>if op=4 then some a else none
 |_=>none
def eY(t:Tr):Tr:=.un 4 0 0 0 t
def HH(t:Tr):Tr:=(Ar t).getD (eY t)
def MH(a b:Tr):Bool:=Ar a==some b||Ar b==some a
def EU(op i e g:Int)(a b:Tr)(ne dm:Int):Tr:=
 if (sX a dm||sX b dm||(MH a b && !sX a ne && !sX b ne))=true then cT dm
 else if sX a ne=true then b else if (sX b ne||a==b)=true then a else ot op i e g a b
def Jm(a b:Tr):Tr:=
 if (sX a 2||sX b 1||a==b)=true then cT 1 else if sX a 1=true then b else if sX b 2=true then HH a else ot 7 0 0 0 a b
def OR(a b:Tr):Tr:=
 if (a==b)=true then cT 1 else if MH a b=true then cT 2 else if sX a 1=true then b else if sX b 1=true then a
 else if sX a 2=true then HH b else if sX b 2=true then HH a else ot 8 0 0 0 a b
def Ov:Pa:=λop i e g a b=>
 if op=4 then(if sX a 1=true then cT 2 else if sX a 2=true then cT 1 else HH a)
 else if op=5 then EU op i e g a b 1 2
 else if op=6 then EU op i e g a b 2 1
 else if op=7 then Jm a b
 else if op=8 then OR a b
 else if op=10 then(if sX a 2=true then cT 2 else ot op i e g a b)
 else if op=16 then(if (sX a 1 && !sX b 1)=true then b else if (sX a 2||sX b 1)=true then cT 1 else ot op i e g a b)
 else if op=13\/op=14 then(if (sX a 2||sX b 1)=true then cT 1 else ot op i e g a b)
 else if op=9\/op=11\/op=12\/op=15\/op=17 then(if sX a 1=true then cT 1 else ot op i e g a b)
 else ot op i e g a b
theorem Jn{o:Int}(h:o=1\/o=2):(cT o).ok:=by rcases h with rfl|rfl<;>exact⟨aI,rfl,rfl⟩
theorem AF{t:Tr}(h:t.ok):(eY t).ok:=⟨aI,rfl,rfl,rfl,h⟩
inductive yL (op i e g:Int) (a b:Tr):Tr->Prop
  |c1:yL op i e g a b (cT 1)
  |c2:yL op i e g a b (cT 2)
  |a (h:iX op=true):yL op i e g a b a
  |b (h:ij op=true):yL op i e g a b b
  |sa (h:iX op=true) (c:Tr) (h:Ar a=some c):yL op i e g a b c
  |sb (h:ij op=true) (c:Tr) (h:Ar b=some c):yL op i e g a b c
  |na (h:iX op=true) (h0:Ar a=none) (h1:sX a 1=false) (h2:sX a 2=false):yL op i e g a b (eY a)
  |nb (h:ij op=true) (h0:Ar b=none) (h1:sX b 1=false) (h2:sX b 2=false):yL op i e g a b (eY b)
  |mk (h:Ov op i e g a b=ot op i e g a b):yL op i e g a b (ot op i e g a b)
end Go.Proofs.Wit
namespace Go.Proofs.Wit
open Go Go.RowKit
structure IV where
  a:ae
  c:Nat
  xs:ar
def IV.v(x:IV):aC:=.slice x.a x.xs.length x.c
abbrev MR(m:MV)(mD:Nat)(pa:ae)(pl pc:Nat):af:=#[aS m.n,.slice m.va m.val.length m.vc,.slice m.ra m.rows.length m.rc,.map (some mD),.slice pa pl pc]
structure Qy (e:ax) (w:aB) (mD bk:Nat) (m:MV) (pa:ae) (pc:Nat) (ps:List IV):Prop where
  ie:w.heap[bk]?=some (.cells (MR m mD pa ps.length pc) e (0,0))
  mod:m.At w
  pre:Sl w pa (ps.map IV.v)
  row:∀p∈ps,mJ w p.a p.xs
def FV.In(t:ax)(H:Hl)(x:FV):Prop:=∃q sp,(q,jc t x.f sp)∈H/\x.a=q.map aP/\(q=none->x.f.length=0/\x.c=0)/\(x.f.flatMap NV.cells++sp).length=x.c*6
theorem FV.In.mono{t:ax}{H H':Hl}{x:FV}(h:x.In t H)(hs:H⊆H'):x.In t H':=by
 obtain⟨q,sp,h1,h2⟩:=h;exact⟨q,sp,hs h1,h2⟩
theorem FV.In.at{t:ax}{w0 w:aB}{S:aq}{h:Hl}{Y:List (Nat×Obj)}{x:FV}(g:x.In t h)(s:St w0 S w h Y):FA w x.a x.f:=by
 obtain⟨q,sp,h1,h2,h3,_⟩:=g;obtain⟨j,hj⟩:=List.mem_iff_getElem?.1 h1;rw[h2];exact fe s j hj (λe=>(h3 e).1)
theorem FV.In.own{t:ax}{w0 w:aB}{h:Hl}{Y:List (Nat×Obj)}{x:FV}(g:x.In t h)(s:St w0 [] w h Y):eV t w0 w x.v x.f:=by
 obtain⟨q,sp,h1,h2,h3,h4⟩:=g;refine⟨q,x.c,sp,?_,h3,h4,λb e=>?_⟩;cases q with
 |none=>rw[FV.v,h2];rfl
 |some b=>rw[FV.v,h2];rfl
 obtain⟨k1,_,k2⟩:=s.own _ h1 b e;exact⟨k2.resolve_right aL,k1⟩
theorem Gs{w w':aB}{S:aq}(e:Ex S w w'){b j:Nat}(hb:b∉S){cs:af}{t:ax}{fr:Nat×Nat}{v:aC}(h:w.heap[b]?=some (.cells cs t fr))(hv:cs[j]?=some v):w'.cell? ⟨b,j,none⟩=some v:=by
 have h1:=e.block b (aX.1 h).1 hb;rw[h]at h1;unfold World.cell?;simp only[h1];exact hv
section
variable{P:av}{t:ax}{x y:eF}
end
structure QC (t:ax) (n:Nat) (val:List eF) (rel:List (List eF)) (d:Nat) (L L':Mm) (F:Hl):Prop where
  oU:Pe n val rel L'
  sub:L⊆L'
  nw:∀e∈L',e∈L\/∃a b i:Nat,e.1=((a:Int),(b:Int))/\dst n val rel a b=some i/\i<d
  at_:∀e∈L',e∈L\/e.2.In t F
section
variable{t:ax}{n:Nat}{val:List eF}{rel:List (List eF)}
end
theorem St.jk{w0 w w':aB}{S:aq}{h:Hl}{Y:List (Nat×Obj)}(s:St w0 S w h Y)(e:Ex [] w w'){pre HR:Hl}(g:jR w w' (pre++HR)):St w0 S w' (pre++(h++HR)) Y:=by
 refine(s.kE e g).perm ?_;rw[c9];exact List.perm_append_comm.append_left pre
theorem iP{P:av}{r:ah}{f:ay}{R:aC->aB->Prop}{w0:aB}{S:aq}{Y:List (Nat×Obj)}{n:Nat}{k:al}{l:Fl}{h h':Hl}(hp:h.Perm h')(hg:eB P r f R w0 S Y n k l h'):eB P r f R w0 S Y n k l h:=λt w Ds hF hS=>hg t w Ds hF (hS.perm hp)
section
variable{e e' g g' i i' op:Int}{a b:Tr}
theorem zl  (hX:iX op=false):ot op i e g a b=.leaf op i e g:=lj (n:=⟨op,i,e,g,0,0⟩) hX
theorem EE  (hX:iX op=true)(hY:ij op=false):ot op i e g a b=.un op i e g a:=nY (n:=⟨op,i,e,g,0,0⟩) hX hY
theorem BQ  (hY:ij op=true):ot op i e g a b=.bin op i e g a b:=mj (n:=⟨op,i,e,g,0,0⟩) hY
theorem qi (h:1<=op/\op<=21):op=1\/op=2\/op=3\/op=4\/op=5\/op=6\/op=7\/op=8\/op=9\/op=10\/op=11\/op=12\/op=13\/op=14\/op=15\/op=16\/op=17\/op=18\/op=19\/op=20\/op=21:=aH
def Jz(w:aB)(u:Bool)(x:FV)(t:Tr):Prop:=u=true->FA w x.a x.f/\x.f=bT t/\t.ok
theorem Jz.len{w:aB}{u:Bool}{x:FV}{t:Tr}(h:Jz w u x t)(hu:u=true):x.f.length<=maxLen:=by
 rw[(h hu).2.1];have:=Jq t;unfold maxLen;omega
theorem FT  (hop:1<=op/\op<=21)(hX:iX op=false)(hf:jH op i e g=0)(hi:i'=i)(he:e'=e)(hg:g'=g):fB ⟨op,i',e',g',0,0⟩ []=bT (ot op i e g a b):=by
 subst hi he hg;rw[zl hX];exact Lh (n:=⟨op,_,_,_,0,0⟩) hop hX hf rfl rfl
theorem sR  {f:List NV}(hop:1<=op/\op<=21)(hX:iX op=true)(hY:ij op=false)(hf:jH op i e g=0)(hi:i'=i)(he:e'=e)(hg:g'=g)(h:f=bT a/\a.ok):fB ⟨op,i',e',g',0,0⟩ [f]=bT (ot op i e g a b):=by
 subst hi he hg;rw[EE hX hY,h.1];exact og h.2 hop hX hY hf
theorem sQ  {f k:List NV}(hop:1<=op/\op<=21)(hY:ij op=true)(hf:jH op i e g=0)(hi:i'=i)(he:e'=e)(hg:g'=g)(h:f=bT a/\a.ok)(h':k=bT b/\b.ok):fB ⟨op,i',e',g',0,0⟩ [f,k]=bT (ot op i e g a b):=by
 subst hi he hg;rw[BQ hY,h.1,h'.1];exact iZ h.2 h'.2 hop hY hf
abbrev FV.z:FV:=⟨none,0,[]⟩
def Qn(t:ax)(w w':aB)(v:aC)(a b:FV)(u:Tr):Prop:=∃fv:FV,v=fv.v/\fv.f=bT u/\(eV t w w' v fv.f\/fv=a\/fv=b)
structure Qo (P:av) (t:ax) (r:Pa) (gf:ay) (cs:ai) (w0:aB):Prop where
  enter:∀args w,(callFunc gf args).run P w=.ok (.enter gf args) w
  run:∀w,Ex [] w0 w->∀(n:NV) (a b:FV) (ta tb:Tr),(1<=n.op/\n.op<=21)->jH n.op n.i n.e n.g=0->Jz w (iX n.op) a ta->Jz w (ij n.op) b tb->(iX n.op=true->a.f≠[])->(ij n.op=true->b.f≠[])->Cn P gf ([n.v,a.v,b.v]++cs) w (λv w'=>Qn t w w' v a b (r n.op n.i n.e n.g ta tb))
def eH:Tr->Tr×Tr
 |.leaf op i e g=>(.leaf op i e g,if op=1 then cT 2 else if op=2 then cT 1 else eY (.leaf op i e g))
 |.un op i e g a=>
  if op=4 then((eH a).2,(eH a).1)
  else if op=9 then(.un op i e g (eH a).1,.un 10 i 0 0 (eH a).2)
  else if op=10 then(.un op i e g (eH a).1,.un 9 i 0 0 (eH a).2)
  else(.un op i e g (eH a).1,eY (.un op i e g (eH a).1))
 |.bin op i e g a b=>
  if op=5 then(.bin op i e g (eH a).1 (eH b).1,.bin 6 0 0 0 (eH a).2 (eH b).2)
  else if op=6 then(.bin op i e g (eH a).1 (eH b).1,.bin 5 0 0 0 (eH a).2 (eH b).2)
  else if op=7 then(.bin 6 0 0 0 (eH a).2 (eH b).1,.bin 5 0 0 0 (eH a).1 (eH b).2)
  else if op=8 then(.bin 5 0 0 0 (.bin 6 0 0 0 (eH a).2 (eH b).1) (.bin 6 0 0 0 (eH a).1 (eH b).2),.bin 6 0 0 0 (.bin 5 0 0 0 (eH a).1 (eH b).2) (.bin 5 0 0 0 (eH a).2 (eH b).1))
  else(.bin op i e g (eH a).1 (eH b).1,eY (.bin op i e g (eH a).1 (eH b).1))
theorem pb (ha:a.ok)(hb:b.ok):(Tr.bin 6 0 0 0 a b).ok:=⟨aH,rfl,rfl,ha,hb⟩
theorem tG  (ho:op=9\/op=10)(hi:0<=i/\i<4)(ha:a.ok):(Tr.un op i 0 0 a).ok:=Mh ho hi.1 hi.2 ha
theorem lK:∀{t:Tr},t.ok->(eH t).1.ok/\(eH t).2.ok
 |.leaf op i e g,h=>by
  rw[eH];refine⟨h,?_⟩;dsimp only;split;exact Jn (.inr rfl);split;exact Jn (.inl rfl);exact AF h
 |.un op i e g a,h=>by
  obtain⟨h1,h2⟩:=lK h.2.2.2.2;have hme:(Tr.un op i e g (eH a).1).ok:=⟨h.1,h.2.1,h.2.2.1,h.2.2.2.1,h1⟩;rw[eH];split;exact⟨h2,h1⟩;split;rename_i h9;subst h9;exact⟨hme,tG (.inr rfl) ((lO h.2.2.2.1).ag rfl) h2⟩;split;rename_i h9;subst h9;exact⟨hme,tG (.inl rfl) ((lO h.2.2.2.1).ag rfl) h2⟩;exact⟨hme,AF hme⟩
 |.bin op i e g a b,h=>by
  obtain⟨h1,h2⟩:=lK h.2.2.2.1;obtain⟨k1,k2⟩:=lK h.2.2.2.2;have hme:(Tr.bin op i e g (eH a).1 (eH b).1).ok:=⟨h.1,h.2.1,h.2.2.1,h1,k1⟩;rw[eH];split;exact⟨hme,pb h2 k2⟩;split;exact⟨hme,nu h2 k2⟩;split;exact⟨pb h2 k1,nu h1 k2⟩;split;exact⟨nu (pb h2 k1) (pb h1 k2),pb (nu h1 k2) (nu h2 k1)⟩;exact⟨hme,AF hme⟩
end
section
variable{f:List NV}{t:Tr}
theorem G1{u:Tr}(h:u∈gk (eY t)):u=eY t\/u∈gk t:=by
 unfold gk eY at h;rw[visit]at h;split at h;cases h;rcases dG.1 h with h|h;exact .inr h;exact .inl (cS.1 h)
theorem FP{s:Tr}(hs:s.ok)(ht:t.ok)(h:gv s=gv t):s=t:=by rw[<-mV hs.wf,h,mV ht.wf]
def kL:Tr->Int
 |.leaf op _ _ _=>op
 |.un op _ _ _ _=>op
 |.bin op _ _ _ _ _=>op
theorem Dr (h:t.ok):eA (gv t) ((gv t).length - 1)=t:=by rw[<-iF];exact mV h.wf
structure Cf (f:List NV) (t:Tr):Prop where
  eq:f=bT t
  ne:f≠[]
  ok:t.ok
theorem Cf.can  (h:Cf f t):f=gv t/\(gv t).length<=200:=by
 have h1:¬200<(gv t).length:=λhl=>h.ne (h.eq.trans (Bc.2 hl));exact⟨h.eq.trans (FX h1),aH⟩
theorem Cf.okF  (h:Cf f t):DO f:=by rw[h.can.1];exact we h.ok h.can.2
theorem Cf.oe  (h:Cf f t):fK f=0:=eO.2 h.okF
theorem Cf.top  (h:Cf f t):eP f=t:=by rw[h.can.1];exact mV h.ok.wf
theorem Cf.of (h:t.ok)(hl:(gv t).length<=200):Cf (gv t) t:=⟨(FX aH).symm,λe=>by have:=nm t;rw[e]at this;exact absurd this aL,h⟩
theorem mI (h:t.ok)(hl:bT t≠[]):Cf (bT t) t:=⟨rfl,hl,h⟩
theorem Cf.pos{f:List NV}{t:Tr}(h:Cf f t):0<f.length:=h.okF.pos
theorem Cf.le  (h:Cf f t):f.length<=200:=h.okF.len
theorem Cf.inj{g:List NV}{s:Tr}(h:Cf f s)(h':Cf g t):f=g↔s=t:=⟨λe=>by rw[<-h.top,e,h'.top],λe=>by rw[h.eq,e,<-h'.eq]⟩
end
def pv(p:Tr->Prop):Tr->Prop
 |.leaf op i e g=>p (.leaf op i e g)
 |.un op i e g a=>p (.un op i e g a)/\pv p a
 |.bin op i e g a b=>p (.bin op i e g a b)/\pv p a/\pv p b
theorem pv.self{p:Tr->Prop}:∀{t:Tr},pv p t->p t
 |.leaf ..,h=>h
 |.un ..,h=>h.1
 |.bin ..,h=>h.1
theorem pv.wE{p:Tr->Prop}:∀(t:Tr),pv p t->∀c∈kids t,pv p c
 |.leaf ..,_,c,hc=>by cases hc
 |.un ..,h,c,hc=>by rw[cS.1 hc];exact h.2
 |.bin ..,h,c,hc=>by
  simp only[kids,dS,dv,ep]at hc;rcases hc with rfl|rfl;exact h.2.1;exact h.2.2
theorem HS{op:Int}(h:1<=op/\op<=21)(hX:iX op=false):op=1\/op=2\/op=3:=by
 rcases qi h with rfl|rfl|rfl|rfl|rfl|rfl|rfl|rfl|rfl|rfl|rfl|rfl|rfl|rfl|rfl|rfl|rfl|rfl|rfl|rfl|rfl<;>first|(simp;done)|exact absurd hX aI
def Gi(t tl:ax)(w w':aB)(v:aC)(gs:List FV):Prop:=∃(q:ah) (cap:Nat) (sp:ai) (H:Hl),v=fL q gs.length cap/\(q=none->gs.length=0/\cap=0)/\(gs.map FV.v++sp).length=cap/\jR w w' ((q,ob FV.v tl gs sp)::H)/\∀g∈gs,g.In t H
theorem jR.nil{w w':aB}{o:Obj}:jR w w' [(none,o)]:=⟨λp hp b hb=>(by rw[cS.1 hp]at hb;cases hb),by simp⟩
theorem Gi.mk{t tl:ax}{w0 w:aB}{h:Hl}{Y:List (Nat×Obj)}(s:St w0 [] w h Y){q:ah}{gs:List FV}{sp:ai}{cap:Nat}{H:Hl}(hs:((q,ob FV.v tl gs sp)::H).Sublist h)(hq:q=none->gs.length=0/\cap=0)(eK:(gs.map FV.v++sp).length=cap)(hin:∀g∈gs,g.In t H):Gi t tl w0 w (fL q gs.length cap) gs:=
 ⟨q,cap,sp,H,rfl,hq,eK,(jR.of s).sub hs,hin⟩
theorem FV.In.sep{t:ax}{w0 w:aB}{S:aq}{h hF:Hl}{Y:List (Nat×Obj)}{x:FV}(g:x.In t hF)(s:St w0 S w (h++hF) Y):Gq (gV h) w x.a x.f:=by
 refine⟨((g.mono (bP h hF)).at s).at_,λb o e hm=>?_⟩;obtain⟨q,sp,h1,h2,_⟩:=g;rw[h2]at e;obtain⟨o1,ho⟩:=lL.1 hm;cases q with
 |none=>cases e
 |some c=>
  cases e;exact(cH.1 s.apart).2.2 _ ho _ h1 b rfl rfl
structure QF (t:ax) (H:Hl) (gs:List FV) (ts:List Tr):Prop where
  eq:gs.map FV.f=ts.map bT
  cf:∀u∈ts,u.ok/\bT u≠[]
  QO:∀g∈gs,g.In t H
def N6(f o:List NV)(e:Int):Prop:=(fK f≠0/\o=[]/\e=fK f)\/(fK f=0/\o=bT (eH (eP f)).1/\e=if o=[]then 8 else 0)
theorem ud(f:List NV):fC (eE f):=by
 by_cases h:fK f=0;exact(mx h).nodes;rw[eE,if_pos h];intro i hi;exact absurd hi (dK _)
def o9(f g:List NV):Bool:=decide (fK f=0/\fK g=0/\eE f=eE g)
theorem Hd{f g:List NV}{u:Tr}(h0:fK f=0)(hg:Cf g u):o9 f g=decide (eP f=u):=by
 unfold o9;rw[decide_eq_decide];have hT:=(eO.1 h0).top;have hcg:eE g=gv u:=by rw[jG hg.oe,hg.top]
 constructor;rintro ⟨_,_,h⟩;rw[jG h0,hcg]at h;exact FP hT hg.ok h;intro h;exact⟨h0,hg.oe,by rw[jG h0,hcg,h]⟩
theorem qt{f:List NV}{i:Nat}(hi:i<f.length)(hO:fC f):kL (eA f i)=f[i].op:=by
 rcases iK hi hO with⟨_,h⟩|⟨_,_,h⟩|⟨_,h⟩<;>rw[h]<;>rfl
def I5(A B:Nat)(op i g:Int):Bool:=decide (op<=13) && ((!uV op||decide (i.toNat<A)) && ((!(op==3)||decide (i.toNat<B)) && decide (g.toNat<2^A)))
def wU{α:Type}(L:Nat)(P:Nat->α)(d:α)(k:Nat):List α:=(List.range L).map (λj=>if j<k then P j else d)
section
variable{α:Type}{L:Nat}{P:Nat->α}{d:α}{k j:Nat}
theorem nK:(wU L P d k).length=L:=by simp[wU]
theorem xQ(hj:j<k)(hL:j<L){e:α}:(wU L P d k).getD j e=P j:=by simp[wU,hL,hj]
theorem Ek:wU L P d 0=List.replicate L d:=by
 apply dn (by simp[wU]);intro i h1 h2;simp[wU]
theorem xP(_hk:k<L):(wU L P d k).set k (P k)=wU L P d (k+1):=by
 apply dn (by simp[wU]);intro i h1 h2;rw[List.getElem_set];by_cases hi:k=i;subst hi;simp[wU];rw[if_neg hi];simp only[wU,List.getElem_map,List.getElem_range];by_cases h3:i<k;rw[if_pos h3,if_pos aH];rw[if_neg h3,if_neg aH]
end
theorem u6{op:Int}(h:1<=op/\op<=21):iX op=decide (4<=op):=by
 rcases qi h with rfl|rfl|rfl|rfl|rfl|rfl|rfl|rfl|rfl|rfl|rfl|rfl|rfl|rfl|rfl|rfl|rfl|rfl|rfl|rfl|rfl<;>rfl
section
variable{e g i op:Int}{f:List NV}
def Bf(f:List NV):Option Tr->Prop
 |none=>f=[]
 |some t=>Cf f t
theorem Bf.le{f:List NV}{o:Option Tr}(h:Bf f o):f.length<=200:=by
 cases o with
 |none=>rw[show f=[]from h];decide
 |some t=>exact Cf.le h
theorem Bf.max {o:Option Tr}(h:Bf f o):f.length<=maxLen:=by have:=h.le;unfold maxLen;omega
theorem Af{w w':aB}{o o':Obj}:jR w w' [(none,o),(none,o')]:=
 have h:∀p∈[((none:ah),o),(none,o')],∀b,p.1=some b->False:=λp hp b hb=>by
  simp only[dS,dv,ep]at hp;rcases hp with rfl|rfl<;>cases hb
 ⟨λp hp b hb=>(h p hp b hb).elim,List.pairwise_cons.2 ⟨λ_ _ _ hb=>(by cases hb),List.pairwise_cons.2 ⟨λ_ hp=>(by cases hp),List.Pairwise.nil⟩⟩⟩
theorem St.gi{w0 w:aB}{S:aq}{h:Hl}{Y:List (Nat×Obj)}(s:St w0 S w h Y){o:Obj}:St w0 S w ((Option.none,o)::h) Y:=
 ⟨s.ext,λp hp b hb=>by
  rcases dS.1 hp with rfl|hp;cases hb;exact s.own p hp b hb,List.pairwise_cons.2 ⟨λ_ _ _ hb=>(by cases hb),s.apart⟩,s.sys,s.CD⟩
def ph:Option Tr->Int
 |none=>0
 |some t=>kL t
def fI:Tr->Int
 |.leaf _ i _ _=>i
 |.un _ i _ _ _=>i
 |.bin _ i _ _ _ _=>i
def fG:Tr->Int
 |.leaf _ _ _ g=>g
 |.un _ _ _ g _=>g
 |.bin _ _ _ g _ _=>g
def Nb:Option Tr->Int
 |none=>0
 |some t=>fI t
def OH:Option Tr->Int
 |none=>0
 |some t=>fG t
def lZ:Option Tr->Option Tr
 |some (.un _ _ _ _ a)=>some a
 |some (.bin _ _ _ _ a _)=>some a
 |_=>none
def BX:Option Tr->Option Tr
 |some (.bin op _ _ _ _ b)=>if op=5\/op=6\/op=7\/op=8\/op=13 then some b else none
 |_=>none
abbrev fF(a b:Tr):Tr:=.bin 7 0 0 0 a b
abbrev rA(a b:Tr):Tr:=.bin 5 0 0 0 a b
abbrev vN(a b:Tr):Tr:=.bin 8 0 0 0 a b
abbrev eT(i:Int)(a:Tr):Tr:=.un 9 i 0 0 a
abbrev oq(i:Int)(a:Tr):Tr:=.un 10 i 0 0 a
abbrev xt(g:Int)(a:Tr):Tr:=.un 11 0 0 g a
abbrev sK(g:Int)(a b:Tr):Tr:=.bin 13 0 0 g a b
theorem Kc {a b:Tr}(h:(Tr.bin op i e g a b).ok)(hop:op=5\/op=6\/op=7\/op=8):i=0/\e=0/\g=0:=by
 have hF:=lO h.2.2.1;rcases hop with rfl|rfl|rfl|rfl<;>exact⟨hF.i0 rfl,hF.e0 aI,hF.g0 rfl⟩
theorem Kb {a b:Tr}(h:(Tr.bin 13 i e g a b).ok):i=0/\e=0/\1<=g/\g<16:=by
 have hF:=lO h.2.2.1;exact⟨hF.i0 rfl,hF.e0 aI,hF.gr rfl⟩
theorem qN {a:Tr}(h:(Tr.un op i e g a).ok)(hop:op=9\/op=10):(0<=i/\i<4)/\e=0/\g=0:=by
 have hF:=lO h.2.2.2.1;rcases hop with rfl|rfl<;>exact⟨hF.ag rfl,hF.e0 aI,hF.g0 rfl⟩
theorem MI {a:Tr}(h:(Tr.un 11 i e g a).ok):i=0/\e=0/\1<=g/\g<16:=by
 have hF:=lO h.2.2.2.1;exact⟨hF.i0 rfl,hF.e0 aI,hF.gr rfl⟩
theorem rE{t:Tr}(h:t.ok):(iX (kL t)=false/\kids t=[])\/(iX (kL t)=true/\ij (kL t)=false/\∃i e g a,t=.un (kL t) i e g a)\/(ij (kL t)=true/\∃i e g a b,t=.bin (kL t) i e g a b):=by
 cases t with
 |leaf op i e g=>exact .inl ⟨h.2.1,rfl⟩
 |un op i e g a=>exact .inr (.inl ⟨h.2.1,h.2.2.1,i,e,g,a,rfl⟩)
 |bin op i e g a b=>exact .inr (.inr ⟨h.2.1,i,e,g,a,b,rfl⟩)
theorem GS{t:Tr}(h:t.ok) (e:kL t=op)(hop:op=5\/op=6\/op=7\/op=8):∃a b,t=.bin op 0 0 0 a b:=by
 rcases rE h with⟨h1,_⟩|⟨_,h1,_⟩|⟨_,i,e',g,a,b,ht⟩;rw[e]at h1;rcases hop with rfl|rfl|rfl|rfl<;>exact absurd h1 aI
 rw[e]at h1;rcases hop with rfl|rfl|rfl|rfl<;>exact absurd h1 aI
 rw[e]at ht;rw[ht]at h;obtain⟨rfl,rfl,rfl⟩:=Kc h hop;exact⟨a,b,ht⟩
theorem GR{t:Tr}(h:t.ok)(e:kL t=13):∃g a b,t=sK g a b/\1<=g/\g<16:=by
 rcases rE h with⟨h1,_⟩|⟨_,h1,_⟩|⟨_,i,e',g,a,b,ht⟩;rw[e]at h1;exact absurd h1 aI;rw[e]at h1;exact absurd h1 aI;rw[e]at ht;rw[ht]at h;obtain⟨rfl,rfl,hg⟩:=Kb h;exact⟨g,a,b,ht,hg⟩
theorem JQ{t:Tr}(h:t.ok) (e:kL t=op)(hop:op=9\/op=10):∃i a,t=.un op i 0 0 a/\0<=i/\i<4:=by
 rcases rE h with⟨h1,_⟩|⟨_,_,i,e',g,a,ht⟩|⟨h1,_⟩;rw[e]at h1;rcases hop with rfl|rfl<;>exact absurd h1 aI
 rw[e]at ht;rw[ht]at h;obtain⟨hi,rfl,rfl⟩:=qN h hop;exact⟨i,a,ht,hi⟩;rw[e]at h1;rcases hop with rfl|rfl<;>exact absurd h1 aI
theorem JR{t:Tr}(h:t.ok)(e:kL t=11):∃g a,t=xt g a/\1<=g/\g<16:=by
 rcases rE h with⟨h1,_⟩|⟨_,_,i,e',g,a,ht⟩|⟨h1,_⟩;rw[e]at h1;exact absurd h1 aI;rw[e]at ht;rw[ht]at h;obtain⟨rfl,rfl,hg⟩:=MI h;exact⟨g,a,ht,hg⟩;rw[e]at h1;exact absurd h1 aI
def Fit(t:Tr):Prop:=(gv t).length<=200
theorem Fit.wE{t c:Tr}(h:Fit t)(hc:c∈kids t):Fit c:=dV (np hc) h
theorem Cf.Da {t:Tr}(h:Cf f t)(hl:f.length - 1<f.length)(h4:4<=kL t):Bf (kB f f[f.length - 1].x) (lZ (some t)):=by
 have ht:eA f (f.length - 1)=t:=by rw[<-iF];exact h.top
 have hn:=h.okF.nodes;have hO:=hn _ hl;have hc:=h.can;have key:∀c,c∈kids t->∀x:Int,eA f x.toNat=c->0<=x->x<f.length->Bf (kB f x) (some c):=λc hck x hx h0 hlt=>by
  have hcl:(gv c).length<=200:=dV (np hck) hc.2;rw[kB,if_neg (by rintro (e|e|e)<;>first|exact e h.oe|omega),hx];exact Cf.of (h.ok.wE hck) hcl
 rcases iK hl hn with⟨h1,h2⟩|⟨h1,h1',h2⟩|⟨h1,h2⟩;rw[ht]at h2;have e:f[f.length - 1].op=kL t:=by rw[h2];rfl
 rw[u6 hO.op,bQ]at h1;omega;rw[ht]at h2;have hx:=hO.x h1;rw[h2];exact key _ (by rw[h2];exact aF) _ rfl hx.1 aH;rw[ht]at h2;have hx:=hO.x (jz h1);rw[h2];exact key _ (by rw[h2];exact aF) _ rfl hx.1 aH
theorem Cf.AM {t:Tr}(h:Cf f t)(hl:f.length - 1<f.length)(h5:kL t=5\/kL t=6\/kL t=7\/kL t=8\/kL t=13):Bf (kB f f[f.length - 1].y) (BX (some t)):=by
 have ht:eA f (f.length - 1)=t:=by rw[<-iF];exact h.top
 have hn:=h.okF.nodes;have hO:=hn _ hl;have hc:=h.can;rcases iK hl hn with⟨h1,h2⟩|⟨h1,h1',h2⟩|⟨h1,h2⟩;rw[ht]at h2;have e:f[f.length - 1].op=kL t:=by rw[h2];rfl
 rw[e]at h1;rcases h5 with h5|h5|h5|h5|h5<;>rw[h5]at h1<;>exact absurd h1 aI
 rw[ht]at h2;have e:f[f.length - 1].op=kL t:=by rw[h2];rfl
 rw[e]at h1';rcases h5 with h5|h5|h5|h5|h5<;>rw[h5]at h1'<;>exact absurd h1' aI
 rw[ht]at h2;have e:f[f.length - 1].op=kL t:=by rw[h2];rfl
 have hy:=hO.y h1;have hck:eA f f[f.length - 1].y.toNat∈kids t:=by rw[h2];exact cy _ aF
 have hcl:(gv (eA f f[f.length - 1].y.toNat)).length<=200:=dV (np hck) hc.2;have hk:BX (some t)=some (eA f f[f.length - 1].y.toNat):=by
  rw[h2];exact if_pos (by rw[e];exact h5)
 rw[hk,kB,if_neg (by rintro (e|e|e)<;>first|exact e h.oe|omega)];exact Cf.of (h.ok.wE hck) hcl
theorem Cf.Ih {t:Tr}(h:Cf f t)(hl:f.length - 1<f.length):f[f.length - 1].op=kL t/\f[f.length - 1].i=fI t/\f[f.length - 1].g=fG t:=by
 have ht:eA f (f.length - 1)=t:=by rw[<-iF];exact h.top
 rcases iK hl h.okF.nodes with⟨h1,h2⟩|⟨h1,h1',h2⟩|⟨h1,h2⟩<;>rw[ht]at h2<;>rw[h2]<;>exact⟨rfl,rfl,rfl⟩
theorem ES{t:Tr}(h:¬(kL t=5\/kL t=6\/kL t=7\/kL t=8\/kL t=13)):BX (some t)=none:=by
 cases t with
 |leaf=>rfl
 |un=>rfl
 |bin op i e g a b=>exact if_neg h
theorem ET{t:Tr}(hok:t.ok)(h:¬4<=kL t):lZ (some t)=none:=by
 cases t with
 |leaf=>rfl
 |un op i e g a=>have h1:=hok.2.1;rw[u6 hok.1,dg]at h1;exact absurd h1 h
 |bin op i e g a b=>have h1:=jz hok.2.1;rw[u6 hok.1,dg]at h1;exact absurd h1 h
theorem EL (h:fK f=0):Fit (eP f):=by
 have h1:=tK h;rw[jG h]at h1;have:=(eO.1 h).len;show(gv (eP f)).length<=200;omega
def LM(t:Tr):Prop:=∃i x y,t=fF (eT i (fF x y)) (fF (eT i x) (eT i y))
def JB(t:Tr):Prop:=∃i x,t=fF (eT i x) x
def JE(t:Tr):Prop:=∃i x,t=fF (eT i x) (eT i (eT i x))
def LP(t:Tr):Prop:=∃i x,t=fF (eY (eT i x)) (eT i (eY (eT i x)))
def JD(t:Tr):Prop:=∃i x,t=fF (eT i x) (eY (eT i (eY x)))
def LK(t:Tr):Prop:=∃i x,t=vN (oq i x) (eY (eT i (eY x)))
def LO(t:Tr):Prop:=∃g x y,t=vN (sK g x y) (xt g (fF x (rA y (sK g x y))))
def JC(u t:Tr):Prop:=∃z g x y,t=fF z (sK g x y)/\u=fF z (xt g (fF x (rA y z)))
section
variable{t:Tr}
theorem Fit.r {a b:Tr}(h:Fit (.bin op i e g a b)):Fit b:=h.wE (cy _ aF)
theorem Fit.u {a:Tr}(h:Fit (.un op i e g a)):Fit a:=h.wE aF
end
end
section
variable{g i:Int}{k:Nat}
section
variable{t u:Tr}
theorem vm{f:List NV}{X:Tr}(h:fK f=0)(hX:X.ok):o9 f (bT X)=decide (eP f=X):=by
 by_cases hl:Fit X;exact Hd h (mI hX (Jp.2 hl));have e:bT X=[]:=Bc.2 (by unfold Fit at hl;omega);rw[e,show o9 f []=false from dN (λe=>absurd e.2.1 aI)];exact(dN (λe:eP f=X=>hl (e ▸ EL h))).symm
theorem jZ{f:List NV}{t X:Tr}(h:Cf f t)(hX:X.ok):o9 f (bT X)=decide (t=X):=by rw[vm h.oe hX,h.top]
theorem LM.iff {p q:Tr}(h:lZ (some t)=some (eT i (fF p q))):t=fF (eT i (fF p q)) (fF (eT i p) (eT i q))↔LM t:=
 ⟨λe=>⟨i,p,q,e⟩,λ⟨i',x,y,e⟩=>by
  subst e;have h':some (eT i' (fF x y))=some (eT i (fF p q)):=h;cases h';rfl⟩
theorem LM.gd(h:LM t):ph (lZ (some t))=9/\ph (lZ (lZ (some t)))=7:=by obtain⟨i,x,y,rfl⟩:=h;exact⟨rfl,rfl⟩
theorem JB.iff {x:Tr}(h:lZ (some t)=some (eT i x)):t=fF (eT i x) x↔JB t:=
 ⟨λe=>⟨i,x,e⟩,λ⟨i',y,e⟩=>by
  subst e;have h':some (eT i' y)=some (eT i x):=h;cases h';rfl⟩
theorem JB.gd(h:JB t):ph (lZ (some t))=9:=by obtain⟨i,x,rfl⟩:=h;rfl
theorem JE.iff {x:Tr}(h:lZ (some t)=some (eT i x)):t=fF (eT i x) (eT i (eT i x))↔JE t:=
 ⟨λe=>⟨i,x,e⟩,λ⟨i',y,e⟩=>by
  subst e;have h':some (eT i' y)=some (eT i x):=h;cases h';rfl⟩
theorem JE.gd(h:JE t):ph (lZ (some t))=9:=by obtain⟨i,x,rfl⟩:=h;rfl
theorem JD.iff {x:Tr}(h:lZ (some t)=some (eT i x)):t=fF (eT i x) (eY (eT i (eY x)))↔JD t:=
 ⟨λe=>⟨i,x,e⟩,λ⟨i',y,e⟩=>by
  subst e;have h':some (eT i' y)=some (eT i x):=h;cases h';rfl⟩
theorem JD.gd(h:JD t):ph (lZ (some t))=9:=by obtain⟨i,x,rfl⟩:=h;rfl
theorem LP.iff {x:Tr}(h:lZ (lZ (some t))=some (eT i x)):t=fF (eY (eT i x)) (eT i (eY (eT i x)))↔LP t:=
 ⟨λe=>⟨i,x,e⟩,λ⟨i',y,e⟩=>by
  subst e;have h':some (eT i' y)=some (eT i x):=h;cases h';rfl⟩
theorem LP.gd(h:LP t):ph (lZ (lZ (some t)))=9:=by obtain⟨i,x,rfl⟩:=h;rfl
theorem LK.iff {x:Tr}(h:lZ (some t)=some (oq i x)):t=vN (oq i x) (eY (eT i (eY x)))↔LK t:=
 ⟨λe=>⟨i,x,e⟩,λ⟨i',y,e⟩=>by
  subst e;have h':some (oq i' y)=some (oq i x):=h;cases h';rfl⟩
theorem LK.gd(h:LK t):ph (lZ (some t))=10:=by obtain⟨i,x,rfl⟩:=h;rfl
theorem LO.iff {x y:Tr}(h:lZ (some t)=some (sK g x y)):t=vN (sK g x y) (xt g (fF x (rA y (sK g x y))))↔LO t:=
 ⟨λe=>⟨g,x,y,e⟩,λ⟨g',x',y',e⟩=>by
  subst e;have h':some (sK g' x' y')=some (sK g x y):=h;cases h';rfl⟩
theorem LO.gd(h:LO t):ph (lZ (some t))=13:=by obtain⟨g,x,y,rfl⟩:=h;rfl
theorem JC.iff{z:Tr} {x y:Tr}(hz:lZ (some t)=some z)(h:BX (some t)=some (sK g x y)):(t=fF z (sK g x y)/\u=fF z (xt g (fF x (rA y z))))↔JC u t:=
 ⟨λe=>⟨z,g,x,y,e⟩,λ⟨z',g',x',y',e,e2⟩=>by
  subst e;subst e2;have h':some (sK g' x' y')=some (sK g x y):=h;have hz':some z'=some z:=hz;cases h';cases hz';exact⟨rfl,rfl⟩⟩
theorem JC.gd(h:JC u t):ph (BX (some t))=13:=by obtain⟨z,g,x,y,rfl,_⟩:=h;rfl
def wI(g k:Nat):aq:=(List.range k).filter (λi=>gb g i==1)
theorem Ge{g:Nat}(h:gb g k=1):wI g (k+1)=wI g k++[k]:=by simp[wI,dJ,List.filter_append,h]
theorem IQ{g:Nat}(h:gb g k≠1):wI g (k+1)=wI g k:=by simp[wI,dJ,List.filter_append,h]
theorem Gf{g k:Nat}:(wI g k).length<=k:=by have:=List.length_filter_le (λi=>gb g i==1) (List.range k);simpa[wI]using this
theorem IS{g i:Nat}(h:i∈wI g k):i<k:=by simpa using(dH.1 h).1
def I9(g k:Nat)(x:Tr):List Tr:=(wI g k).map (λ(j:Nat)=>eT (j:Int) x)
def Dx(g:Nat)(x:Tr):Tr:=pe (I9 g 4 x)
def LN(t:Tr):Prop:=∃(g:Int) (x:Tr),t=vN (xt g x) (Dx g.toNat x)
theorem LN.iff {x:Tr}(h:lZ (some t)=some (xt g x)):t=vN (xt g x) (Dx g.toNat x)↔LN t:=
 ⟨λe=>⟨g,x,e⟩,λ⟨g',y,e⟩=>by
  subst e;have h':some (xt g' y)=some (xt g x):=h;cases h';rfl⟩
theorem LN.gd(h:LN t):ph (lZ (some t))=11:=by obtain⟨g,x,rfl⟩:=h;rfl
end
def mg(o:Option Tr):Prop:=∀A,o=some A->A.ok
theorem mg.a{o:Option Tr}(h:mg o):mg (lZ o):=λA e=>by
 cases o with
 |none=>cases e
 |some t=>
  cases t with
  |leaf=>cases e
  |un op i e' g a=>have e2:some a=some A:=e;cases e2;exact(h _ rfl).wE aF
  |bin op i e' g a b=>have e2:some a=some A:=e;cases e2;exact(h _ rfl).wE aF
theorem mg.b{o:Option Tr}(h:mg o):mg (BX o):=λA e=>by
 cases o with
 |none=>cases e
 |some t=>
  cases t with
  |leaf=>cases e
  |un=>cases e
  |bin op i e' g a b=>
   have e2:(if op=5\/op=6\/op=7\/op=8\/op=13 then some b else none)=some A:=e;split at e2;cases e2;exact(h _ rfl).wE (cy _ aF);cases e2
theorem mg.of{t:Tr}(h:t.ok):mg (some t):=λA e=>by cases e;exact h
theorem rU{o:Option Tr}{n:Int}(h:ph o=n)(hn:n≠0):∃t,o=some t/\kL t=n:=by
 cases o with
 |none=>exact absurd h.symm hn
 |some t=>exact⟨t,rfl,h⟩
theorem mg.kn{o:Option Tr}(h:mg o){op:Int}(e:ph o=op)(hop:op=9\/op=10):∃i G,o=some (.un op i 0 0 G)/\(0<=i/\i<4)/\G.ok:=by
 obtain⟨t,rfl,ht⟩:=rU e aH;obtain⟨i,G,rfl,hi⟩:=JQ (h _ rfl) ht hop;exact⟨i,G,rfl,hi,(h _ rfl).wE aF⟩
theorem mg.bn{o:Option Tr}(h:mg o){op:Int}(e:ph o=op)(hop:op=5\/op=6\/op=7\/op=8):∃p q,o=some (.bin op 0 0 0 p q)/\p.ok/\q.ok:=by
 obtain⟨t,rfl,ht⟩:=rU e aH;obtain⟨p,q,rfl⟩:=GS (h _ rfl) ht hop;exact⟨p,q,rfl,(h _ rfl).wE aF,(h _ rfl).wE (cy _ aF)⟩
theorem mg.co{o:Option Tr}(h:mg o)(e:ph o=13):∃g p q,o=some (sK g p q)/\(1<=g/\g<16)/\p.ok/\q.ok:=by
 obtain⟨t,rfl,ht⟩:=rU e aH;obtain⟨g,p,q,rfl,hg⟩:=GR (h _ rfl) ht;exact⟨g,p,q,rfl,hg,(h _ rfl).wE aF,(h _ rfl).wE (cy _ aF)⟩
theorem mg.ev{o:Option Tr}(h:mg o)(e:ph o=11):∃g p,o=some (xt g p)/\(1<=g/\g<16)/\p.ok:=by
 obtain⟨t,rfl,ht⟩:=rU e aH;obtain⟨g,p,rfl,hg⟩:=JR (h _ rfl) ht;exact⟨g,p,rfl,hg,(h _ rfl).wE aF⟩
theorem iM{a b:Tr}(ha:a.ok)(hb:b.ok):(fF a b).ok:=⟨aI,rfl,aI,ha,hb⟩
theorem pV{a b:Tr}(ha:a.ok)(hb:b.ok):(rA a b).ok:=⟨aI,rfl,aI,ha,hb⟩
theorem zy{a b:Tr}(ha:a.ok)(hb:b.ok):(vN a b).ok:=⟨aI,rfl,aI,ha,hb⟩
theorem iW{a:Tr}(ha:a.ok):(eY a).ok:=⟨aI,rfl,rfl,aI,ha⟩
theorem ym (hi:0<=i/\i<4):jH 9 i 0 0=0:=by
 obtain⟨k,rfl⟩:∃k:Nat,i=(k:Int):=⟨i.toNat,aH⟩;have:∀j:Fin 4,jH 9 ((j.val:Nat):Int) 0 0=0:=aI;exact this ⟨k,aH⟩
theorem Fg (hg:1<=g/\g<16):jH 11 0 0 g=0:=by
 obtain⟨k,rfl⟩:∃k:Nat,g=(k:Int):=⟨g.toNat,aH⟩;have:∀j:Fin 16,1<=j.val->jH 11 0 0 ((j.val:Nat):Int)=0:=aI;exact this ⟨k,aH⟩ (by show 1<=k;omega)
theorem fP {a:Tr}(hi:0<=i/\i<4)(ha:a.ok):(eT i a).ok:=⟨aI,rfl,rfl,ym hi,ha⟩
theorem Ca {a:Tr}(hg:1<=g/\g<16)(ha:a.ok):(xt g a).ok:=⟨aI,rfl,rfl,Fg hg,ha⟩
theorem EP{g:Nat}{x:Tr}(hk:k<=4)(hx:x.ok):∀u∈I9 g k x,u.ok:=λu hu=>by
 obtain⟨j,hj,rfl⟩:=dU.1 hu;have:=IS hj;exact fP aH hx
theorem Is:∀{ts:List Tr},(∀u∈ts,u.ok)->(pe ts).ok
 |[],_=>⟨aI,rfl,aI⟩
 |t::ts,h=>by
  have key:∀(l:List Tr) (a:Tr),a.ok->(∀u∈l,u.ok)->(l.foldl (λa b=>.bin 5 0 0 0 a b) a).ok:=λl=>by
   induction l with
   |nil=>exact λa ha _=>ha
   |cons b l ih=>exact λa ha hl=>ih _ (pV ha (hl b aL)) (λu hu=>hl u (by simp[hu]))
  exact key ts t (h t aL) (λu hu=>h u (by simp[hu]))
theorem Cx{g:Nat}{x:Tr}(hx:x.ok):(Dx g x).ok:=Is (EP (dZ _) hx)
theorem Ec{w0 w:aB}{S:aq}{h:Hl}{Y:List (Nat×Obj)}(s:St w0 S w h Y)(j:Nat){q:ah}{gs:List FV}{e:ax}{sp:ai}(hj:h[j]?=some (q,ob FV.v e gs sp))(hq:q=none->gs.length=0):wL w (q.map aP) gs:=by
 cases q with
 |none=>rw[aV (hq rfl)];exact Sl.nil _ _
 |some b=>exact Sl.ie (s.get hj)
theorem ER{t c:Tr}(h:BX (some t)=some c):∃z,lZ (some t)=some z:=by
 cases t with
 |leaf=>cases h
 |un=>cases h
 |bin op i e g a b=>exact⟨a,rfl⟩
def gO(l r:Int):Bool:=if r=3 then decide (l=2\/l=4\/l=6)else if r=4 then decide (3<=l)else if r=5 then decide (5<=l)else if r=6 then decide (l=1\/l=5)else true
def pI(xs:ar):eF:=xs.foldl (λa x=>a|||(1#64<<<x.toNat)) 0#64
theorem C5{xs:ar}{x:Int}:pI (xs++[x])=pI xs|||(1#64<<<x.toNat):=by simp[pI]
theorem M8{l r:Int}(hl:0<=l/\l<=6):gO l r=(((if r=3 then pI [2,4,6]else if r=4 then pI [3,4,5,6]else if r=5 then pI [5,6]else if r=6 then pI [1,5]else BitVec.allOnes 64)>>>l.toNat) &&& 1#64==1#64):=by
 obtain⟨k,rfl⟩:∃k:Nat,l=(k:Int):=⟨l.toNat,aH⟩;have key:∀j:Fin 7,(decide (((j.val:Nat):Int)=2\/((j.val:Nat):Int)=4\/((j.val:Nat):Int)=6)=((pI [2,4,6]>>>((j.val:Nat):Int).toNat) &&& 1#64==1#64))/\(decide (3<=((j.val:Nat):Int))=((pI [3,4,5,6]>>>((j.val:Nat):Int).toNat) &&& 1#64==1#64))/\
   (decide (5<=((j.val:Nat):Int))=((pI [5,6]>>>((j.val:Nat):Int).toNat) &&& 1#64==1#64))/\(decide (((j.val:Nat):Int)=1\/((j.val:Nat):Int)=5)=((pI [1,5]>>>((j.val:Nat):Int).toNat) &&& 1#64==1#64))/\(true=((BitVec.allOnes 64>>>((j.val:Nat):Int).toNat) &&& 1#64==1#64)):=by decide+kernel
 obtain⟨k1,k2,k3,k4,k5⟩:=key ⟨k,aH⟩;unfold gO;by_cases h3:r=3;rw[if_pos h3,if_pos h3];exact k1;rw[if_neg h3,if_neg h3];by_cases h4:r=4;rw[if_pos h4,if_pos h4];exact k2;rw[if_neg h4,if_neg h4];by_cases h5:r=5;rw[if_pos h5,if_pos h5];exact k3;rw[if_neg h5,if_neg h5];by_cases h6:r=6;rw[if_pos h6,if_pos h6];exact k4;rw[if_neg h6,if_neg h6];exact k5
def kP(f:List NV):Int:=if fK f≠0 then fK f else if mz (nH (eE f)) 11≠0 then 10 else 0
def jI(r:Int):Int:=if r=10 then 2 else if r=11\/r=12 then 1 else 0
end
end Go.Proofs.Wit
