/- Laws of walks, each under its own conditions. -/
import Derived.Test.YtaamcaiglooemaaGreatDoorXP13
set_option maxRecDepth 100000
set_option maxHeartbeats 40000000
namespace Go.Proofs.Wit
structure RG (n:Nat) (P:ar) (s:fC):Prop where
  len:P.length=n
  ok:Q6 P
  inv:Rb n P s
section
variable{m:Int}{n:Nat}{val:List fC}{rel:List (List fC)}{t:Tr}
end
structure Re (c:List NV) (k:Nat) (gs:ar):Prop where
  has:∀(i:Nat) (hi:i<c.length),i<k->c[i].op=12->c[i].g∈gs
  of:∀g∈gs,∃n∈c,n.op=12/\n.g=g
  nd:gs.Nodup
end Go.Proofs.Wit
namespace Go.Proofs.Wit
open Go
def fst(q:Nat->Bool):Nat->ah
 |0=>none
 |k+1=>match fst q k with
  |some j=>some j
  |none=>if q k=true then some k else none
def QU(n:Nat)(val:List fC)(rel:List (List fC))(v w k:Nat):Bool:=(NM n val rel k).getD v 0 !=(NM n val rel k).getD w 0
def dst(n:Nat)(val:List fC)(rel:List (List fC))(v w:Nat):ah:=fst (QU n val rel v w) (dep n val rel+1)
section
variable{n:Nat}{val:List fC}{rel:List (List fC)}
end
section
variable{n:Nat}{val:List fC}{rel:List (List fC)}
def Q5(A B:Nat)(t:Tr):Prop:=pN (λop i g=>OK A B op i g/\op<=10) t
structure OI (n:Nat) (val:List fC) (rel:List (List fC)) (v w k:Nat) (t:Tr):Prop where
  ok:t.ok
  pl:Q5 rel.length val.length t
  yes:(E4 n val rel t).getLsbD v=true
  no:(E4 n val rel t).getLsbD w=false
  dp:Jx t<=k
end
def KC(U:List Tr):Prop:=∀t∈U,∀c∈kids t,c∈U
abbrev Mm:=List ((Int×Int)×FV)
section
variable{n:Nat}{val:List fC}{rel:List (List fC)}
def Fo(n:Nat)(val:List fC)(rel:List (List fC))(v w k:Nat)(f:List NV):Prop:=(f=[]/\5<n)\/∃t,OI n val rel v w k t/\f=bT t/\f≠[]
structure QW (U:List Tr) (L:Mm):Prop where
  kc:KC U
  top:Tr.leaf 1 0 0 0∈U
  QQ:∀e∈L,∀t,t.ok->e.2.f=bT t->e.2.f≠[]->t∈U
structure P1 (n:Nat) (val:List fC) (rel:List (List fC)) (L:Mm):Prop where
  nd:(L.map (·.1)).Nodup
  QQ:∀e∈L,∃v w k:Nat,e.1=((v:Int),(w:Int))/\v<n/\w<n/\dst n val rel v w=some k/\Fo n val rel v w k e.2.f
  Rh:n<=5->∃U,QW U L/\U.length<=6*L.length+1
end
end Go.Proofs.Wit
namespace Go.Proofs.Wit
abbrev PX:=Int->Int->Int->Int->Tr->Tr->Tr
def pg:PX:=λop i e g a b=>Ae ⟨op,i,e,g,0,0⟩ a b
theorem rk{op:Int}(h:jd op=false):iH op=false:=by
 cases e:iH op with
 |false=>rfl
 |true=>exact absurd ((jQ e).symm.trans h) aI
theorem KA{t:Tr}:bT t≠[]↔(iD t).length<=200:=by rw[Ne,B6];omega
def cT(o:Int):Tr:=.leaf o 0 0 0
def uC:Tr->Int->Bool
 |.leaf op _ _ _,o=>op==o
 |_,_=>false
def Bd:Tr->Option Tr
 |.un op _ _ _ a=>if op=4 then some a else none
 |_=>none
def fH(t:Tr):Tr:=.un 4 0 0 0 t
def IZ(t:Tr):Tr:=(Bd t).getD (fH t)
def NR(a b:Tr):Bool:=Bd a==some b||Bd b==some a
def Gf(op i e g:Int)(a b:Tr)(ne dm:Int):Tr:=
 if (uC a dm||uC b dm||(NR a b && !uC a ne && !uC b ne))=true then cT dm
 else if uC a ne=true then b else if (uC b ne||a==b)=true then a else pg op i e g a b
def Kx(a b:Tr):Tr:=
 if (uC a 2||uC b 1||a==b)=true then cT 1 else if uC a 1=true then b else if uC b 2=true then IZ a else pg 7 0 0 0 a b
def PA(a b:Tr):Tr:=
 if (a==b)=true then cT 1 else if NR a b=true then cT 2 else if uC a 1=true then b else if uC b 1=true then a
 else if uC a 2=true then IZ b else if uC b 2=true then IZ a else pg 8 0 0 0 a b
def O8:PX:=λop i e g a b=>
 if op=4 then(if uC a 1=true then cT 2 else if uC a 2=true then cT 1 else IZ a)
 else if op=5 then Gf op i e g a b 1 2
 else if op=6 then Gf op i e g a b 2 1
 else if op=7 then Kx a b
 else if op=8 then PA a b
 else if op=10 then(if uC a 2=true then cT 2 else pg op i e g a b)
 else if op=16 then(if (uC a 1 && !uC b 1)=true then b else if (uC a 2||uC b 1)=true then cT 1 else pg op i e g a b)
 else if op=13\/op=14 then(if (uC a 2||uC b 1)=true then cT 1 else pg op i e g a b)
 else if op=9\/op=11\/op=12\/op=15\/op=17 then(if uC a 1=true then cT 1 else pg op i e g a b)
 else pg op i e g a b
theorem Ky{o:Int}(h:o=1\/o=2):(cT o).ok:=by rcases h with rfl|rfl<;>exact⟨aI,rfl,rfl⟩
theorem Bz{t:Tr}(h:t.ok):(fH t).ok:=⟨aI,rfl,rfl,rfl,h⟩
inductive zu (op i e g:Int) (a b:Tr):Tr->Prop
  |c1:zu op i e g a b (cT 1)
  |c2:zu op i e g a b (cT 2)
  |a (h:jd op=true):zu op i e g a b a
  |b (h:iH op=true):zu op i e g a b b
  |sa (h:jd op=true) (c:Tr) (h:Bd a=some c):zu op i e g a b c
  |sb (h:iH op=true) (c:Tr) (h:Bd b=some c):zu op i e g a b c
  |na (h:jd op=true) (h0:Bd a=none) (h1:uC a 1=false) (h2:uC a 2=false):zu op i e g a b (fH a)
  |nb (h:iH op=true) (h0:Bd b=none) (h1:uC b 1=false) (h2:uC b 2=false):zu op i e g a b (fH b)
  |mk (h:O8 op i e g a b=pg op i e g a b):zu op i e g a b (pg op i e g a b)
end Go.Proofs.Wit
namespace Go.Proofs.Wit
open Go Go.RowKit
structure IV where
  a:ae
  c:Nat
  xs:ar
def IV.v(x:IV):aC:=.slice x.a x.xs.length x.c
abbrev N2(m:MV)(mD:Nat)(pa:ae)(pl pc:Nat):af:=#[aS m.n,.slice m.va m.val.length m.vc,.slice m.ra m.rows.length m.rc,.map (some mD),.slice pa pl pc]
structure Q9 (e:ax) (w:aB) (mD bk:Nat) (m:MV) (pa:ae) (pc:Nat) (ps:List IV):Prop where
  jh:w.heap[bk]?=some (.cells (N2 m mD pa ps.length pc) e (0,0))
  mod:m.At w
  pre:Sl w pa (ps.map IV.v)
  row:∀p∈ps,oe w p.a p.xs
def FV.In(t:ax)(H:Hl)(x:FV):Prop:=∃q sp,(q,iC t x.f sp)∈H/\x.a=q.map aP/\(q=none->x.f.length=0/\x.c=0)/\(x.f.flatMap NV.cells++sp).length=x.c*6
theorem FV.In.mono{t:ax}{H H':Hl}{x:FV}(h:x.In t H)(hs:H⊆H'):x.In t H':=by
 obtain⟨q,sp,h1,h2⟩:=h;exact⟨q,sp,hs h1,h2⟩
theorem FV.In.at{t:ax}{w0 w:aB}{S:aq}{h:Hl}{Y:List (Nat×Obj)}{x:FV}(g:x.In t h)(s:St w0 S w h Y):FA w x.a x.f:=by
 obtain⟨q,sp,h1,h2,h3,_⟩:=g;obtain⟨j,hj⟩:=List.mem_iff_getElem?.1 h1;rw[h2];exact fL s j hj (λe=>(h3 e).1)
theorem FV.In.own{t:ax}{w0 w:aB}{h:Hl}{Y:List (Nat×Obj)}{x:FV}(g:x.In t h)(s:St w0 [] w h Y):fi t w0 w x.v x.f:=by
 obtain⟨q,sp,h1,h2,h3,h4⟩:=g;refine⟨q,x.c,sp,?_,h3,h4,λb e=>?_⟩;cases q with
 |none=>rw[FV.v,h2];rfl
 |some b=>rw[FV.v,h2];rfl
 obtain⟨k1,_,k2⟩:=s.own _ h1 b e;exact⟨k2.resolve_right aL,k1⟩
theorem rQ{w w':aB}{S:aq}(e:Ex S w w'){b j:Nat}(hb:b∉S){cs:af}{t:ax}{fr:Nat×Nat}{v:aC}(h:w.heap[b]?=some (.cells cs t fr))(hv:cs[j]?=some v):w'.cell? ⟨b,j,none⟩=some v:=by
 have h1:=e.block b (aW.1 h).1 hb;rw[h]at h1;unfold World.cell?;simp only[h1];exact hv
section
variable{P:av}{t:ax}{x y:fC}
end
structure Rf (t:ax) (n:Nat) (val:List fC) (rel:List (List fC)) (d:Nat) (L L':Mm) (F:Hl):Prop where
  lA:P1 n val rel L'
  sub:L⊆L'
  nw:∀e∈L',e∈L\/∃a b i:Nat,e.1=((a:Int),(b:Int))/\dst n val rel a b=some i/\i<d
  at_:∀e∈L',e∈L\/e.2.In t F
section
variable{t:ax}{n:Nat}{val:List fC}{rel:List (List fC)}
end
theorem St.kq{w0 w w':aB}{S:aq}{h:Hl}{Y:List (Nat×Obj)}(s:St w0 S w h Y)(e:Ex [] w w'){pre HR:Hl}(g:lq w w' (pre++HR)):St w0 S w' (pre++(h++HR)) Y:=by
 refine(s.kL e g).perm ?_;rw[dk];exact List.perm_append_comm.append_left pre
theorem eQ.mW{P:av}{r:ah}{f:ay}{R:aC->aB->Prop}{w0:aB}{S:aq}{Y:List (Nat×Obj)}{n:Nat}{k:al}{l:Fl}{h h':Hl}(hp:h.Perm h')(hg:eQ P r f R w0 S Y n k l h'):eQ P r f R w0 S Y n k l h:=λt w Ds hF hS=>hg t w Ds hF (hS.perm hp)
section
variable{e e' g g' i i' op:Int}{a b:Tr}
theorem tR  (hX:jd op=false):pg op i e g a b=.leaf op i e g:=mi (n:=⟨op,i,e,g,0,0⟩) hX
theorem yX  (hX:jd op=true)(hY:iH op=false):pg op i e g a b=.un op i e g a:=pH (n:=⟨op,i,e,g,0,0⟩) hX hY
theorem vQ  (hY:iH op=true):pg op i e g a b=.bin op i e g a b:=nP (n:=⟨op,i,e,g,0,0⟩) hY
theorem uE (h:1<=op/\op<=21):op=1\/op=2\/op=3\/op=4\/op=5\/op=6\/op=7\/op=8\/op=9\/op=10\/op=11\/op=12\/op=13\/op=14\/op=15\/op=16\/op=17\/op=18\/op=19\/op=20\/op=21:=aH
def HM(w:aB)(u:Bool)(x:FV)(t:Tr):Prop:=u=true->FA w x.a x.f/\x.f=bT t/\t.ok
theorem HM.len{w:aB}{u:Bool}{x:FV}{t:Tr}(h:HM w u x t)(hu:u=true):x.f.length<=maxLen:=by
 rw[(h hu).2.1];have:=AW t;unfold maxLen;omega
theorem G6  (hop:1<=op/\op<=21)(hX:jd op=false)(hf:kN op i e g=0)(hi:i'=i)(he:e'=e)(hg:g'=g):gv ⟨op,i',e',g',0,0⟩ []=bT (pg op i e g a b):=by
 subst hi he hg;rw[tR hX];exact MI (n:=⟨op,_,_,_,0,0⟩) hop hX hf rfl rfl
theorem uq  {f:List NV}(hop:1<=op/\op<=21)(hX:jd op=true)(hY:iH op=false)(hf:kN op i e g=0)(hi:i'=i)(he:e'=e)(hg:g'=g)(h:f=bT a/\a.ok):gv ⟨op,i',e',g',0,0⟩ [f]=bT (pg op i e g a b):=by
 subst hi he hg;rw[yX hX hY,h.1];exact pb h.2 hop hX hY hf
theorem uo  {f k:List NV}(hop:1<=op/\op<=21)(hY:iH op=true)(hf:kN op i e g=0)(hi:i'=i)(he:e'=e)(hg:g'=g)(h:f=bT a/\a.ok)(h':k=bT b/\b.ok):gv ⟨op,i',e',g',0,0⟩ [f,k]=bT (pg op i e g a b):=by
 subst hi he hg;rw[vQ hY,h.1,h'.1];exact jI h.2 h'.2 hop hY hf
abbrev FV.z:FV:=⟨none,0,[]⟩
def QZ(t:ax)(w w':aB)(v:aC)(a b:FV)(u:Tr):Prop:=∃fv:FV,v=fv.v/\fv.f=bT u/\(fi t w w' v fv.f\/fv=a\/fv=b)
structure Q0 (P:av) (t:ax) (r:PX) (gf:ay) (cs:ai) (w0:aB):Prop where
  enter:∀args w,(callFunc gf args).run P w=.ok (.enter gf args) w
  run:∀w,Ex [] w0 w->∀(n:NV) (a b:FV) (ta tb:Tr),(1<=n.op/\n.op<=21)->kN n.op n.i n.e n.g=0->HM w (jd n.op) a ta->HM w (iH n.op) b tb->(jd n.op=true->a.f≠[])->(iH n.op=true->b.f≠[])->Cn P gf ([n.v,a.v,b.v]++cs) w (λv w'=>QZ t w w' v a b (r n.op n.i n.e n.g ta tb))
def fB:Tr->Tr×Tr
 |.leaf op i e g=>(.leaf op i e g,if op=1 then cT 2 else if op=2 then cT 1 else fH (.leaf op i e g))
 |.un op i e g a=>
  if op=4 then((fB a).2,(fB a).1)
  else if op=9 then(.un op i e g (fB a).1,.un 10 i 0 0 (fB a).2)
  else if op=10 then(.un op i e g (fB a).1,.un 9 i 0 0 (fB a).2)
  else(.un op i e g (fB a).1,fH (.un op i e g (fB a).1))
 |.bin op i e g a b=>
  if op=5 then(.bin op i e g (fB a).1 (fB b).1,.bin 6 0 0 0 (fB a).2 (fB b).2)
  else if op=6 then(.bin op i e g (fB a).1 (fB b).1,.bin 5 0 0 0 (fB a).2 (fB b).2)
  else if op=7 then(.bin 6 0 0 0 (fB a).2 (fB b).1,.bin 5 0 0 0 (fB a).1 (fB b).2)
  else if op=8 then(.bin 5 0 0 0 (.bin 6 0 0 0 (fB a).2 (fB b).1) (.bin 6 0 0 0 (fB a).1 (fB b).2),.bin 6 0 0 0 (.bin 5 0 0 0 (fB a).1 (fB b).2) (.bin 5 0 0 0 (fB a).2 (fB b).1))
  else(.bin op i e g (fB a).1 (fB b).1,fH (.bin op i e g (fB a).1 (fB b).1))
theorem mJ (ha:a.ok)(hb:b.ok):(Tr.bin 6 0 0 0 a b).ok:=⟨aH,rfl,rfl,ha,hb⟩
theorem mZ  (ho:op=9\/op=10)(hi:0<=i/\i<4)(ha:a.ok):(Tr.un op i 0 0 a).ok:=Np ho hi.1 hi.2 ha
theorem oT:∀{t:Tr},t.ok->(fB t).1.ok/\(fB t).2.ok
 |.leaf op i e g,h=>by
  rw[fB];refine⟨h,?_⟩;dsimp only;split;exact Ky (.inr rfl);split;exact Ky (.inl rfl);exact Bz h
 |.un op i e g a,h=>by
  obtain⟨h1,h2⟩:=oT h.2.2.2.2;have hme:(Tr.un op i e g (fB a).1).ok:=⟨h.1,h.2.1,h.2.2.1,h.2.2.2.1,h1⟩;rw[fB];split;exact⟨h2,h1⟩;split;rename_i h9;subst h9;exact⟨hme,mZ (.inr rfl) ((kM h.2.2.2.1).ag rfl) h2⟩;split;rename_i h9;subst h9;exact⟨hme,mZ (.inl rfl) ((kM h.2.2.2.1).ag rfl) h2⟩;exact⟨hme,Bz hme⟩
 |.bin op i e g a b,h=>by
  obtain⟨h1,h2⟩:=oT h.2.2.2.1;obtain⟨k1,k2⟩:=oT h.2.2.2.2;have hme:(Tr.bin op i e g (fB a).1 (fB b).1).ok:=⟨h.1,h.2.1,h.2.2.1,h1,k1⟩;rw[fB];split;exact⟨hme,mJ h2 k2⟩;split;exact⟨hme,mc h2 k2⟩;split;exact⟨mJ h2 k1,mc h1 k2⟩;split;exact⟨mc (mJ h2 k1) (mJ h1 k2),mJ (mc h1 k2) (mc h2 k1)⟩;exact⟨hme,Bz hme⟩
end
section
variable{f:List NV}{t:Tr}
theorem G2{s:Tr}(hs:s.ok)(ht:t.ok)(h:iD s=iD t):s=t:=by rw[<-nu hs.wf,h,nu ht.wf]
def lE:Tr->Int
 |.leaf op _ _ _=>op
 |.un op _ _ _ _=>op
 |.bin op _ _ _ _ _=>op
theorem yq (h:t.ok):eP (iD t) ((iD t).length - 1)=t:=by rw[<-jt];exact nu h.wf
theorem zb{gs:List FV}{k:Nat}(h:k<gs.length):gs.getD k FV.z=gs[k]:=by simp[aX,h]
structure Cf (f:List NV) (t:Tr):Prop where
  eq:f=bT t
  ne:f≠[]
  ok:t.ok
theorem Cf.can  (h:Cf f t):f=iD t/\(iD t).length<=200:=by
 have h1:¬200<(iD t).length:=λhl=>h.ne (h.eq.trans (B6.2 hl));exact⟨h.eq.trans (AV h1),aH⟩
theorem Cf.okF  (h:Cf f t):EE f:=by rw[h.can.1];exact xh h.ok h.can.2
theorem Cf.nG  (h:Cf f t):fX f=0:=fA.2 h.okF
theorem Cf.top  (h:Cf f t):gA f=t:=by rw[h.can.1];exact nu h.ok.wf
theorem Cf.of (h:t.ok)(hl:(iD t).length<=200):Cf (iD t) t:=⟨(AV aH).symm,λe=>by have:=o7 t;rw[e]at this;exact absurd this aL,h⟩
theorem pR (h:t.ok)(hl:bT t≠[]):Cf (bT t) t:=⟨rfl,hl,h⟩
theorem Cf.pos{f:List NV}{t:Tr}(h:Cf f t):0<f.length:=h.okF.pos
theorem Cf.le  (h:Cf f t):f.length<=200:=h.okF.len
theorem Cf.inj{g:List NV}{s:Tr}(h:Cf f s)(h':Cf g t):f=g↔s=t:=⟨λe=>by rw[<-h.top,e,h'.top],λe=>by rw[h.eq,e,<-h'.eq]⟩
end
section
variable{H:Hl}{w:aB}{t:ax}
def J3(t tl:ax)(w w':aB)(v:aC)(gs:List FV):Prop:=∃(q:ah) (cap:Nat) (sp:ai) (H:Hl),v=fZ q gs.length cap/\(q=none->gs.length=0/\cap=0)/\(gs.map FV.v++sp).length=cap/\lq w w' ((q,ob FV.v tl gs sp)::H)/\∀g∈gs,g.In t H
theorem lq.nil{w':aB}{o:Obj}:lq w w' [(none,o)]:=⟨λp hp b hb=>(by rw[de.1 hp]at hb;cases hb),by simp⟩
theorem J3.mk{tl:ax}{w0:aB}{h:Hl}{Y:List (Nat×Obj)}(s:St w0 [] w h Y){q:ah}{gs:List FV}{sp:ai}{cap:Nat} (hs:((q,ob FV.v tl gs sp)::H).Sublist h)(hq:q=none->gs.length=0/\cap=0)(eV:(gs.map FV.v++sp).length=cap)(hin:∀g∈gs,g.In t H):J3 t tl w0 w (fZ q gs.length cap) gs:=
 ⟨q,cap,sp,H,rfl,hq,eV,(lq.of s).sub hs,hin⟩
theorem FV.In.sep {w0:aB}{S:aq}{h hF:Hl}{Y:List (Nat×Obj)}{x:FV}(g:x.In t hF)(s:St w0 S w (h++hF) Y):Ce (ir h) w x.a x.f:=by
 refine⟨((g.mono (bL h hF)).at s).at_,λb o e hm=>?_⟩;obtain⟨q,sp,h1,h2,_⟩:=g;rw[h2]at e;obtain⟨o1,ho⟩:=mj.1 hm;cases q with
 |none=>cases e
 |some c=>
  cases e;exact(cK.1 s.apart).2.2 _ ho _ h1 b rfl rfl
structure rS (t:ax) (H:Hl) (gs:List FV) (ts:List Tr):Prop where
  eq:gs.map FV.f=ts.map bT
  cf:∀u∈ts,u.ok/\bT u≠[]
  Oa:∀g∈gs,g.In t H
theorem rS.nil  :rS t H [] []:=⟨rfl,λ_ h=>(by cases h),λ_ h=>(by cases h)⟩
theorem rS.mono{t:ax}{H H':Hl}{gs:List FV}{ts:List Tr}(h:rS t H gs ts)(hs:H⊆H'):rS t H' gs ts:=⟨h.eq,h.cf,λg hg=>(h.Oa g hg).mono hs⟩
theorem rS.len  {gs:List FV}{ts:List Tr}(h:rS t H gs ts):gs.length=ts.length:=by have:=eK List.length h.eq;simpa using this
theorem rS.at{t:ax}{H:Hl}{gs:List FV}{ts:List Tr}(h:rS t H gs ts){k:Nat}(hk:k<gs.length):Cf gs[k].f (ts[k]'(by have:=h.len;omega)):=by
 have hk2:k<ts.length:=by have:=h.len;omega
 have h1:gs[k].f=bT ts[k]:=by
  have:=eK (λl=>l[k]?) h.eq;simp only[dn,bG hk,bG hk2,dW,dt]at this;exact this
 have h2:=h.cf _ (dB hk2);exact⟨h1,by rw[h1];exact h2.2,h2.1⟩
theorem rS.mem  {gs:List FV}{ts:List Tr}(h:rS t H gs ts){g:FV}(hg:g∈gs):∃u∈ts,Cf g.f u:=by
 obtain⟨k,hk,rfl⟩:=cG.1 hg;exact⟨_,dB _,h.at hk⟩
def M0(f o:List NV)(e:Int):Prop:=(fX f≠0/\o=[]/\e=fX f)\/(fX f=0/\o=bT (fB (gA f)).1/\e=if o=[]then 8 else 0)
theorem rC(f:List NV):fT (eT f):=by
 by_cases h:fX f=0;exact(mo h).nodes;rw[eT,if_pos h];intro i hi;exact absurd hi (dV _)
end
def nU(f g:List NV):Bool:=decide (fX f=0/\fX g=0/\eT f=eT g)
theorem Io{f g:List NV}{u:Tr}(h0:fX f=0)(hg:Cf g u):nU f g=decide (gA f=u):=by
 unfold nU;rw[decide_eq_decide];have hT:=(fA.1 h0).top;have hcg:eT g=iD u:=by rw[jN hg.nG,hg.top]
 constructor;rintro ⟨_,_,h⟩;rw[jN h0,hcg]at h;exact G2 hT hg.ok h;intro h;exact⟨h0,hg.nG,by rw[jN h0,hcg,h]⟩
theorem Cf.QG{f:List NV}{t:Tr}(h:Cf f t):bT t≠[]:=by rw[<-h.eq];exact h.ne
theorem rS.snoc{t:ax}{H:Hl}{gs:List FV}{ts:List Tr}(h:rS t H gs ts){x:FV}{u:Tr}(hx:Cf x.f u)(hi:x.In t H):rS t H (gs++[x]) (ts++[u]):=by
 refine⟨by rw[dO,dO,h.eq,List.map_singleton,List.map_singleton,hx.eq],λv hv=>?_,λg hg=>?_⟩;rcases dP.1 hv with hv|hv;exact h.cf v hv;rw[de.1 hv];exact⟨hx.ok,hx.QG⟩;rcases dP.1 hg with hg|hg;exact h.Oa g hg;rw[de.1 hg];exact hi
theorem oM{f:List NV}{i:Nat}(hi:i<f.length)(hO:fT f):lE (eP f i)=f[i].op:=by
 rcases iB hi hO with⟨_,h⟩|⟨_,_,h⟩|⟨_,h⟩<;>rw[h]<;>rfl
def EU(A B:Nat)(op i g:Int):Bool:=decide (op<=13) && ((!sJ op||decide (i.toNat<A)) && ((!(op==3)||decide (i.toNat<B)) && decide (g.toNat<2^A)))
def xQ{α:Type}(L:Nat)(P:Nat->α)(d:α)(k:Nat):List α:=(List.range L).map (λj=>if j<k then P j else d)
section
variable{α:Type}{L:Nat}{P:Nat->α}{d:α}{k j:Nat}
theorem pr:(xQ L P d k).length=L:=by simp[xQ]
theorem yP(hj:j<k)(hL:j<L){e:α}:(xQ L P d k).getD j e=P j:=by simp[xQ,aX,hL,hj]
theorem Fs:xQ L P d 0=List.replicate L d:=by
 apply dA (by simp[xQ]);intro i h1 h2;simp[xQ]
theorem yO(_hk:k<L):(xQ L P d k).set k (P k)=xQ L P d (k+1):=by
 apply dA (by simp[xQ]);intro i h1 h2;rw[List.getElem_set];by_cases hi:k=i;subst hi;simp[xQ];rw[if_neg hi];simp only[xQ,List.getElem_map,List.getElem_range];by_cases h3:i<k;rw[if_pos h3,if_pos aH];rw[if_neg h3,if_neg aH]
end
theorem wc{op:Int}(h:1<=op/\op<=21):jd op=decide (4<=op):=by
 rcases uE h with rfl|rfl|rfl|rfl|rfl|rfl|rfl|rfl|rfl|rfl|rfl|rfl|rfl|rfl|rfl|rfl|rfl|rfl|rfl|rfl|rfl<;>rfl
section
variable{e g i op:Int}{f:List NV}
def Bf(f:List NV):Option Tr->Prop
 |none=>f=[]
 |some t=>Cf f t
theorem Bf.le{f:List NV}{o:Option Tr}(h:Bf f o):f.length<=200:=by
 cases o with
 |none=>rw[show f=[]from h];decide
 |some t=>exact Cf.le h
theorem Bf.max {o:Option Tr}(h:Bf f o):f.length<=maxLen:=by have:=h.le;unfold maxLen;omega
theorem A4{w w':aB}{o o':Obj}:lq w w' [(none,o),(none,o')]:=
 have h:∀p∈[((none:ah),o),(none,o')],∀b,p.1=some b->False:=λp hp b hb=>by
  simp only[ew,dE,eM]at hp;rcases hp with rfl|rfl<;>cases hb
 ⟨λp hp b hb=>(h p hp b hb).elim,List.pairwise_cons.2 ⟨λ_ _ _ hb=>(by cases hb),List.pairwise_cons.2 ⟨λ_ hp=>(by cases hp),List.Pairwise.nil⟩⟩⟩
theorem St.fR{w0 w:aB}{S:aq}{h:Hl}{Y:List (Nat×Obj)}(s:St w0 S w h Y){o:Obj}:St w0 S w ((Option.none,o)::h) Y:=
 ⟨s.ext,λp hp b hb=>by
  rcases ew.1 hp with rfl|hp;cases hb;exact s.own p hp b hb,List.pairwise_cons.2 ⟨λ_ _ _ hb=>(by cases hb),s.apart⟩,s.sys,s.DD⟩
def qY:Option Tr->Int
 |none=>0
 |some t=>lE t
def fI:Tr->Int
 |.leaf _ i _ _=>i
 |.un _ i _ _ _=>i
 |.bin _ i _ _ _ _=>i
def fG:Tr->Int
 |.leaf _ _ _ g=>g
 |.un _ _ _ g _=>g
 |.bin _ _ _ g _ _=>g
def Oh:Option Tr->Int
 |none=>0
 |some t=>fI t
def Pv:Option Tr->Int
 |none=>0
 |some t=>fG t
def nk:Option Tr->Option Tr
 |some (.un _ _ _ _ a)=>some a
 |some (.bin _ _ _ _ a _)=>some a
 |_=>none
def BM:Option Tr->Option Tr
 |some (.bin op _ _ _ _ b)=>if op=5\/op=6\/op=7\/op=8\/op=13 then some b else none
 |_=>none
abbrev fO(a b:Tr):Tr:=.bin 7 0 0 0 a b
abbrev oI(a b:Tr):Tr:=.bin 5 0 0 0 a b
abbrev sZ(a b:Tr):Tr:=.bin 8 0 0 0 a b
abbrev fe(i:Int)(a:Tr):Tr:=.un 9 i 0 0 a
abbrev l8(i:Int)(a:Tr):Tr:=.un 10 i 0 0 a
abbrev yn(g:Int)(a:Tr):Tr:=.un 11 0 0 g a
abbrev uh(g:Int)(a b:Tr):Tr:=.bin 13 0 0 g a b
theorem Lw {a b:Tr}(h:(Tr.bin op i e g a b).ok)(hop:op=5\/op=6\/op=7\/op=8):i=0/\e=0/\g=0:=by
 have hF:=kM h.2.2.1;rcases hop with rfl|rfl|rfl|rfl<;>exact⟨hF.i0 rfl,hF.e0 aI,hF.g0 rfl⟩
theorem Lu {a b:Tr}(h:(Tr.bin 13 i e g a b).ok):i=0/\e=0/\1<=g/\g<16:=by
 have hF:=kM h.2.2.1;exact⟨hF.i0 rfl,hF.e0 aI,hF.gr rfl⟩
theorem qW {a:Tr}(h:(Tr.un op i e g a).ok)(hop:op=9\/op=10):(0<=i/\i<4)/\e=0/\g=0:=by
 have hF:=kM h.2.2.2.1;rcases hop with rfl|rfl<;>exact⟨hF.ag rfl,hF.e0 aI,hF.g0 rfl⟩
theorem NS {a:Tr}(h:(Tr.un 11 i e g a).ok):i=0/\e=0/\1<=g/\g<16:=by
 have hF:=kM h.2.2.2.1;exact⟨hF.i0 rfl,hF.e0 aI,hF.gr rfl⟩
theorem tF{t:Tr}(h:t.ok):(jd (lE t)=false/\kids t=[])\/(jd (lE t)=true/\iH (lE t)=false/\∃i e g a,t=.un (lE t) i e g a)\/(iH (lE t)=true/\∃i e g a b,t=.bin (lE t) i e g a b):=by
 cases t with
 |leaf op i e g=>exact .inl ⟨h.2.1,rfl⟩
 |un op i e g a=>exact .inr (.inl ⟨h.2.1,h.2.2.1,i,e,g,a,rfl⟩)
 |bin op i e g a b=>exact .inr (.inr ⟨h.2.1,i,e,g,a,b,rfl⟩)
theorem Ic{t:Tr}(h:t.ok) (e:lE t=op)(hop:op=5\/op=6\/op=7\/op=8):∃a b,t=.bin op 0 0 0 a b:=by
 rcases tF h with⟨h1,_⟩|⟨_,h1,_⟩|⟨_,i,e',g,a,b,ht⟩;rw[e]at h1;rcases hop with rfl|rfl|rfl|rfl<;>exact absurd h1 aI
 rw[e]at h1;rcases hop with rfl|rfl|rfl|rfl<;>exact absurd h1 aI
 rw[e]at ht;rw[ht]at h;obtain⟨rfl,rfl,rfl⟩:=Lw h hop;exact⟨a,b,ht⟩
theorem Ib{t:Tr}(h:t.ok)(e:lE t=13):∃g a b,t=uh g a b/\1<=g/\g<16:=by
 rcases tF h with⟨h1,_⟩|⟨_,h1,_⟩|⟨_,i,e',g,a,b,ht⟩;rw[e]at h1;exact absurd h1 aI;rw[e]at h1;exact absurd h1 aI;rw[e]at ht;rw[ht]at h;obtain⟨rfl,rfl,hg⟩:=Lu h;exact⟨g,a,b,ht,hg⟩
theorem KY{t:Tr}(h:t.ok) (e:lE t=op)(hop:op=9\/op=10):∃i a,t=.un op i 0 0 a/\0<=i/\i<4:=by
 rcases tF h with⟨h1,_⟩|⟨_,_,i,e',g,a,ht⟩|⟨h1,_⟩;rw[e]at h1;rcases hop with rfl|rfl<;>exact absurd h1 aI
 rw[e]at ht;rw[ht]at h;obtain⟨hi,rfl,rfl⟩:=qW h hop;exact⟨i,a,ht,hi⟩;rw[e]at h1;rcases hop with rfl|rfl<;>exact absurd h1 aI
theorem KZ{t:Tr}(h:t.ok)(e:lE t=11):∃g a,t=yn g a/\1<=g/\g<16:=by
 rcases tF h with⟨h1,_⟩|⟨_,_,i,e',g,a,ht⟩|⟨h1,_⟩;rw[e]at h1;exact absurd h1 aI;rw[e]at ht;rw[ht]at h;obtain⟨rfl,rfl,hg⟩:=NS h;exact⟨g,a,ht,hg⟩;rw[e]at h1;exact absurd h1 aI
def Fit(t:Tr):Prop:=(iD t).length<=200
theorem Fit.Au{t c:Tr}(h:Fit t)(hc:c∈kids t):Fit c:=eB (o8 hc) h
theorem Cf.As {t:Tr}(h:Cf f t)(hl:f.length - 1<f.length)(h4:4<=lE t):Bf (iz f f[f.length - 1].x) (nk (some t)):=by
 have ht:eP f (f.length - 1)=t:=by rw[<-jt];exact h.top
 have hn:=h.okF.nodes;have hO:=hn _ hl;have hc:=h.can;have key:∀c,c∈kids t->∀x:Int,eP f x.toNat=c->0<=x->x<f.length->Bf (iz f x) (some c):=λc hck x hx h0 hlt=>by
  have hcl:(iD c).length<=200:=eB (o8 hck) hc.2;rw[iz,if_neg (by rintro (e|e|e)<;>first|exact e h.nG|omega),hx];exact Cf.of (h.ok.Au hck) hcl
 rcases iB hl hn with⟨h1,h2⟩|⟨h1,h1',h2⟩|⟨h1,h2⟩;rw[ht]at h2;have e:f[f.length - 1].op=lE t:=by rw[h2];rfl
 rw[wc hO.op,bP]at h1;omega;rw[ht]at h2;have hx:=hO.x h1;rw[h2];exact key _ (by rw[h2];exact aF) _ rfl hx.1 aH;rw[ht]at h2;have hx:=hO.x (jQ h1);rw[h2];exact key _ (by rw[h2];exact aF) _ rfl hx.1 aH
theorem Cf.Ar {t:Tr}(h:Cf f t)(hl:f.length - 1<f.length)(h5:lE t=5\/lE t=6\/lE t=7\/lE t=8\/lE t=13):Bf (iz f f[f.length - 1].y) (BM (some t)):=by
 have ht:eP f (f.length - 1)=t:=by rw[<-jt];exact h.top
 have hn:=h.okF.nodes;have hO:=hn _ hl;have hc:=h.can;rcases iB hl hn with⟨h1,h2⟩|⟨h1,h1',h2⟩|⟨h1,h2⟩;rw[ht]at h2;have e:f[f.length - 1].op=lE t:=by rw[h2];rfl
 rw[e]at h1;rcases h5 with h5|h5|h5|h5|h5<;>rw[h5]at h1<;>exact absurd h1 aI
 rw[ht]at h2;have e:f[f.length - 1].op=lE t:=by rw[h2];rfl
 rw[e]at h1';rcases h5 with h5|h5|h5|h5|h5<;>rw[h5]at h1'<;>exact absurd h1' aI
 rw[ht]at h2;have e:f[f.length - 1].op=lE t:=by rw[h2];rfl
 have hy:=hO.y h1;have hck:eP f f[f.length - 1].y.toNat∈kids t:=by rw[h2];exact cF _ aF
 have hcl:(iD (eP f f[f.length - 1].y.toNat)).length<=200:=eB (o8 hck) hc.2;have hk:BM (some t)=some (eP f f[f.length - 1].y.toNat):=by
  rw[h2];exact if_pos (by rw[e];exact h5)
 rw[hk,iz,if_neg (by rintro (e|e|e)<;>first|exact e h.nG|omega)];exact Cf.of (h.ok.Au hck) hcl
theorem Cf.Eg {t:Tr}(h:Cf f t)(hl:f.length - 1<f.length):f[f.length - 1].op=lE t/\f[f.length - 1].i=fI t/\f[f.length - 1].g=fG t:=by
 have ht:eP f (f.length - 1)=t:=by rw[<-jt];exact h.top
 rcases iB hl h.okF.nodes with⟨h1,h2⟩|⟨h1,h1',h2⟩|⟨h1,h2⟩<;>rw[ht]at h2<;>rw[h2]<;>exact⟨rfl,rfl,rfl⟩
theorem Gd{t:Tr}(h:¬(lE t=5\/lE t=6\/lE t=7\/lE t=8\/lE t=13)):BM (some t)=none:=by
 cases t with
 |leaf=>rfl
 |un=>rfl
 |bin op i e g a b=>exact if_neg h
theorem Ge{t:Tr}(hok:t.ok)(h:¬4<=lE t):nk (some t)=none:=by
 cases t with
 |leaf=>rfl
 |un op i e g a=>have h1:=hok.2.1;rw[wc hok.1,du]at h1;exact absurd h1 h
 |bin op i e g a b=>have h1:=jQ hok.2.1;rw[wc hok.1,du]at h1;exact absurd h1 h
theorem Ga (h:fX f=0):Fit (gA f):=by
 have h1:=uX h;rw[jN h]at h1;have:=(fA.1 h).len;show(iD (gA f)).length<=200;omega
def M7(t:Tr):Prop:=∃i x y,t=fO (fe i (fO x y)) (fO (fe i x) (fe i y))
def KI(t:Tr):Prop:=∃i x,t=fO (fe i x) x
def KL(t:Tr):Prop:=∃i x,t=fO (fe i x) (fe i (fe i x))
def Na(t:Tr):Prop:=∃i x,t=fO (fH (fe i x)) (fe i (fH (fe i x)))
def KK(t:Tr):Prop:=∃i x,t=fO (fe i x) (fH (fe i (fH x)))
def M6(t:Tr):Prop:=∃i x,t=sZ (l8 i x) (fH (fe i (fH x)))
def M9(t:Tr):Prop:=∃g x y,t=sZ (uh g x y) (yn g (fO x (oI y (uh g x y))))
def KJ(u t:Tr):Prop:=∃z g x y,t=fO z (uh g x y)/\u=fO z (yn g (fO x (oI y z)))
section
variable{t:Tr}
theorem Fit.r {a b:Tr}(h:Fit (.bin op i e g a b)):Fit b:=h.Au (cF _ aF)
theorem Fit.u {a:Tr}(h:Fit (.un op i e g a)):Fit a:=h.Au aF
end
end
section
variable{g i:Int}{k:Nat}
section
variable{t u:Tr}
theorem wq{f:List NV}{X:Tr}(h:fX f=0)(hX:X.ok):nU f (bT X)=decide (gA f=X):=by
 by_cases hl:Fit X;exact Io h (pR hX (KA.2 hl));have e:bT X=[]:=B6.2 (by unfold Fit at hl;omega);rw[e,show nU f []=false from dY (λe=>absurd e.2.1 aI)];exact(dY (λe:gA f=X=>hl (e ▸ Ga h))).symm
theorem jS{f:List NV}{t X:Tr}(h:Cf f t)(hX:X.ok):nU f (bT X)=decide (t=X):=by rw[wq h.nG hX,h.top]
theorem M7.iff {p q:Tr}(h:nk (some t)=some (fe i (fO p q))):t=fO (fe i (fO p q)) (fO (fe i p) (fe i q))↔M7 t:=
 ⟨λe=>⟨i,p,q,e⟩,λ⟨i',x,y,e⟩=>by
  subst e;have h':some (fe i' (fO x y))=some (fe i (fO p q)):=h;cases h';rfl⟩
theorem M7.gd(h:M7 t):qY (nk (some t))=9/\qY (nk (nk (some t)))=7:=by obtain⟨i,x,y,rfl⟩:=h;exact⟨rfl,rfl⟩
theorem KI.iff {x:Tr}(h:nk (some t)=some (fe i x)):t=fO (fe i x) x↔KI t:=
 ⟨λe=>⟨i,x,e⟩,λ⟨i',y,e⟩=>by
  subst e;have h':some (fe i' y)=some (fe i x):=h;cases h';rfl⟩
theorem KI.gd(h:KI t):qY (nk (some t))=9:=by obtain⟨i,x,rfl⟩:=h;rfl
theorem KL.iff {x:Tr}(h:nk (some t)=some (fe i x)):t=fO (fe i x) (fe i (fe i x))↔KL t:=
 ⟨λe=>⟨i,x,e⟩,λ⟨i',y,e⟩=>by
  subst e;have h':some (fe i' y)=some (fe i x):=h;cases h';rfl⟩
theorem KL.gd(h:KL t):qY (nk (some t))=9:=by obtain⟨i,x,rfl⟩:=h;rfl
theorem KK.iff {x:Tr}(h:nk (some t)=some (fe i x)):t=fO (fe i x) (fH (fe i (fH x)))↔KK t:=
 ⟨λe=>⟨i,x,e⟩,λ⟨i',y,e⟩=>by
  subst e;have h':some (fe i' y)=some (fe i x):=h;cases h';rfl⟩
theorem KK.gd(h:KK t):qY (nk (some t))=9:=by obtain⟨i,x,rfl⟩:=h;rfl
theorem Na.iff {x:Tr}(h:nk (nk (some t))=some (fe i x)):t=fO (fH (fe i x)) (fe i (fH (fe i x)))↔Na t:=
 ⟨λe=>⟨i,x,e⟩,λ⟨i',y,e⟩=>by
  subst e;have h':some (fe i' y)=some (fe i x):=h;cases h';rfl⟩
theorem Na.gd(h:Na t):qY (nk (nk (some t)))=9:=by obtain⟨i,x,rfl⟩:=h;rfl
theorem M6.iff {x:Tr}(h:nk (some t)=some (l8 i x)):t=sZ (l8 i x) (fH (fe i (fH x)))↔M6 t:=
 ⟨λe=>⟨i,x,e⟩,λ⟨i',y,e⟩=>by
  subst e;have h':some (l8 i' y)=some (l8 i x):=h;cases h';rfl⟩
theorem M6.gd(h:M6 t):qY (nk (some t))=10:=by obtain⟨i,x,rfl⟩:=h;rfl
theorem M9.iff {x y:Tr}(h:nk (some t)=some (uh g x y)):t=sZ (uh g x y) (yn g (fO x (oI y (uh g x y))))↔M9 t:=
 ⟨λe=>⟨g,x,y,e⟩,λ⟨g',x',y',e⟩=>by
  subst e;have h':some (uh g' x' y')=some (uh g x y):=h;cases h';rfl⟩
theorem M9.gd(h:M9 t):qY (nk (some t))=13:=by obtain⟨g,x,y,rfl⟩:=h;rfl
theorem KJ.iff{z:Tr} {x y:Tr}(hz:nk (some t)=some z)(h:BM (some t)=some (uh g x y)):(t=fO z (uh g x y)/\u=fO z (yn g (fO x (oI y z))))↔KJ u t:=
 ⟨λe=>⟨z,g,x,y,e⟩,λ⟨z',g',x',y',e,e2⟩=>by
  subst e;subst e2;have h':some (uh g' x' y')=some (uh g x y):=h;have hz':some z'=some z:=hz;cases h';cases hz';exact⟨rfl,rfl⟩⟩
theorem KJ.gd(h:KJ u t):qY (BM (some t))=13:=by obtain⟨z,g,x,y,rfl,_⟩:=h;rfl
def xC(g k:Nat):aq:=(List.range k).filter (λi=>gb g i==1)
theorem Hq{g:Nat}(h:gb g k=1):xC g (k+1)=xC g k++[k]:=by simp[xC,dT,List.filter_append,h]
theorem JX{g:Nat}(h:gb g k≠1):xC g (k+1)=xC g k:=by simp[xC,dT,List.filter_append,h]
theorem Hr{g k:Nat}:(xC g k).length<=k:=by have:=List.length_filter_le (λi=>gb g i==1) (List.range k);simpa[xC]using this
theorem JY{g i:Nat}(h:i∈xC g k):i<k:=by simpa using(dQ.1 h).1
def Kq(g k:Nat)(x:Tr):List Tr:=(xC g k).map (λ(j:Nat)=>fe (j:Int) x)
def Es(g:Nat)(x:Tr):Tr:=nZ (Kq g 4 x)
def M8(t:Tr):Prop:=∃(g:Int) (x:Tr),t=sZ (yn g x) (Es g.toNat x)
theorem M8.iff {x:Tr}(h:nk (some t)=some (yn g x)):t=sZ (yn g x) (Es g.toNat x)↔M8 t:=
 ⟨λe=>⟨g,x,e⟩,λ⟨g',y,e⟩=>by
  subst e;have h':some (yn g' y)=some (yn g x):=h;cases h';rfl⟩
theorem M8.gd(h:M8 t):qY (nk (some t))=11:=by obtain⟨g,x,rfl⟩:=h;rfl
end
def nI(o:Option Tr):Prop:=∀A,o=some A->A.ok
theorem nI.a{o:Option Tr}(h:nI o):nI (nk o):=λA e=>by
 cases o with
 |none=>cases e
 |some t=>
  cases t with
  |leaf=>cases e
  |un op i e' g a=>have e2:some a=some A:=e;cases e2;exact(h _ rfl).Au aF
  |bin op i e' g a b=>have e2:some a=some A:=e;cases e2;exact(h _ rfl).Au aF
theorem nI.b{o:Option Tr}(h:nI o):nI (BM o):=λA e=>by
 cases o with
 |none=>cases e
 |some t=>
  cases t with
  |leaf=>cases e
  |un=>cases e
  |bin op i e' g a b=>
   have e2:(if op=5\/op=6\/op=7\/op=8\/op=13 then some b else none)=some A:=e;split at e2;cases e2;exact(h _ rfl).Au (cF _ aF);cases e2
theorem nI.of{t:Tr}(h:t.ok):nI (some t):=λA e=>by cases e;exact h
theorem tM{o:Option Tr}{n:Int}(h:qY o=n)(hn:n≠0):∃t,o=some t/\lE t=n:=by
 cases o with
 |none=>exact absurd h.symm hn
 |some t=>exact⟨t,rfl,h⟩
theorem nI.kn{o:Option Tr}(h:nI o){op:Int}(e:qY o=op)(hop:op=9\/op=10):∃i G,o=some (.un op i 0 0 G)/\(0<=i/\i<4)/\G.ok:=by
 obtain⟨t,rfl,ht⟩:=tM e aH;obtain⟨i,G,rfl,hi⟩:=KY (h _ rfl) ht hop;exact⟨i,G,rfl,hi,(h _ rfl).Au aF⟩
theorem nI.bn{o:Option Tr}(h:nI o){op:Int}(e:qY o=op)(hop:op=5\/op=6\/op=7\/op=8):∃p q,o=some (.bin op 0 0 0 p q)/\p.ok/\q.ok:=by
 obtain⟨t,rfl,ht⟩:=tM e aH;obtain⟨p,q,rfl⟩:=Ic (h _ rfl) ht hop;exact⟨p,q,rfl,(h _ rfl).Au aF,(h _ rfl).Au (cF _ aF)⟩
theorem nI.co{o:Option Tr}(h:nI o)(e:qY o=13):∃g p q,o=some (uh g p q)/\(1<=g/\g<16)/\p.ok/\q.ok:=by
 obtain⟨t,rfl,ht⟩:=tM e aH;obtain⟨g,p,q,rfl,hg⟩:=Ib (h _ rfl) ht;exact⟨g,p,q,rfl,hg,(h _ rfl).Au aF,(h _ rfl).Au (cF _ aF)⟩
theorem nI.ev{o:Option Tr}(h:nI o)(e:qY o=11):∃g p,o=some (yn g p)/\(1<=g/\g<16)/\p.ok:=by
 obtain⟨t,rfl,ht⟩:=tM e aH;obtain⟨g,p,rfl,hg⟩:=KZ (h _ rfl) ht;exact⟨g,p,rfl,hg,(h _ rfl).Au aF⟩
theorem iS{a b:Tr}(ha:a.ok)(hb:b.ok):(fO a b).ok:=⟨aI,rfl,aI,ha,hb⟩
theorem lZ{a b:Tr}(ha:a.ok)(hb:b.ok):(oI a b).ok:=⟨aI,rfl,aI,ha,hb⟩
theorem yg{a b:Tr}(ha:a.ok)(hb:b.ok):(sZ a b).ok:=⟨aI,rfl,aI,ha,hb⟩
theorem gF{a:Tr}(ha:a.ok):(fH a).ok:=⟨aI,rfl,rfl,aI,ha⟩
theorem wZ (hi:0<=i/\i<4):kN 9 i 0 0=0:=by
 obtain⟨k,rfl⟩:∃k:Nat,i=(k:Int):=⟨i.toNat,aH⟩;have:∀j:Fin 4,kN 9 ((j.val:Nat):Int) 0 0=0:=aI;exact this ⟨k,aH⟩
theorem GA (hg:1<=g/\g<16):kN 11 0 0 g=0:=by
 obtain⟨k,rfl⟩:∃k:Nat,g=(k:Int):=⟨g.toNat,aH⟩;have:∀j:Fin 16,1<=j.val->kN 11 0 0 ((j.val:Nat):Int)=0:=aI;exact this ⟨k,aH⟩ (by show 1<=k;omega)
theorem gk {a:Tr}(hi:0<=i/\i<4)(ha:a.ok):(fe i a).ok:=⟨aI,rfl,rfl,wZ hi,ha⟩
theorem Da {a:Tr}(hg:1<=g/\g<16)(ha:a.ok):(yn g a).ok:=⟨aI,rfl,rfl,GA hg,ha⟩
theorem Gb{g:Nat}{x:Tr}(hk:k<=4)(hx:x.ok):∀u∈Kq g k x,u.ok:=λu hu=>by
 obtain⟨j,hj,rfl⟩:=eA.1 hu;have:=JY hj;exact gk aH hx
theorem Dh:∀{ts:List Tr},(∀u∈ts,u.ok)->(nZ ts).ok
 |[],_=>⟨aI,rfl,aI⟩
 |t::ts,h=>by
  have key:∀(l:List Tr) (a:Tr),a.ok->(∀u∈l,u.ok)->(l.foldl (λa b=>.bin 5 0 0 0 a b) a).ok:=λl=>by
   induction l with
   |nil=>exact λa ha _=>ha
   |cons b l ih=>exact λa ha hl=>ih _ (lZ ha (hl b aL)) (λu hu=>hl u (by simp[hu]))
  exact key ts t (h t aL) (λu hu=>h u (by simp[hu]))
theorem Dx{g:Nat}{x:Tr}(hx:x.ok):(Es g x).ok:=Dh (Gb (eG _) hx)
theorem zV{w0 w:aB}{S:aq}{h:Hl}{Y:List (Nat×Obj)}(s:St w0 S w h Y)(j:Nat){q:ah}{gs:List FV}{e:ax}{sp:ai}(hj:h[j]?=some (q,ob FV.v e gs sp))(hq:q=none->gs.length=0):su w (q.map aP) gs:=by
 cases q with
 |none=>rw[aU (hq rfl)];exact Sl.nil _ _
 |some b=>exact Sl.jh (s.get hj)
theorem Gc{t c:Tr}(h:BM (some t)=some c):∃z,nk (some t)=some z:=by
 cases t with
 |leaf=>cases h
 |un=>cases h
 |bin op i e g a b=>exact⟨a,rfl⟩
def iU(l r:Int):Bool:=if r=3 then decide (l=2\/l=4\/l=6)else if r=4 then decide (3<=l)else if r=5 then decide (5<=l)else if r=6 then decide (l=1\/l=5)else true
def rv(xs:ar):fC:=xs.foldl (λa x=>a|||(1#64<<<x.toNat)) 0#64
theorem D7{xs:ar}{x:Int}:rv (xs++[x])=rv xs|||(1#64<<<x.toNat):=by simp[rv]
theorem Oe{l r:Int}(hl:0<=l/\l<=6):iU l r=(((if r=3 then rv [2,4,6]else if r=4 then rv [3,4,5,6]else if r=5 then rv [5,6]else if r=6 then rv [1,5]else BitVec.allOnes 64)>>>l.toNat) &&& 1#64==1#64):=by
 obtain⟨k,rfl⟩:∃k:Nat,l=(k:Int):=⟨l.toNat,aH⟩;have key:∀j:Fin 7,(decide (((j.val:Nat):Int)=2\/((j.val:Nat):Int)=4\/((j.val:Nat):Int)=6)=((rv [2,4,6]>>>((j.val:Nat):Int).toNat) &&& 1#64==1#64))/\(decide (3<=((j.val:Nat):Int))=((rv [3,4,5,6]>>>((j.val:Nat):Int).toNat) &&& 1#64==1#64))/\
   (decide (5<=((j.val:Nat):Int))=((rv [5,6]>>>((j.val:Nat):Int).toNat) &&& 1#64==1#64))/\(decide (((j.val:Nat):Int)=1\/((j.val:Nat):Int)=5)=((rv [1,5]>>>((j.val:Nat):Int).toNat) &&& 1#64==1#64))/\(true=((BitVec.allOnes 64>>>((j.val:Nat):Int).toNat) &&& 1#64==1#64)):=by decide+kernel
 obtain⟨k1,k2,k3,k4,k5⟩:=key ⟨k,aH⟩;unfold iU;by_cases h3:r=3;rw[if_pos h3,if_pos h3];exact k1;rw[if_neg h3,if_neg h3];by_cases h4:r=4;rw[if_pos h4,if_pos h4];exact k2;rw[if_neg h4,if_neg h4];by_cases h5:r=5;rw[if_pos h5,if_pos h5];exact k3;rw[if_neg h5,if_neg h5];by_cases h6:r=6;rw[if_pos h6,if_pos h6];exact k4;rw[if_neg h6,if_neg h6];exact k5
def mO(f:List NV):Int:=if fX f≠0 then fX f else if qB (re (eT f)) 11≠0 then 10 else 0
def kD(r:Int):Int:=if r=10 then 2 else if r=11\/r=12 then 1 else 0
end
end Go.Proofs.Wit
