/- Laws of walks, each under its own conditions. -/
import Derived.Test.YtpbhoidjmpjfpaaGreatDoorXT09
set_option maxRecDepth 100000
set_option maxHeartbeats 40000000
namespace Go.Proofs.Wit
section
variable{g o:List NV}{n:NV}
structure LT (o:List NV) (ts:List Tr):Prop where
  nodes:fC o
  tr:trees o=ts
theorem LT.len {ts:List Tr}(h:LT o ts):ts.length=o.length:=by rw[<-h.tr,fW]
theorem LT.can{t:Tr}(h:t.ok):LT (gv t) (gk t):=⟨rk h,mZ h.wf⟩
theorem LT.cat {ts us:List Tr}(h:LT o ts)(k:LT g us):LT (jt o g) (ts++us):=⟨Co h.nodes k.nodes,by rw[CI k.nodes.ord,h.tr,k.tr]⟩
theorem LT.snoc {ts:List Tr}(h:LT o ts) (p:GF n o.length):LT (o++[n]) (ts++[zj n (ts.getD n.x.toNat qJ) (ts.getD n.y.toNat qJ)]):=⟨Bu h.nodes p,by rw[kA,h.tr]⟩
theorem LT.un{o:List NV}{ts:List Tr}(h:LT o ts){n:NV}(p:1<=n.op/\n.op<=21)(D:iX n.op=true)(C:ij n.op=false)(hf:jH n.op n.i n.e n.g=0)(hy:n.y=0){k:Nat}{t:Tr}(hx:n.x=k)(w:ts[k]?=some t):
  LT (o++[n]) (ts++[.un n.op n.i n.e n.g t]):=by
 have hk:=(bu.1 w).1;rw[h.len]at hk;have E:GF n o.length:=⟨p,λ_=>aH,λe=>absurd (e.symm.trans D) aI,λe=>absurd (C.symm.trans e) aI,λ_=>hy,hf⟩;have:=h.snoc E;rw[nY D C,hx,c7,aY,w]at this;exact this
theorem LT.bin{o:List NV}{ts:List Tr}(h:LT o ts){n:NV}(p:1<=n.op/\n.op<=21)(w:ij n.op=true)(hf:jH n.op n.i n.e n.g=0){k l:Nat}{t u:Tr}(hx:n.x=k)(C:ts[k]?=some t)(hy:n.y=l)(hu:ts[l]?=some u):
  LT (o++[n]) (ts++[.bin n.op n.i n.e n.g t u]):=by
 have hk:=(bu.1 C).1;have E:=(bu.1 hu).1;rw[h.len]at hk E;have F:=jz w;have D:GF n o.length:=⟨p,λ_=>aH,λe=>absurd (e.symm.trans F) aI,λ_=>aH,λe=>absurd (e.symm.trans w) aI,hf⟩;have:=h.snoc D;rw[mj w,hx,hy,c7,c7,aY,C,aY,hu]at this;exact this
theorem LT.leaf{o:List NV}{ts:List Tr}(h:LT o ts){n:NV}(p:1<=n.op/\n.op<=21)(w:iX n.op=false)(hf:jH n.op n.i n.e n.g=0)(hx:n.x=0)(hy:n.y=0):
  LT (o++[n]) (ts++[.leaf n.op n.i n.e n.g]):=by
 have D:ij n.op=false:=by
  cases e:ij n.op with
  |false=>rfl
  |true=>exact absurd ((jz e).symm.trans w) aI
 have C:GF n o.length:=⟨p,λe=>absurd (w.symm.trans e) aI,λ_=>hx,λe=>absurd (D.symm.trans e) aI,λ_=>hy,hf⟩;have:=h.snoc C;rw[lj w]at this;exact this
theorem LT.eA{o:List NV}{ts:List Tr}(h:LT o ts){k:Nat}{t:Tr}(p:ts[k]?=some t):eA o k=t:=by
 rw[Wit.eA,h.tr,aY,p];rfl
theorem LT.last{o:List NV}{ts:List Tr}{n:NV}{t:Tr}(h:LT (o++[n]) (ts++[t])):Wit.eA (o++[n]) o.length=t:=by
 have p:=h.len;simp at p;exact h.eA (by rw[<-p];simp)
theorem vf{t:Tr}:(gk t)[(gk t).length - 1]?=some t:=by
 obtain⟨l,h⟩:=ov t;rw[h];simp
theorem yD{op i e g:Int}{a:Tr}:(gv (.un op i e g a)).length=(gv a).length+1:=by
 rw[ke,ke];simp[gk,visit]
def bT(t:Tr):List NV:=if 200<(gv t).length then []else gv t
theorem vy (h:fK g=0):LT (outs [g]) (gk (eP g)):=by
 have:LT ([]:List NV) []:=⟨λi hi=>absurd hi (dK _),rfl⟩;have h2:=this.cat (LT.can (eO.1 h).top);rw[<-jG h]at h2;exact h2
theorem Eo{h:List NV}(h1:fK g=0)(h2:fK h=0):LT (outs [g,h]) (gk (eP g)++gk (eP h)):=by
 have:=(vy h1).cat (LT.can (eO.1 h2).top);rw[<-jG h2]at this;exact this
theorem Lh (h:1<=n.op/\n.op<=21)(p:iX n.op=false)(hf:jH n.op n.i n.e n.g=0)(hx:n.x=0)(hy:n.y=0):fB n []=bT (.leaf n.op n.i n.e n.g):=by
 have h0:LT ([]:List NV) []:=⟨λi hi=>absurd hi (dK _),rfl⟩;have h1:=h0.leaf h p hf hx hy;have e1:kO n 0=0:=lx.2 (by have:=h1.nodes 0 aL;simpa using this);rw[fB,if_neg aL,show outs []=[]from rfl,show j7 n [] ([]:List (List NV)).length=n from rfl,show((([]:List NV).length:Nat):Int)=0 from rfl,if_neg (by simp[e1]),h1.last];rfl
theorem IB  (h:fK g=0)(p:1<=n.op/\n.op<=21)(C:iX n.op=true)(w:ij n.op=false)(hf:jH n.op n.i n.e n.g=0)(hy:n.y=0):fB n [g]=bT (.un n.op n.i n.e n.g (eP g)):=by
 have h0:=vy h;have E:=h0.len;have hp:0<(gk (eP g)).length:=by rw[<-ke];exact nm _
 have D:j7 n [g] 1={n with x:=((outs [g]).length:Int) - 1}:=rfl;have h1:=h0.un (n:={n with x:=((outs [g]).length:Int) - 1}) p C w hf hy (k:=(gk (eP g)).length - 1) aM vf;have e1:kO {n with x:=((outs [g]).length:Int) - 1} ((outs [g]).length:Int)=0:=lx.2 (by have:=h1.nodes (outs [g]).length aL;simpa using this);rw[fB,if_neg (by simp[h]),show [g].length=1 from rfl,D,if_neg (by simp[e1]),h1.last];rfl
theorem NM {k:List NV}(h:fK g=0)(h':fK k=0)(p:1<=n.op/\n.op<=21)(E:ij n.op=true)(hf:jH n.op n.i n.e n.g=0):fB n [g,k]=bT (.bin n.op n.i n.e n.g (eP g) (eP k)):=by
 have h0:=Eo h h';have D:=h0.len;have C:=(vy h).len;have hp:0<(gk (eP g)).length:=by rw[<-ke];exact nm _
 have w:0<(gk (eP k)).length:=by rw[<-ke];exact nm _
 rw[cQ]at D;have F:j7 n [g,k] 2={n with x:=((outs [g]).length:Int) - 1,y:=((outs [g,k]).length:Int) - 1}:=rfl;have h1:=h0.bin (n:={n with x:=((outs [g]).length:Int) - 1,y:=((outs [g,k]).length:Int) - 1}) p E hf (k:=(gk (eP g)).length - 1) aM (by rw[bt aH];exact vf) (l:=(gk (eP g)).length+((gk (eP k)).length - 1)) aM (by rw[aZ aH,Nat.add_sub_cancel_left];exact vf);have e1:kO {n with x:=((outs [g]).length:Int) - 1,y:=((outs [g,k]).length:Int) - 1} ((outs [g,k]).length:Int)=0:=lx.2 (by have:=h1.nodes (outs [g,k]).length aL;simpa using this);rw[fB,if_neg (by simp[h,h']),show [g,k].length=2 from rfl,F,if_neg (by simp[e1]),h1.last];rfl
theorem tQ{t:Tr}(h:t.ok)(p:(gv t).length<=200):bT t=gv t/\fK (gv t)=0/\eP (gv t)=t:=⟨if_neg aH,eO.2 (we h p),mV h.wf⟩
structure Q3 (f:List NV) (t:Tr):Prop where
  oe:fK f=0
  top:eP f=t
theorem KW{op i:Int}(h:op=9\/op=10)(h1:0<=i)(h2:i<4):jH op i 0 0=0:=by
 rcases h with rfl|rfl;rw[jH,if_neg (by simp[iO,uV,qG]),if_neg (by simp[uV,qG];omega)];rw[jH,if_neg (by simp[iO,uV,qG]),if_neg (by simp[uV,qG];omega)]
theorem Mh{op i:Int}{t:Tr}(h:op=9\/op=10)(h1:0<=i)(h2:i<4)(p:t.ok):(Tr.un op i 0 0 t).ok:=⟨aH,by rcases h with rfl|rfl<;>rfl,by rcases h with rfl|rfl<;>rfl,KW h h1 h2,p⟩
theorem mA{α:Type}{p:α->Prop}{x y:α}(h1:p x)(h2:p y):∀g∈[x,y],p g:=λg hg=>by
 simp only[dS,dv,ep]at hg;rcases hg with rfl|rfl;exact h1;exact h2
abbrev kn(op i x:Int):NV:=⟨op,i,0,0,x,0⟩
abbrev im(x y:Int):NV:=⟨7,0,0,0,x,y⟩
section
variable{i x y:Int}{T:Tr}
end
end
end Go.Proofs.Wit
