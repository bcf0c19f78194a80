/- Laws of walks, each under its own conditions. -/
import Derived.Test.YtaamcaiglooemaaGreatDoorXP09
set_option maxRecDepth 100000
set_option maxHeartbeats 40000000
namespace Go.Proofs.Wit
section
variable{g o:List NV}{n:NV}
structure LT (o:List NV) (ts:List Tr):Prop where
  nodes:fT o
  tr:trees o=ts
theorem LT.len {ts:List Tr}(h:LT o ts):ts.length=o.length:=by rw[<-h.tr,js]
theorem LT.can{t:Tr}(h:t.ok):LT (iD t) (kK t):=⟨th h,sP h.wf⟩
theorem LT.cat {ts m:List Tr}(h:LT o ts)(k:LT g m):LT (gI o g) (ts++m):=⟨Dl h.nodes k.nodes,by rw[DI k.nodes.ord,h.tr,k.tr]⟩
theorem LT.snoc {ts:List Tr}(h:LT o ts) (m:HN n o.length):LT (o++[n]) (ts++[Ae n (ts.getD n.x.toNat qV) (ts.getD n.y.toNat qV)]):=⟨Cv h.nodes m,by rw[lN,h.tr]⟩
theorem LT.un{o:List NV}{ts:List Tr}(h:LT o ts){n:NV}(m:1<=n.op/\n.op<=21)(C:jd n.op=true)(w:iH n.op=false)(hf:kN n.op n.i n.e n.g=0)(hy:n.y=0){k:Nat}{t:Tr}(hx:n.x=k)(p:ts[k]?=some t):
  LT (o++[n]) (ts++[.un n.op n.i n.e n.g t]):=by
 have hk:=(bA.1 p).1;rw[h.len]at hk;have D:HN n o.length:=⟨m,λ_=>aH,λe=>absurd (e.symm.trans C) aI,λe=>absurd (w.symm.trans e) aI,λ_=>hy,hf⟩;have:=h.snoc D;rw[pH C w,hx,di,aX,p]at this;exact this
theorem LT.bin{o:List NV}{ts:List Tr}(h:LT o ts){n:NV}(m:1<=n.op/\n.op<=21)(p:iH n.op=true)(hf:kN n.op n.i n.e n.g=0){k l:Nat}{t u:Tr}(hx:n.x=k)(w:ts[k]?=some t)(hy:n.y=l)(hu:ts[l]?=some u):
  LT (o++[n]) (ts++[.bin n.op n.i n.e n.g t u]):=by
 have hk:=(bA.1 w).1;have D:=(bA.1 hu).1;rw[h.len]at hk D;have E:=jQ p;have C:HN n o.length:=⟨m,λ_=>aH,λe=>absurd (e.symm.trans E) aI,λ_=>aH,λe=>absurd (e.symm.trans p) aI,hf⟩;have:=h.snoc C;rw[nP p,hx,hy,di,di,aX,w,aX,hu]at this;exact this
theorem LT.leaf{o:List NV}{ts:List Tr}(h:LT o ts){n:NV}(m:1<=n.op/\n.op<=21)(p:jd n.op=false)(hf:kN n.op n.i n.e n.g=0)(hx:n.x=0)(hy:n.y=0):
  LT (o++[n]) (ts++[.leaf n.op n.i n.e n.g]):=by
 have C:iH n.op=false:=by
  cases e:iH n.op with
  |false=>rfl
  |true=>exact absurd ((jQ e).symm.trans p) aI
 have w:HN n o.length:=⟨m,λe=>absurd (p.symm.trans e) aI,λ_=>hx,λe=>absurd (C.symm.trans e) aI,λ_=>hy,hf⟩;have:=h.snoc w;rw[mi p]at this;exact this
theorem LT.eP{o:List NV}{ts:List Tr}(h:LT o ts){k:Nat}{t:Tr}(m:ts[k]?=some t):eP o k=t:=by
 rw[Wit.eP,h.tr,aX,m];rfl
theorem LT.last {ts:List Tr} {t:Tr}(h:LT (o++[n]) (ts++[t])):Wit.eP (o++[n]) o.length=t:=by
 have m:=h.len;simp at m;exact h.eP (by rw[<-m];simp)
theorem pZ{t:Tr}:(kK t)[(kK t).length - 1]?=some t:=by
 obtain⟨l,h⟩:=uG t;rw[h];simp
theorem v7{op i e g:Int}{a:Tr}:(iD (.un op i e g a)).length=(iD a).length+1:=by
 rw[lT,lT];simp[kK,visit]
theorem Eo{op i e g:Int}:(iD (.leaf op i e g)).length=1:=by rw[lT];simp[kK,visit]
def bT(t:Tr):List NV:=if 200<(iD t).length then []else iD t
theorem wD (h:fX g=0):LT (outs [g]) (kK (gA g)):=by
 have:LT ([]:List NV) []:=⟨λi hi=>absurd hi (dV _),rfl⟩;have h2:=this.cat (LT.can (fA.1 h).top);rw[<-jN h]at h2;exact h2
theorem Fx{h:List NV}(h1:fX g=0)(h2:fX h=0):LT (outs [g,h]) (kK (gA g)++kK (gA h)):=by
 have:=(wD h1).cat (LT.can (fA.1 h2).top);rw[<-jN h2]at this;exact this
theorem MI (h:1<=n.op/\n.op<=21)(m:jd n.op=false)(hf:kN n.op n.i n.e n.g=0)(hx:n.x=0)(hy:n.y=0):gv n []=bT (.leaf n.op n.i n.e n.g):=by
 have h0:LT ([]:List NV) []:=⟨λi hi=>absurd hi (dV _),rfl⟩;have h1:=h0.leaf h m hf hx hy;have e1:ko n 0=0:=ld.2 (by have:=h1.nodes 0 aL;simpa using this);rw[gv,if_neg aL,show outs []=[]from rfl,show lz n [] ([]:List (List NV)).length=n from rfl,show((([]:List NV).length:Nat):Int)=0 from rfl,if_neg (by simp[e1]),h1.last];rfl
theorem Ox  (h:fX g=0)(m:1<=n.op/\n.op<=21)(w:jd n.op=true)(p:iH n.op=false)(hf:kN n.op n.i n.e n.g=0)(hy:n.y=0):gv n [g]=bT (.un n.op n.i n.e n.g (gA g)):=by
 have h0:=wD h;have D:=h0.len;have hp:0<(kK (gA g)).length:=by rw[<-lT];exact o7 _
 have C:lz n [g] 1={n with x:=((outs [g]).length:Int) - 1}:=rfl;have h1:=h0.un (n:={n with x:=((outs [g]).length:Int) - 1}) m w p hf hy (k:=(kK (gA g)).length - 1) aM pZ;have e1:ko {n with x:=((outs [g]).length:Int) - 1} ((outs [g]).length:Int)=0:=ld.2 (by have:=h1.nodes (outs [g]).length aL;simpa using this);rw[gv,if_neg (by simp[h]),show [g].length=1 from rfl,C,if_neg (by simp[e1]),h1.last];rfl
theorem Ow {k:List NV}(h:fX g=0)(h':fX k=0)(m:1<=n.op/\n.op<=21)(D:iH n.op=true)(hf:kN n.op n.i n.e n.g=0):gv n [g,k]=bT (.bin n.op n.i n.e n.g (gA g) (gA k)):=by
 have h0:=Fx h h';have C:=h0.len;have w:=(wD h).len;have hp:0<(kK (gA g)).length:=by rw[<-lT];exact o7 _
 have p:0<(kK (gA k)).length:=by rw[<-lT];exact o7 _
 rw[dc]at C;have E:lz n [g,k] 2={n with x:=((outs [g]).length:Int) - 1,y:=((outs [g,k]).length:Int) - 1}:=rfl;have h1:=h0.bin (n:={n with x:=((outs [g]).length:Int) - 1,y:=((outs [g,k]).length:Int) - 1}) m D hf (k:=(kK (gA g)).length - 1) aM (by rw[br aH];exact pZ) (l:=(kK (gA g)).length+((kK (gA k)).length - 1)) aM (by rw[aY aH,Nat.add_sub_cancel_left];exact pZ);have e1:ko {n with x:=((outs [g]).length:Int) - 1,y:=((outs [g,k]).length:Int) - 1} ((outs [g,k]).length:Int)=0:=ld.2 (by have:=h1.nodes (outs [g,k]).length aL;simpa using this);rw[gv,if_neg (by simp[h,h']),show [g,k].length=2 from rfl,E,if_neg (by simp[e1]),h1.last];rfl
theorem u5{t:Tr}(h:t.ok)(m:(iD t).length<=200):bT t=iD t/\fX (iD t)=0/\gA (iD t)=t:=⟨if_neg aH,fA.2 (xh h m),nu h.wf⟩
structure RE (f:List NV) (t:Tr):Prop where
  nG:fX f=0
  top:gA f=t
theorem GB{op i:Int}(h:op=9\/op=10)(h1:0<=i)(h2:i<4):kN op i 0 0=0:=by
 rcases h with rfl|rfl;rw[kN,if_neg (by simp[iO,sJ,oP]),if_neg (by simp[sJ,oP];omega)];rw[kN,if_neg (by simp[iO,sJ,oP]),if_neg (by simp[sJ,oP];omega)]
theorem Np{op i:Int}{t:Tr}(h:op=9\/op=10)(h1:0<=i)(h2:i<4)(m:t.ok):(Tr.un op i 0 0 t).ok:=⟨aH,by rcases h with rfl|rfl<;>rfl,by rcases h with rfl|rfl<;>rfl,GB h h1 h2,m⟩
theorem oc{α:Type}{p:α->Prop}{x y:α}(h1:p x)(h2:p y):∀g∈[x,y],p g:=λg hg=>by
 simp only[ew,dE,eM]at hg;rcases hg with rfl|rfl;exact h1;exact h2
abbrev kn(op i x:Int):NV:=⟨op,i,0,0,x,0⟩
abbrev im(x y:Int):NV:=⟨7,0,0,0,x,y⟩
section
variable{i x y:Int}{T:Tr}
end
end
end Go.Proofs.Wit
