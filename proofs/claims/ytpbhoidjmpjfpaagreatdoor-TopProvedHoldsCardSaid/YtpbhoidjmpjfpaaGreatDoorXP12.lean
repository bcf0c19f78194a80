/- Laws of walks, each under its own conditions. -/
import Derived.Test.YtpbhoidjmpjfpaaGreatDoorXP10
set_option maxRecDepth 100000
set_option maxHeartbeats 40000000
namespace Go.Proofs.Wit
section
variable{g o:List NV}{n:NV}
structure LT (o:List NV) (ts:List Tr):Prop where
  nodes:fT o
  tr:trees o=ts
theorem LT.len {ts:List Tr}(h:LT o ts):ts.length=o.length:=by rw[<-h.tr,gL]
theorem LT.can{t:Tr}(h:t.ok):LT (iA t) (iu t):=⟨rM h,o8 h.wf⟩
theorem LT.cat {ts us:List Tr}(h:LT o ts)(k:LT g us):LT (kf o g) (ts++us):=⟨HL h.nodes k.nodes,by rw[Im k.nodes.ord,h.tr,k.tr]⟩
theorem LT.snoc {ts:List Tr}(h:LT o ts) (p:Nl n o.length):LT (o++[n]) (ts++[BY n (ts.getD n.x.toNat tV) (ts.getD n.y.toNat tV)]):=⟨Gx h.nodes p,by rw[lL,h.tr]⟩
theorem LT.un{o:List NV}{ts:List Tr}(h:LT o ts){n:NV}(p:1<=n.op/\n.op<=21)(hX:ji n.op=true)(C:iM n.op=false)(hf:kG n.op n.i n.e n.g=0)(hy:n.y=0){k:Nat}{t:Tr}(hx:n.x=k)(w:ts[k]?=some t):
  LT (o++[n]) (ts++[.un n.op n.i n.e n.g t]):=by
 have hk:=(bB.1 w).1;rw[h.len]at hk;have D:Nl n o.length:=⟨p,λ_=>aH,λe=>absurd (e.symm.trans hX) aI,λe=>absurd (C.symm.trans e) aI,λ_=>hy,hf⟩;have:=h.snoc D;rw[qu hX C,hx,dy,aY,w]at this;exact this
theorem LT.bin{o:List NV}{ts:List Tr}(h:LT o ts){n:NV}(p:1<=n.op/\n.op<=21)(w:iM n.op=true)(hf:kG n.op n.i n.e n.g=0){k l:Nat}{t u:Tr}(hx:n.x=k)(C:ts[k]?=some t)(hy:n.y=l)(hu:ts[l]?=some u):
  LT (o++[n]) (ts++[.bin n.op n.i n.e n.g t u]):=by
 have hk:=(bB.1 C).1;have E:=(bB.1 hu).1;rw[h.len]at hk E;have hX:=jL w;have D:Nl n o.length:=⟨p,λ_=>aH,λe=>absurd (e.symm.trans hX) aI,λ_=>aH,λe=>absurd (e.symm.trans w) aI,hf⟩;have:=h.snoc D;rw[oq w,hx,hy,dy,dy,aY,C,aY,hu]at this;exact this
theorem LT.leaf{o:List NV}{ts:List Tr}(h:LT o ts){n:NV}(p:1<=n.op/\n.op<=21)(hX:ji n.op=false)(hf:kG n.op n.i n.e n.g=0)(hx:n.x=0)(hy:n.y=0):
  LT (o++[n]) (ts++[.leaf n.op n.i n.e n.g]):=by
 have C:iM n.op=false:=by
  cases e:iM n.op with
  |false=>rfl
  |true=>exact absurd ((jL e).symm.trans hX) aI
 have w:Nl n o.length:=⟨p,λe=>absurd (hX.symm.trans e) aI,λ_=>hx,λe=>absurd (C.symm.trans e) aI,λ_=>hy,hf⟩;have:=h.snoc w;rw[mC hX]at this;exact this
theorem LT.fe{o:List NV}{ts:List Tr}(h:LT o ts){k:Nat}{t:Tr}(p:ts[k]?=some t):fe o k=t:=by
 rw[Wit.fe,h.tr,aY,p];rfl
theorem LT.last {ts:List Tr} {t:Tr}(h:LT (o++[n]) (ts++[t])):Wit.fe (o++[n]) o.length=t:=by
 have p:=h.len;simp at p;exact h.fe (by rw[<-p];simp)
theorem yH{t:Tr}:(iu t)[(iu t).length - 1]?=some t:=by
 obtain⟨l,h⟩:=qJ t;rw[h];simp
theorem Cr{op i e g:Int}{a:Tr}:(iA (.un op i e g a)).length=(iA a).length+1:=by
 rw[ly,ly];simp[iu,visit]
def bT(t:Tr):List NV:=if 200<(iA t).length then []else iA t
theorem yY (h:gp g=0):LT (outs [g]) (iu (fF g)):=by
 have:LT ([]:List NV) []:=⟨λi hi=>absurd hi (ew _),rfl⟩;have h2:=this.cat (LT.can (fA.1 h).top);rw[<-jm h]at h2;exact h2
theorem Kv{h:List NV}(h1:gp g=0)(h2:gp h=0):LT (outs [g,h]) (iu (fF g)++iu (fF h)):=by
 have:=(yY h1).cat (LT.can (fA.1 h2).top);rw[<-jm h2]at this;exact this
theorem Sp (h:1<=n.op/\n.op<=21)(hX:ji n.op=false)(hf:kG n.op n.i n.e n.g=0)(hx:n.x=0)(hy:n.y=0):gh n []=bT (.leaf n.op n.i n.e n.g):=by
 have h0:LT ([]:List NV) []:=⟨λi hi=>absurd hi (ew _),rfl⟩;have h1:=h0.leaf h hX hf hx hy;have e1:mi n 0=0:=lT.2 (by have:=h1.nodes 0 aL;simpa using this);rw[gh,if_neg aL,show outs []=[]from rfl,show lq n [] ([]:List (List NV)).length=n from rfl,show((([]:List NV).length:Nat):Int)=0 from rfl,if_neg (by simp[e1]),h1.last];rfl
theorem MA  (h:gp g=0)(p:1<=n.op/\n.op<=21)(hX:ji n.op=true)(w:iM n.op=false)(hf:kG n.op n.i n.e n.g=0)(hy:n.y=0):gh n [g]=bT (.un n.op n.i n.e n.g (fF g)):=by
 have h0:=yY h;have D:=h0.len;have hp:0<(iu (fF g)).length:=by rw[<-ly];exact pz _
 have C:lq n [g] 1={n with x:=((outs [g]).length:Int) - 1}:=rfl;have h1:=h0.un (n:={n with x:=((outs [g]).length:Int) - 1}) p hX w hf hy (k:=(iu (fF g)).length - 1) aM yH;have e1:mi {n with x:=((outs [g]).length:Int) - 1} ((outs [g]).length:Int)=0:=lT.2 (by have:=h1.nodes (outs [g]).length aL;simpa using this);rw[gh,if_neg (by simp[h]),show [g].length=1 from rfl,C,if_neg (by simp[e1]),h1.last];rfl
theorem UZ {k:List NV}(h:gp g=0)(h':gp k=0)(p:1<=n.op/\n.op<=21)(E:iM n.op=true)(hf:kG n.op n.i n.e n.g=0):gh n [g,k]=bT (.bin n.op n.i n.e n.g (fF g) (fF k)):=by
 have h0:=Kv h h';have D:=h0.len;have C:=(yY h).len;have hp:0<(iu (fF g)).length:=by rw[<-ly];exact pz _
 have w:0<(iu (fF k)).length:=by rw[<-ly];exact pz _
 rw[di]at D;have F:lq n [g,k] 2={n with x:=((outs [g]).length:Int) - 1,y:=((outs [g,k]).length:Int) - 1}:=rfl;have h1:=h0.bin (n:={n with x:=((outs [g]).length:Int) - 1,y:=((outs [g,k]).length:Int) - 1}) p E hf (k:=(iu (fF g)).length - 1) aM (by rw[bu aH];exact yH) (l:=(iu (fF g)).length+((iu (fF k)).length - 1)) aM (by rw[aZ aH,Nat.add_sub_cancel_left];exact yH);have e1:mi {n with x:=((outs [g]).length:Int) - 1,y:=((outs [g,k]).length:Int) - 1} ((outs [g,k]).length:Int)=0:=lT.2 (by have:=h1.nodes (outs [g,k]).length aL;simpa using this);rw[gh,if_neg (by simp[h,h']),show [g,k].length=2 from rfl,F,if_neg (by simp[e1]),h1.last];rfl
theorem wP{t:Tr}(h:t.ok)(p:(iA t).length<=200):bT t=iA t/\gp (iA t)=0/\fF (iA t)=t:=⟨if_neg aH,fA.2 (zP h p),oV h.wf⟩
structure X1 (f:List NV) (t:Tr):Prop where
  qA:gp f=0
  top:fF f=t
theorem R3{op i:Int}(h:op=9\/op=10)(h1:0<=i)(h2:i<4):kG op i 0 0=0:=by
 rcases h with rfl|rfl;rw[kG,if_neg (by simp[iO,ui,rZ]),if_neg (by simp[ui,rZ];omega)];rw[kG,if_neg (by simp[iO,ui,rZ]),if_neg (by simp[ui,rZ];omega)]
theorem Tp{op i:Int}{t:Tr}(h:op=9\/op=10)(h1:0<=i)(h2:i<4)(p:t.ok):(Tr.un op i 0 0 t).ok:=⟨aH,by rcases h with rfl|rfl<;>rfl,by rcases h with rfl|rfl<;>rfl,R3 h h1 h2,p⟩
theorem oC{α:Type}{p:α->Prop}{x y:α}(h1:p x)(h2:p y):∀g∈[x,y],p g:=λg hg=>by
 simp only[eH,dO,eX]at hg;rcases hg with rfl|rfl;exact h1;exact h2
abbrev kn(op i x:Int):NV:=⟨op,i,0,0,x,0⟩
abbrev im(x y:Int):NV:=⟨7,0,0,0,x,y⟩
section
variable{i x y:Int}{T:Tr}
end
end
end Go.Proofs.Wit
