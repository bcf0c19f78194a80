/- Laws of walks, for any program, under the conditions that each theorem states. -/
import Derived.Test.YtchhieaagchhhaaGreatDoorXT10
set_option maxRecDepth 100000
set_option maxHeartbeats 4000000
namespace Go.Proofs.Wit
structure LT (o:List NV) (ts:List Tr):Prop where
  nodes:aP o
  tr:trees o=ts
theorem LT.len {o:List NV} {ts:List Tr} (h:LT o ts):ts.length=o.length:=by rw [←h.tr,db]
theorem LT.can {t:Tr} (h:t.ok):LT (cm t) (eM t):=⟨nN h,ny h.wf⟩
theorem LT.cat {o g:List NV} {ts m:List Tr} (h:LT o ts) (k:LT g m):LT (bh o g) (ts++m):=⟨yB h.nodes k.nodes,by rw [yQ k.nodes.ord,h.tr,k.tr]⟩
theorem LT.snoc {o:List NV} {ts:List Tr} (h:LT o ts) {n:NV} (m:CH n o.length):LT (o++[n]) (ts++[vm n (ts.getD n.x.toNat lS) (ts.getD n.y.toNat lS)]):=⟨xD h.nodes m,by rw [fP,h.tr]⟩
theorem LT.un {o:List NV} {ts:List Tr} (h:LT o ts) {n:NV} (m:1≤n.op∧n.op≤21) (C:dh n.op=true) (w:cD n.op=false) (hf:eR n.op n.i n.e n.g=0) (hy:n.y=0) {k:Nat} {t:Tr} (hx:n.x=k) (p:ts[k]?=some t):
  LT (o++[n]) (ts++[.un n.op n.i n.e n.g t]):=by
 have hk:=(List.getElem?_eq_some_iff.1 p).1;rw [h.len] at hk;have D:CH n o.length:=⟨m,fun _=>by omega,fun e=>absurd (e.symm.trans C) (by decide),fun e=>absurd (w.symm.trans e) (by decide),fun _=>hy,hf⟩;have:=h.snoc D;rw [kv C w,hx,Int.toNat_natCast,List.getD_eq_getElem?_getD,p] at this;exact this
theorem LT.bin {o:List NV} {ts:List Tr} (h:LT o ts) {n:NV} (m:1≤n.op∧n.op≤21) (p:cD n.op=true) (hf:eR n.op n.i n.e n.g=0) {k l:Nat} {t u:Tr} (hx:n.x=k) (w:ts[k]?=some t) (hy:n.y=l) (hu:ts[l]?=some u):
  LT (o++[n]) (ts++[.bin n.op n.i n.e n.g t u]):=by
 have hk:=(List.getElem?_eq_some_iff.1 w).1;have D:=(List.getElem?_eq_some_iff.1 hu).1;rw [h.len] at hk D;have E:=dZ p;have C:CH n o.length:=⟨m,fun _=>by omega,fun e=>absurd (e.symm.trans E) (by decide),fun _=>by omega,fun e=>absurd (e.symm.trans p) (by decide),hf⟩;have:=h.snoc C;rw [iY p,hx,hy,Int.toNat_natCast,Int.toNat_natCast,List.getD_eq_getElem?_getD,w,List.getD_eq_getElem?_getD,hu] at this;exact this
theorem LT.leaf {o:List NV} {ts:List Tr} (h:LT o ts) {n:NV} (m:1≤n.op∧n.op≤21) (p:dh n.op=false) (hf:eR n.op n.i n.e n.g=0) (hx:n.x=0) (hy:n.y=0):
  LT (o++[n]) (ts++[.leaf n.op n.i n.e n.g]):=by
 have C:cD n.op=false:=by
  cases e:cD n.op with
  |false=>rfl
  |true=>exact absurd ((dZ e).symm.trans p) (by decide)
 have w:CH n o.length:=⟨m,fun e=>absurd (p.symm.trans e) (by decide),fun _=>hx,fun e=>absurd (C.symm.trans e) (by decide),fun _=>hy,hf⟩;have:=h.snoc w;rw [gk p] at this;exact this
theorem LT.aa {o:List NV} {ts:List Tr} (h:LT o ts) {k:Nat} {t:Tr} (m:ts[k]?=some t):aa o k=t:=by
 rw [Wit.aa,h.tr,List.getD_eq_getElem?_getD,m];rfl
theorem LT.last {o:List NV} {ts:List Tr} {n:NV} {t:Tr} (h:LT (o++[n]) (ts++[t])):Wit.aa (o++[n]) o.length=t:=by
 have m:=h.len;simp at m;exact h.aa (by rw [←m];simp)
theorem kJ {t:Tr}:(eM t)[(eM t).length - 1]?=some t:=by
 obtain ⟨l,h⟩:=oY t;rw [h];simp
theorem uJ {op i e g:Int} {a:Tr}:(cm (.un op i e g a)).length=(cm a).length+1:=by
 rw [fR,fR];simp [eM,visit]
theorem zA {op i e g:Int}:(cm (.leaf op i e g)).length=1:=by rw [fR];simp [eM,visit]
def bT (t:Tr):List NV:=if 200<(cm t).length then [] else cm t
theorem qW {g:List NV} (h:aN g=0):LT (outs [g]) (eM (bu g)):=by
 have:LT ([]:List NV) []:=⟨fun i hi=>absurd hi (Nat.not_lt_zero _),rfl⟩;have h2:=this.cat (LT.can (aB.1 h).top);rw [←dG h] at h2;exact h2
theorem AM {g h:List NV} (h1:aN g=0) (h2:aN h=0):LT (outs [g,h]) (eM (bu g)++eM (bu h)):=by
 have:=(qW h1).cat (LT.can (aB.1 h2).top);rw [←dG h2] at this;exact this
theorem He {n:NV} (h:1≤n.op∧n.op≤21) (m:dh n.op=false) (hf:eR n.op n.i n.e n.g=0) (hx:n.x=0) (hy:n.y=0):aU n []=bT (.leaf n.op n.i n.e n.g):=by
 have h0:LT ([]:List NV) []:=⟨fun i hi=>absurd hi (Nat.not_lt_zero _),rfl⟩;have h1:=h0.leaf h m hf hx hy;have e1:eA n 0=0:=fg.2 (by have:=h1.nodes 0 (by simp);simpa using this);rw [aU,if_neg (by simp),show outs []=[] from rfl,show fz n [] ([]:List (List NV)).length=n from rfl,show ((([]:List NV).length:Nat):Int)=0 from rfl,if_neg (by simp [e1]),h1.last];rfl
theorem Je {n:NV} {g:List NV} (h:aN g=0) (m:1≤n.op∧n.op≤21) (w:dh n.op=true) (p:cD n.op=false) (hf:eR n.op n.i n.e n.g=0) (hy:n.y=0):aU n [g]=bT (.un n.op n.i n.e n.g (bu g)):=by
 have h0:=qW h;have D:=h0.len;have hp:0<(eM (bu g)).length:=by rw [←fR];exact jV _
 have C:fz n [g] 1={n with x:=((outs [g]).length:Int) - 1}:=rfl;have h1:=h0.un (n:={n with x:=((outs [g]).length:Int) - 1}) m w p hf hy (k:=(eM (bu g)).length - 1) (by dsimp only;omega) kJ;have e1:eA {n with x:=((outs [g]).length:Int) - 1} ((outs [g]).length:Int)=0:=fg.2 (by have:=h1.nodes (outs [g]).length (by simp);simpa using this);rw [aU,if_neg (by simp [h]),show [g].length=1 from rfl,C,if_neg (by simp [e1]),h1.last];rfl
theorem Jd {n:NV} {g k:List NV} (h:aN g=0) (h':aN k=0) (m:1≤n.op∧n.op≤21) (D:cD n.op=true) (hf:eR n.op n.i n.e n.g=0):aU n [g,k]=bT (.bin n.op n.i n.e n.g (bu g) (bu k)):=by
 have h0:=AM h h';have C:=h0.len;have w:=(qW h).len;have hp:0<(eM (bu g)).length:=by rw [←fR];exact jV _
 have p:0<(eM (bu k)).length:=by rw [←fR];exact jV _
 rw [List.length_append] at C;have E:fz n [g,k] 2={n with x:=((outs [g]).length:Int) - 1,y:=((outs [g,k]).length:Int) - 1}:=rfl;have h1:=h0.bin (n:={n with x:=((outs [g]).length:Int) - 1,y:=((outs [g,k]).length:Int) - 1}) m D hf (k:=(eM (bu g)).length - 1) (by dsimp only;omega) (by rw [List.getElem?_append_left (by omega)];exact kJ) (l:=(eM (bu g)).length+((eM (bu k)).length - 1)) (by dsimp only;omega) (by rw [List.getElem?_append_right (by omega),Nat.add_sub_cancel_left];exact kJ);have e1:eA {n with x:=((outs [g]).length:Int) - 1,y:=((outs [g,k]).length:Int) - 1} ((outs [g,k]).length:Int)=0:=fg.2 (by have:=h1.nodes (outs [g,k]).length (by simp);simpa using this);rw [aU,if_neg (by simp [h,h']),show [g,k].length=2 from rfl,E,if_neg (by simp [e1]),h1.last];rfl
theorem pC {t:Tr} (h:t.ok) (m:(cm t).length≤200):bT t=cm t∧aN (cm t)=0∧bu (cm t)=t:=⟨if_neg (by omega),aB.2 (rR h m),jK h.wf⟩
structure Mw (f:List NV) (t:Tr):Prop where
  jt:aN f=0
  top:bu f=t
theorem BD {op i:Int} (h:op=9∨op=10) (h1:0≤i) (h2:i<4):eR op i 0 0=0:=by
 rcases h with rfl|rfl;rw [eR,if_neg (by simp [iO,np,jL]),if_neg (by simp [np,jL];omega)];rw [eR,if_neg (by simp [iO,np,jL]),if_neg (by simp [np,jL];omega)]
theorem H4 {op i:Int} {t:Tr} (h:op=9∨op=10) (h1:0≤i) (h2:i<4) (m:t.ok):(Tr.un op i 0 0 t).ok:=⟨by omega,by rcases h with rfl|rfl<;>rfl,by rcases h with rfl|rfl<;>rfl,BD h h1 h2,m⟩
theorem jk {α:Type} {p:α→Prop} {x y:α} (h1:p x) (h2:p y):∀g∈[x,y],p g:=fun g hg=>by
 simp only [List.mem_cons,List.not_mem_nil,or_false] at hg;rcases hg with rfl|rfl;exact h1;exact h2
abbrev kn (op i x:Int):NV:=⟨op,i,0,0,x,0⟩
abbrev im (x y:Int):NV:=⟨7,0,0,0,x,y⟩
section
variable {i x y:Int} {T:Tr}
end
end Go.Proofs.Wit
