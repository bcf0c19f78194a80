/- Laws of walks, for any program, under the conditions that each theorem states. -/
import Derived.Test.YtaamcaiglooemaaGreatDoorXF10
set_option maxRecDepth 100000
set_option maxHeartbeats 4000000
namespace Go.Proofs.Wit
structure LT (o:List NV) (ts:List Tr):Prop where
  nodes:aK o
  tr:trees o=ts
theorem LT.len {o:List NV} {ts:List Tr} (h:LT o ts):ts.length=o.length:=by rw [←h.tr,dc]
theorem LT.can {t:Tr} (h:t.ok):LT (cg t) (eN t):=⟨nN h,nE h.wf⟩
theorem LT.cat {o g:List NV} {ts m:List Tr} (h:LT o ts) (k:LT g m):LT (aZ o g) (ts++m):=⟨yL h.nodes k.nodes,by rw [y6 k.nodes.ord,h.tr,k.tr]⟩
theorem LT.snoc {o:List NV} {ts:List Tr} (h:LT o ts) {n:NV} (m:CL n o.length):LT (o++[n]) (ts++[vu n (ts.getD n.x.toNat lN) (ts.getD n.y.toNat lN)]):=⟨xL h.nodes m,by rw [fS,h.tr]⟩
theorem LT.un {o:List NV} {ts:List Tr} (h:LT o ts) {n:NV} (m:1≤n.op∧n.op≤21) (C:cS n.op=true) (w:cF n.op=false) (hf:eP n.op n.i n.e n.g=0) (hy:n.y=0) {k:Nat} {t:Tr} (hx:n.x=k) (p:ts[k]?=some t):
  LT (o++[n]) (ts++[.un n.op n.i n.e n.g t]):=by
 have hk:=(List.getElem?_eq_some_iff.1 p).1;rw [h.len] at hk;have D:CL n o.length:=⟨m,fun _=>by omega,fun e=>absurd (e.symm.trans C) (by decide),fun e=>absurd (w.symm.trans e) (by decide),fun _=>hy,hf⟩;have:=h.snoc D;rw [ko C w,hx,Int.toNat_natCast,List.getD_eq_getElem?_getD,p] at this;exact this
theorem LT.bin {o:List NV} {ts:List Tr} (h:LT o ts) {n:NV} (m:1≤n.op∧n.op≤21) (p:cF n.op=true) (hf:eP n.op n.i n.e n.g=0) {k l:Nat} {t u:Tr} (hx:n.x=k) (w:ts[k]?=some t) (hy:n.y=l) (hu:ts[l]?=some u):
  LT (o++[n]) (ts++[.bin n.op n.i n.e n.g t u]):=by
 have hk:=(List.getElem?_eq_some_iff.1 w).1;have D:=(List.getElem?_eq_some_iff.1 hu).1;rw [h.len] at hk D;have E:=dI p;have C:CL n o.length:=⟨m,fun _=>by omega,fun e=>absurd (e.symm.trans E) (by decide),fun _=>by omega,fun e=>absurd (e.symm.trans p) (by decide),hf⟩;have:=h.snoc C;rw [iS p,hx,hy,Int.toNat_natCast,Int.toNat_natCast,List.getD_eq_getElem?_getD,w,List.getD_eq_getElem?_getD,hu] at this;exact this
theorem LT.leaf {o:List NV} {ts:List Tr} (h:LT o ts) {n:NV} (m:1≤n.op∧n.op≤21) (p:cS n.op=false) (hf:eP n.op n.i n.e n.g=0) (hx:n.x=0) (hy:n.y=0):
  LT (o++[n]) (ts++[.leaf n.op n.i n.e n.g]):=by
 have C:cF n.op=false:=by
  cases e:cF n.op with
  |false=>rfl
  |true=>exact absurd ((dI e).symm.trans p) (by decide)
 have w:CL n o.length:=⟨m,fun e=>absurd (p.symm.trans e) (by decide),fun _=>hx,fun e=>absurd (C.symm.trans e) (by decide),fun _=>hy,hf⟩;have:=h.snoc w;rw [gq p] at this;exact this
theorem LT.aa {o:List NV} {ts:List Tr} (h:LT o ts) {k:Nat} {t:Tr} (m:ts[k]?=some t):aa o k=t:=by
 rw [Wit.aa,h.tr,List.getD_eq_getElem?_getD,m];rfl
theorem LT.last {o:List NV} {ts:List Tr} {n:NV} {t:Tr} (h:LT (o++[n]) (ts++[t])):Wit.aa (o++[n]) o.length=t:=by
 have m:=h.len;simp at m;exact h.aa (by rw [←m];simp)
theorem kH {t:Tr}:(eN t)[(eN t).length - 1]?=some t:=by
 obtain ⟨l,h⟩:=o9 t;rw [h];simp
theorem qH {op i e g:Int} {a:Tr}:(cg (.un op i e g a)).length=(cg a).length+1:=by
 rw [fW,fW];simp [eN,visit]
theorem zP {op i e g:Int}:(cg (.leaf op i e g)).length=1:=by rw [fW];simp [eN,visit]
def bT (t:Tr):List NV:=if 200<(cg t).length then [] else cg t
theorem ri {g:List NV} (h:aN g=0):LT (outs [g]) (eN (aS g)):=by
 have:LT ([]:List NV) []:=⟨fun i hi=>absurd hi (Nat.not_lt_zero _),rfl⟩;have h2:=this.cat (LT.can (aB.1 h).top);rw [←dG h] at h2;exact h2
theorem AM {g h:List NV} (h1:aN g=0) (h2:aN h=0):LT (outs [g,h]) (eN (aS g)++eN (aS h)):=by
 have:=(ri h1).cat (LT.can (aB.1 h2).top);rw [←dG h2] at this;exact this
theorem Hp {n:NV} (h:1≤n.op∧n.op≤21) (m:cS n.op=false) (hf:eP n.op n.i n.e n.g=0) (hx:n.x=0) (hy:n.y=0):aU n []=bT (.leaf n.op n.i n.e n.g):=by
 have h0:LT ([]:List NV) []:=⟨fun i hi=>absurd hi (Nat.not_lt_zero _),rfl⟩;have h1:=h0.leaf h m hf hx hy;have e1:eg n 0=0:=eY.2 (by have:=h1.nodes 0 (by simp);simpa using this);rw [aU,if_neg (by simp),show outs []=[] from rfl,show fw n [] ([]:List (List NV)).length=n from rfl,show ((([]:List NV).length:Nat):Int)=0 from rfl,if_neg (by simp [e1]),h1.last];rfl
theorem Jr {n:NV} {g:List NV} (h:aN g=0) (m:1≤n.op∧n.op≤21) (w:cS n.op=true) (p:cF n.op=false) (hf:eP n.op n.i n.e n.g=0) (hy:n.y=0):aU n [g]=bT (.un n.op n.i n.e n.g (aS g)):=by
 have h0:=ri h;have D:=h0.len;have hp:0<(eN (aS g)).length:=by rw [←fW];exact jP _
 have C:fw n [g] 1={n with x:=((outs [g]).length:Int) - 1}:=rfl;have h1:=h0.un (n:={n with x:=((outs [g]).length:Int) - 1}) m w p hf hy (k:=(eN (aS g)).length - 1) (by dsimp only;omega) kH;have e1:eg {n with x:=((outs [g]).length:Int) - 1} ((outs [g]).length:Int)=0:=eY.2 (by have:=h1.nodes (outs [g]).length (by simp);simpa using this);rw [aU,if_neg (by simp [h]),show [g].length=1 from rfl,C,if_neg (by simp [e1]),h1.last];rfl
theorem Jq {n:NV} {g k:List NV} (h:aN g=0) (h':aN k=0) (m:1≤n.op∧n.op≤21) (D:cF n.op=true) (hf:eP n.op n.i n.e n.g=0):aU n [g,k]=bT (.bin n.op n.i n.e n.g (aS g) (aS k)):=by
 have h0:=AM h h';have C:=h0.len;have w:=(ri h).len;have hp:0<(eN (aS g)).length:=by rw [←fW];exact jP _
 have p:0<(eN (aS k)).length:=by rw [←fW];exact jP _
 rw [List.length_append] at C;have E:fw n [g,k] 2={n with x:=((outs [g]).length:Int) - 1,y:=((outs [g,k]).length:Int) - 1}:=rfl;have h1:=h0.bin (n:={n with x:=((outs [g]).length:Int) - 1,y:=((outs [g,k]).length:Int) - 1}) m D hf (k:=(eN (aS g)).length - 1) (by dsimp only;omega) (by rw [List.getElem?_append_left (by omega)];exact kH) (l:=(eN (aS g)).length+((eN (aS k)).length - 1)) (by dsimp only;omega) (by rw [List.getElem?_append_right (by omega),Nat.add_sub_cancel_left];exact kH);have e1:eg {n with x:=((outs [g]).length:Int) - 1,y:=((outs [g,k]).length:Int) - 1} ((outs [g,k]).length:Int)=0:=eY.2 (by have:=h1.nodes (outs [g,k]).length (by simp);simpa using this);rw [aU,if_neg (by simp [h,h']),show [g,k].length=2 from rfl,E,if_neg (by simp [e1]),h1.last];rfl
theorem pI {t:Tr} (h:t.ok) (m:(cg t).length≤200):bT t=cg t∧aN (cg t)=0∧aS (cg t)=t:=⟨if_neg (by omega),aB.2 (r9 h m),iH h.wf⟩
structure MM (f:List NV) (t:Tr):Prop where
  jk:aN f=0
  top:aS f=t
theorem BD {op i:Int} (h:op=9∨op=10) (h1:0≤i) (h2:i<4):eP op i 0 0=0:=by
 rcases h with rfl|rfl;rw [eP,if_neg (by simp [iO,nr,jF]),if_neg (by simp [nr,jF];omega)];rw [eP,if_neg (by simp [iO,nr,jF]),if_neg (by simp [nr,jF];omega)]
theorem Ie {op i:Int} {t:Tr} (h:op=9∨op=10) (h1:0≤i) (h2:i<4) (m:t.ok):(Tr.un op i 0 0 t).ok:=⟨by omega,by rcases h with rfl|rfl<;>rfl,by rcases h with rfl|rfl<;>rfl,BD h h1 h2,m⟩
theorem je {α:Type} {p:α→Prop} {x y:α} (h1:p x) (h2:p y):∀g∈[x,y],p g:=fun g hg=>by
 simp only [List.mem_cons,List.not_mem_nil,or_false] at hg;rcases hg with rfl|rfl;exact h1;exact h2
abbrev kn (op i x:Int):NV:=⟨op,i,0,0,x,0⟩
abbrev im (x y:Int):NV:=⟨7,0,0,0,x,y⟩
section
variable {i x y:Int} {T:Tr}
end
end Go.Proofs.Wit
