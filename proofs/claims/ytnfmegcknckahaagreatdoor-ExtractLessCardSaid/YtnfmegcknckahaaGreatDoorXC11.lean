/- Laws of walks, for any program, under the conditions that each theorem states. -/
import Derived.Test.YtnfmegcknckahaaGreatDoorXC09
namespace Go.Proofs.Wit
/-! lists of nodes and their trees; the axioms -/
structure LT (o:List NV) (ts:List Tr):Prop where
  nodes:aZ o
  tr:trees o=ts
theorem LT.len {o:List NV} {ts:List Tr} (h:LT o ts):ts.length=o.length:=by rw [←h.tr,cI]
theorem LT.can {t:Tr} (h:t.ok):LT (cd t) (gu t):=⟨mz h,mh h.wf⟩
theorem LT.cat {o g:List NV} {ts us:List Tr} (h:LT o ts) (k:LT g us):LT (dS o g) (ts++us):=⟨wa h.nodes k.nodes,by rw [wv k.nodes.ord,h.tr,k.tr]⟩
theorem LT.snoc {o:List NV} {ts:List Tr} (h:LT o ts) {n:NV} (hn:Ah n o.length):LT (o++[n]) (ts++[tj n (ts.getD n.x.toNat l8) (ts.getD n.y.toNat l8)]):=⟨vu h.nodes hn,by rw [fy,h.tr]⟩
theorem LT.un {o:List NV} {ts:List Tr} (h:LT o ts) {n:NV} (hop:1≤n.op∧n.op≤21) (hX:cF n.op=true) (hY:cu n.op=false) (hf:fe n.op n.i n.e n.g=0) (hy:n.y=0) {k:Nat} {t:Tr} (hx:n.x=k) (ht:ts[k]?=some t):
  LT (o++[n]) (ts++[.un n.op n.i n.e n.g t]):=by
 have hk:=(List.getElem?_eq_some_iff.1 ht).1
 rw [h.len] at hk
 have hn:Ah n o.length:=⟨hop,fun _=>by omega,fun e=>absurd (e.symm.trans hX) (by decide),fun e=>absurd (hY.symm.trans e) (by decide),fun _=>hy,hf⟩
 have:=h.snoc hn
 rw [jO hX hY,hx,Int.toNat_natCast,List.getD_eq_getElem?_getD,ht] at this
 exact this
theorem LT.bin {o:List NV} {ts:List Tr} (h:LT o ts) {n:NV} (hop:1≤n.op∧n.op≤21) (hY:cu n.op=true) (hf:fe n.op n.i n.e n.g=0) {k l:Nat} {t u:Tr} (hx:n.x=k) (ht:ts[k]?=some t) (hy:n.y=l) (hu:ts[l]?=some u):
  LT (o++[n]) (ts++[.bin n.op n.i n.e n.g t u]):=by
 have hk:=(List.getElem?_eq_some_iff.1 ht).1
 have hl:=(List.getElem?_eq_some_iff.1 hu).1
 rw [h.len] at hk hl
 have hX:=eB hY
 have hn:Ah n o.length:=⟨hop,fun _=>by omega,fun e=>absurd (e.symm.trans hX) (by decide),fun _=>by omega,fun e=>absurd (e.symm.trans hY) (by decide),hf⟩
 have:=h.snoc hn
 rw [ij hY,hx,hy,Int.toNat_natCast,Int.toNat_natCast,List.getD_eq_getElem?_getD,ht,List.getD_eq_getElem?_getD,hu] at this
 exact this
theorem LT.leaf {o:List NV} {ts:List Tr} (h:LT o ts) {n:NV} (hop:1≤n.op∧n.op≤21) (hX:cF n.op=false) (hf:fe n.op n.i n.e n.g=0) (hx:n.x=0) (hy:n.y=0):
  LT (o++[n]) (ts++[.leaf n.op n.i n.e n.g]):=by
 have hY:cu n.op=false:=by
  cases e:cu n.op with
  |false=>rfl
  |true=>exact absurd ((eB e).symm.trans hX) (by decide)
 have hn:Ah n o.length:=⟨hop,fun e=>absurd (hX.symm.trans e) (by decide),fun _=>hx,fun e=>absurd (hY.symm.trans e) (by decide),fun _=>hy,hf⟩
 have:=h.snoc hn
 rw [fQ hX] at this
 exact this
theorem LT.aa {o:List NV} {ts:List Tr} (h:LT o ts) {k:Nat} {t:Tr} (ht:ts[k]?=some t):aa o k=t:=by
 rw [Wit.aa,h.tr,List.getD_eq_getElem?_getD,ht];rfl
theorem LT.last {o:List NV} {ts:List Tr} {n:NV} {t:Tr} (h:LT (o++[n]) (ts++[t])):Wit.aa (o++[n]) o.length=t:=by
 have hl:=h.len
 simp at hl
 exact h.aa (by rw [←hl];simp)
theorem pr {t:Tr}:(gu t)[(gu t).length - 1]?=some t:=by
 obtain ⟨l,hl⟩:=nM t
 rw [hl];simp
theorem sy {op i e g:Int} {a:Tr}:(cd (.un op i e g a)).length=(cd a).length+1:=by
 rw [fU,fU];simp [gu,visit]
def bT (t:Tr):List NV:=if 200<(cd t).length then [] else cd t
theorem pC {g:List NV} (h:aV g=0):LT (outs [g]) (gu (bj g)):=by
 have:LT ([]:List NV) []:=⟨fun i hi=>absurd hi (Nat.not_lt_zero _),rfl⟩
 have h2:=this.cat (LT.can (aE.1 h).top)
 rw [←dv h] at h2
 exact h2
theorem ys {g h:List NV} (h1:aV g=0) (h2:aV h=0):LT (outs [g,h]) (gu (bj g)++gu (bj h)):=by
 have:=(pC h1).cat (LT.can (aE.1 h2).top)
 rw [←dv h2] at this
 exact this
theorem Eh {n:NV} (hop:1≤n.op∧n.op≤21) (hX:cF n.op=false) (hf:fe n.op n.i n.e n.g=0) (hx:n.x=0) (hy:n.y=0):aR n []=bT (.leaf n.op n.i n.e n.g):=by
 have h0:LT ([]:List NV) []:=⟨fun i hi=>absurd hi (Nat.not_lt_zero _),rfl⟩
 have h1:=h0.leaf hop hX hf hx hy
 have e1:aL n 0=0:=gZ.2 (by have:=h1.nodes 0 (by simp);simpa using this)
 rw [aR,if_neg (by simp),show outs []=[] from rfl,show eT n [] ([]:List (List NV)).length=n from rfl,show ((([]:List NV).length:Nat):Int)=0 from rfl,if_neg (by simp [e1]),h1.last]
 rfl
theorem Ge {n:NV} {g:List NV} (h:aV g=0) (hop:1≤n.op∧n.op≤21) (hX:cF n.op=true) (hY:cu n.op=false) (hf:fe n.op n.i n.e n.g=0) (hy:n.y=0):aR n [g]=bT (.un n.op n.i n.e n.g (bj g)):=by
 have h0:=pC h
 have hl:=h0.len
 have hp:0<(gu (bj g)).length:=by rw [←fU];exact jk _
 have hK:eT n [g] 1={n with x:=((outs [g]).length:Int) - 1}:=rfl
 have h1:=h0.un (n:={n with x:=((outs [g]).length:Int) - 1}) hop hX hY hf hy (k:=(gu (bj g)).length - 1) (by dsimp only;omega) pr
 have e1:aL {n with x:=((outs [g]).length:Int) - 1} ((outs [g]).length:Int)=0:=gZ.2 (by have:=h1.nodes (outs [g]).length (by simp);simpa using this)
 rw [aR,if_neg (by simp [h]),show [g].length=1 from rfl,hK,if_neg (by simp [e1]),h1.last]
 rfl
theorem Gd {n:NV} {g k:List NV} (h:aV g=0) (h':aV k=0) (hop:1≤n.op∧n.op≤21) (hY:cu n.op=true) (hf:fe n.op n.i n.e n.g=0):aR n [g,k]=bT (.bin n.op n.i n.e n.g (bj g) (bj k)):=by
 have h0:=ys h h'
 have hl:=h0.len
 have hl1:=(pC h).len
 have hp:0<(gu (bj g)).length:=by rw [←fU];exact jk _
 have hp2:0<(gu (bj k)).length:=by rw [←fU];exact jk _
 rw [List.length_append] at hl
 have hK:eT n [g,k] 2={n with x:=((outs [g]).length:Int) - 1,y:=((outs [g,k]).length:Int) - 1}:=rfl
 have h1:=h0.bin (n:={n with x:=((outs [g]).length:Int) - 1,y:=((outs [g,k]).length:Int) - 1}) hop hY hf (k:=(gu (bj g)).length - 1) (by dsimp only;omega) (by rw [List.getElem?_append_left (by omega)];exact pr) (l:=(gu (bj g)).length+((gu (bj k)).length - 1)) (by dsimp only;omega) (by rw [List.getElem?_append_right (by omega),Nat.add_sub_cancel_left];exact pr)
 have e1:aL {n with x:=((outs [g]).length:Int) - 1,y:=((outs [g,k]).length:Int) - 1} ((outs [g,k]).length:Int)=0:=gZ.2 (by have:=h1.nodes (outs [g,k]).length (by simp);simpa using this)
 rw [aR,if_neg (by simp [h,h']),show [g,k].length=2 from rfl,hK,if_neg (by simp [e1]),h1.last]
 rfl
theorem oe {t:Tr} (h:t.ok) (hl:(cd t).length≤200):bT t=cd t∧aV (cd t)=0∧bj (cd t)=t:=⟨if_neg (by omega),aE.2 (ql h hl),iX h.wf⟩
structure Jj (f:List NV) (t:Tr):Prop where
  jH:aV f=0
  top:bj f=t
theorem D6 {op i:Int} (h:op=9∨op=10) (h1:0≤i) (h2:i<4):fe op i 0 0=0:=by
 rcases h with rfl|rfl
 ·rw [fe,if_neg (by simp [iO,o9,lU]),if_neg (by simp [o9,lU];omega)]
 rw [fe,if_neg (by simp [iO,o9,lU]),if_neg (by simp [o9,lU];omega)]
theorem EY {op i:Int} {t:Tr} (h:op=9∨op=10) (h1:0≤i) (h2:i<4) (ht:t.ok):(Tr.un op i 0 0 t).ok:=⟨by omega,by rcases h with rfl|rfl<;>rfl,by rcases h with rfl|rfl<;>rfl,D6 h h1 h2,ht⟩
theorem iB {α:Type} {p:α→Prop} {x y:α} (h1:p x) (h2:p y):∀g∈[x,y],p g:=fun g hg=>by
 simp only [List.mem_cons,List.not_mem_nil,or_false] at hg
 rcases hg with rfl|rfl
 ·exact h1
 exact h2
/-! the lists that the reference makes -/
abbrev kn (op i x:Int):NV:=⟨op,i,0,0,x,0⟩
abbrev im (x y:Int):NV:=⟨7,0,0,0,x,y⟩
section
variable {i x y:Int} {T:Tr}
end
end Go.Proofs.Wit
