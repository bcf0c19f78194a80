/- Laws of walks, for any program, under the conditions that each theorem states. -/
import Derived.Test.YtnfmegcknckahaaGreatDoorXO09
namespace Go.Proofs.Wit
structure LT (o:List NV) (ts:List Tr):Prop where
  nodes:bd o
  tr:trees o=ts
theorem LT.len {o:List NV} {ts:List Tr} (h:LT o ts):ts.length=o.length:=by rw [←h.tr,cH]
theorem LT.can {t:Tr} (h:t.ok):LT (bS t) (gl t):=⟨ml h,l0 h.wf⟩
theorem LT.cat {o g:List NV} {ts us:List Tr} (h:LT o ts) (k:LT g us):LT (dP o g) (ts++us):=⟨vU h.nodes k.nodes,by rw [wb k.nodes.ord,h.tr,k.tr]⟩
theorem LT.snoc {o:List NV} {ts:List Tr} (h:LT o ts) {n:NV} (hn:zW n o.length):LT (o++[n]) (ts++[sY n (ts.getD n.x.toNat lV) (ts.getD n.y.toNat lV)]):=⟨vh h.nodes hn,by rw [fi,h.tr]⟩
theorem LT.un {o:List NV} {ts:List Tr} (h:LT o ts) {n:NV} (hop:1≤n.op∧n.op≤21) (hX:cF n.op=true) (hY:cm n.op=false) (hf:eX n.op n.i n.e n.g=0) (hy:n.y=0) {k:Nat} {t:Tr} (hx:n.x=k) (ht:ts[k]?=some t):
  LT (o++[n]) (ts++[.un n.op n.i n.e n.g t]):=by
 have hk:=(List.getElem?_eq_some_iff.1 ht).1
 rw [h.len] at hk
 have hn:zW n o.length:=⟨hop,fun _=>by omega,fun e=>absurd (e.symm.trans hX) (by decide),fun e=>absurd (hY.symm.trans e) (by decide),fun _=>hy,hf⟩
 have:=h.snoc hn
 rw [jN hX hY,hx,Int.toNat_natCast,List.getD_eq_getElem?_getD,ht] at this
 exact this
theorem LT.bin {o:List NV} {ts:List Tr} (h:LT o ts) {n:NV} (hop:1≤n.op∧n.op≤21) (hY:cm n.op=true) (hf:eX n.op n.i n.e n.g=0) {k l:Nat} {t u:Tr} (hx:n.x=k) (ht:ts[k]?=some t) (hy:n.y=l) (hu:ts[l]?=some u):
  LT (o++[n]) (ts++[.bin n.op n.i n.e n.g t u]):=by
 have hk:=(List.getElem?_eq_some_iff.1 ht).1
 have hl:=(List.getElem?_eq_some_iff.1 hu).1
 rw [h.len] at hk hl
 have hX:=ep hY
 have hn:zW n o.length:=⟨hop,fun _=>by omega,fun e=>absurd (e.symm.trans hX) (by decide),fun _=>by omega,fun e=>absurd (e.symm.trans hY) (by decide),hf⟩
 have:=h.snoc hn
 rw [ie hY,hx,hy,Int.toNat_natCast,Int.toNat_natCast,List.getD_eq_getElem?_getD,ht,List.getD_eq_getElem?_getD,hu] at this
 exact this
theorem LT.leaf {o:List NV} {ts:List Tr} (h:LT o ts) {n:NV} (hop:1≤n.op∧n.op≤21) (hX:cF n.op=false) (hf:eX n.op n.i n.e n.g=0) (hx:n.x=0) (hy:n.y=0):
  LT (o++[n]) (ts++[.leaf n.op n.i n.e n.g]):=by
 have hY:cm n.op=false:=by
  cases e:cm n.op with
  |false=>rfl
  |true=>exact absurd ((ep e).symm.trans hX) (by decide)
 have hn:zW n o.length:=⟨hop,fun e=>absurd (hX.symm.trans e) (by decide),fun _=>hx,fun e=>absurd (hY.symm.trans e) (by decide),fun _=>hy,hf⟩
 have:=h.snoc hn
 rw [fO hX] at this
 exact this
theorem LT.aa {o:List NV} {ts:List Tr} (h:LT o ts) {k:Nat} {t:Tr} (ht:ts[k]?=some t):aa o k=t:=by
 rw [Wit.aa,h.tr,List.getD_eq_getElem?_getD,ht];rfl
theorem LT.last {o:List NV} {ts:List Tr} {n:NV} {t:Tr} (h:LT (o++[n]) (ts++[t])):Wit.aa (o++[n]) o.length=t:=by
 have hl:=h.len
 simp at hl
 exact h.aa (by rw [←hl];simp)
theorem pk {t:Tr}:(gl t)[(gl t).length - 1]?=some t:=by
 obtain ⟨l,hl⟩:=nJ t
 rw [hl];simp
theorem sg {op i e g:Int} {a:Tr}:(bS (.un op i e g a)).length=(bS a).length+1:=by
 rw [fT,fT];simp [gl,visit]
def bT (t:Tr):List NV:=if 200<(bS t).length then [] else bS t
theorem pA {g:List NV} (h:aV g=0):LT (outs [g]) (gl (aO g)):=by
 have:LT ([]:List NV) []:=⟨fun i hi=>absurd hi (Nat.not_lt_zero _),rfl⟩
 have h2:=this.cat (LT.can (aA.1 h).top)
 rw [←dt h] at h2
 exact h2
theorem yb {g h:List NV} (h1:aV g=0) (h2:aV h=0):LT (outs [g,h]) (gl (aO g)++gl (aO h)):=by
 have:=(pA h1).cat (LT.can (aA.1 h2).top)
 rw [←dt h2] at this
 exact this
theorem D1 {n:NV} (hop:1≤n.op∧n.op≤21) (hX:cF n.op=false) (hf:eX n.op n.i n.e n.g=0) (hx:n.x=0) (hy:n.y=0):aQ n []=bT (.leaf n.op n.i n.e n.g):=by
 have h0:LT ([]:List NV) []:=⟨fun i hi=>absurd hi (Nat.not_lt_zero _),rfl⟩
 have h1:=h0.leaf hop hX hf hx hy
 have e1:aK n 0=0:=gW.2 (by have:=h1.nodes 0 (by simp);simpa using this)
 rw [aQ,if_neg (by simp),show outs []=[] from rfl,show eS n [] ([]:List (List NV)).length=n from rfl,show ((([]:List NV).length:Nat):Int)=0 from rfl,if_neg (by simp [e1]),h1.last]
 rfl
theorem D0 {n:NV} {g:List NV} (h:aV g=0) (hop:1≤n.op∧n.op≤21) (hX:cF n.op=true) (hY:cm n.op=false) (hf:eX n.op n.i n.e n.g=0) (hy:n.y=0):aQ n [g]=bT (.un n.op n.i n.e n.g (aO g)):=by
 have h0:=pA h
 have hl:=h0.len
 have hp:0<(gl (aO g)).length:=by rw [←fT];exact jf _
 have hK:eS n [g] 1={n with x:=((outs [g]).length:Int) - 1}:=rfl
 have h1:=h0.un (n:={n with x:=((outs [g]).length:Int) - 1}) hop hX hY hf hy (k:=(gl (aO g)).length - 1) (by dsimp only;omega) pk
 have e1:aK {n with x:=((outs [g]).length:Int) - 1} ((outs [g]).length:Int)=0:=gW.2 (by have:=h1.nodes (outs [g]).length (by simp);simpa using this)
 rw [aQ,if_neg (by simp [h]),show [g].length=1 from rfl,hK,if_neg (by simp [e1]),h1.last]
 rfl
theorem BI {n:NV} {g k:List NV} (h:aV g=0) (h':aV k=0) (hop:1≤n.op∧n.op≤21) (hY:cm n.op=true) (hf:eX n.op n.i n.e n.g=0):aQ n [g,k]=bT (.bin n.op n.i n.e n.g (aO g) (aO k)):=by
 have h0:=yb h h'
 have hl:=h0.len
 have hl1:=(pA h).len
 have hp:0<(gl (aO g)).length:=by rw [←fT];exact jf _
 have hp2:0<(gl (aO k)).length:=by rw [←fT];exact jf _
 rw [List.length_append] at hl
 have hK:eS n [g,k] 2={n with x:=((outs [g]).length:Int) - 1,y:=((outs [g,k]).length:Int) - 1}:=rfl
 have h1:=h0.bin (n:={n with x:=((outs [g]).length:Int) - 1,y:=((outs [g,k]).length:Int) - 1}) hop hY hf (k:=(gl (aO g)).length - 1) (by dsimp only;omega) (by rw [List.getElem?_append_left (by omega)];exact pk) (l:=(gl (aO g)).length+((gl (aO k)).length - 1)) (by dsimp only;omega) (by rw [List.getElem?_append_right (by omega),Nat.add_sub_cancel_left];exact pk)
 have e1:aK {n with x:=((outs [g]).length:Int) - 1,y:=((outs [g,k]).length:Int) - 1} ((outs [g,k]).length:Int)=0:=gW.2 (by have:=h1.nodes (outs [g,k]).length (by simp);simpa using this)
 rw [aQ,if_neg (by simp [h,h']),show [g,k].length=2 from rfl,hK,if_neg (by simp [e1]),h1.last]
 rfl
theorem oe {t:Tr} (h:t.ok) (hl:(bS t).length≤200):bT t=bS t∧aV (bS t)=0∧aO (bS t)=t:=⟨if_neg (by omega),aA.2 (qe h hl),iV h.wf⟩
structure I6 (f:List NV) (t:Tr):Prop where
  iY:aV f=0
  top:aO f=t
theorem DO {op i:Int} (h:op=9∨op=10) (h1:0≤i) (h2:i<4):eX op i 0 0=0:=by
 rcases h with rfl|rfl
 ·rw [eX,if_neg (by simp [iO,o8,lN]),if_neg (by simp [o8,lN];omega)]
 rw [eX,if_neg (by simp [iO,o8,lN]),if_neg (by simp [o8,lN];omega)]
theorem EI {op i:Int} {t:Tr} (h:op=9∨op=10) (h1:0≤i) (h2:i<4) (ht:t.ok):(Tr.un op i 0 0 t).ok:=⟨by omega,by rcases h with rfl|rfl<;>rfl,by rcases h with rfl|rfl<;>rfl,DO h h1 h2,ht⟩
theorem iz {α:Type} {p:α→Prop} {x y:α} (h1:p x) (h2:p y):∀g∈[x,y],p g:=fun g hg=>by
 simp only [List.mem_cons,List.not_mem_nil,or_false] at hg
 rcases hg with rfl|rfl
 ·exact h1
 exact h2
abbrev kn (op i x:Int):NV:=⟨op,i,0,0,x,0⟩
abbrev im (x y:Int):NV:=⟨7,0,0,0,x,y⟩
section
variable {i x y:Int} {T:Tr}
end
end Go.Proofs.Wit
