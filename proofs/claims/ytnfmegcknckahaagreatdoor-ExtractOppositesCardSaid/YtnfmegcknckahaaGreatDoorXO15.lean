/- Laws of walks, for any program, under the conditions that each theorem states. -/
import Derived.Test.YtnfmegcknckahaaGreatDoorXO13
import Derived.Test.YtnfmegcknckahaaGreatDoorXO03
import Derived.Test.YtnfmegcknckahaaGreatDoorXO02
namespace Go.Proofs.Wit
structure I8 (n:Nat) (P:List Int) (s:ax):Prop where
  len:P.length=n
  ok:IE P
  inv:IK n P s
section
variable {m:Int} {n:Nat} {val:List ax} {rel:List (List ax)} {t:Tr}
end
structure IL (c:List NV) (k:Nat) (gs:List Int):Prop where
  has:∀(i:Nat) (hi:i<c.length),i<k→c[i].op=12→c[i].g∈gs
  of:∀g∈gs,∃n∈c,n.op=12∧n.g=g
  nd:gs.Nodup
end Go.Proofs.Wit
namespace Go.Proofs.Wit
open Go
def fst (q:Nat→Bool):Nat→Option Nat
 |0=>none
 |k+1=>match fst q k with
  |some j=>some j
  |none=>if q k=true then some k else none
def Ir (n:Nat) (val:List ax) (rel:List (List ax)) (v w k:Nat):Bool:=(E2 n val rel k).getD v 0 !=(E2 n val rel k).getD w 0
def dst (n:Nat) (val:List ax) (rel:List (List ax)) (v w:Nat):Option Nat:=fst (Ir n val rel v w) (dep n val rel+1)
section
variable {n:Nat} {val:List ax} {rel:List (List ax)}
end
end Go.Proofs.Wit
namespace Go.Proofs.Wit
open Go
section
variable {n:Nat} {val:List ax} {rel:List (List ax)}
def ID (A B:Nat) (t:Tr):Prop:=jQ (fun op i g=>F8 A B op i g∧op≤10) t
structure FZ (n:Nat) (val:List ax) (rel:List (List ax)) (v w k:Nat) (t:Tr):Prop where
  ok:t.ok
  pl:ID rel.length val.length t
  yes:(xR n val rel t).getLsbD v=true
  no:(xR n val rel t).getLsbD w=false
  dp:Bu t≤k
end
end Go.Proofs.Wit
namespace Go.Proofs.Wit
open Go
/-- with a tree its parts -/
def KC (U:List Tr):Prop:=∀t∈U,∀c∈kids t,c∈U
abbrev Mm:=List ((Int×Int)×FV)
section
variable {n:Nat} {val:List ax} {rel:List (List ax)}
def Fo (n:Nat) (val:List ax) (rel:List (List ax)) (v w k:Nat) (f:List NV):Prop:=(f=[]∧5<n)∨∃t,FZ n val rel v w k t∧f=bT t∧f≠[]
structure Iu (U:List Tr) (L:Mm):Prop where
  kc:KC U
  top:Tr.leaf 1 0 0 0∈U
  Il:∀e∈L,∀t,t.ok→e.2.f=bT t→e.2.f≠[]→t∈U
structure Hr (n:Nat) (val:List ax) (rel:List (List ax)) (L:Mm):Prop where
  nd:(L.map (·.1)).Nodup
  Il:∀e∈L,∃v w k:Nat,e.1=((v:Int),(w:Int))∧v<n∧w<n∧dst n val rel v w=some k∧Fo n val rel v w k e.2.f
  IS:n≤5→∃U,Iu U L∧U.length≤6*L.length+1
end
end Go.Proofs.Wit
namespace Go.Proofs.Wit
abbrev Hn:=Int→Int→Int→Int→Tr→Tr→Tr
def jT:Hn:=fun op i e g a b=>sY ⟨op,i,e,g,0,0⟩ a b
theorem xz {op:Int} (h:cF op=false):cm op=false:=by
 cases e:cm op with
 |false=>rfl
 |true=>exact absurd ((ep e).symm.trans h) (by decide)
theorem Ck {t:Tr}:bT t≠[]↔(bS t).length≤200:=by rw [Ne,uZ];omega
def cT (o:Int):Tr:=.leaf o 0 0 0
def nE:Tr→Int→Bool
 |.leaf op _ _ _,o=>op==o
 |_,_=>false
def ud:Tr→Option Tr
 |.un op _ _ _ a=>if op=4 then some a else none
 |_=>none
def aE (t:Tr):Tr:=.un 4 0 0 0 t
def AY (t:Tr):Tr:=(ud t).getD (aE t)
def E7 (a b:Tr):Bool:=ud a==some b||ud b==some a
def yK (op i e g:Int) (a b:Tr) (ne dm:Int):Tr:=
 if (nE a dm||nE b dm||(E7 a b && !nE a ne && !nE b ne))=true then cT dm
 else if nE a ne=true then b else if (nE b ne||a==b)=true then a else jT op i e g a b
def bX (a b:Tr):Tr:=
 if (nE a 2||nE b 1||a==b)=true then cT 1 else if nE a 1=true then b else if nE b 2=true then AY a else jT 7 0 0 0 a b
def GW (a b:Tr):Tr:=
 if (a==b)=true then cT 1 else if E7 a b=true then cT 2 else if nE a 1=true then b else if nE b 1=true then a
 else if nE a 2=true then AY b else if nE b 2=true then AY a else jT 8 0 0 0 a b
def Gx:Hn:=fun op i e g a b=>
 if op=4 then (if nE a 1=true then cT 2 else if nE a 2=true then cT 1 else AY a)
 else if op=5 then yK op i e g a b 1 2
 else if op=6 then yK op i e g a b 2 1
 else if op=7 then bX a b
 else if op=8 then GW a b
 else if op=10 then (if nE a 2=true then cT 2 else jT op i e g a b)
 else if op=16 then (if (nE a 1 && !nE b 1)=true then b else if (nE a 2||nE b 1)=true then cT 1 else jT op i e g a b)
 else if op=13∨op=14 then (if (nE a 2||nE b 1)=true then cT 1 else jT op i e g a b)
 else if op=9∨op=11∨op=12∨op=15∨op=17 then (if nE a 1=true then cT 1 else jT op i e g a b)
 else jT op i e g a b
theorem Ci {o:Int} (h:o=1∨o=2):(cT o).ok:=by rcases h with rfl|rfl<;>exact ⟨by decide,rfl,rfl⟩
theorem ur {t:Tr} (h:t.ok):(aE t).ok:=⟨by decide,rfl,rfl,rfl,h⟩
inductive sq (op i e g:Int) (a b:Tr):Tr→Prop
  |c1:sq op i e g a b (cT 1)
  |c2:sq op i e g a b (cT 2)
  |a (h:cF op=true):sq op i e g a b a
  |b (h:cm op=true):sq op i e g a b b
  |sa (h:cF op=true) (c:Tr) (h:ud a=some c):sq op i e g a b c
  |sb (h:cm op=true) (c:Tr) (h:ud b=some c):sq op i e g a b c
  |na (h:cF op=true) (h0:ud a=none) (h1:nE a 1=false) (h2:nE a 2=false):sq op i e g a b (aE a)
  |nb (h:cm op=true) (h0:ud b=none) (h1:nE b 1=false) (h2:nE b 2=false):sq op i e g a b (aE b)
  |mk (h:Gx op i e g a b=jT op i e g a b):sq op i e g a b (jT op i e g a b)
end Go.Proofs.Wit
namespace Go.Proofs.Wit
open Go Go.RowKit
structure IV where
  a:Option Addr
  c:Nat
  xs:List Int
def IV.v (x:IV):Value:=.slice x.a x.xs.length x.c
abbrev Fg (m:MV) (mD:Nat) (pa:Option Addr) (pl pc:Nat):Array Value:=#[.int .i64 m.n,.slice m.va m.val.length m.vc,.slice m.ra m.rows.length m.rc,.map (some mD),.slice pa pl pc]
structure II (e:TypeId) (w:World) (mD bk:Nat) (m:MV) (pa:Option Addr) (pc:Nat) (ps:List IV):Prop where
  dg:w.heap[bk]?=some (.cells (Fg m mD pa ps.length pc) e (0,0))
  mod:m.At w
  pre:Sl w pa (ps.map IV.v)
  row:∀p∈ps,jU w p.a p.xs
def FV.In (t:TypeId) (H:Hl) (x:FV):Prop:=∃q sp,(q,eO t x.f sp)∈H∧x.a=q.map (fun b=>⟨b,0,none⟩)∧(q=none→x.f.length=0∧x.c=0)∧(x.f.flatMap NV.cells++sp).length=x.c*6
theorem FV.In.mono {t:TypeId} {H H':Hl} {x:FV} (h:x.In t H) (hs:H⊆H'):x.In t H':=by
 obtain ⟨q,sp,h1,h2⟩:=h;exact ⟨q,sp,hs h1,h2⟩
theorem FV.In.at {t:TypeId} {w0 w:World} {S:List Nat} {h:Hl} {Y:List (Nat×Obj)} {x:FV} (g:x.In t h) (s:St w0 S w h Y):FA w x.a x.f:=by
 obtain ⟨q,sp,h1,h2,h3,_⟩:=g
 obtain ⟨j,hj⟩:=List.mem_iff_getElem?.1 h1
 rw [h2]
 exact aL s j hj (fun e=>(h3 e).1)
theorem FV.In.own {t:TypeId} {w0 w:World} {h:Hl} {Y:List (Nat×Obj)} {x:FV} (g:x.In t h) (s:St w0 [] w h Y):aI t w0 w x.v x.f:=by
 obtain ⟨q,sp,h1,h2,h3,h4⟩:=g
 refine ⟨q,x.c,sp,?_,h3,h4,fun b e=>?_⟩
 ·cases q with
  |none=>rw [FV.v,h2];rfl
  |some b=>rw [FV.v,h2];rfl
 obtain ⟨k1,_,k2⟩:=s.own _ h1 b e
 exact ⟨k2.resolve_right (by simp),k1⟩
end Go.Proofs.Wit
namespace Go.Proofs.Wit
open Go Go.RowKit
theorem Ex.FO {w w':World} {S:List Nat} (e:Ex S w w') {b j:Nat} (hb:b∉S) {cs:Array Value} {t:TypeId} {fr:Nat×Nat} {v:Value} (h:w.heap[b]?=some (.cells cs t fr)) (hv:cs[j]?=some v):w'.cell? ⟨b,j,none⟩=some v:=by
 have h1:=e.block b (Array.getElem?_eq_some_iff.1 h).1 hb
 rw [h] at h1
 unfold World.cell?
 simp only [h1]
 exact hv
section
variable {P:Program} {t:TypeId} {x y:ax}
end
end Go.Proofs.Wit
namespace Go.Proofs.Wit
open Go Go.RowKit
structure IM (t:TypeId) (n:Nat) (val:List ax) (rel:List (List ax)) (d:Nat) (L L':Mm) (F:Hl):Prop where
  kv:Hr n val rel L'
  sub:L⊆L'
  nw:∀e∈L',e∈L∨∃a b i:Nat,e.1=((a:Int),(b:Int))∧dst n val rel a b=some i∧i<d
  at_:∀e∈L',e∈L∨e.2.In t F
section
variable {t:TypeId} {n:Nat} {val:List ax} {rel:List (List ax)}
end
theorem St.fD {w0 w w':World} {S:List Nat} {h:Hl} {Y:List (Nat×Obj)} (s:St w0 S w h Y) (e:Ex [] w w') {pre HR:Hl} (g:gm w w' (pre++HR)):St w0 S w' (pre++(h++HR)) Y:=by
 refine (s.eU e g).perm ?_
 rw [List.append_assoc]
 exact List.perm_append_comm.append_left pre
theorem ab.mK {P:Program} {r:Option Nat} {f:FuncId} {R:Value→World→Prop} {w0:World} {S:List Nat} {Y:List (Nat×Obj)} {n:Nat} {k:List Item} {l:Fl} {h h':Hl} (hp:h.Perm h') (hg:ab P r f R w0 S Y n k l h'):ab P r f R w0 S Y n k l h:=fun t w Ds hF hS=>hg t w Ds hF (hS.perm hp)
end Go.Proofs.Wit
namespace Go.Proofs.Wit
open Go Go.RowKit
theorem sZ {op i e g:Int} {a b:Tr} (hX:cF op=false):jT op i e g a b=.leaf op i e g:=fO (n:=⟨op,i,e,g,0,0⟩) hX
theorem yy {op i e g:Int} {a b:Tr} (hX:cF op=true) (hY:cm op=false):jT op i e g a b=.un op i e g a:=jN (n:=⟨op,i,e,g,0,0⟩) hX hY
theorem vB {op i e g:Int} {a b:Tr} (hY:cm op=true):jT op i e g a b=.bin op i e g a b:=ie (n:=⟨op,i,e,g,0,0⟩) hY
theorem nG {op:Int} (h:1≤op∧op≤21):op=1∨op=2∨op=3∨op=4∨op=5∨op=6∨op=7∨op=8∨op=9∨op=10∨op=11∨op=12∨op=13∨op=14∨op=15∨op=16∨op=17∨op=18∨op=19∨op=20∨op=21:=by omega
def Cu (w:World) (u:Bool) (x:FV) (t:Tr):Prop:=u=true→FA w x.a x.f∧x.f=bT t∧t.ok
theorem Cu.len {w:World} {u:Bool} {x:FV} {t:Tr} (h:Cu w u x t) (hu:u=true):x.f.length≤maxLen:=by
 rw [(h hu).2.1];have:=Cl t;unfold maxLen;omega
theorem zt {op i e g i' e' g':Int} {a b:Tr} (hop:1≤op∧op≤21) (hX:cF op=false) (hf:eX op i e g=0) (hi:i'=i) (he:e'=e) (hg:g'=g):aQ ⟨op,i',e',g',0,0⟩ []=bT (jT op i e g a b):=by
 subst hi he hg
 rw [sZ hX];exact D1 (n:=⟨op,_,_,_,0,0⟩) hop hX hf rfl rfl
theorem nk {op i e g i' e' g':Int} {a b:Tr} {f:List NV} (hop:1≤op∧op≤21) (hX:cF op=true) (hY:cm op=false) (hf:eX op i e g=0) (hi:i'=i) (he:e'=e) (hg:g'=g) (h:f=bT a∧a.ok):aQ ⟨op,i',e',g',0,0⟩ [f]=bT (jT op i e g a b):=by
 subst hi he hg
 rw [yy hX hY,h.1];exact ji h.2 hop hX hY hf
theorem nj {op i e g i' e' g':Int} {a b:Tr} {f k:List NV} (hop:1≤op∧op≤21) (hY:cm op=true) (hf:eX op i e g=0) (hi:i'=i) (he:e'=e) (hg:g'=g) (h:f=bT a∧a.ok) (h':k=bT b∧b.ok):aQ ⟨op,i',e',g',0,0⟩ [f,k]=bT (jT op i e g a b):=by
 subst hi he hg
 rw [vB hY,h.1,h'.1];exact dx h.2 h'.2 hop hY hf
abbrev FV.z:FV:=⟨none,0,[]⟩
def Ix (t:TypeId) (w w':World) (v:Value) (a b:FV) (u:Tr):Prop:=∃fv:FV,v=fv.v∧fv.f=bT u∧(aI t w w' v fv.f∨fv=a∨fv=b)
structure Iy (P:Program) (t:TypeId) (r:Hn) (gf:FuncId) (cs:List Value) (w0:World):Prop where
  enter:∀args w,(callFunc gf args).run P w=.ok (.enter gf args) w
  run:∀w,Ex [] w0 w→∀(n:NV) (a b:FV) (ta tb:Tr),(1≤n.op∧n.op≤21)→eX n.op n.i n.e n.g=0→Cu w (cF n.op) a ta→Cu w (cm n.op) b tb→(cF n.op=true→a.f≠[])→(cm n.op=true→b.f≠[])→Cn P gf ([n.v,a.v,b.v]++cs) w (fun v w'=>Ix t w w' v a b (r n.op n.i n.e n.g ta tb))
/-- of a formula, and of its negation -/
def aN:Tr→Tr×Tr
 |.leaf op i e g=>(.leaf op i e g,if op=1 then cT 2 else if op=2 then cT 1 else aE (.leaf op i e g))
 |.un op i e g a=>
  if op=4 then ((aN a).2,(aN a).1)
  else if op=9 then (.un op i e g (aN a).1,.un 10 i 0 0 (aN a).2)
  else if op=10 then (.un op i e g (aN a).1,.un 9 i 0 0 (aN a).2)
  else (.un op i e g (aN a).1,aE (.un op i e g (aN a).1))
 |.bin op i e g a b=>
  if op=5 then (.bin op i e g (aN a).1 (aN b).1,.bin 6 0 0 0 (aN a).2 (aN b).2)
  else if op=6 then (.bin op i e g (aN a).1 (aN b).1,.bin 5 0 0 0 (aN a).2 (aN b).2)
  else if op=7 then (.bin 6 0 0 0 (aN a).2 (aN b).1,.bin 5 0 0 0 (aN a).1 (aN b).2)
  else if op=8 then (.bin 5 0 0 0 (.bin 6 0 0 0 (aN a).2 (aN b).1) (.bin 6 0 0 0 (aN a).1 (aN b).2),.bin 6 0 0 0 (.bin 5 0 0 0 (aN a).1 (aN b).2) (.bin 5 0 0 0 (aN a).2 (aN b).1))
  else (.bin op i e g (aN a).1 (aN b).1,aE (.bin op i e g (aN a).1 (aN b).1))
theorem jD {a b:Tr} (ha:a.ok) (hb:b.ok):(Tr.bin 6 0 0 0 a b).ok:=⟨by omega,rfl,rfl,ha,hb⟩
theorem gX {op i:Int} {a:Tr} (ho:op=9∨op=10) (hi:0≤i∧i<4) (ha:a.ok):(Tr.un op i 0 0 a).ok:=EI ho hi.1 hi.2 ha
theorem k0:∀{t:Tr},t.ok→(aN t).1.ok∧(aN t).2.ok
 |.leaf op i e g,h=>by
  rw [aN]
  refine ⟨h,?_⟩
  dsimp only
  split
  ·exact Ci (.inr rfl)
  split
  ·exact Ci (.inl rfl)
  exact ur h
 |.un op i e g a,h=>by
  obtain ⟨h1,h2⟩:=k0 h.2.2.2.2
  have hme:(Tr.un op i e g (aN a).1).ok:=⟨h.1,h.2.1,h.2.2.1,h.2.2.2.1,h1⟩
  rw [aN]
  split
  ·exact ⟨h2,h1⟩
  split
  ·rename_i h9;subst h9
   exact ⟨hme,gX (.inr rfl) ((gx h.2.2.2.1).ag rfl) h2⟩
  split
  ·rename_i h9;subst h9
   exact ⟨hme,gX (.inl rfl) ((gx h.2.2.2.1).ag rfl) h2⟩
  exact ⟨hme,ur hme⟩
 |.bin op i e g a b,h=>by
  obtain ⟨h1,h2⟩:=k0 h.2.2.2.1
  obtain ⟨k1,k2⟩:=k0 h.2.2.2.2
  have hme:(Tr.bin op i e g (aN a).1 (aN b).1).ok:=⟨h.1,h.2.1,h.2.2.1,h1,k1⟩
  rw [aN]
  split
  ·exact ⟨hme,jD h2 k2⟩
  split
  ·exact ⟨hme,jm h2 k2⟩
  split
  ·exact ⟨jD h2 k1,jm h1 k2⟩
  split
  ·exact ⟨jm (jD h2 k1) (jD h1 k2),jD (jm h1 k2) (jm h2 k1)⟩
  exact ⟨hme,ur hme⟩
end Go.Proofs.Wit
namespace Go.Proofs.Wit
open Go Go.RowKit
theorem zq {s t:Tr} (hs:s.ok) (ht:t.ok) (h:bS s=bS t):s=t:=by rw [←iV hs.wf,h,iV ht.wf]
def fC:Tr→Int
 |.leaf op _ _ _=>op
 |.un op _ _ _ _=>op
 |.bin op _ _ _ _ _=>op
theorem w5 {t:Tr} (h:t.ok):aa (bS t) ((bS t).length - 1)=t:=by rw [←db];exact iV h.wf
structure Cf (f:List NV) (t:Tr):Prop where
  eq:f=bT t
  ne:f≠[]
  ok:t.ok
theorem Cf.can {f:List NV} {t:Tr} (h:Cf f t):f=bS t∧(bS t).length≤200:=by
 have h1:¬200<(bS t).length:=fun hl=>h.ne (h.eq.trans (uZ.2 hl))
 exact ⟨h.eq.trans (zw h1),by omega⟩
theorem Cf.Et {f:List NV} {t:Tr} (h:Cf f t):xm f:=by rw [h.can.1];exact qe h.ok h.can.2
theorem Cf.iY {f:List NV} {t:Tr} (h:Cf f t):aV f=0:=aA.2 h.Et
theorem Cf.top {f:List NV} {t:Tr} (h:Cf f t):aO f=t:=by rw [h.can.1];exact iV h.ok.wf
theorem Cf.of {t:Tr} (h:t.ok) (hl:(bS t).length≤200):Cf (bS t) t:=⟨(zw (by omega)).symm,fun e=>by have:=jf t;rw [e] at this;exact absurd this (by simp),h⟩
theorem Cf.wz {t:Tr} (h:t.ok) (hl:bT t≠[]):Cf (bT t) t:=⟨rfl,hl,h⟩
theorem Cf.pos {f:List NV} {t:Tr} (h:Cf f t):0<f.length:=h.Et.pos
theorem Cf.le {f:List NV} {t:Tr} (h:Cf f t):f.length≤200:=h.Et.len
end Go.Proofs.Wit
namespace Go.Proofs.Wit
open Go Go.RowKit
/-- a list of formulas that is the caller's alone -/
def BW (t tl:TypeId) (w w':World) (v:Value) (gs:List FV):Prop:=∃(q:Option Nat) (cap:Nat) (sp:List Value) (H:Hl),v=cK q gs.length cap∧(q=none→gs.length=0∧cap=0)∧(gs.map FV.v++sp).length=cap∧gm w w' ((q,ob FV.v tl gs sp)::H)∧∀g∈gs,g.In t H
theorem gm.nil {w w':World} {o:Obj}:gm w w' [(none,o)]:=⟨fun p hp b hb=>(by rw [List.mem_singleton.1 hp] at hb;cases hb),by simp⟩
theorem BW.mk {t tl:TypeId} {w0 w:World} {h:Hl} {Y:List (Nat×Obj)} (s:St w0 [] w h Y) {q:Option Nat} {gs:List FV} {sp:List Value} {cap:Nat} {H:Hl} (hs:((q,ob FV.v tl gs sp)::H).Sublist h) (hq:q=none→gs.length=0∧cap=0) (ao:(gs.map FV.v++sp).length=cap) (hin:∀g∈gs,g.In t H):BW t tl w0 w (cK q gs.length cap) gs:=
 ⟨q,cap,sp,H,rfl,hq,ao,(gm.of s).sub hs,hin⟩
theorem FV.In.sep {t:TypeId} {w0 w:World} {S:List Nat} {h hF:Hl} {Y:List (Nat×Obj)} {x:FV} (g:x.In t hF) (s:St w0 S w (h++hF) Y):Cv (cI h) w x.a x.f:=by
 refine ⟨((g.mono (List.subset_append_right h hF)).at s).at_,fun b o e hm=>?_⟩
 obtain ⟨q,sp,h1,h2,_⟩:=g
 rw [h2] at e
 obtain ⟨o1,ho⟩:=gw.1 hm
 cases q with
 |none=>cases e
 |some c=>
  cases e
  exact (List.pairwise_append.1 s.apart).2.2 _ ho _ h1 b rfl rfl
structure IQ (t:TypeId) (H:Hl) (gs:List FV) (ts:List Tr):Prop where
  eq:gs.map FV.f=ts.map bT
  cf:∀u∈ts,u.ok∧bT u≠[]
  IY:∀g∈gs,g.In t H
def BY (f o:List NV) (e:Int):Prop:=(aV f≠0∧o=[]∧e=aV f)∨(aV f=0∧o=bT (aN (aO f)).1∧e=if o=[] then 8 else 0)
theorem oA (f:List NV):bd (aj f):=by
 by_cases h:aV f=0
 ·exact (iy h).nodes
 rw [aj,if_pos h];intro i hi;exact absurd hi (Nat.not_lt_zero _)
end Go.Proofs.Wit
namespace Go.Proofs.Wit
open Go Go.RowKit
def jA (f g:List NV):Bool:=decide (aV f=0∧aV g=0∧aj f=aj g)
theorem Ay {f g:List NV} {u:Tr} (h0:aV f=0) (hg:Cf g u):jA f g=decide (aO f=u):=by
 unfold jA
 rw [decide_eq_decide]
 have hT:=(aA.1 h0).top
 have hcg:aj g=bS u:=by rw [dt hg.iY,hg.top]
 constructor
 ·rintro ⟨_,_,h⟩
  rw [dt h0,hcg] at h
  exact zq hT hg.ok h
 intro h
 exact ⟨h0,hg.iY,by rw [dt h0,hcg,h]⟩
end Go.Proofs.Wit
namespace Go.Proofs.Wit
open Go Go.RowKit
theorem nI {f:List NV} {i:Nat} (hi:i<f.length) (hO:bd f):fC (aa f i)=f[i].op:=by
 rcases dE hi hO with ⟨_,h⟩|⟨_,_,h⟩|⟨_,h⟩<;>rw [h]<;>rfl
end Go.Proofs.Wit
namespace Go.Proofs.Wit
open Go Go.RowKit
def dG (A B:Nat) (op i g:Int):Bool:=decide (op≤13) && ((!o8 op||decide (i.toNat<A)) && ((!(op==3)||decide (i.toNat<B)) && decide (g.toNat<2^A)))
end Go.Proofs.Wit
namespace Go.Proofs.Wit
open Go Go.RowKit
def qP {α:Type} (L:Nat) (P:Nat→α) (d:α) (k:Nat):List α:=(List.range L).map (fun j=>if j<k then P j else d)
section
variable {α:Type} {L:Nat} {P:Nat→α} {d:α} {k j:Nat}
theorem jB:(qP L P d k).length=L:=by simp [qP]
theorem rG (hj:j<k) (hL:j<L) {e:α}:(qP L P d k).getD j e=P j:=by simp [qP,List.getD_eq_getElem?_getD,hL,hj]
theorem xW:qP L P d 0=List.replicate L d:=by
 apply List.ext_getElem (by simp [qP])
 intro i h1 h2
 simp [qP]
theorem rF (_hk:k<L):(qP L P d k).set k (P k)=qP L P d (k+1):=by
 apply List.ext_getElem (by simp [qP])
 intro i h1 h2
 rw [List.getElem_set]
 by_cases hi:k=i
 ·subst hi;simp [qP]
 rw [if_neg hi]
 simp only [qP,List.getElem_map,List.getElem_range]
 by_cases h3:i<k
 ·rw [if_pos h3,if_pos (by omega)]
 rw [if_neg h3,if_neg (by omega)]
end
theorem pe {op:Int} (h:1≤op∧op≤21):cF op=decide (4≤op):=by
 rcases nG h with rfl|rfl|rfl|rfl|rfl|rfl|rfl|rfl|rfl|rfl|rfl|rfl|rfl|rfl|rfl|rfl|rfl|rfl|rfl|rfl|rfl<;>rfl
end Go.Proofs.Wit
namespace Go.Proofs.Wit
open Go Go.RowKit
/-- a list that is a formula, or nothing -/
def Bf (f:List NV):Option Tr→Prop
 |none=>f=[]
 |some t=>Cf f t
theorem Bf.le {f:List NV} {o:Option Tr} (h:Bf f o):f.length≤200:=by
 cases o with
 |none=>rw [show f=[] from h];decide
 |some t=>exact Cf.le h
theorem Bf.max {f:List NV} {o:Option Tr} (h:Bf f o):f.length≤maxLen:=by have:=h.le;unfold maxLen;omega
theorem gm.H9 {w w':World} {o o':Obj}:gm w w' [(none,o),(none,o')]:=
 have h:∀p∈[((none:Option Nat),o),(none,o')],∀b,p.1=some b→False:=fun p hp b hb=>by
  simp only [List.mem_cons,List.not_mem_nil,or_false] at hp
  rcases hp with rfl|rfl<;>cases hb
 ⟨fun p hp b hb=>(h p hp b hb).elim,List.pairwise_cons.2 ⟨fun _ _ _ hb=>(by cases hb),List.pairwise_cons.2 ⟨fun _ hp=>(by cases hp),List.Pairwise.nil⟩⟩⟩
theorem St.cQ {w0 w:World} {S:List Nat} {h:Hl} {Y:List (Nat×Obj)} (s:St w0 S w h Y) {o:Obj}:St w0 S w ((Option.none,o)::h) Y:=
 ⟨s.ext,fun p hp b hb=>by
  rcases List.mem_cons.1 hp with rfl|hp
  ·cases hb
  exact s.own p hp b hb,List.pairwise_cons.2 ⟨fun _ _ _ hb=>(by cases hb),s.apart⟩,s.sys,s.v5⟩
def kK:Option Tr→Int
 |none=>0
 |some t=>fC t
def fI:Tr→Int
 |.leaf _ i _ _=>i
 |.un _ i _ _ _=>i
 |.bin _ i _ _ _ _=>i
def fG:Tr→Int
 |.leaf _ _ _ g=>g
 |.un _ _ _ g _=>g
 |.bin _ _ _ g _ _=>g
def FB:Option Tr→Int
 |none=>0
 |some t=>fI t
def GR:Option Tr→Int
 |none=>0
 |some t=>fG t
def gL:Option Tr→Option Tr
 |some (.un _ _ _ _ a)=>some a
 |some (.bin _ _ _ _ a _)=>some a
 |_=>none
def vF:Option Tr→Option Tr
 |some (.bin op _ _ _ _ b)=>if op=5∨op=6∨op=7∨op=8∨op=13 then some b else none
 |_=>none
abbrev aR (a b:Tr):Tr:=.bin 7 0 0 0 a b
abbrev ju (a b:Tr):Tr:=.bin 5 0 0 0 a b
abbrev nF (a b:Tr):Tr:=.bin 8 0 0 0 a b
abbrev ar (i:Int) (a:Tr):Tr:=.un 9 i 0 0 a
abbrev gi (i:Int) (a:Tr):Tr:=.un 10 i 0 0 a
abbrev rj (g:Int) (a:Tr):Tr:=.un 11 0 0 g a
abbrev nh (g:Int) (a b:Tr):Tr:=.bin 13 0 0 g a b
theorem C5 {op i e g:Int} {a b:Tr} (h:(Tr.bin op i e g a b).ok) (hop:op=5∨op=6∨op=7∨op=8):i=0∧e=0∧g=0:=by
 have hF:=gx h.2.2.1
 rcases hop with rfl|rfl|rfl|rfl<;>exact ⟨hF.i0 rfl,hF.e0 (by decide),hF.g0 rfl⟩
theorem C4 {i e g:Int} {a b:Tr} (h:(Tr.bin 13 i e g a b).ok):i=0∧e=0∧1≤g∧g<16:=by
 have hF:=gx h.2.2.1
 exact ⟨hF.i0 rfl,hF.e0 (by decide),hF.gr rfl⟩
theorem mQ {op i e g:Int} {a:Tr} (h:(Tr.un op i e g a).ok) (hop:op=9∨op=10):(0≤i∧i<4)∧e=0∧g=0:=by
 have hF:=gx h.2.2.2.1
 rcases hop with rfl|rfl<;>exact ⟨hF.ag rfl,hF.e0 (by decide),hF.g0 rfl⟩
theorem E8 {i e g:Int} {a:Tr} (h:(Tr.un 11 i e g a).ok):i=0∧e=0∧1≤g∧g<16:=by
 have hF:=gx h.2.2.2.1
 exact ⟨hF.i0 rfl,hF.e0 (by decide),hF.gr rfl⟩
theorem mw {t:Tr} (h:t.ok):(cF (fC t)=false∧kids t=[])∨(cF (fC t)=true∧cm (fC t)=false∧∃i e g a,t=.un (fC t) i e g a)∨(cm (fC t)=true∧∃i e g a b,t=.bin (fC t) i e g a b):=by
 cases t with
 |leaf op i e g=>exact .inl ⟨h.2.1,rfl⟩
 |un op i e g a=>exact .inr (.inl ⟨h.2.1,h.2.2.1,i,e,g,a,rfl⟩)
 |bin op i e g a b=>exact .inr (.inr ⟨h.2.1,i,e,g,a,b,rfl⟩)
theorem Ak {t:Tr} (h:t.ok) {op:Int} (e:fC t=op) (hop:op=5∨op=6∨op=7∨op=8):∃a b,t=.bin op 0 0 0 a b:=by
 rcases mw h with ⟨h1,_⟩|⟨_,h1,_⟩|⟨_,i,e',g,a,b,ht⟩
 ·rw [e] at h1;rcases hop with rfl|rfl|rfl|rfl<;>exact absurd h1 (by decide)
 ·rw [e] at h1;rcases hop with rfl|rfl|rfl|rfl<;>exact absurd h1 (by decide)
 rw [e] at ht
 rw [ht] at h
 obtain ⟨rfl,rfl,rfl⟩:=C5 h hop
 exact ⟨a,b,ht⟩
theorem Aj {t:Tr} (h:t.ok) (e:fC t=13):∃g a b,t=nh g a b∧1≤g∧g<16:=by
 rcases mw h with ⟨h1,_⟩|⟨_,h1,_⟩|⟨_,i,e',g,a,b,ht⟩
 ·rw [e] at h1;exact absurd h1 (by decide)
 ·rw [e] at h1;exact absurd h1 (by decide)
 rw [e] at ht
 rw [ht] at h
 obtain ⟨rfl,rfl,hg⟩:=C4 h
 exact ⟨g,a,b,ht,hg⟩
theorem CJ {t:Tr} (h:t.ok) {op:Int} (e:fC t=op) (hop:op=9∨op=10):∃i a,t=.un op i 0 0 a∧0≤i∧i<4:=by
 rcases mw h with ⟨h1,_⟩|⟨_,_,i,e',g,a,ht⟩|⟨h1,_⟩
 ·rw [e] at h1;rcases hop with rfl|rfl<;>exact absurd h1 (by decide)
 ·rw [e] at ht
  rw [ht] at h
  obtain ⟨hi,rfl,rfl⟩:=mQ h hop
  exact ⟨i,a,ht,hi⟩
 rw [e] at h1;rcases hop with rfl|rfl<;>exact absurd h1 (by decide)
theorem CK {t:Tr} (h:t.ok) (e:fC t=11):∃g a,t=rj g a∧1≤g∧g<16:=by
 rcases mw h with ⟨h1,_⟩|⟨_,_,i,e',g,a,ht⟩|⟨h1,_⟩
 ·rw [e] at h1;exact absurd h1 (by decide)
 ·rw [e] at ht
  rw [ht] at h
  obtain ⟨rfl,rfl,hg⟩:=E8 h
  exact ⟨g,a,ht,hg⟩
 rw [e] at h1;exact absurd h1 (by decide)
def Fit (t:Tr):Prop:=(bS t).length≤200
theorem Fit.tu {t c:Tr} (h:Fit t) (hc:c∈kids t):Fit c:=Nat.le_trans (jg hc) h
theorem Cf.wM {f:List NV} {t:Tr} (h:Cf f t) (hl:f.length - 1<f.length) (h4:4≤fC t):Bf (fw f f[f.length - 1].x) (gL (some t)):=by
  have ht:aa f (f.length - 1)=t:=by rw [←db];exact h.top
  have hn:=h.Et.nodes
  have hO:=hn _ hl
  have hc:=h.can
  have key:∀c,c∈kids t→∀x:Int,aa f x.toNat=c→0≤x→x<f.length→Bf (fw f x) (some c):=fun c hck x hx h0 hlt=>by
    have hcl:(bS c).length≤200:=Nat.le_trans (jg hck) hc.2
    rw [fw,if_neg (by rintro (e|e|e);· exact e h.iY
                      · omega
                      · omega),hx]
    exact Cf.of (h.ok.tu hck) hcl
  rcases dE hl hn with ⟨h1,h2⟩|⟨h1,h1',h2⟩|⟨h1,h2⟩
  · rw [ht] at h2
    have e:f[f.length - 1].op=fC t:=by rw [h2];rfl
    rw [pe hO.op,decide_eq_false_iff_not] at h1
    omega
  · rw [ht] at h2
    have hx:=hO.x h1
    rw [h2]
    exact key _ (by rw [h2];exact List.mem_cons_self ..) _ rfl hx.1 (by omega)
  rw [ht] at h2
  have hx:=hO.x (ep h1)
  rw [h2]
  exact key _ (by rw [h2];exact List.mem_cons_self ..) _ rfl hx.1 (by omega)
theorem Cf.uE {f:List NV} {t:Tr} (h:Cf f t) (hl:f.length - 1<f.length) (h5:fC t=5∨fC t=6∨fC t=7∨fC t=8∨fC t=13):Bf (fw f f[f.length - 1].y) (vF (some t)):=by
  have ht:aa f (f.length - 1)=t:=by rw [←db];exact h.top
  have hn:=h.Et.nodes
  have hO:=hn _ hl
  have hc:=h.can
  rcases dE hl hn with ⟨h1,h2⟩|⟨h1,h1',h2⟩|⟨h1,h2⟩
  · rw [ht] at h2
    have e:f[f.length - 1].op=fC t:=by rw [h2];rfl
    rw [e] at h1
    rcases h5 with h5|h5|h5|h5|h5<;>rw [h5] at h1<;>exact absurd h1 (by decide)
  · rw [ht] at h2
    have e:f[f.length - 1].op=fC t:=by rw [h2];rfl
    rw [e] at h1'
    rcases h5 with h5|h5|h5|h5|h5<;>rw [h5] at h1'<;>exact absurd h1' (by decide)
  rw [ht] at h2
  have e:f[f.length - 1].op=fC t:=by rw [h2];rfl
  have hy:=hO.y h1
  have hck:aa f f[f.length - 1].y.toNat∈kids t:=by rw [h2];exact List.mem_cons_of_mem _ (List.mem_cons_self ..)
  have hcl:(bS (aa f f[f.length - 1].y.toNat)).length≤200:=Nat.le_trans (jg hck) hc.2
  have hk:vF (some t)=some (aa f f[f.length - 1].y.toNat):=by
    rw [h2]
    exact if_pos (by rw [e];exact h5)
  rw [hk,fw,if_neg (by rintro (e|e|e);· exact e h.iY
                       · omega
                       · omega)]
  exact Cf.of (h.ok.tu hck) hcl
theorem Cf.Bo {f:List NV} {t:Tr} (h:Cf f t) (hl:f.length - 1<f.length):f[f.length - 1].op=fC t∧f[f.length - 1].i=fI t∧f[f.length - 1].g=fG t:=by
 have ht:aa f (f.length - 1)=t:=by rw [←db];exact h.top
 rcases dE hl h.Et.nodes with ⟨h1,h2⟩|⟨h1,h1',h2⟩|⟨h1,h2⟩<;>rw [ht] at h2<;>rw [h2]<;>exact ⟨rfl,rfl,rfl⟩
theorem yI {t:Tr} (h:¬(fC t=5∨fC t=6∨fC t=7∨fC t=8∨fC t=13)):vF (some t)=none:=by
 cases t with
 |leaf=>rfl
 |un=>rfl
 |bin op i e g a b=>exact if_neg h
theorem yJ {t:Tr} (hok:t.ok) (h:¬4≤fC t):gL (some t)=none:=by
 cases t with
 |leaf=>rfl
 |un op i e g a=>have h1:=hok.2.1;rw [pe hok.1,decide_eq_true_eq] at h1;exact absurd h1 h
 |bin op i e g a b=>have h1:=ep hok.2.1;rw [pe hok.1,decide_eq_true_eq] at h1;exact absurd h1 h
theorem yF {f:List NV} (h:aV f=0):Fit (aO f):=by
 have h1:=nV h
 rw [dt h] at h1
 have:=(aA.1 h).len
 show (bS (aO f)).length≤200
 omega
def El (t:Tr):Prop:=∃i x y,t=aR (ar i (aR x y)) (aR (ar i x) (ar i y))
def Cw (t:Tr):Prop:=∃i x,t=aR (ar i x) x
def Cz (t:Tr):Prop:=∃i x,t=aR (ar i x) (ar i (ar i x))
def Eo (t:Tr):Prop:=∃i x,t=aR (aE (ar i x)) (ar i (aE (ar i x)))
def Cy (t:Tr):Prop:=∃i x,t=aR (ar i x) (aE (ar i (aE x)))
def Ek (t:Tr):Prop:=∃i x,t=nF (gi i x) (aE (ar i (aE x)))
def En (t:Tr):Prop:=∃g x y,t=nF (nh g x y) (rj g (aR x (ju y (nh g x y))))
def Cx (u t:Tr):Prop:=∃z g x y,t=aR z (nh g x y)∧u=aR z (rj g (aR x (ju y z)))
section
variable {t:Tr}
theorem Fit.r {op i e g:Int} {a b:Tr} (h:Fit (.bin op i e g a b)):Fit b:=h.tu (List.mem_cons_of_mem _ (List.mem_cons_self ..))
theorem Fit.u {op i e g:Int} {a:Tr} (h:Fit (.un op i e g a)):Fit a:=h.tu (List.mem_cons_self ..)
end
end Go.Proofs.Wit
namespace Go.Proofs.Wit
open Go Go.RowKit
section
variable {t u:Tr}
theorem pv {f:List NV} {X:Tr} (h:aV f=0) (hX:X.ok):jA f (bT X)=decide (aO f=X):=by
 by_cases hl:Fit X
 ·exact Ay h (Cf.wz hX (Ck.2 hl))
 have e:bT X=[]:=uZ.2 (by unfold Fit at hl;omega)
 rw [e,show jA f []=false from decide_eq_false (fun e=>absurd e.2.1 (by decide))]
 exact (decide_eq_false (fun e:aO f=X=>hl (e ▸ yF h))).symm
theorem dn {f:List NV} {t X:Tr} (h:Cf f t) (hX:X.ok):jA f (bT X)=decide (t=X):=by rw [pv h.iY hX,h.top]
theorem El.iff {i:Int} {p q:Tr} (h:gL (some t)=some (ar i (aR p q))):t=aR (ar i (aR p q)) (aR (ar i p) (ar i q))↔El t:=
 ⟨fun e=>⟨i,p,q,e⟩,fun ⟨i',x,y,e⟩=>by
  subst e
  have h':some (ar i' (aR x y))=some (ar i (aR p q)):=h
  cases h';rfl⟩
theorem El.gd (h:El t):kK (gL (some t))=9∧kK (gL (gL (some t)))=7:=by obtain ⟨i,x,y,rfl⟩:=h;exact ⟨rfl,rfl⟩
theorem Cw.iff {i:Int} {x:Tr} (h:gL (some t)=some (ar i x)):t=aR (ar i x) x↔Cw t:=
 ⟨fun e=>⟨i,x,e⟩,fun ⟨i',y,e⟩=>by
  subst e
  have h':some (ar i' y)=some (ar i x):=h
  cases h';rfl⟩
theorem Cw.gd (h:Cw t):kK (gL (some t))=9:=by obtain ⟨i,x,rfl⟩:=h;rfl
theorem Cz.iff {i:Int} {x:Tr} (h:gL (some t)=some (ar i x)):t=aR (ar i x) (ar i (ar i x))↔Cz t:=
 ⟨fun e=>⟨i,x,e⟩,fun ⟨i',y,e⟩=>by
  subst e
  have h':some (ar i' y)=some (ar i x):=h
  cases h';rfl⟩
theorem Cz.gd (h:Cz t):kK (gL (some t))=9:=by obtain ⟨i,x,rfl⟩:=h;rfl
theorem Cy.iff {i:Int} {x:Tr} (h:gL (some t)=some (ar i x)):t=aR (ar i x) (aE (ar i (aE x)))↔Cy t:=
 ⟨fun e=>⟨i,x,e⟩,fun ⟨i',y,e⟩=>by
  subst e
  have h':some (ar i' y)=some (ar i x):=h
  cases h';rfl⟩
theorem Cy.gd (h:Cy t):kK (gL (some t))=9:=by obtain ⟨i,x,rfl⟩:=h;rfl
theorem Eo.iff {i:Int} {x:Tr} (h:gL (gL (some t))=some (ar i x)):t=aR (aE (ar i x)) (ar i (aE (ar i x)))↔Eo t:=
 ⟨fun e=>⟨i,x,e⟩,fun ⟨i',y,e⟩=>by
  subst e
  have h':some (ar i' y)=some (ar i x):=h
  cases h';rfl⟩
theorem Eo.gd (h:Eo t):kK (gL (gL (some t)))=9:=by obtain ⟨i,x,rfl⟩:=h;rfl
theorem Ek.iff {i:Int} {x:Tr} (h:gL (some t)=some (gi i x)):t=nF (gi i x) (aE (ar i (aE x)))↔Ek t:=
 ⟨fun e=>⟨i,x,e⟩,fun ⟨i',y,e⟩=>by
  subst e
  have h':some (gi i' y)=some (gi i x):=h
  cases h';rfl⟩
theorem Ek.gd (h:Ek t):kK (gL (some t))=10:=by obtain ⟨i,x,rfl⟩:=h;rfl
theorem En.iff {g:Int} {x y:Tr} (h:gL (some t)=some (nh g x y)):t=nF (nh g x y) (rj g (aR x (ju y (nh g x y))))↔En t:=
 ⟨fun e=>⟨g,x,y,e⟩,fun ⟨g',x',y',e⟩=>by
  subst e
  have h':some (nh g' x' y')=some (nh g x y):=h
  cases h';rfl⟩
theorem En.gd (h:En t):kK (gL (some t))=13:=by obtain ⟨g,x,y,rfl⟩:=h;rfl
theorem Cx.iff {z:Tr} {g:Int} {x y:Tr} (hz:gL (some t)=some z) (h:vF (some t)=some (nh g x y)):(t=aR z (nh g x y)∧u=aR z (rj g (aR x (ju y z))))↔Cx u t:=
 ⟨fun e=>⟨z,g,x,y,e⟩,fun ⟨z',g',x',y',e,e2⟩=>by
  subst e;subst e2
  have h':some (nh g' x' y')=some (nh g x y):=h
  have hz':some z'=some z:=hz
  cases h';cases hz';exact ⟨rfl,rfl⟩⟩
theorem Cx.gd (h:Cx u t):kK (vF (some t))=13:=by obtain ⟨z,g,x,y,rfl,_⟩:=h;rfl
def qD (g k:Nat):List Nat:=(List.range k).filter (fun i=>gb g i==1)
theorem zG {g k:Nat} (h:gb g k=1):qD g (k+1)=qD g k++[k]:=by simp [qD,List.range_succ,List.filter_append,h]
theorem BQ {g k:Nat} (h:gb g k≠1):qD g (k+1)=qD g k:=by simp [qD,List.range_succ,List.filter_append,h]
theorem zH {g k:Nat}:(qD g k).length≤k:=by have:=List.length_filter_le (fun i=>gb g i==1) (List.range k);simpa [qD] using this
theorem BR {g k i:Nat} (h:i∈qD g k):i<k:=by simpa using (List.mem_filter.1 h).1
def B9 (g k:Nat) (x:Tr):List Tr:=(qD g k).map (fun (j:Nat)=>ar (j:Int) x)
def w9 (g:Nat) (x:Tr):Tr:=kG (B9 g 4 x)
def Em (t:Tr):Prop:=∃(g:Int) (x:Tr),t=nF (rj g x) (w9 g.toNat x)
theorem Em.iff {g:Int} {x:Tr} (h:gL (some t)=some (rj g x)):t=nF (rj g x) (w9 g.toNat x)↔Em t:=
 ⟨fun e=>⟨g,x,e⟩,fun ⟨g',y,e⟩=>by
  subst e
  have h':some (rj g' y)=some (rj g x):=h
  cases h';rfl⟩
theorem Em.gd (h:Em t):kK (gL (some t))=11:=by obtain ⟨g,x,rfl⟩:=h;rfl
end
def hJ (o:Option Tr):Prop:=∀A,o=some A→A.ok
theorem hJ.a {o:Option Tr} (h:hJ o):hJ (gL o):=fun A e=>by
 cases o with
 |none=>cases e
 |some t=>
  cases t with
  |leaf=>cases e
  |un op i e' g a=>have e2:some a=some A:=e;cases e2;exact (h _ rfl).tu (List.mem_cons_self ..)
  |bin op i e' g a b=>have e2:some a=some A:=e;cases e2;exact (h _ rfl).tu (List.mem_cons_self ..)
theorem hJ.b {o:Option Tr} (h:hJ o):hJ (vF o):=fun A e=>by
 cases o with
 |none=>cases e
 |some t=>
  cases t with
  |leaf=>cases e
  |un=>cases e
  |bin op i e' g a b=>
   have e2:(if op=5∨op=6∨op=7∨op=8∨op=13 then some b else none)=some A:=e
   split at e2
   ·cases e2;exact (h _ rfl).tu (List.mem_cons_of_mem _ (List.mem_cons_self ..))
   cases e2
theorem hJ.of {t:Tr} (h:t.ok):hJ (some t):=fun A e=>by cases e;exact h
theorem mO {o:Option Tr} {n:Int} (h:kK o=n) (hn:n≠0):∃t,o=some t∧fC t=n:=by
 cases o with
 |none=>exact absurd h.symm hn
 |some t=>exact ⟨t,rfl,h⟩
theorem hJ.kn {o:Option Tr} (h:hJ o) {op:Int} (e:kK o=op) (hop:op=9∨op=10):∃i G,o=some (.un op i 0 0 G)∧(0≤i∧i<4)∧G.ok:=by
 obtain ⟨t,rfl,ht⟩:=mO e (by omega)
 obtain ⟨i,G,rfl,hi⟩:=CJ (h _ rfl) ht hop
 exact ⟨i,G,rfl,hi,(h _ rfl).tu (List.mem_cons_self ..)⟩
theorem hJ.bn {o:Option Tr} (h:hJ o) {op:Int} (e:kK o=op) (hop:op=5∨op=6∨op=7∨op=8):∃p q,o=some (.bin op 0 0 0 p q)∧p.ok∧q.ok:=by
 obtain ⟨t,rfl,ht⟩:=mO e (by omega)
 obtain ⟨p,q,rfl⟩:=Ak (h _ rfl) ht hop
 exact ⟨p,q,rfl,(h _ rfl).tu (List.mem_cons_self ..),(h _ rfl).tu (List.mem_cons_of_mem _ (List.mem_cons_self ..))⟩
theorem hJ.co {o:Option Tr} (h:hJ o) (e:kK o=13):∃g p q,o=some (nh g p q)∧(1≤g∧g<16)∧p.ok∧q.ok:=by
 obtain ⟨t,rfl,ht⟩:=mO e (by omega)
 obtain ⟨g,p,q,rfl,hg⟩:=Aj (h _ rfl) ht
 exact ⟨g,p,q,rfl,hg,(h _ rfl).tu (List.mem_cons_self ..),(h _ rfl).tu (List.mem_cons_of_mem _ (List.mem_cons_self ..))⟩
theorem hJ.ev {o:Option Tr} (h:hJ o) (e:kK o=11):∃g p,o=some (rj g p)∧(1≤g∧g<16)∧p.ok:=by
 obtain ⟨t,rfl,ht⟩:=mO e (by omega)
 obtain ⟨g,p,rfl,hg⟩:=CK (h _ rfl) ht
 exact ⟨g,p,rfl,hg,(h _ rfl).tu (List.mem_cons_self ..)⟩
theorem dB {a b:Tr} (ha:a.ok) (hb:b.ok):(aR a b).ok:=⟨by decide,rfl,by decide,ha,hb⟩
theorem fU {a b:Tr} (ha:a.ok) (hb:b.ok):(ju a b).ok:=⟨by decide,rfl,by decide,ha,hb⟩
theorem tC {a b:Tr} (ha:a.ok) (hb:b.ok):(nF a b).ok:=⟨by decide,rfl,by decide,ha,hb⟩
theorem bA {a:Tr} (ha:a.ok):(aE a).ok:=⟨by decide,rfl,rfl,by decide,ha⟩
theorem rW {i:Int} (hi:0≤i∧i<4):eX 9 i 0 0=0:=by
 obtain ⟨k,rfl⟩:∃k:Nat,i=(k:Int):=⟨i.toNat,by omega⟩
 have:∀j:Fin 4,eX 9 ((j.val:Nat):Int) 0 0=0:=by decide
 exact this ⟨k,by omega⟩
theorem yV {g:Int} (hg:1≤g∧g<16):eX 11 0 0 g=0:=by
 obtain ⟨k,rfl⟩:∃k:Nat,g=(k:Int):=⟨g.toNat,by omega⟩
 have:∀j:Fin 16,1≤j.val→eX 11 0 0 ((j.val:Nat):Int)=0:=by decide
 exact this ⟨k,by omega⟩ (by show 1≤k;omega)
theorem bt {i:Int} {a:Tr} (hi:0≤i∧i<4) (ha:a.ok):(ar i a).ok:=⟨by decide,rfl,rfl,rW hi,ha⟩
theorem vK {g:Int} {a:Tr} (hg:1≤g∧g<16) (ha:a.ok):(rj g a).ok:=⟨by decide,rfl,rfl,yV hg,ha⟩
theorem yG {g k:Nat} {x:Tr} (hk:k≤4) (hx:x.ok):∀u∈B9 g k x,u.ok:=fun u hu=>by
 obtain ⟨j,hj,rfl⟩:=List.mem_map.1 hu
 have:=BR hj
 exact bt (by omega) hx
theorem Bz:∀{ts:List Tr},(∀u∈ts,u.ok)→(kG ts).ok
 |[],_=>⟨by decide,rfl,by decide⟩
 |t::ts,h=>by
  have key:∀(l:List Tr) (a:Tr),a.ok→(∀u∈l,u.ok)→(l.foldl (fun a b=>.bin 5 0 0 0 a b) a).ok:=fun l=>by
   induction l with
   |nil=>exact fun a ha _=>ha
   |cons b l ih=>exact fun a ha hl=>ih _ (fU ha (hl b (by simp))) (fun u hu=>hl u (by simp [hu]))
  exact key ts t (h t (by simp)) (fun u hu=>h u (by simp [hu]))
theorem vY {g:Nat} {x:Tr} (hx:x.ok):(w9 g x).ok:=Bz (yG (Nat.le_refl _) hx)
theorem xN {w0 w:World} {S:List Nat} {h:Hl} {Y:List (Nat×Obj)} (s:St w0 S w h Y) (j:Nat) {q:Option Nat} {gs:List FV} {e:TypeId} {sp:List Value} (hj:h[j]?=some (q,ob FV.v e gs sp)) (hq:q=none→gs.length=0):qF w (q.map (fun b=>⟨b,0,none⟩)) gs:=by
 cases q with
 |none=>rw [List.eq_nil_of_length_eq_zero (hq rfl)];exact Sl.nil _ _
 |some b=>exact Sl.dg (s.get hj)
theorem yH {t c:Tr} (h:vF (some t)=some c):∃z,gL (some t)=some z:=by
 cases t with
 |leaf=>cases h
 |un=>cases h
 |bin op i e g a b=>exact ⟨a,rfl⟩
def cg (l r:Int):Bool:=if r=3 then decide (l=2∨l=4∨l=6) else if r=4 then decide (3≤l) else if r=5 then decide (5≤l) else if r=6 then decide (l=1∨l=5) else true
def lk (xs:List Int):ax:=xs.foldl (fun a x=>a|||(1#64<<<x.toNat)) 0#64
theorem wG {xs:List Int} {x:Int}:lk (xs++[x])=lk xs|||(1#64<<<x.toNat):=by simp [lk]
theorem Fx {l r:Int} (hl:0≤l∧l≤6):cg l r=(((if r=3 then lk [2,4,6] else if r=4 then lk [3,4,5,6] else if r=5 then lk [5,6] else if r=6 then lk [1,5] else BitVec.allOnes 64)>>>l.toNat) &&& 1#64==1#64):=by
 obtain ⟨k,rfl⟩:∃k:Nat,l=(k:Int):=⟨l.toNat,by omega⟩
 have key:∀j:Fin 7,(decide (((j.val:Nat):Int)=2∨((j.val:Nat):Int)=4∨((j.val:Nat):Int)=6)=((lk [2,4,6]>>>((j.val:Nat):Int).toNat) &&& 1#64==1#64))∧(decide (3≤((j.val:Nat):Int))=((lk [3,4,5,6]>>>((j.val:Nat):Int).toNat) &&& 1#64==1#64))∧
   (decide (5≤((j.val:Nat):Int))=((lk [5,6]>>>((j.val:Nat):Int).toNat) &&& 1#64==1#64))∧(decide (((j.val:Nat):Int)=1∨((j.val:Nat):Int)=5)=((lk [1,5]>>>((j.val:Nat):Int).toNat) &&& 1#64==1#64))∧(true=((BitVec.allOnes 64>>>((j.val:Nat):Int).toNat) &&& 1#64==1#64)):=by decide+kernel
 obtain ⟨k1,k2,k3,k4,k5⟩:=key ⟨k,by omega⟩
 unfold cg
 by_cases h3:r=3
 ·rw [if_pos h3,if_pos h3];exact k1
 rw [if_neg h3,if_neg h3]
 by_cases h4:r=4
 ·rw [if_pos h4,if_pos h4];exact k2
 rw [if_neg h4,if_neg h4]
 by_cases h5:r=5
 ·rw [if_pos h5,if_pos h5];exact k3
 rw [if_neg h5,if_neg h5]
 by_cases h6:r=6
 ·rw [if_pos h6,if_pos h6];exact k4
 rw [if_neg h6,if_neg h6];exact k5
def fE (f:List NV):Int:=if aV f≠0 then aV f else if kh (kM (aj f)) 11≠0 then 10 else 0
def ed (r:Int):Int:=if r=10 then 2 else if r=11∨r=12 then 1 else 0
end Go.Proofs.Wit
