/- Laws of walks, for any program, under the conditions that each theorem states. -/
import Derived.Test.YtnfmegcknckahaaGreatDoorXA13
import Derived.Test.YtnfmegcknckahaaGreatDoorXA03
import Derived.Test.YtnfmegcknckahaaGreatDoorXA02
namespace Go.Proofs.Wit
structure Jh (n:Nat) (P:List Int) (s:aB):Prop where
  len:P.length=n
  ok:IP P
  inv:IW n P s
section
variable {m:Int} {n:Nat} {val:List aB} {rel:List (List aB)} {t:Tr}
end
structure IX (c:List NV) (k:Nat) (gs:List Int):Prop where
  has:∀(i:Nat) (hi:i<c.length),i<k→c[i].op=12→c[i].g∈gs
  of:∀g∈gs,∃n∈c,n.op=12∧n.g=g
  nd:gs.Nodup
end Go.Proofs.Wit
namespace Go.Proofs.Wit
open Go
def fst (q:Nat→Bool):Nat→Option Nat
 |0=>none
 |k+1=>match fst q k with
  |some j=>some j
  |none=>if q k=true then some k else none
def IA (n:Nat) (val:List aB) (rel:List (List aB)) (v w k:Nat):Bool:=(Fc n val rel k).getD v 0 !=(Fc n val rel k).getD w 0
def dst (n:Nat) (val:List aB) (rel:List (List aB)) (v w:Nat):Option Nat:=fst (IA n val rel v w) (dep n val rel+1)
section
variable {n:Nat} {val:List aB} {rel:List (List aB)}
end
end Go.Proofs.Wit
namespace Go.Proofs.Wit
open Go
section
variable {n:Nat} {val:List aB} {rel:List (List aB)}
def IN (A B:Nat) (t:Tr):Prop:=jX (fun op i g=>Gj A B op i g∧op≤10) t
structure Gh (n:Nat) (val:List aB) (rel:List (List aB)) (v w k:Nat) (t:Tr):Prop where
  ok:t.ok
  pl:IN rel.length val.length t
  yes:(xZ n val rel t).getLsbD v=true
  no:(xZ n val rel t).getLsbD w=false
  dp:BH t≤k
end
end Go.Proofs.Wit
namespace Go.Proofs.Wit
open Go
/-- with a tree its parts -/
def KC (U:List Tr):Prop:=∀t∈U,∀c∈kids t,c∈U
abbrev Mm:=List ((Int×Int)×FV)
section
variable {n:Nat} {val:List aB} {rel:List (List aB)}
def Fo (n:Nat) (val:List aB) (rel:List (List aB)) (v w k:Nat) (f:List NV):Prop:=(f=[]∧5<n)∨∃t,Gh n val rel v w k t∧f=bT t∧f≠[]
structure ID (U:List Tr) (L:Mm):Prop where
  kc:KC U
  top:Tr.leaf 1 0 0 0∈U
  Iv:∀e∈L,∀t,t.ok→e.2.f=bT t→e.2.f≠[]→t∈U
structure HF (n:Nat) (val:List aB) (rel:List (List aB)) (L:Mm):Prop where
  nd:(L.map (·.1)).Nodup
  Iv:∀e∈L,∃v w k:Nat,e.1=((v:Int),(w:Int))∧v<n∧w<n∧dst n val rel v w=some k∧Fo n val rel v w k e.2.f
  I2:n≤5→∃U,ID U L∧U.length≤6*L.length+1
end
end Go.Proofs.Wit
namespace Go.Proofs.Wit
abbrev Hz:=Int→Int→Int→Int→Tr→Tr→Tr
def j5:Hz:=fun op i e g a b=>tm ⟨op,i,e,g,0,0⟩ a b
theorem xJ {op:Int} (h:cG op=false):ct op=false:=by
 cases e:ct op with
 |false=>rfl
 |true=>exact absurd ((ez e).symm.trans h) (by decide)
theorem Cy {t:Tr}:bT t≠[]↔(bX t).length≤200:=by rw [Ne,vd];omega
def cT (o:Int):Tr:=.leaf o 0 0 0
def nI:Tr→Int→Bool
 |.leaf op _ _ _,o=>op==o
 |_,_=>false
def uk:Tr→Option Tr
 |.un op _ _ _ a=>if op=4 then some a else none
 |_=>none
def aE (t:Tr):Tr:=.un 4 0 0 0 t
def Bb (t:Tr):Tr:=(uk t).getD (aE t)
def Fi (a b:Tr):Bool:=uk a==some b||uk b==some a
def yV (op i e g:Int) (a b:Tr) (ne dm:Int):Tr:=
 if (nI a dm||nI b dm||(Fi a b && !nI a ne && !nI b ne))=true then cT dm
 else if nI a ne=true then b else if (nI b ne||a==b)=true then a else j5 op i e g a b
def bV (a b:Tr):Tr:=
 if (nI a 2||nI b 1||a==b)=true then cT 1 else if nI a 1=true then b else if nI b 2=true then Bb a else j5 7 0 0 0 a b
def G6 (a b:Tr):Tr:=
 if (a==b)=true then cT 1 else if Fi a b=true then cT 2 else if nI a 1=true then b else if nI b 1=true then a
 else if nI a 2=true then Bb b else if nI b 2=true then Bb a else j5 8 0 0 0 a b
def GI:Hz:=fun op i e g a b=>
 if op=4 then (if nI a 1=true then cT 2 else if nI a 2=true then cT 1 else Bb a)
 else if op=5 then yV op i e g a b 1 2
 else if op=6 then yV op i e g a b 2 1
 else if op=7 then bV a b
 else if op=8 then G6 a b
 else if op=10 then (if nI a 2=true then cT 2 else j5 op i e g a b)
 else if op=16 then (if (nI a 1 && !nI b 1)=true then b else if (nI a 2||nI b 1)=true then cT 1 else j5 op i e g a b)
 else if op=13∨op=14 then (if (nI a 2||nI b 1)=true then cT 1 else j5 op i e g a b)
 else if op=9∨op=11∨op=12∨op=15∨op=17 then (if nI a 1=true then cT 1 else j5 op i e g a b)
 else j5 op i e g a b
theorem Cw {o:Int} (h:o=1∨o=2):(cT o).ok:=by rcases h with rfl|rfl<;>exact ⟨by decide,rfl,rfl⟩
theorem uB {t:Tr} (h:t.ok):(aE t).ok:=⟨by decide,rfl,rfl,rfl,h⟩
inductive sD (op i e g:Int) (a b:Tr):Tr→Prop
  |c1:sD op i e g a b (cT 1)
  |c2:sD op i e g a b (cT 2)
  |a (h:cG op=true):sD op i e g a b a
  |b (h:ct op=true):sD op i e g a b b
  |sa (h:cG op=true) (c:Tr) (h:uk a=some c):sD op i e g a b c
  |sb (h:ct op=true) (c:Tr) (h:uk b=some c):sD op i e g a b c
  |na (h:cG op=true) (h0:uk a=none) (h1:nI a 1=false) (h2:nI a 2=false):sD op i e g a b (aE a)
  |nb (h:ct op=true) (h0:uk b=none) (h1:nI b 1=false) (h2:nI b 2=false):sD op i e g a b (aE b)
  |mk (h:GI op i e g a b=j5 op i e g a b):sD op i e g a b (j5 op i e g a b)
end Go.Proofs.Wit
namespace Go.Proofs.Wit
open Go Go.RowKit
structure IV where
  a:Option Addr
  c:Nat
  xs:List Int
def IV.v (x:IV):Value:=.slice x.a x.xs.length x.c
abbrev Fu (m:MV) (mD:Nat) (pa:Option Addr) (pl pc:Nat):Array Value:=#[.int .i64 m.n,.slice m.va m.val.length m.vc,.slice m.ra m.rows.length m.rc,.map (some mD),.slice pa pl pc]
structure IT (e:TypeId) (w:World) (mD bk:Nat) (m:MV) (pa:Option Addr) (pc:Nat) (ps:List IV):Prop where
  di:w.heap[bk]?=some (.cells (Fu m mD pa ps.length pc) e (0,0))
  mod:m.At w
  pre:Sl w pa (ps.map IV.v)
  row:∀p∈ps,jP w p.a p.xs
def FV.In (t:TypeId) (H:Hl) (x:FV):Prop:=∃q sp,(q,eW t x.f sp)∈H∧x.a=q.map (fun b=>⟨b,0,none⟩)∧(q=none→x.f.length=0∧x.c=0)∧(x.f.flatMap NV.cells++sp).length=x.c*6
theorem FV.In.mono {t:TypeId} {H H':Hl} {x:FV} (h:x.In t H) (hs:H⊆H'):x.In t H':=by
 obtain ⟨q,sp,h1,h2⟩:=h;exact ⟨q,sp,hs h1,h2⟩
theorem FV.In.at {t:TypeId} {w0 w:World} {S:List Nat} {h:Hl} {Y:List (Nat×Obj)} {x:FV} (g:x.In t h) (s:St w0 S w h Y):FA w x.a x.f:=by
 obtain ⟨q,sp,h1,h2,h3,_⟩:=g
 obtain ⟨j,hj⟩:=List.mem_iff_getElem?.1 h1
 rw [h2]
 exact aL s j hj (fun e=>(h3 e).1)
theorem FV.In.own {t:TypeId} {w0 w:World} {h:Hl} {Y:List (Nat×Obj)} {x:FV} (g:x.In t h) (s:St w0 [] w h Y):aH t w0 w x.v x.f:=by
 obtain ⟨q,sp,h1,h2,h3,h4⟩:=g
 refine ⟨q,x.c,sp,?_,h3,h4,fun b e=>?_⟩
 ·cases q with
  |none=>rw [FV.v,h2];rfl
  |some b=>rw [FV.v,h2];rfl
 obtain ⟨k1,_,k2⟩:=s.own _ h1 b e
 exact ⟨k2.resolve_right (by simp),k1⟩
end Go.Proofs.Wit
namespace Go.Proofs.Wit
open Go Go.RowKit
theorem Ex.FZ {w w':World} {S:List Nat} (e:Ex S w w') {b j:Nat} (hb:b∉S) {cs:Array Value} {t:TypeId} {fr:Nat×Nat} {v:Value} (h:w.heap[b]?=some (.cells cs t fr)) (hv:cs[j]?=some v):w'.cell? ⟨b,j,none⟩=some v:=by
 have h1:=e.block b (Array.getElem?_eq_some_iff.1 h).1 hb
 rw [h] at h1
 unfold World.cell?
 simp only [h1]
 exact hv
section
variable {P:Program} {t:TypeId} {x y:aB}
end
end Go.Proofs.Wit
namespace Go.Proofs.Wit
open Go Go.RowKit
structure IY (t:TypeId) (n:Nat) (val:List aB) (rel:List (List aB)) (d:Nat) (L L':Mm) (F:Hl):Prop where
  kE:HF n val rel L'
  sub:L⊆L'
  nw:∀e∈L',e∈L∨∃a b i:Nat,e.1=((a:Int),(b:Int))∧dst n val rel a b=some i∧i<d
  at_:∀e∈L',e∈L∨e.2.In t F
section
variable {t:TypeId} {n:Nat} {val:List aB} {rel:List (List aB)}
end
theorem St.fi {w0 w w':World} {S:List Nat} {h:Hl} {Y:List (Nat×Obj)} (s:St w0 S w h Y) (e:Ex [] w w') {pre HR:Hl} (g:gh w w' (pre++HR)):St w0 S w' (pre++(h++HR)) Y:=by
 refine (s.eU e g).perm ?_
 rw [List.append_assoc]
 exact List.perm_append_comm.append_left pre
theorem ab.mR {P:Program} {r:Option Nat} {f:FuncId} {R:Value→World→Prop} {w0:World} {S:List Nat} {Y:List (Nat×Obj)} {n:Nat} {k:List Item} {l:Fl} {h h':Hl} (hp:h.Perm h') (hg:ab P r f R w0 S Y n k l h'):ab P r f R w0 S Y n k l h:=fun t w Ds hF hS=>hg t w Ds hF (hS.perm hp)
end Go.Proofs.Wit
namespace Go.Proofs.Wit
open Go Go.RowKit
theorem tp {op i e g:Int} {a b:Tr} (hX:cG op=false):j5 op i e g a b=.leaf op i e g:=fT (n:=⟨op,i,e,g,0,0⟩) hX
theorem yI {op i e g:Int} {a b:Tr} (hX:cG op=true) (hY:ct op=false):j5 op i e g a b=.un op i e g a:=jU (n:=⟨op,i,e,g,0,0⟩) hX hY
theorem vM {op i e g:Int} {a b:Tr} (hY:ct op=true):j5 op i e g a b=.bin op i e g a b:=ij (n:=⟨op,i,e,g,0,0⟩) hY
theorem nK {op:Int} (h:1≤op∧op≤21):op=1∨op=2∨op=3∨op=4∨op=5∨op=6∨op=7∨op=8∨op=9∨op=10∨op=11∨op=12∨op=13∨op=14∨op=15∨op=16∨op=17∨op=18∨op=19∨op=20∨op=21:=by omega
def CH (w:World) (u:Bool) (x:FV) (t:Tr):Prop:=u=true→FA w x.a x.f∧x.f=bT t∧t.ok
theorem CH.len {w:World} {u:Bool} {x:FV} {t:Tr} (h:CH w u x t) (hu:u=true):x.f.length≤maxLen:=by
 rw [(h hu).2.1];have:=Cz t;unfold maxLen;omega
theorem zH {op i e g i' e' g':Int} {a b:Tr} (hop:1≤op∧op≤21) (hX:cG op=false) (hf:fe op i e g=0) (hi:i'=i) (he:e'=e) (hg:g'=g):aR ⟨op,i',e',g',0,0⟩ []=bT (j5 op i e g a b):=by
 subst hi he hg
 rw [tp hX];exact Ed (n:=⟨op,_,_,_,0,0⟩) hop hX hf rfl rfl
theorem ny {op i e g i' e' g':Int} {a b:Tr} {f:List NV} (hop:1≤op∧op≤21) (hX:cG op=true) (hY:ct op=false) (hf:fe op i e g=0) (hi:i'=i) (he:e'=e) (hg:g'=g) (h:f=bT a∧a.ok):aR ⟨op,i',e',g',0,0⟩ [f]=bT (j5 op i e g a b):=by
 subst hi he hg
 rw [yI hX hY,h.1];exact jW h.2 hop hX hY hf
theorem nu {op i e g i' e' g':Int} {a b:Tr} {f k:List NV} (hop:1≤op∧op≤21) (hY:ct op=true) (hf:fe op i e g=0) (hi:i'=i) (he:e'=e) (hg:g'=g) (h:f=bT a∧a.ok) (h':k=bT b∧b.ok):aR ⟨op,i',e',g',0,0⟩ [f,k]=bT (j5 op i e g a b):=by
 subst hi he hg
 rw [vM hY,h.1,h'.1];exact dz h.2 h'.2 hop hY hf
abbrev FV.z:FV:=⟨none,0,[]⟩
def IG (t:TypeId) (w w':World) (v:Value) (a b:FV) (u:Tr):Prop:=∃fv:FV,v=fv.v∧fv.f=bT u∧(aH t w w' v fv.f∨fv=a∨fv=b)
structure II (P:Program) (t:TypeId) (r:Hz) (gf:FuncId) (cs:List Value) (w0:World):Prop where
  enter:∀args w,(callFunc gf args).run P w=.ok (.enter gf args) w
  run:∀w,Ex [] w0 w→∀(n:NV) (a b:FV) (ta tb:Tr),(1≤n.op∧n.op≤21)→fe n.op n.i n.e n.g=0→CH w (cG n.op) a ta→CH w (ct n.op) b tb→(cG n.op=true→a.f≠[])→(ct n.op=true→b.f≠[])→Cn P gf ([n.v,a.v,b.v]++cs) w (fun v w'=>IG t w w' v a b (r n.op n.i n.e n.g ta tb))
/-- of a formula, and of its negation -/
def aN:Tr→Tr×Tr
 |.leaf op i e g=>(.leaf op i e g,if op=1 then cT 2 else if op=2 then cT 1 else aE (.leaf op i e g))
 |.un op i e g a=>
  if op=4 then ((aN a).2,(aN a).1)
  else if op=9 then (.un op i e g (aN a).1,.un 10 i 0 0 (aN a).2)
  else if op=10 then (.un op i e g (aN a).1,.un 9 i 0 0 (aN a).2)
  else (.un op i e g (aN a).1,aE (.un op i e g (aN a).1))
 |.bin op i e g a b=>
  if op=5 then (.bin op i e g (aN a).1 (aN b).1,.bin 6 0 0 0 (aN a).2 (aN b).2)
  else if op=6 then (.bin op i e g (aN a).1 (aN b).1,.bin 5 0 0 0 (aN a).2 (aN b).2)
  else if op=7 then (.bin 6 0 0 0 (aN a).2 (aN b).1,.bin 5 0 0 0 (aN a).1 (aN b).2)
  else if op=8 then (.bin 5 0 0 0 (.bin 6 0 0 0 (aN a).2 (aN b).1) (.bin 6 0 0 0 (aN a).1 (aN b).2),.bin 6 0 0 0 (.bin 5 0 0 0 (aN a).1 (aN b).2) (.bin 5 0 0 0 (aN a).2 (aN b).1))
  else (.bin op i e g (aN a).1 (aN b).1,aE (.bin op i e g (aN a).1 (aN b).1))
theorem jI {a b:Tr} (ha:a.ok) (hb:b.ok):(Tr.bin 6 0 0 0 a b).ok:=⟨by omega,rfl,rfl,ha,hb⟩
theorem gX {op i:Int} {a:Tr} (ho:op=9∨op=10) (hi:0≤i∧i<4) (ha:a.ok):(Tr.un op i 0 0 a).ok:=EU ho hi.1 hi.2 ha
theorem lq:∀{t:Tr},t.ok→(aN t).1.ok∧(aN t).2.ok
 |.leaf op i e g,h=>by
  rw [aN]
  refine ⟨h,?_⟩
  dsimp only
  split
  ·exact Cw (.inr rfl)
  split
  ·exact Cw (.inl rfl)
  exact uB h
 |.un op i e g a,h=>by
  obtain ⟨h1,h2⟩:=lq h.2.2.2.2
  have hme:(Tr.un op i e g (aN a).1).ok:=⟨h.1,h.2.1,h.2.2.1,h.2.2.2.1,h1⟩
  rw [aN]
  split
  ·exact ⟨h2,h1⟩
  split
  ·rename_i h9;subst h9
   exact ⟨hme,gX (.inr rfl) ((gz h.2.2.2.1).ag rfl) h2⟩
  split
  ·rename_i h9;subst h9
   exact ⟨hme,gX (.inl rfl) ((gz h.2.2.2.1).ag rfl) h2⟩
  exact ⟨hme,uB hme⟩
 |.bin op i e g a b,h=>by
  obtain ⟨h1,h2⟩:=lq h.2.2.2.1
  obtain ⟨k1,k2⟩:=lq h.2.2.2.2
  have hme:(Tr.bin op i e g (aN a).1 (aN b).1).ok:=⟨h.1,h.2.1,h.2.2.1,h1,k1⟩
  rw [aN]
  split
  ·exact ⟨hme,jI h2 k2⟩
  split
  ·exact ⟨hme,jw h2 k2⟩
  split
  ·exact ⟨jI h2 k1,jw h1 k2⟩
  split
  ·exact ⟨jw (jI h2 k1) (jI h1 k2),jI (jw h1 k2) (jw h2 k1)⟩
  exact ⟨hme,uB hme⟩
end Go.Proofs.Wit
namespace Go.Proofs.Wit
open Go Go.RowKit
theorem zE {s t:Tr} (hs:s.ok) (ht:t.ok) (h:bX s=bX t):s=t:=by rw [←jc hs.wf,h,jc ht.wf]
def fE:Tr→Int
 |.leaf op _ _ _=>op
 |.un op _ _ _ _=>op
 |.bin op _ _ _ _ _=>op
theorem xj {t:Tr} (h:t.ok):aa (bX t) ((bX t).length - 1)=t:=by rw [←dg];exact jc h.wf
structure Cf (f:List NV) (t:Tr):Prop where
  eq:f=bT t
  ne:f≠[]
  ok:t.ok
theorem Cf.can {f:List NV} {t:Tr} (h:Cf f t):f=bX t∧(bX t).length≤200:=by
 have h1:¬200<(bX t).length:=fun hl=>h.ne (h.eq.trans (vd.2 hl))
 exact ⟨h.eq.trans (zK h1),by omega⟩
theorem Cf.okF {f:List NV} {t:Tr} (h:Cf f t):xy f:=by rw [h.can.1];exact qs h.ok h.can.2
theorem Cf.jD {f:List NV} {t:Tr} (h:Cf f t):aW f=0:=aA.2 h.okF
theorem Cf.top {f:List NV} {t:Tr} (h:Cf f t):bh f=t:=by rw [h.can.1];exact jc h.ok.wf
theorem Cf.of {t:Tr} (h:t.ok) (hl:(bX t).length≤200):Cf (bX t) t:=⟨(zK (by omega)).symm,fun e=>by have:=jr t;rw [e] at this;exact absurd this (by simp),h⟩
theorem Cf.yt {t:Tr} (h:t.ok) (hl:bT t≠[]):Cf (bT t) t:=⟨rfl,hl,h⟩
theorem Cf.pos {f:List NV} {t:Tr} (h:Cf f t):0<f.length:=h.okF.pos
theorem Cf.le {f:List NV} {t:Tr} (h:Cf f t):f.length≤200:=h.okF.len
end Go.Proofs.Wit
namespace Go.Proofs.Wit
open Go Go.RowKit
/-- a list of formulas that is the caller's alone -/
def z6 (t tl:TypeId) (w w':World) (v:Value) (gs:List FV):Prop:=∃(q:Option Nat) (cap:Nat) (sp:List Value) (H:Hl),v=cQ q gs.length cap∧(q=none→gs.length=0∧cap=0)∧(gs.map FV.v++sp).length=cap∧gh w w' ((q,ob FV.v tl gs sp)::H)∧∀g∈gs,g.In t H
theorem gh.nil {w w':World} {o:Obj}:gh w w' [(none,o)]:=⟨fun p hp b hb=>(by rw [List.mem_singleton.1 hp] at hb;cases hb),by simp⟩
theorem z6.mk {t tl:TypeId} {w0 w:World} {h:Hl} {Y:List (Nat×Obj)} (s:St w0 [] w h Y) {q:Option Nat} {gs:List FV} {sp:List Value} {cap:Nat} {H:Hl} (hs:((q,ob FV.v tl gs sp)::H).Sublist h) (hq:q=none→gs.length=0∧cap=0) (ao:(gs.map FV.v++sp).length=cap) (hin:∀g∈gs,g.In t H):z6 t tl w0 w (cQ q gs.length cap) gs:=
 ⟨q,cap,sp,H,rfl,hq,ao,(gh.of s).sub hs,hin⟩
theorem FV.In.sep {t:TypeId} {w0 w:World} {S:List Nat} {h hF:Hl} {Y:List (Nat×Obj)} {x:FV} (g:x.In t hF) (s:St w0 S w (h++hF) Y):CI (cM h) w x.a x.f:=by
 refine ⟨((g.mono (List.subset_append_right h hF)).at s).at_,fun b o e hm=>?_⟩
 obtain ⟨q,sp,h1,h2,_⟩:=g
 rw [h2] at e
 obtain ⟨o1,ho⟩:=gy.1 hm
 cases q with
 |none=>cases e
 |some c=>
  cases e
  exact (List.pairwise_append.1 s.apart).2.2 _ ho _ h1 b rfl rfl
structure I1 (t:TypeId) (H:Hl) (gs:List FV) (ts:List Tr):Prop where
  eq:gs.map FV.f=ts.map bT
  cf:∀u∈ts,u.ok∧bT u≠[]
  I7:∀g∈gs,g.In t H
def Gn (f o:List NV) (e:Int):Prop:=(aW f≠0∧o=[]∧e=aW f)∨(aW f=0∧o=bT (aN (bh f)).1∧e=if o=[] then 8 else 0)
theorem oD (f:List NV):aZ (aj f):=by
 by_cases h:aW f=0
 ·exact (iB h).nodes
 rw [aj,if_pos h];intro i hi;exact absurd hi (Nat.not_lt_zero _)
end Go.Proofs.Wit
namespace Go.Proofs.Wit
open Go Go.RowKit
def jh (f g:List NV):Bool:=decide (aW f=0∧aW g=0∧aj f=aj g)
theorem AN {f g:List NV} {u:Tr} (h0:aW f=0) (hg:Cf g u):jh f g=decide (bh f=u):=by
 unfold jh
 rw [decide_eq_decide]
 have hT:=(aA.1 h0).top
 have hcg:aj g=bX u:=by rw [dv hg.jD,hg.top]
 constructor
 ·rintro ⟨_,_,h⟩
  rw [dv h0,hcg] at h
  exact zE hT hg.ok h
 intro h
 exact ⟨h0,hg.jD,by rw [dv h0,hcg,h]⟩
end Go.Proofs.Wit
namespace Go.Proofs.Wit
open Go Go.RowKit
theorem nM {f:List NV} {i:Nat} (hi:i<f.length) (hO:aZ f):fE (aa f i)=f[i].op:=by
 rcases dE hi hO with ⟨_,h⟩|⟨_,_,h⟩|⟨_,h⟩<;>rw [h]<;>rfl
end Go.Proofs.Wit
namespace Go.Proofs.Wit
open Go Go.RowKit
def dF (A B:Nat) (op i g:Int):Bool:=decide (op≤13) && ((!pf op||decide (i.toNat<A)) && ((!(op==3)||decide (i.toNat<B)) && decide (g.toNat<2^A)))
end Go.Proofs.Wit
namespace Go.Proofs.Wit
open Go Go.RowKit
def qU {α:Type} (L:Nat) (P:Nat→α) (d:α) (k:Nat):List α:=(List.range L).map (fun j=>if j<k then P j else d)
section
variable {α:Type} {L:Nat} {P:Nat→α} {d:α} {k j:Nat}
theorem jG:(qU L P d k).length=L:=by simp [qU]
theorem rL (hj:j<k) (hL:j<L) {e:α}:(qU L P d k).getD j e=P j:=by simp [qU,List.getD_eq_getElem?_getD,hL,hj]
theorem yh:qU L P d 0=List.replicate L d:=by
 apply List.ext_getElem (by simp [qU])
 intro i h1 h2
 simp [qU]
theorem rK (_hk:k<L):(qU L P d k).set k (P k)=qU L P d (k+1):=by
 apply List.ext_getElem (by simp [qU])
 intro i h1 h2
 rw [List.getElem_set]
 by_cases hi:k=i
 ·subst hi;simp [qU]
 rw [if_neg hi]
 simp only [qU,List.getElem_map,List.getElem_range]
 by_cases h3:i<k
 ·rw [if_pos h3,if_pos (by omega)]
 rw [if_neg h3,if_neg (by omega)]
end
theorem pk {op:Int} (h:1≤op∧op≤21):cG op=decide (4≤op):=by
 rcases nK h with rfl|rfl|rfl|rfl|rfl|rfl|rfl|rfl|rfl|rfl|rfl|rfl|rfl|rfl|rfl|rfl|rfl|rfl|rfl|rfl|rfl<;>rfl
end Go.Proofs.Wit
namespace Go.Proofs.Wit
open Go Go.RowKit
/-- a list that is a formula, or nothing -/
def Bf (f:List NV):Option Tr→Prop
 |none=>f=[]
 |some t=>Cf f t
theorem Bf.le {f:List NV} {o:Option Tr} (h:Bf f o):f.length≤200:=by
 cases o with
 |none=>rw [show f=[] from h];decide
 |some t=>exact Cf.le h
theorem Bf.max {f:List NV} {o:Option Tr} (h:Bf f o):f.length≤maxLen:=by have:=h.le;unfold maxLen;omega
theorem gh.Ik {w w':World} {o o':Obj}:gh w w' [(none,o),(none,o')]:=
 have h:∀p∈[((none:Option Nat),o),(none,o')],∀b,p.1=some b→False:=fun p hp b hb=>by
  simp only [List.mem_cons,List.not_mem_nil,or_false] at hp
  rcases hp with rfl|rfl<;>cases hb
 ⟨fun p hp b hb=>(h p hp b hb).elim,List.pairwise_cons.2 ⟨fun _ _ _ hb=>(by cases hb),List.pairwise_cons.2 ⟨fun _ hp=>(by cases hp),List.Pairwise.nil⟩⟩⟩
theorem St.cJ {w0 w:World} {S:List Nat} {h:Hl} {Y:List (Nat×Obj)} (s:St w0 S w h Y) {o:Obj}:St w0 S w ((Option.none,o)::h) Y:=
 ⟨s.ext,fun p hp b hb=>by
  rcases List.mem_cons.1 hp with rfl|hp
  ·cases hb
  exact s.own p hp b hb,List.pairwise_cons.2 ⟨fun _ _ _ hb=>(by cases hb),s.apart⟩,s.sys,s.wh⟩
def kO:Option Tr→Int
 |none=>0
 |some t=>fE t
def fI:Tr→Int
 |.leaf _ i _ _=>i
 |.un _ i _ _ _=>i
 |.bin _ i _ _ _ _=>i
def fG:Tr→Int
 |.leaf _ _ _ g=>g
 |.un _ _ _ g _=>g
 |.bin _ _ _ g _ _=>g
def FL:Option Tr→Int
 |none=>0
 |some t=>fI t
def G2:Option Tr→Int
 |none=>0
 |some t=>fG t
def gN:Option Tr→Option Tr
 |some (.un _ _ _ _ a)=>some a
 |some (.bin _ _ _ _ a _)=>some a
 |_=>none
def vP:Option Tr→Option Tr
 |some (.bin op _ _ _ _ b)=>if op=5∨op=6∨op=7∨op=8∨op=13 then some b else none
 |_=>none
abbrev aP (a b:Tr):Tr:=.bin 7 0 0 0 a b
abbrev jA (a b:Tr):Tr:=.bin 5 0 0 0 a b
abbrev nJ (a b:Tr):Tr:=.bin 8 0 0 0 a b
abbrev ar (i:Int) (a:Tr):Tr:=.un 9 i 0 0 a
abbrev gl (i:Int) (a:Tr):Tr:=.un 10 i 0 0 a
abbrev rq (g:Int) (a:Tr):Tr:=.un 11 0 0 g a
abbrev nq (g:Int) (a b:Tr):Tr:=.bin 13 0 0 g a b
theorem Di {op i e g:Int} {a b:Tr} (h:(Tr.bin op i e g a b).ok) (hop:op=5∨op=6∨op=7∨op=8):i=0∧e=0∧g=0:=by
 have hF:=gz h.2.2.1
 rcases hop with rfl|rfl|rfl|rfl<;>exact ⟨hF.i0 rfl,hF.e0 (by decide),hF.g0 rfl⟩
theorem Dh {i e g:Int} {a b:Tr} (h:(Tr.bin 13 i e g a b).ok):i=0∧e=0∧1≤g∧g<16:=by
 have hF:=gz h.2.2.1
 exact ⟨hF.i0 rfl,hF.e0 (by decide),hF.gr rfl⟩
theorem mV {op i e g:Int} {a:Tr} (h:(Tr.un op i e g a).ok) (hop:op=9∨op=10):(0≤i∧i<4)∧e=0∧g=0:=by
 have hF:=gz h.2.2.2.1
 rcases hop with rfl|rfl<;>exact ⟨hF.ag rfl,hF.e0 (by decide),hF.g0 rfl⟩
theorem Fj {i e g:Int} {a:Tr} (h:(Tr.un 11 i e g a).ok):i=0∧e=0∧1≤g∧g<16:=by
 have hF:=gz h.2.2.2.1
 exact ⟨hF.i0 rfl,hF.e0 (by decide),hF.gr rfl⟩
theorem mF {t:Tr} (h:t.ok):(cG (fE t)=false∧kids t=[])∨(cG (fE t)=true∧ct (fE t)=false∧∃i e g a,t=.un (fE t) i e g a)∨(ct (fE t)=true∧∃i e g a b,t=.bin (fE t) i e g a b):=by
 cases t with
 |leaf op i e g=>exact .inl ⟨h.2.1,rfl⟩
 |un op i e g a=>exact .inr (.inl ⟨h.2.1,h.2.2.1,i,e,g,a,rfl⟩)
 |bin op i e g a b=>exact .inr (.inr ⟨h.2.1,i,e,g,a,b,rfl⟩)
theorem Az {t:Tr} (h:t.ok) {op:Int} (e:fE t=op) (hop:op=5∨op=6∨op=7∨op=8):∃a b,t=.bin op 0 0 0 a b:=by
 rcases mF h with ⟨h1,_⟩|⟨_,h1,_⟩|⟨_,i,e',g,a,b,ht⟩
 ·rw [e] at h1;rcases hop with rfl|rfl|rfl|rfl<;>exact absurd h1 (by decide)
 ·rw [e] at h1;rcases hop with rfl|rfl|rfl|rfl<;>exact absurd h1 (by decide)
 rw [e] at ht
 rw [ht] at h
 obtain ⟨rfl,rfl,rfl⟩:=Di h hop
 exact ⟨a,b,ht⟩
theorem Ay {t:Tr} (h:t.ok) (e:fE t=13):∃g a b,t=nq g a b∧1≤g∧g<16:=by
 rcases mF h with ⟨h1,_⟩|⟨_,h1,_⟩|⟨_,i,e',g,a,b,ht⟩
 ·rw [e] at h1;exact absurd h1 (by decide)
 ·rw [e] at h1;exact absurd h1 (by decide)
 rw [e] at ht
 rw [ht] at h
 obtain ⟨rfl,rfl,hg⟩:=Dh h
 exact ⟨g,a,b,ht,hg⟩
theorem CX {t:Tr} (h:t.ok) {op:Int} (e:fE t=op) (hop:op=9∨op=10):∃i a,t=.un op i 0 0 a∧0≤i∧i<4:=by
 rcases mF h with ⟨h1,_⟩|⟨_,_,i,e',g,a,ht⟩|⟨h1,_⟩
 ·rw [e] at h1;rcases hop with rfl|rfl<;>exact absurd h1 (by decide)
 ·rw [e] at ht
  rw [ht] at h
  obtain ⟨hi,rfl,rfl⟩:=mV h hop
  exact ⟨i,a,ht,hi⟩
 rw [e] at h1;rcases hop with rfl|rfl<;>exact absurd h1 (by decide)
theorem CY {t:Tr} (h:t.ok) (e:fE t=11):∃g a,t=rq g a∧1≤g∧g<16:=by
 rcases mF h with ⟨h1,_⟩|⟨_,_,i,e',g,a,ht⟩|⟨h1,_⟩
 ·rw [e] at h1;exact absurd h1 (by decide)
 ·rw [e] at ht
  rw [ht] at h
  obtain ⟨rfl,rfl,hg⟩:=Fj h
  exact ⟨g,a,ht,hg⟩
 rw [e] at h1;exact absurd h1 (by decide)
def Fit (t:Tr):Prop:=(bX t).length≤200
theorem Fit.tF {t c:Tr} (h:Fit t) (hc:c∈kids t):Fit c:=Nat.le_trans (js hc) h
theorem Cf.wW {f:List NV} {t:Tr} (h:Cf f t) (hl:f.length - 1<f.length) (h4:4≤fE t):Bf (fz f f[f.length - 1].x) (gN (some t)):=by
  have ht:aa f (f.length - 1)=t:=by rw [←dg];exact h.top
  have hn:=h.okF.nodes
  have hO:=hn _ hl
  have hc:=h.can
  have key:∀c,c∈kids t→∀x:Int,aa f x.toNat=c→0≤x→x<f.length→Bf (fz f x) (some c):=fun c hck x hx h0 hlt=>by
    have hcl:(bX c).length≤200:=Nat.le_trans (js hck) hc.2
    rw [fz,if_neg (by rintro (e|e|e);· exact e h.jD
                      · omega
                      · omega),hx]
    exact Cf.of (h.ok.tF hck) hcl
  rcases dE hl hn with ⟨h1,h2⟩|⟨h1,h1',h2⟩|⟨h1,h2⟩
  · rw [ht] at h2
    have e:f[f.length - 1].op=fE t:=by rw [h2];rfl
    rw [pk hO.op,decide_eq_false_iff_not] at h1
    omega
  · rw [ht] at h2
    have hx:=hO.x h1
    rw [h2]
    exact key _ (by rw [h2];exact List.mem_cons_self ..) _ rfl hx.1 (by omega)
  rw [ht] at h2
  have hx:=hO.x (ez h1)
  rw [h2]
  exact key _ (by rw [h2];exact List.mem_cons_self ..) _ rfl hx.1 (by omega)
theorem Cf.uM {f:List NV} {t:Tr} (h:Cf f t) (hl:f.length - 1<f.length) (h5:fE t=5∨fE t=6∨fE t=7∨fE t=8∨fE t=13):Bf (fz f f[f.length - 1].y) (vP (some t)):=by
  have ht:aa f (f.length - 1)=t:=by rw [←dg];exact h.top
  have hn:=h.okF.nodes
  have hO:=hn _ hl
  have hc:=h.can
  rcases dE hl hn with ⟨h1,h2⟩|⟨h1,h1',h2⟩|⟨h1,h2⟩
  · rw [ht] at h2
    have e:f[f.length - 1].op=fE t:=by rw [h2];rfl
    rw [e] at h1
    rcases h5 with h5|h5|h5|h5|h5<;>rw [h5] at h1<;>exact absurd h1 (by decide)
  · rw [ht] at h2
    have e:f[f.length - 1].op=fE t:=by rw [h2];rfl
    rw [e] at h1'
    rcases h5 with h5|h5|h5|h5|h5<;>rw [h5] at h1'<;>exact absurd h1' (by decide)
  rw [ht] at h2
  have e:f[f.length - 1].op=fE t:=by rw [h2];rfl
  have hy:=hO.y h1
  have hck:aa f f[f.length - 1].y.toNat∈kids t:=by rw [h2];exact List.mem_cons_of_mem _ (List.mem_cons_self ..)
  have hcl:(bX (aa f f[f.length - 1].y.toNat)).length≤200:=Nat.le_trans (js hck) hc.2
  have hk:vP (some t)=some (aa f f[f.length - 1].y.toNat):=by
    rw [h2]
    exact if_pos (by rw [e];exact h5)
  rw [hk,fz,if_neg (by rintro (e|e|e);· exact e h.jD
                       · omega
                       · omega)]
  exact Cf.of (h.ok.tF hck) hcl
theorem Cf.BA {f:List NV} {t:Tr} (h:Cf f t) (hl:f.length - 1<f.length):f[f.length - 1].op=fE t∧f[f.length - 1].i=fI t∧f[f.length - 1].g=fG t:=by
 have ht:aa f (f.length - 1)=t:=by rw [←dg];exact h.top
 rcases dE hl h.okF.nodes with ⟨h1,h2⟩|⟨h1,h1',h2⟩|⟨h1,h2⟩<;>rw [ht] at h2<;>rw [h2]<;>exact ⟨rfl,rfl,rfl⟩
theorem yT {t:Tr} (h:¬(fE t=5∨fE t=6∨fE t=7∨fE t=8∨fE t=13)):vP (some t)=none:=by
 cases t with
 |leaf=>rfl
 |un=>rfl
 |bin op i e g a b=>exact if_neg h
theorem yU {t:Tr} (hok:t.ok) (h:¬4≤fE t):gN (some t)=none:=by
 cases t with
 |leaf=>rfl
 |un op i e g a=>have h1:=hok.2.1;rw [pk hok.1,decide_eq_true_eq] at h1;exact absurd h1 h
 |bin op i e g a b=>have h1:=ez hok.2.1;rw [pk hok.1,decide_eq_true_eq] at h1;exact absurd h1 h
theorem yP {f:List NV} (h:aW f=0):Fit (bh f):=by
 have h1:=nZ h
 rw [dv h] at h1
 have:=(aA.1 h).len
 show (bX (bh f)).length≤200
 omega
def Ey (t:Tr):Prop:=∃i x y,t=aP (ar i (aP x y)) (aP (ar i x) (ar i y))
def CJ (t:Tr):Prop:=∃i x,t=aP (ar i x) x
def CM (t:Tr):Prop:=∃i x,t=aP (ar i x) (ar i (ar i x))
def EB (t:Tr):Prop:=∃i x,t=aP (aE (ar i x)) (ar i (aE (ar i x)))
def CL (t:Tr):Prop:=∃i x,t=aP (ar i x) (aE (ar i (aE x)))
def Ew (t:Tr):Prop:=∃i x,t=nJ (gl i x) (aE (ar i (aE x)))
def EA (t:Tr):Prop:=∃g x y,t=nJ (nq g x y) (rq g (aP x (jA y (nq g x y))))
def CK (u t:Tr):Prop:=∃z g x y,t=aP z (nq g x y)∧u=aP z (rq g (aP x (jA y z)))
section
variable {t:Tr}
theorem Fit.r {op i e g:Int} {a b:Tr} (h:Fit (.bin op i e g a b)):Fit b:=h.tF (List.mem_cons_of_mem _ (List.mem_cons_self ..))
theorem Fit.u {op i e g:Int} {a:Tr} (h:Fit (.un op i e g a)):Fit a:=h.tF (List.mem_cons_self ..)
end
end Go.Proofs.Wit
namespace Go.Proofs.Wit
open Go Go.RowKit
section
variable {t u:Tr}
theorem pB {f:List NV} {X:Tr} (h:aW f=0) (hX:X.ok):jh f (bT X)=decide (bh f=X):=by
 by_cases hl:Fit X
 ·exact AN h (Cf.yt hX (Cy.2 hl))
 have e:bT X=[]:=vd.2 (by unfold Fit at hl;omega)
 rw [e,show jh f []=false from decide_eq_false (fun e=>absurd e.2.1 (by decide))]
 exact (decide_eq_false (fun e:bh f=X=>hl (e ▸ yP h))).symm
theorem dt {f:List NV} {t X:Tr} (h:Cf f t) (hX:X.ok):jh f (bT X)=decide (t=X):=by rw [pB h.jD hX,h.top]
theorem Ey.iff {i:Int} {p q:Tr} (h:gN (some t)=some (ar i (aP p q))):t=aP (ar i (aP p q)) (aP (ar i p) (ar i q))↔Ey t:=
 ⟨fun e=>⟨i,p,q,e⟩,fun ⟨i',x,y,e⟩=>by
  subst e
  have h':some (ar i' (aP x y))=some (ar i (aP p q)):=h
  cases h';rfl⟩
theorem Ey.gd (h:Ey t):kO (gN (some t))=9∧kO (gN (gN (some t)))=7:=by obtain ⟨i,x,y,rfl⟩:=h;exact ⟨rfl,rfl⟩
theorem CJ.iff {i:Int} {x:Tr} (h:gN (some t)=some (ar i x)):t=aP (ar i x) x↔CJ t:=
 ⟨fun e=>⟨i,x,e⟩,fun ⟨i',y,e⟩=>by
  subst e
  have h':some (ar i' y)=some (ar i x):=h
  cases h';rfl⟩
theorem CJ.gd (h:CJ t):kO (gN (some t))=9:=by obtain ⟨i,x,rfl⟩:=h;rfl
theorem CM.iff {i:Int} {x:Tr} (h:gN (some t)=some (ar i x)):t=aP (ar i x) (ar i (ar i x))↔CM t:=
 ⟨fun e=>⟨i,x,e⟩,fun ⟨i',y,e⟩=>by
  subst e
  have h':some (ar i' y)=some (ar i x):=h
  cases h';rfl⟩
theorem CM.gd (h:CM t):kO (gN (some t))=9:=by obtain ⟨i,x,rfl⟩:=h;rfl
theorem CL.iff {i:Int} {x:Tr} (h:gN (some t)=some (ar i x)):t=aP (ar i x) (aE (ar i (aE x)))↔CL t:=
 ⟨fun e=>⟨i,x,e⟩,fun ⟨i',y,e⟩=>by
  subst e
  have h':some (ar i' y)=some (ar i x):=h
  cases h';rfl⟩
theorem CL.gd (h:CL t):kO (gN (some t))=9:=by obtain ⟨i,x,rfl⟩:=h;rfl
theorem EB.iff {i:Int} {x:Tr} (h:gN (gN (some t))=some (ar i x)):t=aP (aE (ar i x)) (ar i (aE (ar i x)))↔EB t:=
 ⟨fun e=>⟨i,x,e⟩,fun ⟨i',y,e⟩=>by
  subst e
  have h':some (ar i' y)=some (ar i x):=h
  cases h';rfl⟩
theorem EB.gd (h:EB t):kO (gN (gN (some t)))=9:=by obtain ⟨i,x,rfl⟩:=h;rfl
theorem Ew.iff {i:Int} {x:Tr} (h:gN (some t)=some (gl i x)):t=nJ (gl i x) (aE (ar i (aE x)))↔Ew t:=
 ⟨fun e=>⟨i,x,e⟩,fun ⟨i',y,e⟩=>by
  subst e
  have h':some (gl i' y)=some (gl i x):=h
  cases h';rfl⟩
theorem Ew.gd (h:Ew t):kO (gN (some t))=10:=by obtain ⟨i,x,rfl⟩:=h;rfl
theorem EA.iff {g:Int} {x y:Tr} (h:gN (some t)=some (nq g x y)):t=nJ (nq g x y) (rq g (aP x (jA y (nq g x y))))↔EA t:=
 ⟨fun e=>⟨g,x,y,e⟩,fun ⟨g',x',y',e⟩=>by
  subst e
  have h':some (nq g' x' y')=some (nq g x y):=h
  cases h';rfl⟩
theorem EA.gd (h:EA t):kO (gN (some t))=13:=by obtain ⟨g,x,y,rfl⟩:=h;rfl
theorem CK.iff {z:Tr} {g:Int} {x y:Tr} (hz:gN (some t)=some z) (h:vP (some t)=some (nq g x y)):(t=aP z (nq g x y)∧u=aP z (rq g (aP x (jA y z))))↔CK u t:=
 ⟨fun e=>⟨z,g,x,y,e⟩,fun ⟨z',g',x',y',e,e2⟩=>by
  subst e;subst e2
  have h':some (nq g' x' y')=some (nq g x y):=h
  have hz':some z'=some z:=hz
  cases h';cases hz';exact ⟨rfl,rfl⟩⟩
theorem CK.gd (h:CK u t):kO (vP (some t))=13:=by obtain ⟨z,g,x,y,rfl,_⟩:=h;rfl
def qJ (g k:Nat):List Nat:=(List.range k).filter (fun i=>gb g i==1)
theorem zU {g k:Nat} (h:gb g k=1):qJ g (k+1)=qJ g k++[k]:=by simp [qJ,List.range_succ,List.filter_append,h]
theorem B5 {g k:Nat} (h:gb g k≠1):qJ g (k+1)=qJ g k:=by simp [qJ,List.range_succ,List.filter_append,h]
theorem zV {g k:Nat}:(qJ g k).length≤k:=by have:=List.length_filter_le (fun i=>gb g i==1) (List.range k);simpa [qJ] using this
theorem B6 {g k i:Nat} (h:i∈qJ g k):i<k:=by simpa using (List.mem_filter.1 h).1
def Co (g k:Nat) (x:Tr):List Tr:=(qJ g k).map (fun (j:Nat)=>ar (j:Int) x)
def xl (g:Nat) (x:Tr):Tr:=jM (Co g 4 x)
def Ez (t:Tr):Prop:=∃(g:Int) (x:Tr),t=nJ (rq g x) (xl g.toNat x)
theorem Ez.iff {g:Int} {x:Tr} (h:gN (some t)=some (rq g x)):t=nJ (rq g x) (xl g.toNat x)↔Ez t:=
 ⟨fun e=>⟨g,x,e⟩,fun ⟨g',y,e⟩=>by
  subst e
  have h':some (rq g' y)=some (rq g x):=h
  cases h';rfl⟩
theorem Ez.gd (h:Ez t):kO (gN (some t))=11:=by obtain ⟨g,x,rfl⟩:=h;rfl
end
def ia (o:Option Tr):Prop:=∀A,o=some A→A.ok
theorem ia.a {o:Option Tr} (h:ia o):ia (gN o):=fun A e=>by
 cases o with
 |none=>cases e
 |some t=>
  cases t with
  |leaf=>cases e
  |un op i e' g a=>have e2:some a=some A:=e;cases e2;exact (h _ rfl).tF (List.mem_cons_self ..)
  |bin op i e' g a b=>have e2:some a=some A:=e;cases e2;exact (h _ rfl).tF (List.mem_cons_self ..)
theorem ia.b {o:Option Tr} (h:ia o):ia (vP o):=fun A e=>by
 cases o with
 |none=>cases e
 |some t=>
  cases t with
  |leaf=>cases e
  |un=>cases e
  |bin op i e' g a b=>
   have e2:(if op=5∨op=6∨op=7∨op=8∨op=13 then some b else none)=some A:=e
   split at e2
   ·cases e2;exact (h _ rfl).tF (List.mem_cons_of_mem _ (List.mem_cons_self ..))
   cases e2
theorem ia.of {t:Tr} (h:t.ok):ia (some t):=fun A e=>by cases e;exact h
theorem mT {o:Option Tr} {n:Int} (h:kO o=n) (hn:n≠0):∃t,o=some t∧fE t=n:=by
 cases o with
 |none=>exact absurd h.symm hn
 |some t=>exact ⟨t,rfl,h⟩
theorem ia.kn {o:Option Tr} (h:ia o) {op:Int} (e:kO o=op) (hop:op=9∨op=10):∃i G,o=some (.un op i 0 0 G)∧(0≤i∧i<4)∧G.ok:=by
 obtain ⟨t,rfl,ht⟩:=mT e (by omega)
 obtain ⟨i,G,rfl,hi⟩:=CX (h _ rfl) ht hop
 exact ⟨i,G,rfl,hi,(h _ rfl).tF (List.mem_cons_self ..)⟩
theorem ia.bn {o:Option Tr} (h:ia o) {op:Int} (e:kO o=op) (hop:op=5∨op=6∨op=7∨op=8):∃p q,o=some (.bin op 0 0 0 p q)∧p.ok∧q.ok:=by
 obtain ⟨t,rfl,ht⟩:=mT e (by omega)
 obtain ⟨p,q,rfl⟩:=Az (h _ rfl) ht hop
 exact ⟨p,q,rfl,(h _ rfl).tF (List.mem_cons_self ..),(h _ rfl).tF (List.mem_cons_of_mem _ (List.mem_cons_self ..))⟩
theorem ia.co {o:Option Tr} (h:ia o) (e:kO o=13):∃g p q,o=some (nq g p q)∧(1≤g∧g<16)∧p.ok∧q.ok:=by
 obtain ⟨t,rfl,ht⟩:=mT e (by omega)
 obtain ⟨g,p,q,rfl,hg⟩:=Ay (h _ rfl) ht
 exact ⟨g,p,q,rfl,hg,(h _ rfl).tF (List.mem_cons_self ..),(h _ rfl).tF (List.mem_cons_of_mem _ (List.mem_cons_self ..))⟩
theorem ia.ev {o:Option Tr} (h:ia o) (e:kO o=11):∃g p,o=some (rq g p)∧(1≤g∧g<16)∧p.ok:=by
 obtain ⟨t,rfl,ht⟩:=mT e (by omega)
 obtain ⟨g,p,rfl,hg⟩:=CY (h _ rfl) ht
 exact ⟨g,p,rfl,hg,(h _ rfl).tF (List.mem_cons_self ..)⟩
theorem dC {a b:Tr} (ha:a.ok) (hb:b.ok):(aP a b).ok:=⟨by decide,rfl,by decide,ha,hb⟩
theorem gp {a b:Tr} (ha:a.ok) (hb:b.ok):(jA a b).ok:=⟨by decide,rfl,by decide,ha,hb⟩
theorem tJ {a b:Tr} (ha:a.ok) (hb:b.ok):(nJ a b).ok:=⟨by decide,rfl,by decide,ha,hb⟩
theorem bA {a:Tr} (ha:a.ok):(aE a).ok:=⟨by decide,rfl,rfl,by decide,ha⟩
theorem r0 {i:Int} (hi:0≤i∧i<4):fe 9 i 0 0=0:=by
 obtain ⟨k,rfl⟩:∃k:Nat,i=(k:Int):=⟨i.toNat,by omega⟩
 have:∀j:Fin 4,fe 9 ((j.val:Nat):Int) 0 0=0:=by decide
 exact this ⟨k,by omega⟩
theorem zc {g:Int} (hg:1≤g∧g<16):fe 11 0 0 g=0:=by
 obtain ⟨k,rfl⟩:∃k:Nat,g=(k:Int):=⟨g.toNat,by omega⟩
 have:∀j:Fin 16,1≤j.val→fe 11 0 0 ((j.val:Nat):Int)=0:=by decide
 exact this ⟨k,by omega⟩ (by show 1≤k;omega)
theorem bt {i:Int} {a:Tr} (hi:0≤i∧i<4) (ha:a.ok):(ar i a).ok:=⟨by decide,rfl,rfl,r0 hi,ha⟩
theorem vV {g:Int} {a:Tr} (hg:1≤g∧g<16) (ha:a.ok):(rq g a).ok:=⟨by decide,rfl,rfl,zc hg,ha⟩
theorem yR {g k:Nat} {x:Tr} (hk:k≤4) (hx:x.ok):∀u∈Co g k x,u.ok:=fun u hu=>by
 obtain ⟨j,hj,rfl⟩:=List.mem_map.1 hu
 have:=B6 hj
 exact bt (by omega) hx
theorem BM:∀{ts:List Tr},(∀u∈ts,u.ok)→(jM ts).ok
 |[],_=>⟨by decide,rfl,by decide⟩
 |t::ts,h=>by
  have key:∀(l:List Tr) (a:Tr),a.ok→(∀u∈l,u.ok)→(l.foldl (fun a b=>.bin 5 0 0 0 a b) a).ok:=fun l=>by
   induction l with
   |nil=>exact fun a ha _=>ha
   |cons b l ih=>exact fun a ha hl=>ih _ (gp ha (hl b (by simp))) (fun u hu=>hl u (by simp [hu]))
  exact key ts t (h t (by simp)) (fun u hu=>h u (by simp [hu]))
theorem wc {g:Nat} {x:Tr} (hx:x.ok):(xl g x).ok:=BM (yR (Nat.le_refl _) hx)
theorem vu {w0 w:World} {S:List Nat} {h:Hl} {Y:List (Nat×Obj)} (s:St w0 S w h Y) (j:Nat) {q:Option Nat} {gs:List FV} {e:TypeId} {sp:List Value} (hj:h[j]?=some (q,ob FV.v e gs sp)) (hq:q=none→gs.length=0):qM w (q.map (fun b=>⟨b,0,none⟩)) gs:=by
 cases q with
 |none=>rw [List.eq_nil_of_length_eq_zero (hq rfl)];exact Sl.nil _ _
 |some b=>exact Sl.di (s.get hj)
theorem yS {t c:Tr} (h:vP (some t)=some c):∃z,gN (some t)=some z:=by
 cases t with
 |leaf=>cases h
 |un=>cases h
 |bin op i e g a b=>exact ⟨a,rfl⟩
def cn (l r:Int):Bool:=if r=3 then decide (l=2∨l=4∨l=6) else if r=4 then decide (3≤l) else if r=5 then decide (5≤l) else if r=6 then decide (l=1∨l=5) else true
def lz (xs:List Int):aB:=xs.foldl (fun a x=>a|||(1#64<<<x.toNat)) 0#64
theorem wR {xs:List Int} {x:Int}:lz (xs++[x])=lz xs|||(1#64<<<x.toNat):=by simp [lz]
theorem FI {l r:Int} (hl:0≤l∧l≤6):cn l r=(((if r=3 then lz [2,4,6] else if r=4 then lz [3,4,5,6] else if r=5 then lz [5,6] else if r=6 then lz [1,5] else BitVec.allOnes 64)>>>l.toNat) &&& 1#64==1#64):=by
 obtain ⟨k,rfl⟩:∃k:Nat,l=(k:Int):=⟨l.toNat,by omega⟩
 have key:∀j:Fin 7,(decide (((j.val:Nat):Int)=2∨((j.val:Nat):Int)=4∨((j.val:Nat):Int)=6)=((lz [2,4,6]>>>((j.val:Nat):Int).toNat) &&& 1#64==1#64))∧(decide (3≤((j.val:Nat):Int))=((lz [3,4,5,6]>>>((j.val:Nat):Int).toNat) &&& 1#64==1#64))∧
   (decide (5≤((j.val:Nat):Int))=((lz [5,6]>>>((j.val:Nat):Int).toNat) &&& 1#64==1#64))∧(decide (((j.val:Nat):Int)=1∨((j.val:Nat):Int)=5)=((lz [1,5]>>>((j.val:Nat):Int).toNat) &&& 1#64==1#64))∧(true=((BitVec.allOnes 64>>>((j.val:Nat):Int).toNat) &&& 1#64==1#64)):=by decide+kernel
 obtain ⟨k1,k2,k3,k4,k5⟩:=key ⟨k,by omega⟩
 unfold cn
 by_cases h3:r=3
 ·rw [if_pos h3,if_pos h3];exact k1
 rw [if_neg h3,if_neg h3]
 by_cases h4:r=4
 ·rw [if_pos h4,if_pos h4];exact k2
 rw [if_neg h4,if_neg h4]
 by_cases h5:r=5
 ·rw [if_pos h5,if_pos h5];exact k3
 rw [if_neg h5,if_neg h5]
 by_cases h6:r=6
 ·rw [if_pos h6,if_pos h6];exact k4
 rw [if_neg h6,if_neg h6];exact k5
def fF (f:List NV):Int:=if aW f≠0 then aW f else if kp (kS (aj f)) 11≠0 then 10 else 0
def ej (r:Int):Int:=if r=10 then 2 else if r=11∨r=12 then 1 else 0
end Go.Proofs.Wit
