/- Laws of walks, for any program, under the conditions that each theorem states. -/
import Derived.Test.YtaamcaiglooemaaGreatDoorXF14
set_option maxRecDepth 100000
set_option maxHeartbeats 4000000
namespace Go.Proofs.Wit
structure MO (n:Nat) (P:List Int) (s:aE):Prop where
  len:P.length=n
  ok:Me P
  inv:Mj n P s
section
variable {m:Int} {n:Nat} {val:List aE} {rel:List (List aE)} {t:Tr}
end
structure Mk (c:List NV) (k:Nat) (gs:List Int):Prop where
  has:∀(i:Nat) (hi:i<c.length),i<k→c[i].op=12→c[i].g∈gs
  of:∀g∈gs,∃n∈c,n.op=12∧n.g=g
  nd:gs.Nodup
end Go.Proofs.Wit
namespace Go.Proofs.Wit
open Go
def fst (q:Nat→Bool):Nat→Option Nat
 |0=>none
 |k+1=>match fst q k with
  |some j=>some j
  |none=>if q k=true then some k else none
def LX (n:Nat) (val:List aE) (rel:List (List aE)) (v w k:Nat):Bool:=(ID n val rel k).getD v 0 !=(ID n val rel k).getD w 0
def dst (n:Nat) (val:List aE) (rel:List (List aE)) (v w:Nat):Option Nat:=fst (LX n val rel v w) (dep n val rel+1)
section
variable {n:Nat} {val:List aE} {rel:List (List aE)}
end
section
variable {n:Nat} {val:List aE} {rel:List (List aE)}
def Md (A B:Nat) (t:Tr):Prop:=kz (fun op i g=>JD A B op i g∧op≤10) t
structure JB (n:Nat) (val:List aE) (rel:List (List aE)) (v w k:Nat) (t:Tr):Prop where
  ok:t.ok
  pl:Md rel.length val.length t
  yes:(Ax n val rel t).getLsbD v=true
  no:(Ax n val rel t).getLsbD w=false
  dp:Ei t≤k
end
def KC (U:List Tr):Prop:=∀t∈U,∀c∈kids t,c∈U
abbrev Mm:=List ((Int×Int)×FV)
section
variable {n:Nat} {val:List aE} {rel:List (List aE)}
def Fo (n:Nat) (val:List aE) (rel:List (List aE)) (v w k:Nat) (f:List NV):Prop:=(f=[]∧5<n)∨∃t,JB n val rel v w k t∧f=bT t∧f≠[]
structure L4 (U:List Tr) (L:Mm):Prop where
  kc:KC U
  top:Tr.leaf 1 0 0 0∈U
  LP:∀e∈L,∀t,t.ok→e.2.f=bT t→e.2.f≠[]→t∈U
structure KQ (n:Nat) (val:List aE) (rel:List (List aE)) (L:Mm):Prop where
  nd:(L.map (·.1)).Nodup
  LP:∀e∈L,∃v w k:Nat,e.1=((v:Int),(w:Int))∧v<n∧w<n∧dst n val rel v w=some k∧Fo n val rel v w k e.2.f
  Mo:n≤5→∃U,L4 U L∧U.length≤6*L.length+1
end
end Go.Proofs.Wit
namespace Go.Proofs.Wit
abbrev KL:=Int→Int→Int→Int→Tr→Tr→Tr
def jW:KL:=fun op i e g a b=>vu ⟨op,i,e,g,0,0⟩ a b
theorem l7 {op:Int} (h:cS op=false):cF op=false:=by
 cases e:cF op with
 |false=>rfl
 |true=>exact absurd ((dI e).symm.trans h) (by decide)
theorem Fp {t:Tr}:bT t≠[]↔(cg t).length≤200:=by rw [Ne,xq];omega
def cT (o:Int):Tr:=.leaf o 0 0 0
def oY:Tr→Int→Bool
 |.leaf op _ _ _,o=>op==o
 |_,_=>false
def wz:Tr→Option Tr
 |.un op _ _ _ a=>if op=4 then some a else none
 |_=>none
def aF (t:Tr):Tr:=.un 4 0 0 0 t
def DK (t:Tr):Tr:=(wz t).getD (aF t)
def IJ (a b:Tr):Bool:=wz a==some b||wz b==some a
def Bk (op i e g:Int) (a b:Tr) (ne dm:Int):Tr:=
 if (oY a dm||oY b dm||(IJ a b && !oY a ne && !oY b ne))=true then cT dm
 else if oY a ne=true then b else if (oY b ne||a==b)=true then a else jW op i e g a b
def dO (a b:Tr):Tr:=
 if (oY a 2||oY b 1||a==b)=true then cT 1 else if oY a 1=true then b else if oY b 2=true then DK a else jW 7 0 0 0 a b
def Ku (a b:Tr):Tr:=
 if (a==b)=true then cT 1 else if IJ a b=true then cT 2 else if oY a 1=true then b else if oY b 1=true then a
 else if oY a 2=true then DK b else if oY b 2=true then DK a else jW 8 0 0 0 a b
def J8:KL:=fun op i e g a b=>
 if op=4 then (if oY a 1=true then cT 2 else if oY a 2=true then cT 1 else DK a)
 else if op=5 then Bk op i e g a b 1 2
 else if op=6 then Bk op i e g a b 2 1
 else if op=7 then dO a b
 else if op=8 then Ku a b
 else if op=10 then (if oY a 2=true then cT 2 else jW op i e g a b)
 else if op=16 then (if (oY a 1 && !oY b 1)=true then b else if (oY a 2||oY b 1)=true then cT 1 else jW op i e g a b)
 else if op=13∨op=14 then (if (oY a 2||oY b 1)=true then cT 1 else jW op i e g a b)
 else if op=9∨op=11∨op=12∨op=15∨op=17 then (if oY a 1=true then cT 1 else jW op i e g a b)
 else jW op i e g a b
theorem Fk {o:Int} (h:o=1∨o=2):(cT o).ok:=by rcases h with rfl|rfl<;>exact ⟨by decide,rfl,rfl⟩
theorem wM {t:Tr} (h:t.ok):(aF t).ok:=⟨by decide,rfl,rfl,rfl,h⟩
inductive uU (op i e g:Int) (a b:Tr):Tr→Prop
  |c1:uU op i e g a b (cT 1)
  |c2:uU op i e g a b (cT 2)
  |a (h:cS op=true):uU op i e g a b a
  |b (h:cF op=true):uU op i e g a b b
  |sa (h:cS op=true) (c:Tr) (h:wz a=some c):uU op i e g a b c
  |sb (h:cF op=true) (c:Tr) (h:wz b=some c):uU op i e g a b c
  |na (h:cS op=true) (h0:wz a=none) (h1:oY a 1=false) (h2:oY a 2=false):uU op i e g a b (aF a)
  |nb (h:cF op=true) (h0:wz b=none) (h1:oY b 1=false) (h2:oY b 2=false):uU op i e g a b (aF b)
  |mk (h:J8 op i e g a b=jW op i e g a b):uU op i e g a b (jW op i e g a b)
end Go.Proofs.Wit
namespace Go.Proofs.Wit
open Go Go.RowKit
structure IV where
  a:Option Addr
  c:Nat
  xs:List Int
def IV.v (x:IV):Value:=.slice x.a x.xs.length x.c
abbrev IX (m:MV) (mD:Nat) (pa:Option Addr) (pl pc:Nat):Array Value:=#[.int .i64 m.n,.slice m.va m.val.length m.vc,.slice m.ra m.rows.length m.rc,.map (some mD),.slice pa pl pc]
structure Mh (e:TypeId) (w:World) (mD bk:Nat) (m:MV) (pa:Option Addr) (pc:Nat) (ps:List IV):Prop where
  db:w.heap[bk]?=some (.cells (IX m mD pa ps.length pc) e (0,0))
  mod:m.At w
  pre:Sl w pa (ps.map IV.v)
  row:∀p∈ps,kD w p.a p.xs
def FV.In (t:TypeId) (H:Hl) (x:FV):Prop:=∃q sp,(q,cN t x.f sp)∈H∧x.a=q.map (fun b=>⟨b,0,none⟩)∧(q=none→x.f.length=0∧x.c=0)∧(x.f.flatMap NV.cells++sp).length=x.c*6
theorem FV.In.mono {t:TypeId} {H H':Hl} {x:FV} (h:x.In t H) (hs:H⊆H'):x.In t H':=by
 obtain ⟨q,sp,h1,h2⟩:=h;exact ⟨q,sp,hs h1,h2⟩
theorem FV.In.at {t:TypeId} {w0 w:World} {S:List Nat} {h:Hl} {Y:List (Nat×Obj)} {x:FV} (g:x.In t h) (s:St w0 S w h Y):FA w x.a x.f:=by
 obtain ⟨q,sp,h1,h2,h3,_⟩:=g;obtain ⟨j,hj⟩:=List.mem_iff_getElem?.1 h1;rw [h2];exact aI s j hj (fun e=>(h3 e).1)
theorem FV.In.own {t:TypeId} {w0 w:World} {h:Hl} {Y:List (Nat×Obj)} {x:FV} (g:x.In t h) (s:St w0 [] w h Y):av t w0 w x.v x.f:=by
 obtain ⟨q,sp,h1,h2,h3,h4⟩:=g;refine ⟨q,x.c,sp,?_,h3,h4,fun b e=>?_⟩;cases q with
 |none=>rw [FV.v,h2];rfl
 |some b=>rw [FV.v,h2];rfl
 obtain ⟨k1,_,k2⟩:=s.own _ h1 b e;exact ⟨k2.resolve_right (by simp),k1⟩
theorem Ex.v8 {w w':World} {S:List Nat} (e:Ex S w w') {b j:Nat} (hb:b∉S) {cs:Array Value} {t:TypeId} {fr:Nat×Nat} {v:Value} (h:w.heap[b]?=some (.cells cs t fr)) (hv:cs[j]?=some v):w'.cell? ⟨b,j,none⟩=some v:=by
 have h1:=e.block b (Array.getElem?_eq_some_iff.1 h).1 hb;rw [h] at h1;unfold World.cell?;simp only [h1];exact hv
section
variable {P:Program} {t:TypeId} {x y:aE}
end
structure Ml (t:TypeId) (n:Nat) (val:List aE) (rel:List (List aE)) (d:Nat) (L L':Mm) (F:Hl):Prop where
  fy:KQ n val rel L'
  sub:L⊆L'
  nw:∀e∈L',e∈L∨∃a b i:Nat,e.1=((a:Int),(b:Int))∧dst n val rel a b=some i∧i<d
  at_:∀e∈L',e∈L∨e.2.In t F
section
variable {t:TypeId} {n:Nat} {val:List aE} {rel:List (List aE)}
end
theorem St.eK {w0 w w':World} {S:List Nat} {h:Hl} {Y:List (Nat×Obj)} (s:St w0 S w h Y) (e:Ex [] w w') {pre HR:Hl} (g:fR w w' (pre++HR)):St w0 S w' (pre++(h++HR)) Y:=by
 refine (s.eE e g).perm ?_;rw [List.append_assoc];exact List.perm_append_comm.append_left pre
theorem ab.hJ {P:Program} {r:Option Nat} {f:FuncId} {R:Value→World→Prop} {w0:World} {S:List Nat} {Y:List (Nat×Obj)} {n:Nat} {k:List Item} {l:Fl} {h h':Hl} (hp:h.Perm h') (hg:ab P r f R w0 S Y n k l h'):ab P r f R w0 S Y n k l h:=fun t w Ds hF hS=>hg t w Ds hF (hS.perm hp)
theorem ov {op i e g:Int} {a b:Tr} (hX:cS op=false):jW op i e g a b=.leaf op i e g:=gq (n:=⟨op,i,e,g,0,0⟩) hX
theorem uj {op i e g:Int} {a b:Tr} (hX:cS op=true) (hY:cF op=false):jW op i e g a b=.un op i e g a:=ko (n:=⟨op,i,e,g,0,0⟩) hX hY
theorem qD {op i e g:Int} {a b:Tr} (hY:cF op=true):jW op i e g a b=.bin op i e g a b:=iS (n:=⟨op,i,e,g,0,0⟩) hY
theorem o7 {op:Int} (h:1≤op∧op≤21):op=1∨op=2∨op=3∨op=4∨op=5∨op=6∨op=7∨op=8∨op=9∨op=10∨op=11∨op=12∨op=13∨op=14∨op=15∨op=16∨op=17∨op=18∨op=19∨op=20∨op=21:=by omega
def CJ (w:World) (u:Bool) (x:FV) (t:Tr):Prop:=u=true→FA w x.a x.f∧x.f=bT t∧t.ok
theorem CJ.len {w:World} {u:Bool} {x:FV} {t:Tr} (h:CJ w u x t) (hu:u=true):x.f.length≤maxLen:=by
 rw [(h hu).2.1];have:=wg t;unfold maxLen;omega
theorem Cb {op i e g i' e' g':Int} {a b:Tr} (hop:1≤op∧op≤21) (hX:cS op=false) (hf:eP op i e g=0) (hi:i'=i) (he:e'=e) (hg:g'=g):aU ⟨op,i',e',g',0,0⟩ []=bT (jW op i e g a b):=by
 subst hi he hg;rw [ov hX];exact Hp (n:=⟨op,_,_,_,0,0⟩) hop hX hf rfl rfl
theorem oQ {op i e g i' e' g':Int} {a b:Tr} {f:List NV} (hop:1≤op∧op≤21) (hX:cS op=true) (hY:cF op=false) (hf:eP op i e g=0) (hi:i'=i) (he:e'=e) (hg:g'=g) (h:f=bT a∧a.ok):aU ⟨op,i',e',g',0,0⟩ [f]=bT (jW op i e g a b):=by
 subst hi he hg;rw [uj hX hY,h.1];exact jS h.2 hop hX hY hf
theorem oP {op i e g i' e' g':Int} {a b:Tr} {f k:List NV} (hop:1≤op∧op≤21) (hY:cF op=true) (hf:eP op i e g=0) (hi:i'=i) (he:e'=e) (hg:g'=g) (h:f=bT a∧a.ok) (h':k=bT b∧b.ok):aU ⟨op,i',e',g',0,0⟩ [f,k]=bT (jW op i e g a b):=by
 subst hi he hg;rw [qD hY,h.1,h'.1];exact dC h.2 h'.2 hop hY hf
abbrev FV.z:FV:=⟨none,0,[]⟩
def L7 (t:TypeId) (w w':World) (v:Value) (a b:FV) (u:Tr):Prop:=∃fv:FV,v=fv.v∧fv.f=bT u∧(av t w w' v fv.f∨fv=a∨fv=b)
structure L8 (P:Program) (t:TypeId) (r:KL) (gf:FuncId) (cs:List Value) (w0:World):Prop where
  enter:∀args w,(callFunc gf args).run P w=.ok (.enter gf args) w
  run:∀w,Ex [] w0 w→∀(n:NV) (a b:FV) (ta tb:Tr),(1≤n.op∧n.op≤21)→eP n.op n.i n.e n.g=0→CJ w (cS n.op) a ta→CJ w (cF n.op) b tb→(cS n.op=true→a.f≠[])→(cF n.op=true→b.f≠[])→Cn P gf ([n.v,a.v,b.v]++cs) w (fun v w'=>L7 t w w' v a b (r n.op n.i n.e n.g ta tb))
def ay:Tr→Tr×Tr
 |.leaf op i e g=>(.leaf op i e g,if op=1 then cT 2 else if op=2 then cT 1 else aF (.leaf op i e g))
 |.un op i e g a=>
  if op=4 then ((ay a).2,(ay a).1)
  else if op=9 then (.un op i e g (ay a).1,.un 10 i 0 0 (ay a).2)
  else if op=10 then (.un op i e g (ay a).1,.un 9 i 0 0 (ay a).2)
  else (.un op i e g (ay a).1,aF (.un op i e g (ay a).1))
 |.bin op i e g a b=>
  if op=5 then (.bin op i e g (ay a).1 (ay b).1,.bin 6 0 0 0 (ay a).2 (ay b).2)
  else if op=6 then (.bin op i e g (ay a).1 (ay b).1,.bin 5 0 0 0 (ay a).2 (ay b).2)
  else if op=7 then (.bin 6 0 0 0 (ay a).2 (ay b).1,.bin 5 0 0 0 (ay a).1 (ay b).2)
  else if op=8 then (.bin 5 0 0 0 (.bin 6 0 0 0 (ay a).2 (ay b).1) (.bin 6 0 0 0 (ay a).1 (ay b).2),.bin 6 0 0 0 (.bin 5 0 0 0 (ay a).1 (ay b).2) (.bin 5 0 0 0 (ay a).2 (ay b).1))
  else (.bin op i e g (ay a).1 (ay b).1,aF (.bin op i e g (ay a).1 (ay b).1))
theorem gJ {a b:Tr} (ha:a.ok) (hb:b.ok):(Tr.bin 6 0 0 0 a b).ok:=⟨by omega,rfl,rfl,ha,hb⟩
theorem ie {op i:Int} {a:Tr} (ho:op=9∨op=10) (hi:0≤i∧i<4) (ha:a.ok):(Tr.un op i 0 0 a).ok:=Ie ho hi.1 hi.2 ha
theorem jL:∀{t:Tr},t.ok→(ay t).1.ok∧(ay t).2.ok
 |.leaf op i e g,h=>by
  rw [ay];refine ⟨h,?_⟩;dsimp only;split;exact Fk (.inr rfl);split;exact Fk (.inl rfl);exact wM h
 |.un op i e g a,h=>by
  obtain ⟨h1,h2⟩:=jL h.2.2.2.2;have hme:(Tr.un op i e g (ay a).1).ok:=⟨h.1,h.2.1,h.2.2.1,h.2.2.2.1,h1⟩;rw [ay];split;exact ⟨h2,h1⟩;split;rename_i h9;subst h9;exact ⟨hme,ie (.inr rfl) ((fB h.2.2.2.1).ag rfl) h2⟩;split;rename_i h9;subst h9;exact ⟨hme,ie (.inl rfl) ((fB h.2.2.2.1).ag rfl) h2⟩;exact ⟨hme,wM hme⟩
 |.bin op i e g a b,h=>by
  obtain ⟨h1,h2⟩:=jL h.2.2.2.1;obtain ⟨k1,k2⟩:=jL h.2.2.2.2;have hme:(Tr.bin op i e g (ay a).1 (ay b).1).ok:=⟨h.1,h.2.1,h.2.2.1,h1,k1⟩;rw [ay];split;exact ⟨hme,gJ h2 k2⟩;split;exact ⟨hme,gm h2 k2⟩;split;exact ⟨gJ h2 k1,gm h1 k2⟩;split;exact ⟨gm (gJ h2 k1) (gJ h1 k2),gJ (gm h1 k2) (gm h2 k1)⟩;exact ⟨hme,wM hme⟩
theorem B6 {s t:Tr} (hs:s.ok) (ht:t.ok) (h:cg s=cg t):s=t:=by rw [←iH hs.wf,h,iH ht.wf]
def fE:Tr→Int
 |.leaf op _ _ _=>op
 |.un op _ _ _ _=>op
 |.bin op _ _ _ _ _=>op
theorem tH {t:Tr} (h:t.ok):aa (cg t) ((cg t).length - 1)=t:=by rw [←de];exact iH h.wf
theorem yw {gs:List FV} {k:Nat} (h:k<gs.length):gs.getD k FV.z=gs[k]:=by simp [List.getD_eq_getElem?_getD,h]
structure Cf (f:List NV) (t:Tr):Prop where
  eq:f=bT t
  ne:f≠[]
  ok:t.ok
theorem Cf.can {f:List NV} {t:Tr} (h:Cf f t):f=cg t∧(cg t).length≤200:=by
 have h1:¬200<(cg t).length:=fun hl=>h.ne (h.eq.trans (xq.2 hl));exact ⟨h.eq.trans (we h1),by omega⟩
theorem Cf.okF {f:List NV} {t:Tr} (h:Cf f t):z8 f:=by rw [h.can.1];exact r9 h.ok h.can.2
theorem Cf.jk {f:List NV} {t:Tr} (h:Cf f t):aN f=0:=aB.2 h.okF
theorem Cf.top {f:List NV} {t:Tr} (h:Cf f t):aS f=t:=by rw [h.can.1];exact iH h.ok.wf
theorem Cf.of {t:Tr} (h:t.ok) (hl:(cg t).length≤200):Cf (cg t) t:=⟨(we (by omega)).symm,fun e=>by have:=jP t;rw [e] at this;exact absurd this (by simp),h⟩
theorem Cf.CE {t:Tr} (h:t.ok) (hl:bT t≠[]):Cf (bT t) t:=⟨rfl,hl,h⟩
theorem Cf.pos {f:List NV} {t:Tr} (h:Cf f t):0<f.length:=h.okF.pos
theorem Cf.le {f:List NV} {t:Tr} (h:Cf f t):f.length≤200:=h.okF.len
theorem Cf.inj {f g:List NV} {s t:Tr} (h:Cf f s) (h':Cf g t):f=g↔s=t:=⟨fun e=>by rw [←h.top,e,h'.top],fun e=>by rw [h.eq,e,←h'.eq]⟩
def ET (t tl:TypeId) (w w':World) (v:Value) (gs:List FV):Prop:=∃(q:Option Nat) (cap:Nat) (sp:List Value) (H:Hl),v=br q gs.length cap∧(q=none→gs.length=0∧cap=0)∧(gs.map FV.v++sp).length=cap∧fR w w' ((q,ob FV.v tl gs sp)::H)∧∀g∈gs,g.In t H
theorem fR.nil {w w':World} {o:Obj}:fR w w' [(none,o)]:=⟨fun p hp b hb=>(by rw [List.mem_singleton.1 hp] at hb;cases hb),by simp⟩
theorem ET.mk {t tl:TypeId} {w0 w:World} {h:Hl} {Y:List (Nat×Obj)} (s:St w0 [] w h Y) {q:Option Nat} {gs:List FV} {sp:List Value} {cap:Nat} {H:Hl} (hs:((q,ob FV.v tl gs sp)::H).Sublist h) (hq:q=none→gs.length=0∧cap=0) (aj:(gs.map FV.v++sp).length=cap) (hin:∀g∈gs,g.In t H):ET t tl w0 w (br q gs.length cap) gs:=
 ⟨q,cap,sp,H,rfl,hq,aj,(fR.of s).sub hs,hin⟩
theorem FV.In.sep {t:TypeId} {w0 w:World} {S:List Nat} {h hF:Hl} {Y:List (Nat×Obj)} {x:FV} (g:x.In t hF) (s:St w0 S w (h++hF) Y):yX (cm h) w x.a x.f:=by
 refine ⟨((g.mono (List.subset_append_right h hF)).at s).at_,fun b o e hm=>?_⟩;obtain ⟨q,sp,h1,h2,_⟩:=g;rw [h2] at e;obtain ⟨o1,ho⟩:=gu.1 hm;cases q with
 |none=>cases e
 |some c=>
  cases e;exact (List.pairwise_append.1 s.apart).2.2 _ ho _ h1 b rfl rfl
structure mJ (t:TypeId) (H:Hl) (gs:List FV) (ts:List Tr):Prop where
  eq:gs.map FV.f=ts.map bT
  cf:∀u∈ts,u.ok∧bT u≠[]
  I6:∀g∈gs,g.In t H
theorem mJ.nil {t:TypeId} {H:Hl}:mJ t H [] []:=⟨rfl,fun _ h=>(by cases h),fun _ h=>(by cases h)⟩
theorem mJ.mono {t:TypeId} {H H':Hl} {gs:List FV} {ts:List Tr} (h:mJ t H gs ts) (hs:H⊆H'):mJ t H' gs ts:=⟨h.eq,h.cf,fun g hg=>(h.I6 g hg).mono hs⟩
theorem mJ.len {t:TypeId} {H:Hl} {gs:List FV} {ts:List Tr} (h:mJ t H gs ts):gs.length=ts.length:=by have:=congrArg List.length h.eq;simpa using this
theorem mJ.at {t:TypeId} {H:Hl} {gs:List FV} {ts:List Tr} (h:mJ t H gs ts) {k:Nat} (hk:k<gs.length):Cf gs[k].f (ts[k]'(by have:=h.len;omega)):=by
 have hk2:k<ts.length:=by have:=h.len;omega
 have h1:gs[k].f=bT ts[k]:=by
  have:=congrArg (fun l=>l[k]?) h.eq;simp only [List.getElem?_map,List.getElem?_eq_getElem hk,List.getElem?_eq_getElem hk2,Option.map_some,Option.some.injEq] at this;exact this
 have h2:=h.cf _ (List.getElem_mem hk2);exact ⟨h1,by rw [h1];exact h2.2,h2.1⟩
theorem mJ.mem {t:TypeId} {H:Hl} {gs:List FV} {ts:List Tr} (h:mJ t H gs ts) {g:FV} (hg:g∈gs):∃u∈ts,Cf g.f u:=by
 obtain ⟨k,hk,rfl⟩:=List.mem_iff_getElem.1 hg;exact ⟨_,List.getElem_mem _,h.at hk⟩
def HK (f o:List NV) (e:Int):Prop:=(aN f≠0∧o=[]∧e=aN f)∨(aN f=0∧o=bT (ay (aS f)).1∧e=if o=[] then 8 else 0)
theorem mo (f:List NV):aK (ah f):=by
 by_cases h:aN f=0;exact (gz h).nodes;rw [ah,if_pos h];intro i hi;exact absurd hi (Nat.not_lt_zero _)
def kJ (f g:List NV):Bool:=decide (aN f=0∧aN g=0∧ah f=ah g)
theorem Dg {f g:List NV} {u:Tr} (h0:aN f=0) (hg:Cf g u):kJ f g=decide (aS f=u):=by
 unfold kJ;rw [decide_eq_decide];have hT:=(aB.1 h0).top;have hcg:ah g=cg u:=by rw [dG hg.jk,hg.top]
 constructor;rintro ⟨_,_,h⟩;rw [dG h0,hcg] at h;exact B6 hT hg.ok h;intro h;exact ⟨h0,hg.jk,by rw [dG h0,hcg,h]⟩
theorem Cf.Lz {f:List NV} {t:Tr} (h:Cf f t):bT t≠[]:=by rw [←h.eq];exact h.ne
theorem mJ.snoc {t:TypeId} {H:Hl} {gs:List FV} {ts:List Tr} (h:mJ t H gs ts) {x:FV} {u:Tr} (hx:Cf x.f u) (hi:x.In t H):mJ t H (gs++[x]) (ts++[u]):=by
 refine ⟨by rw [List.map_append,List.map_append,h.eq,List.map_singleton,List.map_singleton,hx.eq],fun v hv=>?_,fun g hg=>?_⟩;rcases List.mem_append.1 hv with hv|hv;exact h.cf v hv;rw [List.mem_singleton.1 hv];exact ⟨hx.ok,hx.Lz⟩;rcases List.mem_append.1 hg with hg|hg;exact h.I6 g hg;rw [List.mem_singleton.1 hg];exact hi
theorem jE {f:List NV} {i:Nat} (hi:i<f.length) (hO:aK f):fE (aa f i)=f[i].op:=by
 rcases cd hi hO with ⟨_,h⟩|⟨_,_,h⟩|⟨_,h⟩<;>rw [h]<;>rfl
def Da (A B:Nat) (op i g:Int):Bool:=decide (op≤13) && ((!nr op||decide (i.toNat<A)) && ((!(op==3)||decide (i.toNat<B)) && decide (g.toNat<2^A)))
def sR {α:Type} (L:Nat) (P:Nat→α) (d:α) (k:Nat):List α:=(List.range L).map (fun j=>if j<k then P j else d)
section
variable {α:Type} {L:Nat} {P:Nat→α} {d:α} {k j:Nat}
theorem j6:(sR L P d k).length=L:=by simp [sR]
theorem ub (hj:j<k) (hL:j<L) {e:α}:(sR L P d k).getD j e=P j:=by simp [sR,List.getD_eq_getElem?_getD,hL,hj]
theorem AI:sR L P d 0=List.replicate L d:=by
 apply List.ext_getElem (by simp [sR]);intro i h1 h2;simp [sR]
theorem ua (_hk:k<L):(sR L P d k).set k (P k)=sR L P d (k+1):=by
 apply List.ext_getElem (by simp [sR]);intro i h1 h2;rw [List.getElem_set];by_cases hi:k=i;subst hi;simp [sR];rw [if_neg hi];simp only [sR,List.getElem_map,List.getElem_range];by_cases h3:i<k;rw [if_pos h3,if_pos (by omega)];rw [if_neg h3,if_neg (by omega)]
end
theorem qN {op:Int} (h:1≤op∧op≤21):cS op=decide (4≤op):=by
 rcases o7 h with rfl|rfl|rfl|rfl|rfl|rfl|rfl|rfl|rfl|rfl|rfl|rfl|rfl|rfl|rfl|rfl|rfl|rfl|rfl|rfl|rfl<;>rfl
def Bf (f:List NV):Option Tr→Prop
 |none=>f=[]
 |some t=>Cf f t
theorem Bf.le {f:List NV} {o:Option Tr} (h:Bf f o):f.length≤200:=by
 cases o with
 |none=>rw [show f=[] from h];decide
 |some t=>exact Cf.le h
theorem Bf.max {f:List NV} {o:Option Tr} (h:Bf f o):f.length≤maxLen:=by have:=h.le;unfold maxLen;omega
theorem fR.Ly {w w':World} {o o':Obj}:fR w w' [(none,o),(none,o')]:=
 have h:∀p∈[((none:Option Nat),o),(none,o')],∀b,p.1=some b→False:=fun p hp b hb=>by
  simp only [List.mem_cons,List.not_mem_nil,or_false] at hp;rcases hp with rfl|rfl<;>cases hb
 ⟨fun p hp b hb=>(h p hp b hb).elim,List.pairwise_cons.2 ⟨fun _ _ _ hb=>(by cases hb),List.pairwise_cons.2 ⟨fun _ hp=>(by cases hp),List.Pairwise.nil⟩⟩⟩
theorem St.bB {w0 w:World} {S:List Nat} {h:Hl} {Y:List (Nat×Obj)} (s:St w0 S w h Y) {o:Obj}:St w0 S w ((Option.none,o)::h) Y:=
 ⟨s.ext,fun p hp b hb=>by
  rcases List.mem_cons.1 hp with rfl|hp;cases hb;exact s.own p hp b hb,List.pairwise_cons.2 ⟨fun _ _ _ hb=>(by cases hb),s.apart⟩,s.sys,s.yY⟩
def lT:Option Tr→Int
 |none=>0
 |some t=>fE t
def fI:Tr→Int
 |.leaf _ i _ _=>i
 |.un _ i _ _ _=>i
 |.bin _ i _ _ _ _=>i
def fG:Tr→Int
 |.leaf _ _ _ g=>g
 |.un _ _ _ g _=>g
 |.bin _ _ _ g _ _=>g
def Je:Option Tr→Int
 |none=>0
 |some t=>fI t
def Kp:Option Tr→Int
 |none=>0
 |some t=>fG t
def iC:Option Tr→Option Tr
 |some (.un _ _ _ _ a)=>some a
 |some (.bin _ _ _ _ a _)=>some a
 |_=>none
def w5:Option Tr→Option Tr
 |some (.bin op _ _ _ _ b)=>if op=5∨op=6∨op=7∨op=8∨op=13 then some b else none
 |_=>none
abbrev aL (a b:Tr):Tr:=.bin 7 0 0 0 a b
abbrev jG (a b:Tr):Tr:=.bin 5 0 0 0 a b
abbrev nV (a b:Tr):Tr:=.bin 8 0 0 0 a b
abbrev ar (i:Int) (a:Tr):Tr:=.un 9 i 0 0 a
abbrev gp (i:Int) (a:Tr):Tr:=.un 10 i 0 0 a
abbrev tF (g:Int) (a:Tr):Tr:=.un 11 0 0 g a
abbrev oO (g:Int) (a b:Tr):Tr:=.bin 13 0 0 g a b
theorem Gm {op i e g:Int} {a b:Tr} (h:(Tr.bin op i e g a b).ok) (hop:op=5∨op=6∨op=7∨op=8):i=0∧e=0∧g=0:=by
 have hF:=fB h.2.2.1;rcases hop with rfl|rfl|rfl|rfl<;>exact ⟨hF.i0 rfl,hF.e0 (by decide),hF.g0 rfl⟩
theorem Gl {i e g:Int} {a b:Tr} (h:(Tr.bin 13 i e g a b).ok):i=0∧e=0∧1≤g∧g<16:=by
 have hF:=fB h.2.2.1;exact ⟨hF.i0 rfl,hF.e0 (by decide),hF.gr rfl⟩
theorem nj {op i e g:Int} {a:Tr} (h:(Tr.un op i e g a).ok) (hop:op=9∨op=10):(0≤i∧i<4)∧e=0∧g=0:=by
 have hF:=fB h.2.2.2.1;rcases hop with rfl|rfl<;>exact ⟨hF.ag rfl,hF.e0 (by decide),hF.g0 rfl⟩
theorem IK {i e g:Int} {a:Tr} (h:(Tr.un 11 i e g a).ok):i=0∧e=0∧1≤g∧g<16:=by
 have hF:=fB h.2.2.2.1;exact ⟨hF.i0 rfl,hF.e0 (by decide),hF.gr rfl⟩
theorem nY {t:Tr} (h:t.ok):(cS (fE t)=false∧kids t=[])∨(cS (fE t)=true∧cF (fE t)=false∧∃i e g a,t=.un (fE t) i e g a)∨(cF (fE t)=true∧∃i e g a b,t=.bin (fE t) i e g a b):=by
 cases t with
 |leaf op i e g=>exact .inl ⟨h.2.1,rfl⟩
 |un op i e g a=>exact .inr (.inl ⟨h.2.1,h.2.2.1,i,e,g,a,rfl⟩)
 |bin op i e g a b=>exact .inr (.inr ⟨h.2.1,i,e,g,a,b,rfl⟩)
theorem C4 {t:Tr} (h:t.ok) {op:Int} (e:fE t=op) (hop:op=5∨op=6∨op=7∨op=8):∃a b,t=.bin op 0 0 0 a b:=by
 rcases nY h with ⟨h1,_⟩|⟨_,h1,_⟩|⟨_,i,e',g,a,b,ht⟩;rw [e] at h1;rcases hop with rfl|rfl|rfl|rfl<;>exact absurd h1 (by decide)
 rw [e] at h1;rcases hop with rfl|rfl|rfl|rfl<;>exact absurd h1 (by decide)
 rw [e] at ht;rw [ht] at h;obtain ⟨rfl,rfl,rfl⟩:=Gm h hop;exact ⟨a,b,ht⟩
theorem C3 {t:Tr} (h:t.ok) (e:fE t=13):∃g a b,t=oO g a b∧1≤g∧g<16:=by
 rcases nY h with ⟨h1,_⟩|⟨_,h1,_⟩|⟨_,i,e',g,a,b,ht⟩;rw [e] at h1;exact absurd h1 (by decide);rw [e] at h1;exact absurd h1 (by decide);rw [e] at ht;rw [ht] at h;obtain ⟨rfl,rfl,hg⟩:=Gl h;exact ⟨g,a,b,ht,hg⟩
theorem FN {t:Tr} (h:t.ok) {op:Int} (e:fE t=op) (hop:op=9∨op=10):∃i a,t=.un op i 0 0 a∧0≤i∧i<4:=by
 rcases nY h with ⟨h1,_⟩|⟨_,_,i,e',g,a,ht⟩|⟨h1,_⟩;rw [e] at h1;rcases hop with rfl|rfl<;>exact absurd h1 (by decide)
 rw [e] at ht;rw [ht] at h;obtain ⟨hi,rfl,rfl⟩:=nj h hop;exact ⟨i,a,ht,hi⟩;rw [e] at h1;rcases hop with rfl|rfl<;>exact absurd h1 (by decide)
theorem FO {t:Tr} (h:t.ok) (e:fE t=11):∃g a,t=tF g a∧1≤g∧g<16:=by
 rcases nY h with ⟨h1,_⟩|⟨_,_,i,e',g,a,ht⟩|⟨h1,_⟩;rw [e] at h1;exact absurd h1 (by decide);rw [e] at ht;rw [ht] at h;obtain ⟨rfl,rfl,hg⟩:=IK h;exact ⟨g,a,ht,hg⟩;rw [e] at h1;exact absurd h1 (by decide)
def Fit (t:Tr):Prop:=(cg t).length≤200
theorem Fit.vJ {t c:Tr} (h:Fit t) (hc:c∈kids t):Fit c:=Nat.le_trans (jQ hc) h
theorem Cf.w4 {f:List NV} {t:Tr} (h:Cf f t) (hl:f.length - 1<f.length) (h4:4≤fE t):Bf (bZ f f[f.length - 1].x) (iC (some t)):=by
 have ht:aa f (f.length - 1)=t:=by rw [←de];exact h.top
 have hn:=h.okF.nodes;have hO:=hn _ hl;have hc:=h.can;have key:∀c,c∈kids t→∀x:Int,aa f x.toNat=c→0≤x→x<f.length→Bf (bZ f x) (some c):=fun c hck x hx h0 hlt=>by
  have hcl:(cg c).length≤200:=Nat.le_trans (jQ hck) hc.2;rw [bZ,if_neg (by rintro (e|e|e)<;>first|exact e h.jk|omega),hx];exact Cf.of (h.ok.vJ hck) hcl
 rcases cd hl hn with ⟨h1,h2⟩|⟨h1,h1',h2⟩|⟨h1,h2⟩;rw [ht] at h2;have e:f[f.length - 1].op=fE t:=by rw [h2];rfl
 rw [qN hO.op,decide_eq_false_iff_not] at h1;omega;rw [ht] at h2;have hx:=hO.x h1;rw [h2];exact key _ (by rw [h2];exact List.mem_cons_self ..) _ rfl hx.1 (by omega);rw [ht] at h2;have hx:=hO.x (dI h1);rw [h2];exact key _ (by rw [h2];exact List.mem_cons_self ..) _ rfl hx.1 (by omega)
theorem Cf.vI {f:List NV} {t:Tr} (h:Cf f t) (hl:f.length - 1<f.length) (h5:fE t=5∨fE t=6∨fE t=7∨fE t=8∨fE t=13):Bf (bZ f f[f.length - 1].y) (w5 (some t)):=by
 have ht:aa f (f.length - 1)=t:=by rw [←de];exact h.top
 have hn:=h.okF.nodes;have hO:=hn _ hl;have hc:=h.can;rcases cd hl hn with ⟨h1,h2⟩|⟨h1,h1',h2⟩|⟨h1,h2⟩;rw [ht] at h2;have e:f[f.length - 1].op=fE t:=by rw [h2];rfl
 rw [e] at h1;rcases h5 with h5|h5|h5|h5|h5<;>rw [h5] at h1<;>exact absurd h1 (by decide)
 rw [ht] at h2;have e:f[f.length - 1].op=fE t:=by rw [h2];rfl
 rw [e] at h1';rcases h5 with h5|h5|h5|h5|h5<;>rw [h5] at h1'<;>exact absurd h1' (by decide)
 rw [ht] at h2;have e:f[f.length - 1].op=fE t:=by rw [h2];rfl
 have hy:=hO.y h1;have hck:aa f f[f.length - 1].y.toNat∈kids t:=by rw [h2];exact List.mem_cons_of_mem _ (List.mem_cons_self ..)
 have hcl:(cg (aa f f[f.length - 1].y.toNat)).length≤200:=Nat.le_trans (jQ hck) hc.2;have hk:w5 (some t)=some (aa f f[f.length - 1].y.toNat):=by
  rw [h2];exact if_pos (by rw [e];exact h5)
 rw [hk,bZ,if_neg (by rintro (e|e|e)<;>first|exact e h.jk|omega)];exact Cf.of (h.ok.vJ hck) hcl
theorem Cf.BB {f:List NV} {t:Tr} (h:Cf f t) (hl:f.length - 1<f.length):f[f.length - 1].op=fE t∧f[f.length - 1].i=fI t∧f[f.length - 1].g=fG t:=by
 have ht:aa f (f.length - 1)=t:=by rw [←de];exact h.top
 rcases cd hl h.okF.nodes with ⟨h1,h2⟩|⟨h1,h1',h2⟩|⟨h1,h2⟩<;>rw [ht] at h2<;>rw [h2]<;>exact ⟨rfl,rfl,rfl⟩
theorem Bh {t:Tr} (h:¬(fE t=5∨fE t=6∨fE t=7∨fE t=8∨fE t=13)):w5 (some t)=none:=by
 cases t with
 |leaf=>rfl
 |un=>rfl
 |bin op i e g a b=>exact if_neg h
theorem Bi {t:Tr} (hok:t.ok) (h:¬4≤fE t):iC (some t)=none:=by
 cases t with
 |leaf=>rfl
 |un op i e g a=>have h1:=hok.2.1;rw [qN hok.1,decide_eq_true_eq] at h1;exact absurd h1 h
 |bin op i e g a b=>have h1:=dI hok.2.1;rw [qN hok.1,decide_eq_true_eq] at h1;exact absurd h1 h
theorem Bd {f:List NV} (h:aN f=0):Fit (aS f):=by
 have h1:=pC h;rw [dG h] at h1;have:=(aB.1 h).len;show (cg (aS f)).length≤200;omega
def HQ (t:Tr):Prop:=∃i x y,t=aL (ar i (aL x y)) (aL (ar i x) (ar i y))
def Fz (t:Tr):Prop:=∃i x,t=aL (ar i x) x
def FD (t:Tr):Prop:=∃i x,t=aL (ar i x) (ar i (ar i x))
def HU (t:Tr):Prop:=∃i x,t=aL (aF (ar i x)) (ar i (aF (ar i x)))
def FC (t:Tr):Prop:=∃i x,t=aL (ar i x) (aF (ar i (aF x)))
def HP (t:Tr):Prop:=∃i x,t=nV (gp i x) (aF (ar i (aF x)))
def HT (t:Tr):Prop:=∃g x y,t=nV (oO g x y) (tF g (aL x (jG y (oO g x y))))
def FB (u t:Tr):Prop:=∃z g x y,t=aL z (oO g x y)∧u=aL z (tF g (aL x (jG y z)))
section
variable {t:Tr}
theorem Fit.r {op i e g:Int} {a b:Tr} (h:Fit (.bin op i e g a b)):Fit b:=h.vJ (List.mem_cons_of_mem _ (List.mem_cons_self ..))
theorem Fit.u {op i e g:Int} {a:Tr} (h:Fit (.un op i e g a)):Fit a:=h.vJ (List.mem_cons_self ..)
end
section
variable {t u:Tr}
theorem qU {f:List NV} {X:Tr} (h:aN f=0) (hX:X.ok):kJ f (bT X)=decide (aS f=X):=by
 by_cases hl:Fit X;exact Dg h (Cf.CE hX (Fp.2 hl));have e:bT X=[]:=xq.2 (by unfold Fit at hl;omega);rw [e,show kJ f []=false from decide_eq_false (fun e=>absurd e.2.1 (by decide))];exact (decide_eq_false (fun e:aS f=X=>hl (e ▸ Bd h))).symm
theorem dS {f:List NV} {t X:Tr} (h:Cf f t) (hX:X.ok):kJ f (bT X)=decide (t=X):=by rw [qU h.jk hX,h.top]
theorem HQ.iff {i:Int} {p q:Tr} (h:iC (some t)=some (ar i (aL p q))):t=aL (ar i (aL p q)) (aL (ar i p) (ar i q))↔HQ t:=
 ⟨fun e=>⟨i,p,q,e⟩,fun ⟨i',x,y,e⟩=>by
  subst e;have h':some (ar i' (aL x y))=some (ar i (aL p q)):=h;cases h';rfl⟩
theorem HQ.gd (h:HQ t):lT (iC (some t))=9∧lT (iC (iC (some t)))=7:=by obtain ⟨i,x,y,rfl⟩:=h;exact ⟨rfl,rfl⟩
theorem Fz.iff {i:Int} {x:Tr} (h:iC (some t)=some (ar i x)):t=aL (ar i x) x↔Fz t:=
 ⟨fun e=>⟨i,x,e⟩,fun ⟨i',y,e⟩=>by
  subst e;have h':some (ar i' y)=some (ar i x):=h;cases h';rfl⟩
theorem Fz.gd (h:Fz t):lT (iC (some t))=9:=by obtain ⟨i,x,rfl⟩:=h;rfl
theorem FD.iff {i:Int} {x:Tr} (h:iC (some t)=some (ar i x)):t=aL (ar i x) (ar i (ar i x))↔FD t:=
 ⟨fun e=>⟨i,x,e⟩,fun ⟨i',y,e⟩=>by
  subst e;have h':some (ar i' y)=some (ar i x):=h;cases h';rfl⟩
theorem FD.gd (h:FD t):lT (iC (some t))=9:=by obtain ⟨i,x,rfl⟩:=h;rfl
theorem FC.iff {i:Int} {x:Tr} (h:iC (some t)=some (ar i x)):t=aL (ar i x) (aF (ar i (aF x)))↔FC t:=
 ⟨fun e=>⟨i,x,e⟩,fun ⟨i',y,e⟩=>by
  subst e;have h':some (ar i' y)=some (ar i x):=h;cases h';rfl⟩
theorem FC.gd (h:FC t):lT (iC (some t))=9:=by obtain ⟨i,x,rfl⟩:=h;rfl
theorem HU.iff {i:Int} {x:Tr} (h:iC (iC (some t))=some (ar i x)):t=aL (aF (ar i x)) (ar i (aF (ar i x)))↔HU t:=
 ⟨fun e=>⟨i,x,e⟩,fun ⟨i',y,e⟩=>by
  subst e;have h':some (ar i' y)=some (ar i x):=h;cases h';rfl⟩
theorem HU.gd (h:HU t):lT (iC (iC (some t)))=9:=by obtain ⟨i,x,rfl⟩:=h;rfl
theorem HP.iff {i:Int} {x:Tr} (h:iC (some t)=some (gp i x)):t=nV (gp i x) (aF (ar i (aF x)))↔HP t:=
 ⟨fun e=>⟨i,x,e⟩,fun ⟨i',y,e⟩=>by
  subst e;have h':some (gp i' y)=some (gp i x):=h;cases h';rfl⟩
theorem HP.gd (h:HP t):lT (iC (some t))=10:=by obtain ⟨i,x,rfl⟩:=h;rfl
theorem HT.iff {g:Int} {x y:Tr} (h:iC (some t)=some (oO g x y)):t=nV (oO g x y) (tF g (aL x (jG y (oO g x y))))↔HT t:=
 ⟨fun e=>⟨g,x,y,e⟩,fun ⟨g',x',y',e⟩=>by
  subst e;have h':some (oO g' x' y')=some (oO g x y):=h;cases h';rfl⟩
theorem HT.gd (h:HT t):lT (iC (some t))=13:=by obtain ⟨g,x,y,rfl⟩:=h;rfl
theorem FB.iff {z:Tr} {g:Int} {x y:Tr} (hz:iC (some t)=some z) (h:w5 (some t)=some (oO g x y)):(t=aL z (oO g x y)∧u=aL z (tF g (aL x (jG y z))))↔FB u t:=
 ⟨fun e=>⟨z,g,x,y,e⟩,fun ⟨z',g',x',y',e,e2⟩=>by
  subst e;subst e2;have h':some (oO g' x' y')=some (oO g x y):=h;have hz':some z'=some z:=hz;cases h';cases hz';exact ⟨rfl,rfl⟩⟩
theorem FB.gd (h:FB u t):lT (w5 (some t))=13:=by obtain ⟨z,g,x,y,rfl,_⟩:=h;rfl
def sE (g k:Nat):List Nat:=(List.range k).filter (fun i=>gb g i==1)
theorem Ct {g k:Nat} (h:gb g k=1):sE g (k+1)=sE g k++[k]:=by simp [sE,List.range_succ,List.filter_append,h]
theorem EN {g k:Nat} (h:gb g k≠1):sE g (k+1)=sE g k:=by simp [sE,List.range_succ,List.filter_append,h]
theorem Cu {g k:Nat}:(sE g k).length≤k:=by have:=List.length_filter_le (fun i=>gb g i==1) (List.range k);simpa [sE] using this
theorem EO {g k i:Nat} (h:i∈sE g k):i<k:=by simpa using (List.mem_filter.1 h).1
def Fa (g k:Nat) (x:Tr):List Tr:=(sE g k).map (fun (j:Nat)=>ar (j:Int) x)
def zR (g:Nat) (x:Tr):Tr:=lR (Fa g 4 x)
def HS (t:Tr):Prop:=∃(g:Int) (x:Tr),t=nV (tF g x) (zR g.toNat x)
theorem HS.iff {g:Int} {x:Tr} (h:iC (some t)=some (tF g x)):t=nV (tF g x) (zR g.toNat x)↔HS t:=
 ⟨fun e=>⟨g,x,e⟩,fun ⟨g',y,e⟩=>by
  subst e;have h':some (tF g' y)=some (tF g x):=h;cases h';rfl⟩
theorem HS.gd (h:HS t):lT (iC (some t))=11:=by obtain ⟨g,x,rfl⟩:=h;rfl
end
def iM (o:Option Tr):Prop:=∀A,o=some A→A.ok
theorem iM.a {o:Option Tr} (h:iM o):iM (iC o):=fun A e=>by
 cases o with
 |none=>cases e
 |some t=>
  cases t with
  |leaf=>cases e
  |un op i e' g a=>have e2:some a=some A:=e;cases e2;exact (h _ rfl).vJ (List.mem_cons_self ..)
  |bin op i e' g a b=>have e2:some a=some A:=e;cases e2;exact (h _ rfl).vJ (List.mem_cons_self ..)
theorem iM.b {o:Option Tr} (h:iM o):iM (w5 o):=fun A e=>by
 cases o with
 |none=>cases e
 |some t=>
  cases t with
  |leaf=>cases e
  |un=>cases e
  |bin op i e' g a b=>
   have e2:(if op=5∨op=6∨op=7∨op=8∨op=13 then some b else none)=some A:=e;split at e2;cases e2;exact (h _ rfl).vJ (List.mem_cons_of_mem _ (List.mem_cons_self ..));cases e2
theorem iM.of {t:Tr} (h:t.ok):iM (some t):=fun A e=>by cases e;exact h
theorem om {o:Option Tr} {n:Int} (h:lT o=n) (hn:n≠0):∃t,o=some t∧fE t=n:=by
 cases o with
 |none=>exact absurd h.symm hn
 |some t=>exact ⟨t,rfl,h⟩
theorem iM.kn {o:Option Tr} (h:iM o) {op:Int} (e:lT o=op) (hop:op=9∨op=10):∃i G,o=some (.un op i 0 0 G)∧(0≤i∧i<4)∧G.ok:=by
 obtain ⟨t,rfl,ht⟩:=om e (by omega);obtain ⟨i,G,rfl,hi⟩:=FN (h _ rfl) ht hop;exact ⟨i,G,rfl,hi,(h _ rfl).vJ (List.mem_cons_self ..)⟩
theorem iM.bn {o:Option Tr} (h:iM o) {op:Int} (e:lT o=op) (hop:op=5∨op=6∨op=7∨op=8):∃p q,o=some (.bin op 0 0 0 p q)∧p.ok∧q.ok:=by
 obtain ⟨t,rfl,ht⟩:=om e (by omega);obtain ⟨p,q,rfl⟩:=C4 (h _ rfl) ht hop;exact ⟨p,q,rfl,(h _ rfl).vJ (List.mem_cons_self ..),(h _ rfl).vJ (List.mem_cons_of_mem _ (List.mem_cons_self ..))⟩
theorem iM.co {o:Option Tr} (h:iM o) (e:lT o=13):∃g p q,o=some (oO g p q)∧(1≤g∧g<16)∧p.ok∧q.ok:=by
 obtain ⟨t,rfl,ht⟩:=om e (by omega);obtain ⟨g,p,q,rfl,hg⟩:=C3 (h _ rfl) ht;exact ⟨g,p,q,rfl,hg,(h _ rfl).vJ (List.mem_cons_self ..),(h _ rfl).vJ (List.mem_cons_of_mem _ (List.mem_cons_self ..))⟩
theorem iM.ev {o:Option Tr} (h:iM o) (e:lT o=11):∃g p,o=some (tF g p)∧(1≤g∧g<16)∧p.ok:=by
 obtain ⟨t,rfl,ht⟩:=om e (by omega);obtain ⟨g,p,rfl,hg⟩:=FO (h _ rfl) ht;exact ⟨g,p,rfl,hg,(h _ rfl).vJ (List.mem_cons_self ..)⟩
theorem dn {a b:Tr} (ha:a.ok) (hb:b.ok):(aL a b).ok:=⟨by decide,rfl,by decide,ha,hb⟩
theorem ga {a b:Tr} (ha:a.ok) (hb:b.ok):(jG a b).ok:=⟨by decide,rfl,by decide,ha,hb⟩
theorem th {a b:Tr} (ha:a.ok) (hb:b.ok):(nV a b).ok:=⟨by decide,rfl,by decide,ha,hb⟩
theorem bE {a:Tr} (ha:a.ok):(aF a).ok:=⟨by decide,rfl,rfl,by decide,ha⟩
theorem rJ {i:Int} (hi:0≤i∧i<4):eP 9 i 0 0=0:=by
 obtain ⟨k,rfl⟩:∃k:Nat,i=(k:Int):=⟨i.toNat,by omega⟩;have:∀j:Fin 4,eP 9 ((j.val:Nat):Int) 0 0=0:=by decide
 exact this ⟨k,by omega⟩
theorem BC {g:Int} (hg:1≤g∧g<16):eP 11 0 0 g=0:=by
 obtain ⟨k,rfl⟩:∃k:Nat,g=(k:Int):=⟨g.toNat,by omega⟩;have:∀j:Fin 16,1≤j.val→eP 11 0 0 ((j.val:Nat):Int)=0:=by decide
 exact this ⟨k,by omega⟩ (by show 1≤k;omega)
theorem aW {i:Int} {a:Tr} (hi:0≤i∧i<4) (ha:a.ok):(ar i a).ok:=⟨by decide,rfl,rfl,rJ hi,ha⟩
theorem yC {g:Int} {a:Tr} (hg:1≤g∧g<16) (ha:a.ok):(tF g a).ok:=⟨by decide,rfl,rfl,BC hg,ha⟩
theorem Be {g k:Nat} {x:Tr} (hk:k≤4) (hx:x.ok):∀u∈Fa g k x,u.ok:=fun u hu=>by
 obtain ⟨j,hj,rfl⟩:=List.mem_map.1 hu;have:=EO hj;exact aW (by omega) hx
theorem Em:∀{ts:List Tr},(∀u∈ts,u.ok)→(lR ts).ok
 |[],_=>⟨by decide,rfl,by decide⟩
 |t::ts,h=>by
  have key:∀(l:List Tr) (a:Tr),a.ok→(∀u∈l,u.ok)→(l.foldl (fun a b=>.bin 5 0 0 0 a b) a).ok:=fun l=>by
   induction l with
   |nil=>exact fun a ha _=>ha
   |cons b l ih=>exact fun a ha hl=>ih _ (ga ha (hl b (by simp))) (fun u hu=>hl u (by simp [hu]))
  exact key ts t (h t (by simp)) (fun u hu=>h u (by simp [hu]))
theorem yS {g:Nat} {x:Tr} (hx:x.ok):(zR g x).ok:=Em (Be (Nat.le_refl _) hx)
theorem As {w0 w:World} {S:List Nat} {h:Hl} {Y:List (Nat×Obj)} (s:St w0 S w h Y) (j:Nat) {q:Option Nat} {gs:List FV} {e:TypeId} {sp:List Value} (hj:h[j]?=some (q,ob FV.v e gs sp)) (hq:q=none→gs.length=0):sI w (q.map (fun b=>⟨b,0,none⟩)) gs:=by
 cases q with
 |none=>rw [List.eq_nil_of_length_eq_zero (hq rfl)];exact Sl.nil _ _
 |some b=>exact Sl.db (s.get hj)
theorem Bg {t c:Tr} (h:w5 (some t)=some c):∃z,iC (some t)=some z:=by
 cases t with
 |leaf=>cases h
 |un=>cases h
 |bin op i e g a b=>exact ⟨a,rfl⟩
def cJ (l r:Int):Bool:=if r=3 then decide (l=2∨l=4∨l=6) else if r=4 then decide (3≤l) else if r=5 then decide (5≤l) else if r=6 then decide (l=1∨l=5) else true
def mi (xs:List Int):aE:=xs.foldl (fun a x=>a|||(1#64<<<x.toNat)) 0#64
theorem zt {xs:List Int} {x:Int}:mi (xs++[x])=mi xs|||(1#64<<<x.toNat):=by simp [mi]
theorem Jb {l r:Int} (hl:0≤l∧l≤6):cJ l r=(((if r=3 then mi [2,4,6] else if r=4 then mi [3,4,5,6] else if r=5 then mi [5,6] else if r=6 then mi [1,5] else BitVec.allOnes 64)>>>l.toNat) &&& 1#64==1#64):=by
 obtain ⟨k,rfl⟩:∃k:Nat,l=(k:Int):=⟨l.toNat,by omega⟩;have key:∀j:Fin 7,(decide (((j.val:Nat):Int)=2∨((j.val:Nat):Int)=4∨((j.val:Nat):Int)=6)=((mi [2,4,6]>>>((j.val:Nat):Int).toNat) &&& 1#64==1#64))∧(decide (3≤((j.val:Nat):Int))=((mi [3,4,5,6]>>>((j.val:Nat):Int).toNat) &&& 1#64==1#64))∧
   (decide (5≤((j.val:Nat):Int))=((mi [5,6]>>>((j.val:Nat):Int).toNat) &&& 1#64==1#64))∧(decide (((j.val:Nat):Int)=1∨((j.val:Nat):Int)=5)=((mi [1,5]>>>((j.val:Nat):Int).toNat) &&& 1#64==1#64))∧(true=((BitVec.allOnes 64>>>((j.val:Nat):Int).toNat) &&& 1#64==1#64)):=by decide+kernel
 obtain ⟨k1,k2,k3,k4,k5⟩:=key ⟨k,by omega⟩;unfold cJ;by_cases h3:r=3;rw [if_pos h3,if_pos h3];exact k1;rw [if_neg h3,if_neg h3];by_cases h4:r=4;rw [if_pos h4,if_pos h4];exact k2;rw [if_neg h4,if_neg h4];by_cases h5:r=5;rw [if_pos h5,if_pos h5];exact k3;rw [if_neg h5,if_neg h5];by_cases h6:r=6;rw [if_pos h6,if_pos h6];exact k4;rw [if_neg h6,if_neg h6];exact k5
def gN (f:List NV):Int:=if aN f≠0 then aN f else if lq (lW (ah f)) 11≠0 then 10 else 0
def eC (r:Int):Int:=if r=10 then 2 else if r=11∨r=12 then 1 else 0
end Go.Proofs.Wit
