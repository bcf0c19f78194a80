/- Laws of walks, for any program, under the conditions that each theorem states. -/
import Derived.Test.YtchhieaagchhhaaGreatDoorXT14
set_option maxRecDepth 100000
set_option maxHeartbeats 4000000
namespace Go.Proofs.Wit
structure My (n:Nat) (P:List Int) (s:aC):Prop where
  len:P.length=n
  ok:LQ P
  inv:LX n P s
section
variable {m:Int} {n:Nat} {val:List aC} {rel:List (List aC)} {t:Tr}
end
structure LY (c:List NV) (k:Nat) (gs:List Int):Prop where
  has:∀(i:Nat) (hi:i<c.length),i<k→c[i].op=12→c[i].g∈gs
  of:∀g∈gs,∃n∈c,n.op=12∧n.g=g
  nd:gs.Nodup
end Go.Proofs.Wit
namespace Go.Proofs.Wit
open Go
def fst (q:Nat→Bool):Nat→Option Nat
 |0=>none
 |k+1=>match fst q k with
  |some j=>some j
  |none=>if q k=true then some k else none
def Lz (n:Nat) (val:List aC) (rel:List (List aC)) (v w k:Nat):Bool:=(Ir n val rel k).getD v 0 !=(Ir n val rel k).getD w 0
def dst (n:Nat) (val:List aC) (rel:List (List aC)) (v w:Nat):Option Nat:=fst (Lz n val rel v w) (dep n val rel+1)
section
variable {n:Nat} {val:List aC} {rel:List (List aC)}
end
section
variable {n:Nat} {val:List aC} {rel:List (List aC)}
def LP (A B:Nat) (t:Tr):Prop:=kA (fun op i g=>Jq A B op i g∧op≤10) t
structure Jo (n:Nat) (val:List aC) (rel:List (List aC)) (v w k:Nat) (t:Tr):Prop where
  ok:t.ok
  pl:LP rel.length val.length t
  yes:(As n val rel t).getLsbD v=true
  no:(As n val rel t).getLsbD w=false
  dp:Ek t≤k
end
def KC (U:List Tr):Prop:=∀t∈U,∀c∈kids t,c∈U
abbrev Mm:=List ((Int×Int)×FV)
section
variable {n:Nat} {val:List aC} {rel:List (List aC)}
def Fo (n:Nat) (val:List aC) (rel:List (List aC)) (v w k:Nat) (f:List NV):Prop:=(f=[]∧5<n)∨∃t,Jo n val rel v w k t∧f=bT t∧f≠[]
structure LF (U:List Tr) (L:Mm):Prop where
  kc:KC U
  top:Tr.leaf 1 0 0 0∈U
  Ls:∀e∈L,∀t,t.ok→e.2.f=bT t→e.2.f≠[]→t∈U
structure KB (n:Nat) (val:List aC) (rel:List (List aC)) (L:Mm):Prop where
  nd:(L.map (·.1)).Nodup
  Ls:∀e∈L,∃v w k:Nat,e.1=((v:Int),(w:Int))∧v<n∧w<n∧dst n val rel v w=some k∧Fo n val rel v w k e.2.f
  L7:n≤5→∃U,LF U L∧U.length≤6*L.length+1
end
end Go.Proofs.Wit
namespace Go.Proofs.Wit
abbrev Kx:=Int→Int→Int→Int→Tr→Tr→Tr
def j9:Kx:=fun op i e g a b=>vm ⟨op,i,e,g,0,0⟩ a b
theorem mg {op:Int} (h:dh op=false):cD op=false:=by
 cases e:cD op with
 |false=>rfl
 |true=>exact absurd ((dZ e).symm.trans h) (by decide)
theorem Fi {t:Tr}:bT t≠[]↔(cm t).length≤200:=by rw [Ne,xi];omega
def cT (o:Int):Tr:=.leaf o 0 0 0
def oT:Tr→Int→Bool
 |.leaf op _ _ _,o=>op==o
 |_,_=>false
def wq:Tr→Option Tr
 |.un op _ _ _ a=>if op=4 then some a else none
 |_=>none
def aG (t:Tr):Tr:=.un 4 0 0 0 t
def DJ (t:Tr):Tr:=(wq t).getD (aG t)
def Iw (a b:Tr):Bool:=wq a==some b||wq b==some a
def Bm (op i e g:Int) (a b:Tr) (ne dm:Int):Tr:=
 if (oT a dm||oT b dm||(Iw a b && !oT a ne && !oT b ne))=true then cT dm
 else if oT a ne=true then b else if (oT b ne||a==b)=true then a else j9 op i e g a b
def da (a b:Tr):Tr:=
 if (oT a 2||oT b 1||a==b)=true then cT 1 else if oT a 1=true then b else if oT b 2=true then DJ a else j9 7 0 0 0 a b
def Kf (a b:Tr):Tr:=
 if (a==b)=true then cT 1 else if Iw a b=true then cT 2 else if oT a 1=true then b else if oT b 1=true then a
 else if oT a 2=true then DJ b else if oT b 2=true then DJ a else j9 8 0 0 0 a b
def JR:Kx:=fun op i e g a b=>
 if op=4 then (if oT a 1=true then cT 2 else if oT a 2=true then cT 1 else DJ a)
 else if op=5 then Bm op i e g a b 1 2
 else if op=6 then Bm op i e g a b 2 1
 else if op=7 then da a b
 else if op=8 then Kf a b
 else if op=10 then (if oT a 2=true then cT 2 else j9 op i e g a b)
 else if op=16 then (if (oT a 1 && !oT b 1)=true then b else if (oT a 2||oT b 1)=true then cT 1 else j9 op i e g a b)
 else if op=13∨op=14 then (if (oT a 2||oT b 1)=true then cT 1 else j9 op i e g a b)
 else if op=9∨op=11∨op=12∨op=15∨op=17 then (if oT a 1=true then cT 1 else j9 op i e g a b)
 else j9 op i e g a b
theorem Fg {o:Int} (h:o=1∨o=2):(cT o).ok:=by rcases h with rfl|rfl<;>exact ⟨by decide,rfl,rfl⟩
theorem wJ {t:Tr} (h:t.ok):(aG t).ok:=⟨by decide,rfl,rfl,rfl,h⟩
inductive uN (op i e g:Int) (a b:Tr):Tr→Prop
  |c1:uN op i e g a b (cT 1)
  |c2:uN op i e g a b (cT 2)
  |a (h:dh op=true):uN op i e g a b a
  |b (h:cD op=true):uN op i e g a b b
  |sa (h:dh op=true) (c:Tr) (h:wq a=some c):uN op i e g a b c
  |sb (h:cD op=true) (c:Tr) (h:wq b=some c):uN op i e g a b c
  |na (h:dh op=true) (h0:wq a=none) (h1:oT a 1=false) (h2:oT a 2=false):uN op i e g a b (aG a)
  |nb (h:cD op=true) (h0:wq b=none) (h1:oT b 1=false) (h2:oT b 2=false):uN op i e g a b (aG b)
  |mk (h:JR op i e g a b=j9 op i e g a b):uN op i e g a b (j9 op i e g a b)
end Go.Proofs.Wit
namespace Go.Proofs.Wit
open Go Go.RowKit
structure IV where
  a:Option Addr
  c:Nat
  xs:List Int
def IV.v (x:IV):Value:=.slice x.a x.xs.length x.c
abbrev IG (m:MV) (mD:Nat) (pa:Option Addr) (pl pc:Nat):Array Value:=#[.int .i64 m.n,.slice m.va m.val.length m.vc,.slice m.ra m.rows.length m.rc,.map (some mD),.slice pa pl pc]
structure LU (e:TypeId) (w:World) (mD bk:Nat) (m:MV) (pa:Option Addr) (pc:Nat) (ps:List IV):Prop where
  dq:w.heap[bk]?=some (.cells (IG m mD pa ps.length pc) e (0,0))
  mod:m.At w
  pre:Sl w pa (ps.map IV.v)
  row:∀p∈ps,jd w p.a p.xs
def FV.In (t:TypeId) (H:Hl) (x:FV):Prop:=∃q sp,(q,dk t x.f sp)∈H∧x.a=q.map (fun b=>⟨b,0,none⟩)∧(q=none→x.f.length=0∧x.c=0)∧(x.f.flatMap NV.cells++sp).length=x.c*6
theorem FV.In.mono {t:TypeId} {H H':Hl} {x:FV} (h:x.In t H) (hs:H⊆H'):x.In t H':=by
 obtain ⟨q,sp,h1,h2⟩:=h;exact ⟨q,sp,hs h1,h2⟩
theorem FV.In.at {t:TypeId} {w0 w:World} {S:List Nat} {h:Hl} {Y:List (Nat×Obj)} {x:FV} (g:x.In t h) (s:St w0 S w h Y):FA w x.a x.f:=by
 obtain ⟨q,sp,h1,h2,h3,_⟩:=g;obtain ⟨j,hj⟩:=List.mem_iff_getElem?.1 h1;rw [h2];exact aI s j hj (fun e=>(h3 e).1)
theorem FV.In.own {t:TypeId} {w0 w:World} {h:Hl} {Y:List (Nat×Obj)} {x:FV} (g:x.In t h) (s:St w0 [] w h Y):ax t w0 w x.v x.f:=by
 obtain ⟨q,sp,h1,h2,h3,h4⟩:=g;refine ⟨q,x.c,sp,?_,h3,h4,fun b e=>?_⟩;cases q with
 |none=>rw [FV.v,h2];rfl
 |some b=>rw [FV.v,h2];rfl
 obtain ⟨k1,_,k2⟩:=s.own _ h1 b e;exact ⟨k2.resolve_right (by simp),k1⟩
theorem Ex.vV {w w':World} {S:List Nat} (e:Ex S w w') {b j:Nat} (hb:b∉S) {cs:Array Value} {t:TypeId} {fr:Nat×Nat} {v:Value} (h:w.heap[b]?=some (.cells cs t fr)) (hv:cs[j]?=some v):w'.cell? ⟨b,j,none⟩=some v:=by
 have h1:=e.block b (Array.getElem?_eq_some_iff.1 h).1 hb;rw [h] at h1;unfold World.cell?;simp only [h1];exact hv
section
variable {P:Program} {t:TypeId} {x y:aC}
end
structure LZ (t:TypeId) (n:Nat) (val:List aC) (rel:List (List aC)) (d:Nat) (L L':Mm) (F:Hl):Prop where
  fA:KB n val rel L'
  sub:L⊆L'
  nw:∀e∈L',e∈L∨∃a b i:Nat,e.1=((a:Int),(b:Int))∧dst n val rel a b=some i∧i<d
  at_:∀e∈L',e∈L∨e.2.In t F
section
variable {t:TypeId} {n:Nat} {val:List aC} {rel:List (List aC)}
end
theorem St.fi {w0 w w':World} {S:List Nat} {h:Hl} {Y:List (Nat×Obj)} (s:St w0 S w h Y) (e:Ex [] w w') {pre HR:Hl} (g:fO w w' (pre++HR)):St w0 S w' (pre++(h++HR)) Y:=by
 refine (s.fB e g).perm ?_;rw [List.append_assoc];exact List.perm_append_comm.append_left pre
theorem ab.gZ {P:Program} {r:Option Nat} {f:FuncId} {R:Value→World→Prop} {w0:World} {S:List Nat} {Y:List (Nat×Obj)} {n:Nat} {k:List Item} {l:Fl} {h h':Hl} (hp:h.Perm h') (hg:ab P r f R w0 S Y n k l h'):ab P r f R w0 S Y n k l h:=fun t w Ds hF hS=>hg t w Ds hF (hS.perm hp)
theorem ov {op i e g:Int} {a b:Tr} (hX:dh op=false):j9 op i e g a b=.leaf op i e g:=gk (n:=⟨op,i,e,g,0,0⟩) hX
theorem ui {op i e g:Int} {a b:Tr} (hX:dh op=true) (hY:cD op=false):j9 op i e g a b=.un op i e g a:=kv (n:=⟨op,i,e,g,0,0⟩) hX hY
theorem qv {op i e g:Int} {a b:Tr} (hY:cD op=true):j9 op i e g a b=.bin op i e g a b:=iY (n:=⟨op,i,e,g,0,0⟩) hY
theorem oW {op:Int} (h:1≤op∧op≤21):op=1∨op=2∨op=3∨op=4∨op=5∨op=6∨op=7∨op=8∨op=9∨op=10∨op=11∨op=12∨op=13∨op=14∨op=15∨op=16∨op=17∨op=18∨op=19∨op=20∨op=21:=by omega
def CG (w:World) (u:Bool) (x:FV) (t:Tr):Prop:=u=true→FA w x.a x.f∧x.f=bT t∧t.ok
theorem CG.len {w:World} {u:Bool} {x:FV} {t:Tr} (h:CG w u x t) (hu:u=true):x.f.length≤maxLen:=by
 rw [(h hu).2.1];have:=v5 t;unfold maxLen;omega
theorem Cc {op i e g i' e' g':Int} {a b:Tr} (hop:1≤op∧op≤21) (hX:dh op=false) (hf:eR op i e g=0) (hi:i'=i) (he:e'=e) (hg:g'=g):aU ⟨op,i',e',g',0,0⟩ []=bT (j9 op i e g a b):=by
 subst hi he hg;rw [ov hX];exact He (n:=⟨op,_,_,_,0,0⟩) hop hX hf rfl rfl
theorem oM {op i e g i' e' g':Int} {a b:Tr} {f:List NV} (hop:1≤op∧op≤21) (hX:dh op=true) (hY:cD op=false) (hf:eR op i e g=0) (hi:i'=i) (he:e'=e) (hg:g'=g) (h:f=bT a∧a.ok):aU ⟨op,i',e',g',0,0⟩ [f]=bT (j9 op i e g a b):=by
 subst hi he hg;rw [ui hX hY,h.1];exact jY h.2 hop hX hY hf
theorem oL {op i e g i' e' g':Int} {a b:Tr} {f k:List NV} (hop:1≤op∧op≤21) (hY:cD op=true) (hf:eR op i e g=0) (hi:i'=i) (he:e'=e) (hg:g'=g) (h:f=bT a∧a.ok) (h':k=bT b∧b.ok):aU ⟨op,i',e',g',0,0⟩ [f,k]=bT (j9 op i e g a b):=by
 subst hi he hg;rw [qv hY,h.1,h'.1];exact dC h.2 h'.2 hop hY hf
abbrev FV.z:FV:=⟨none,0,[]⟩
def LI (t:TypeId) (w w':World) (v:Value) (a b:FV) (u:Tr):Prop:=∃fv:FV,v=fv.v∧fv.f=bT u∧(ax t w w' v fv.f∨fv=a∨fv=b)
structure LJ (P:Program) (t:TypeId) (r:Kx) (gf:FuncId) (cs:List Value) (w0:World):Prop where
  enter:∀args w,(callFunc gf args).run P w=.ok (.enter gf args) w
  run:∀w,Ex [] w0 w→∀(n:NV) (a b:FV) (ta tb:Tr),(1≤n.op∧n.op≤21)→eR n.op n.i n.e n.g=0→CG w (dh n.op) a ta→CG w (cD n.op) b tb→(dh n.op=true→a.f≠[])→(cD n.op=true→b.f≠[])→Cn P gf ([n.v,a.v,b.v]++cs) w (fun v w'=>LI t w w' v a b (r n.op n.i n.e n.g ta tb))
def ay:Tr→Tr×Tr
 |.leaf op i e g=>(.leaf op i e g,if op=1 then cT 2 else if op=2 then cT 1 else aG (.leaf op i e g))
 |.un op i e g a=>
  if op=4 then ((ay a).2,(ay a).1)
  else if op=9 then (.un op i e g (ay a).1,.un 10 i 0 0 (ay a).2)
  else if op=10 then (.un op i e g (ay a).1,.un 9 i 0 0 (ay a).2)
  else (.un op i e g (ay a).1,aG (.un op i e g (ay a).1))
 |.bin op i e g a b=>
  if op=5 then (.bin op i e g (ay a).1 (ay b).1,.bin 6 0 0 0 (ay a).2 (ay b).2)
  else if op=6 then (.bin op i e g (ay a).1 (ay b).1,.bin 5 0 0 0 (ay a).2 (ay b).2)
  else if op=7 then (.bin 6 0 0 0 (ay a).2 (ay b).1,.bin 5 0 0 0 (ay a).1 (ay b).2)
  else if op=8 then (.bin 5 0 0 0 (.bin 6 0 0 0 (ay a).2 (ay b).1) (.bin 6 0 0 0 (ay a).1 (ay b).2),.bin 6 0 0 0 (.bin 5 0 0 0 (ay a).1 (ay b).2) (.bin 5 0 0 0 (ay a).2 (ay b).1))
  else (.bin op i e g (ay a).1 (ay b).1,aG (.bin op i e g (ay a).1 (ay b).1))
theorem hJ {a b:Tr} (ha:a.ok) (hb:b.ok):(Tr.bin 6 0 0 0 a b).ok:=⟨by omega,rfl,rfl,ha,hb⟩
theorem iQ {op i:Int} {a:Tr} (ho:op=9∨op=10) (hi:0≤i∧i<4) (ha:a.ok):(Tr.un op i 0 0 a).ok:=H4 ho hi.1 hi.2 ha
theorem jQ:∀{t:Tr},t.ok→(ay t).1.ok∧(ay t).2.ok
 |.leaf op i e g,h=>by
  rw [ay];refine ⟨h,?_⟩;dsimp only;split;exact Fg (.inr rfl);split;exact Fg (.inl rfl);exact wJ h
 |.un op i e g a,h=>by
  obtain ⟨h1,h2⟩:=jQ h.2.2.2.2;have hme:(Tr.un op i e g (ay a).1).ok:=⟨h.1,h.2.1,h.2.2.1,h.2.2.2.1,h1⟩;rw [ay];split;exact ⟨h2,h1⟩;split;rename_i h9;subst h9;exact ⟨hme,iQ (.inr rfl) ((fC h.2.2.2.1).ag rfl) h2⟩;split;rename_i h9;subst h9;exact ⟨hme,iQ (.inl rfl) ((fC h.2.2.2.1).ag rfl) h2⟩;exact ⟨hme,wJ hme⟩
 |.bin op i e g a b,h=>by
  obtain ⟨h1,h2⟩:=jQ h.2.2.2.1;obtain ⟨k1,k2⟩:=jQ h.2.2.2.2;have hme:(Tr.bin op i e g (ay a).1 (ay b).1).ok:=⟨h.1,h.2.1,h.2.2.1,h1,k1⟩;rw [ay];split;exact ⟨hme,hJ h2 k2⟩;split;exact ⟨hme,gh h2 k2⟩;split;exact ⟨hJ h2 k1,gh h1 k2⟩;split;exact ⟨gh (hJ h2 k1) (hJ h1 k2),hJ (gh h1 k2) (gh h2 k1)⟩;exact ⟨hme,wJ hme⟩
theorem B7 {s t:Tr} (hs:s.ok) (ht:t.ok) (h:cm s=cm t):s=t:=by rw [←jK hs.wf,h,jK ht.wf]
def fT:Tr→Int
 |.leaf op _ _ _=>op
 |.un op _ _ _ _=>op
 |.bin op _ _ _ _ _=>op
theorem tv {t:Tr} (h:t.ok):aa (cm t) ((cm t).length - 1)=t:=by rw [←dE];exact jK h.wf
structure Cf (f:List NV) (t:Tr):Prop where
  eq:f=bT t
  ne:f≠[]
  ok:t.ok
theorem Cf.can {f:List NV} {t:Tr} (h:Cf f t):f=cm t∧(cm t).length≤200:=by
 have h1:¬200<(cm t).length:=fun hl=>h.ne (h.eq.trans (xi.2 hl));exact ⟨h.eq.trans (v3 h1),by omega⟩
theorem Cf.okF {f:List NV} {t:Tr} (h:Cf f t):zT f:=by rw [h.can.1];exact rR h.ok h.can.2
theorem Cf.jt {f:List NV} {t:Tr} (h:Cf f t):aN f=0:=aB.2 h.okF
theorem Cf.top {f:List NV} {t:Tr} (h:Cf f t):bu f=t:=by rw [h.can.1];exact jK h.ok.wf
theorem Cf.of {t:Tr} (h:t.ok) (hl:(cm t).length≤200):Cf (cm t) t:=⟨(v3 (by omega)).symm,fun e=>by have:=jV t;rw [e] at this;exact absurd this (by simp),h⟩
theorem Cf.CB {t:Tr} (h:t.ok) (hl:bT t≠[]):Cf (bT t) t:=⟨rfl,hl,h⟩
theorem Cf.pos {f:List NV} {t:Tr} (h:Cf f t):0<f.length:=h.okF.pos
theorem Cf.le {f:List NV} {t:Tr} (h:Cf f t):f.length≤200:=h.okF.len
def ER (t tl:TypeId) (w w':World) (v:Value) (gs:List FV):Prop:=∃(q:Option Nat) (cap:Nat) (sp:List Value) (H:Hl),v=bB q gs.length cap∧(q=none→gs.length=0∧cap=0)∧(gs.map FV.v++sp).length=cap∧fO w w' ((q,ob FV.v tl gs sp)::H)∧∀g∈gs,g.In t H
theorem fO.nil {w w':World} {o:Obj}:fO w w' [(none,o)]:=⟨fun p hp b hb=>(by rw [List.mem_singleton.1 hp] at hb;cases hb),by simp⟩
theorem ER.mk {t tl:TypeId} {w0 w:World} {h:Hl} {Y:List (Nat×Obj)} (s:St w0 [] w h Y) {q:Option Nat} {gs:List FV} {sp:List Value} {cap:Nat} {H:Hl} (hs:((q,ob FV.v tl gs sp)::H).Sublist h) (hq:q=none→gs.length=0∧cap=0) (ak:(gs.map FV.v++sp).length=cap) (hin:∀g∈gs,g.In t H):ER t tl w0 w (bB q gs.length cap) gs:=
 ⟨q,cap,sp,H,rfl,hq,ak,(fO.of s).sub hs,hin⟩
theorem FV.In.sep {t:TypeId} {w0 w:World} {S:List Nat} {h hF:Hl} {Y:List (Nat×Obj)} {x:FV} (g:x.In t hF) (s:St w0 S w (h++hF) Y):zU (bZ h) w x.a x.f:=by
 refine ⟨((g.mono (List.subset_append_right h hF)).at s).at_,fun b o e hm=>?_⟩;obtain ⟨q,sp,h1,h2,_⟩:=g;rw [h2] at e;obtain ⟨o1,ho⟩:=gl.1 hm;cases q with
 |none=>cases e
 |some c=>
  cases e;exact (List.pairwise_append.1 s.apart).2.2 _ ho _ h1 b rfl rfl
structure L6 (t:TypeId) (H:Hl) (gs:List FV) (ts:List Tr):Prop where
  eq:gs.map FV.f=ts.map bT
  cf:∀u∈ts,u.ok∧bT u≠[]
  Mh:∀g∈gs,g.In t H
def Hw (f o:List NV) (e:Int):Prop:=(aN f≠0∧o=[]∧e=aN f)∨(aN f=0∧o=bT (ay (bu f)).1∧e=if o=[] then 8 else 0)
theorem mE (f:List NV):aP (ah f):=by
 by_cases h:aN f=0;exact (gu h).nodes;rw [ah,if_pos h];intro i hi;exact absurd hi (Nat.not_lt_zero _)
def jg (f g:List NV):Bool:=decide (aN f=0∧aN g=0∧ah f=ah g)
theorem Dc {f g:List NV} {u:Tr} (h0:aN f=0) (hg:Cf g u):jg f g=decide (bu f=u):=by
 unfold jg;rw [decide_eq_decide];have hT:=(aB.1 h0).top;have hcg:ah g=cm u:=by rw [dG hg.jt,hg.top]
 constructor;rintro ⟨_,_,h⟩;rw [dG h0,hcg] at h;exact B7 hT hg.ok h;intro h;exact ⟨h0,hg.jt,by rw [dG h0,hcg,h]⟩
theorem oX {f:List NV} {i:Nat} (hi:i<f.length) (hO:aP f):fT (aa f i)=f[i].op:=by
 rcases bS hi hO with ⟨_,h⟩|⟨_,_,h⟩|⟨_,h⟩<;>rw [h]<;>rfl
def Cz (A B:Nat) (op i g:Int):Bool:=decide (op≤13) && ((!np op||decide (i.toNat<A)) && ((!(op==3)||decide (i.toNat<B)) && decide (g.toNat<2^A)))
def sP {α:Type} (L:Nat) (P:Nat→α) (d:α) (k:Nat):List α:=(List.range L).map (fun j=>if j<k then P j else d)
section
variable {α:Type} {L:Nat} {P:Nat→α} {d:α} {k j:Nat}
theorem ki:(sP L P d k).length=L:=by simp [sP]
theorem ua (hj:j<k) (hL:j<L) {e:α}:(sP L P d k).getD j e=P j:=by simp [sP,List.getD_eq_getElem?_getD,hL,hj]
theorem AI:sP L P d 0=List.replicate L d:=by
 apply List.ext_getElem (by simp [sP]);intro i h1 h2;simp [sP]
theorem tZ (_hk:k<L):(sP L P d k).set k (P k)=sP L P d (k+1):=by
 apply List.ext_getElem (by simp [sP]);intro i h1 h2;rw [List.getElem_set];by_cases hi:k=i;subst hi;simp [sP];rw [if_neg hi];simp only [sP,List.getElem_map,List.getElem_range];by_cases h3:i<k;rw [if_pos h3,if_pos (by omega)];rw [if_neg h3,if_neg (by omega)]
end
theorem qH {op:Int} (h:1≤op∧op≤21):dh op=decide (4≤op):=by
 rcases oW h with rfl|rfl|rfl|rfl|rfl|rfl|rfl|rfl|rfl|rfl|rfl|rfl|rfl|rfl|rfl|rfl|rfl|rfl|rfl|rfl|rfl<;>rfl
def Bf (f:List NV):Option Tr→Prop
 |none=>f=[]
 |some t=>Cf f t
theorem Bf.le {f:List NV} {o:Option Tr} (h:Bf f o):f.length≤200:=by
 cases o with
 |none=>rw [show f=[] from h];decide
 |some t=>exact Cf.le h
theorem Bf.max {f:List NV} {o:Option Tr} (h:Bf f o):f.length≤maxLen:=by have:=h.le;unfold maxLen;omega
theorem fO.KO {w w':World} {o o':Obj}:fO w w' [(none,o),(none,o')]:=
 have h:∀p∈[((none:Option Nat),o),(none,o')],∀b,p.1=some b→False:=fun p hp b hb=>by
  simp only [List.mem_cons,List.not_mem_nil,or_false] at hp;rcases hp with rfl|rfl<;>cases hb
 ⟨fun p hp b hb=>(h p hp b hb).elim,List.pairwise_cons.2 ⟨fun _ _ _ hb=>(by cases hb),List.pairwise_cons.2 ⟨fun _ hp=>(by cases hp),List.Pairwise.nil⟩⟩⟩
theorem St.aY {w0 w:World} {S:List Nat} {h:Hl} {Y:List (Nat×Obj)} (s:St w0 S w h Y) {o:Obj}:St w0 S w ((Option.none,o)::h) Y:=
 ⟨s.ext,fun p hp b hb=>by
  rcases List.mem_cons.1 hp with rfl|hp;cases hb;exact s.own p hp b hb,List.pairwise_cons.2 ⟨fun _ _ _ hb=>(by cases hb),s.apart⟩,s.sys,s.yL⟩
def lY:Option Tr→Int
 |none=>0
 |some t=>fT t
def fI:Tr→Int
 |.leaf _ i _ _=>i
 |.un _ i _ _ _=>i
 |.bin _ i _ _ _ _=>i
def fG:Tr→Int
 |.leaf _ _ _ g=>g
 |.un _ _ _ g _=>g
 |.bin _ _ _ g _ _=>g
def I1:Option Tr→Int
 |none=>0
 |some t=>fI t
def Ka:Option Tr→Int
 |none=>0
 |some t=>fG t
def iE:Option Tr→Option Tr
 |some (.un _ _ _ _ a)=>some a
 |some (.bin _ _ _ _ a _)=>some a
 |_=>none
def yg:Option Tr→Option Tr
 |some (.bin op _ _ _ _ b)=>if op=5∨op=6∨op=7∨op=8∨op=13 then some b else none
 |_=>none
abbrev aR (a b:Tr):Tr:=.bin 7 0 0 0 a b
abbrev j8 (a b:Tr):Tr:=.bin 5 0 0 0 a b
abbrev oU (a b:Tr):Tr:=.bin 8 0 0 0 a b
abbrev aw (i:Int) (a:Tr):Tr:=.un 9 i 0 0 a
abbrev gL (i:Int) (a:Tr):Tr:=.un 10 i 0 0 a
abbrev tm (g:Int) (a:Tr):Tr:=.un 11 0 0 g a
abbrev oJ (g:Int) (a b:Tr):Tr:=.bin 13 0 0 g a b
theorem Gd {op i e g:Int} {a b:Tr} (h:(Tr.bin op i e g a b).ok) (hop:op=5∨op=6∨op=7∨op=8):i=0∧e=0∧g=0:=by
 have hF:=fC h.2.2.1;rcases hop with rfl|rfl|rfl|rfl<;>exact ⟨hF.i0 rfl,hF.e0 (by decide),hF.g0 rfl⟩
theorem Gc {i e g:Int} {a b:Tr} (h:(Tr.bin 13 i e g a b).ok):i=0∧e=0∧1≤g∧g<16:=by
 have hF:=fC h.2.2.1;exact ⟨hF.i0 rfl,hF.e0 (by decide),hF.gr rfl⟩
theorem oq {op i e g:Int} {a:Tr} (h:(Tr.un op i e g a).ok) (hop:op=9∨op=10):(0≤i∧i<4)∧e=0∧g=0:=by
 have hF:=fC h.2.2.2.1;rcases hop with rfl|rfl<;>exact ⟨hF.ag rfl,hF.e0 (by decide),hF.g0 rfl⟩
theorem Ix {i e g:Int} {a:Tr} (h:(Tr.un 11 i e g a).ok):i=0∧e=0∧1≤g∧g<16:=by
 have hF:=fC h.2.2.2.1;exact ⟨hF.i0 rfl,hF.e0 (by decide),hF.gr rfl⟩
theorem nX {t:Tr} (h:t.ok):(dh (fT t)=false∧kids t=[])∨(dh (fT t)=true∧cD (fT t)=false∧∃i e g a,t=.un (fT t) i e g a)∨(cD (fT t)=true∧∃i e g a b,t=.bin (fT t) i e g a b):=by
 cases t with
 |leaf op i e g=>exact .inl ⟨h.2.1,rfl⟩
 |un op i e g a=>exact .inr (.inl ⟨h.2.1,h.2.2.1,i,e,g,a,rfl⟩)
 |bin op i e g a b=>exact .inr (.inr ⟨h.2.1,i,e,g,a,b,rfl⟩)
theorem C2 {t:Tr} (h:t.ok) {op:Int} (e:fT t=op) (hop:op=5∨op=6∨op=7∨op=8):∃a b,t=.bin op 0 0 0 a b:=by
 rcases nX h with ⟨h1,_⟩|⟨_,h1,_⟩|⟨_,i,e',g,a,b,ht⟩;rw [e] at h1;rcases hop with rfl|rfl|rfl|rfl<;>exact absurd h1 (by decide)
 rw [e] at h1;rcases hop with rfl|rfl|rfl|rfl<;>exact absurd h1 (by decide)
 rw [e] at ht;rw [ht] at h;obtain ⟨rfl,rfl,rfl⟩:=Gd h hop;exact ⟨a,b,ht⟩
theorem C1 {t:Tr} (h:t.ok) (e:fT t=13):∃g a b,t=oJ g a b∧1≤g∧g<16:=by
 rcases nX h with ⟨h1,_⟩|⟨_,h1,_⟩|⟨_,i,e',g,a,b,ht⟩;rw [e] at h1;exact absurd h1 (by decide);rw [e] at h1;exact absurd h1 (by decide);rw [e] at ht;rw [ht] at h;obtain ⟨rfl,rfl,hg⟩:=Gc h;exact ⟨g,a,b,ht,hg⟩
theorem FH {t:Tr} (h:t.ok) {op:Int} (e:fT t=op) (hop:op=9∨op=10):∃i a,t=.un op i 0 0 a∧0≤i∧i<4:=by
 rcases nX h with ⟨h1,_⟩|⟨_,_,i,e',g,a,ht⟩|⟨h1,_⟩;rw [e] at h1;rcases hop with rfl|rfl<;>exact absurd h1 (by decide)
 rw [e] at ht;rw [ht] at h;obtain ⟨hi,rfl,rfl⟩:=oq h hop;exact ⟨i,a,ht,hi⟩;rw [e] at h1;rcases hop with rfl|rfl<;>exact absurd h1 (by decide)
theorem FI {t:Tr} (h:t.ok) (e:fT t=11):∃g a,t=tm g a∧1≤g∧g<16:=by
 rcases nX h with ⟨h1,_⟩|⟨_,_,i,e',g,a,ht⟩|⟨h1,_⟩;rw [e] at h1;exact absurd h1 (by decide);rw [e] at ht;rw [ht] at h;obtain ⟨rfl,rfl,hg⟩:=Ix h;exact ⟨g,a,ht,hg⟩;rw [e] at h1;exact absurd h1 (by decide)
def Fit (t:Tr):Prop:=(cm t).length≤200
theorem Fit.vz {t c:Tr} (h:Fit t) (hc:c∈kids t):Fit c:=Nat.le_trans (jW hc) h
theorem Cf.zm {f:List NV} {t:Tr} (h:Cf f t) (hl:f.length - 1<f.length) (h4:4≤fT t):Bf (eH f f[f.length - 1].x) (iE (some t)):=by
 have ht:aa f (f.length - 1)=t:=by rw [←dE];exact h.top
 have hn:=h.okF.nodes;have hO:=hn _ hl;have hc:=h.can;have key:∀c,c∈kids t→∀x:Int,aa f x.toNat=c→0≤x→x<f.length→Bf (eH f x) (some c):=fun c hck x hx h0 hlt=>by
  have hcl:(cm c).length≤200:=Nat.le_trans (jW hck) hc.2;rw [eH,if_neg (by rintro (e|e|e)<;>first|exact e h.jt|omega),hx];exact Cf.of (h.ok.vz hck) hcl
 rcases bS hl hn with ⟨h1,h2⟩|⟨h1,h1',h2⟩|⟨h1,h2⟩;rw [ht] at h2;have e:f[f.length - 1].op=fT t:=by rw [h2];rfl
 rw [qH hO.op,decide_eq_false_iff_not] at h1;omega;rw [ht] at h2;have hx:=hO.x h1;rw [h2];exact key _ (by rw [h2];exact List.mem_cons_self ..) _ rfl hx.1 (by omega);rw [ht] at h2;have hx:=hO.x (dZ h1);rw [h2];exact key _ (by rw [h2];exact List.mem_cons_self ..) _ rfl hx.1 (by omega)
theorem Cf.wT {f:List NV} {t:Tr} (h:Cf f t) (hl:f.length - 1<f.length) (h5:fT t=5∨fT t=6∨fT t=7∨fT t=8∨fT t=13):Bf (eH f f[f.length - 1].y) (yg (some t)):=by
 have ht:aa f (f.length - 1)=t:=by rw [←dE];exact h.top
 have hn:=h.okF.nodes;have hO:=hn _ hl;have hc:=h.can;rcases bS hl hn with ⟨h1,h2⟩|⟨h1,h1',h2⟩|⟨h1,h2⟩;rw [ht] at h2;have e:f[f.length - 1].op=fT t:=by rw [h2];rfl
 rw [e] at h1;rcases h5 with h5|h5|h5|h5|h5<;>rw [h5] at h1<;>exact absurd h1 (by decide)
 rw [ht] at h2;have e:f[f.length - 1].op=fT t:=by rw [h2];rfl
 rw [e] at h1';rcases h5 with h5|h5|h5|h5|h5<;>rw [h5] at h1'<;>exact absurd h1' (by decide)
 rw [ht] at h2;have e:f[f.length - 1].op=fT t:=by rw [h2];rfl
 have hy:=hO.y h1;have hck:aa f f[f.length - 1].y.toNat∈kids t:=by rw [h2];exact List.mem_cons_of_mem _ (List.mem_cons_self ..)
 have hcl:(cm (aa f f[f.length - 1].y.toNat)).length≤200:=Nat.le_trans (jW hck) hc.2;have hk:yg (some t)=some (aa f f[f.length - 1].y.toNat):=by
  rw [h2];exact if_pos (by rw [e];exact h5)
 rw [hk,eH,if_neg (by rintro (e|e|e)<;>first|exact e h.jt|omega)];exact Cf.of (h.ok.vz hck) hcl
theorem Cf.Ed {f:List NV} {t:Tr} (h:Cf f t) (hl:f.length - 1<f.length):f[f.length - 1].op=fT t∧f[f.length - 1].i=fI t∧f[f.length - 1].g=fG t:=by
 have ht:aa f (f.length - 1)=t:=by rw [←dE];exact h.top
 rcases bS hl h.okF.nodes with ⟨h1,h2⟩|⟨h1,h1',h2⟩|⟨h1,h2⟩<;>rw [ht] at h2<;>rw [h2]<;>exact ⟨rfl,rfl,rfl⟩
theorem Bk {t:Tr} (h:¬(fT t=5∨fT t=6∨fT t=7∨fT t=8∨fT t=13)):yg (some t)=none:=by
 cases t with
 |leaf=>rfl
 |un=>rfl
 |bin op i e g a b=>exact if_neg h
theorem Bl {t:Tr} (hok:t.ok) (h:¬4≤fT t):iE (some t)=none:=by
 cases t with
 |leaf=>rfl
 |un op i e g a=>have h1:=hok.2.1;rw [qH hok.1,decide_eq_true_eq] at h1;exact absurd h1 h
 |bin op i e g a b=>have h1:=dZ hok.2.1;rw [qH hok.1,decide_eq_true_eq] at h1;exact absurd h1 h
theorem Bg {f:List NV} (h:aN f=0):Fit (bu f):=by
 have h1:=pv h;rw [dG h] at h1;have:=(aB.1 h).len;show (cm (bu f)).length≤200;omega
def HF (t:Tr):Prop:=∃i x y,t=aR (aw i (aR x y)) (aR (aw i x) (aw i y))
def Fs (t:Tr):Prop:=∃i x,t=aR (aw i x) x
def Fv (t:Tr):Prop:=∃i x,t=aR (aw i x) (aw i (aw i x))
def HJ (t:Tr):Prop:=∃i x,t=aR (aG (aw i x)) (aw i (aG (aw i x)))
def Fu (t:Tr):Prop:=∃i x,t=aR (aw i x) (aG (aw i (aG x)))
def HE (t:Tr):Prop:=∃i x,t=oU (gL i x) (aG (aw i (aG x)))
def HI (t:Tr):Prop:=∃g x y,t=oU (oJ g x y) (tm g (aR x (j8 y (oJ g x y))))
def Ft (u t:Tr):Prop:=∃z g x y,t=aR z (oJ g x y)∧u=aR z (tm g (aR x (j8 y z)))
section
variable {t:Tr}
theorem Fit.r {op i e g:Int} {a b:Tr} (h:Fit (.bin op i e g a b)):Fit b:=h.vz (List.mem_cons_of_mem _ (List.mem_cons_self ..))
theorem Fit.u {op i e g:Int} {a:Tr} (h:Fit (.un op i e g a)):Fit a:=h.vz (List.mem_cons_self ..)
end
section
variable {t u:Tr}
theorem qQ {f:List NV} {X:Tr} (h:aN f=0) (hX:X.ok):jg f (bT X)=decide (bu f=X):=by
 by_cases hl:Fit X;exact Dc h (Cf.CB hX (Fi.2 hl));have e:bT X=[]:=xi.2 (by unfold Fit at hl;omega);rw [e,show jg f []=false from decide_eq_false (fun e=>absurd e.2.1 (by decide))];exact (decide_eq_false (fun e:bu f=X=>hl (e ▸ Bg h))).symm
theorem dO {f:List NV} {t X:Tr} (h:Cf f t) (hX:X.ok):jg f (bT X)=decide (t=X):=by rw [qQ h.jt hX,h.top]
theorem HF.iff {i:Int} {p q:Tr} (h:iE (some t)=some (aw i (aR p q))):t=aR (aw i (aR p q)) (aR (aw i p) (aw i q))↔HF t:=
 ⟨fun e=>⟨i,p,q,e⟩,fun ⟨i',x,y,e⟩=>by
  subst e;have h':some (aw i' (aR x y))=some (aw i (aR p q)):=h;cases h';rfl⟩
theorem HF.gd (h:HF t):lY (iE (some t))=9∧lY (iE (iE (some t)))=7:=by obtain ⟨i,x,y,rfl⟩:=h;exact ⟨rfl,rfl⟩
theorem Fs.iff {i:Int} {x:Tr} (h:iE (some t)=some (aw i x)):t=aR (aw i x) x↔Fs t:=
 ⟨fun e=>⟨i,x,e⟩,fun ⟨i',y,e⟩=>by
  subst e;have h':some (aw i' y)=some (aw i x):=h;cases h';rfl⟩
theorem Fs.gd (h:Fs t):lY (iE (some t))=9:=by obtain ⟨i,x,rfl⟩:=h;rfl
theorem Fv.iff {i:Int} {x:Tr} (h:iE (some t)=some (aw i x)):t=aR (aw i x) (aw i (aw i x))↔Fv t:=
 ⟨fun e=>⟨i,x,e⟩,fun ⟨i',y,e⟩=>by
  subst e;have h':some (aw i' y)=some (aw i x):=h;cases h';rfl⟩
theorem Fv.gd (h:Fv t):lY (iE (some t))=9:=by obtain ⟨i,x,rfl⟩:=h;rfl
theorem Fu.iff {i:Int} {x:Tr} (h:iE (some t)=some (aw i x)):t=aR (aw i x) (aG (aw i (aG x)))↔Fu t:=
 ⟨fun e=>⟨i,x,e⟩,fun ⟨i',y,e⟩=>by
  subst e;have h':some (aw i' y)=some (aw i x):=h;cases h';rfl⟩
theorem Fu.gd (h:Fu t):lY (iE (some t))=9:=by obtain ⟨i,x,rfl⟩:=h;rfl
theorem HJ.iff {i:Int} {x:Tr} (h:iE (iE (some t))=some (aw i x)):t=aR (aG (aw i x)) (aw i (aG (aw i x)))↔HJ t:=
 ⟨fun e=>⟨i,x,e⟩,fun ⟨i',y,e⟩=>by
  subst e;have h':some (aw i' y)=some (aw i x):=h;cases h';rfl⟩
theorem HJ.gd (h:HJ t):lY (iE (iE (some t)))=9:=by obtain ⟨i,x,rfl⟩:=h;rfl
theorem HE.iff {i:Int} {x:Tr} (h:iE (some t)=some (gL i x)):t=oU (gL i x) (aG (aw i (aG x)))↔HE t:=
 ⟨fun e=>⟨i,x,e⟩,fun ⟨i',y,e⟩=>by
  subst e;have h':some (gL i' y)=some (gL i x):=h;cases h';rfl⟩
theorem HE.gd (h:HE t):lY (iE (some t))=10:=by obtain ⟨i,x,rfl⟩:=h;rfl
theorem HI.iff {g:Int} {x y:Tr} (h:iE (some t)=some (oJ g x y)):t=oU (oJ g x y) (tm g (aR x (j8 y (oJ g x y))))↔HI t:=
 ⟨fun e=>⟨g,x,y,e⟩,fun ⟨g',x',y',e⟩=>by
  subst e;have h':some (oJ g' x' y')=some (oJ g x y):=h;cases h';rfl⟩
theorem HI.gd (h:HI t):lY (iE (some t))=13:=by obtain ⟨g,x,y,rfl⟩:=h;rfl
theorem Ft.iff {z:Tr} {g:Int} {x y:Tr} (hz:iE (some t)=some z) (h:yg (some t)=some (oJ g x y)):(t=aR z (oJ g x y)∧u=aR z (tm g (aR x (j8 y z))))↔Ft u t:=
 ⟨fun e=>⟨z,g,x,y,e⟩,fun ⟨z',g',x',y',e,e2⟩=>by
  subst e;subst e2;have h':some (oJ g' x' y')=some (oJ g x y):=h;have hz':some z'=some z:=hz;cases h';cases hz';exact ⟨rfl,rfl⟩⟩
theorem Ft.gd (h:Ft u t):lY (yg (some t))=13:=by obtain ⟨z,g,x,y,rfl,_⟩:=h;rfl
def su (g k:Nat):List Nat:=(List.range k).filter (fun i=>gb g i==1)
theorem Cr {g k:Nat} (h:gb g k=1):su g (k+1)=su g k++[k]:=by simp [su,List.range_succ,List.filter_append,h]
theorem EL {g k:Nat} (h:gb g k≠1):su g (k+1)=su g k:=by simp [su,List.range_succ,List.filter_append,h]
theorem Cs {g k:Nat}:(su g k).length≤k:=by have:=List.length_filter_le (fun i=>gb g i==1) (List.range k);simpa [su] using this
theorem EM {g k i:Nat} (h:i∈su g k):i<k:=by simpa using (List.mem_filter.1 h).1
def E8 (g k:Nat) (x:Tr):List Tr:=(su g k).map (fun (j:Nat)=>aw (j:Int) x)
def zE (g:Nat) (x:Tr):Tr:=lW (E8 g 4 x)
def HG (t:Tr):Prop:=∃(g:Int) (x:Tr),t=oU (tm g x) (zE g.toNat x)
theorem HG.iff {g:Int} {x:Tr} (h:iE (some t)=some (tm g x)):t=oU (tm g x) (zE g.toNat x)↔HG t:=
 ⟨fun e=>⟨g,x,e⟩,fun ⟨g',y,e⟩=>by
  subst e;have h':some (tm g' y)=some (tm g x):=h;cases h';rfl⟩
theorem HG.gd (h:HG t):lY (iE (some t))=11:=by obtain ⟨g,x,rfl⟩:=h;rfl
end
def iU (o:Option Tr):Prop:=∀A,o=some A→A.ok
theorem iU.a {o:Option Tr} (h:iU o):iU (iE o):=fun A e=>by
 cases o with
 |none=>cases e
 |some t=>
  cases t with
  |leaf=>cases e
  |un op i e' g a=>have e2:some a=some A:=e;cases e2;exact (h _ rfl).vz (List.mem_cons_self ..)
  |bin op i e' g a b=>have e2:some a=some A:=e;cases e2;exact (h _ rfl).vz (List.mem_cons_self ..)
theorem iU.b {o:Option Tr} (h:iU o):iU (yg o):=fun A e=>by
 cases o with
 |none=>cases e
 |some t=>
  cases t with
  |leaf=>cases e
  |un=>cases e
  |bin op i e' g a b=>
   have e2:(if op=5∨op=6∨op=7∨op=8∨op=13 then some b else none)=some A:=e;split at e2;cases e2;exact (h _ rfl).vz (List.mem_cons_of_mem _ (List.mem_cons_self ..));cases e2
theorem iU.of {t:Tr} (h:t.ok):iU (some t):=fun A e=>by cases e;exact h
theorem oi {o:Option Tr} {n:Int} (h:lY o=n) (hn:n≠0):∃t,o=some t∧fT t=n:=by
 cases o with
 |none=>exact absurd h.symm hn
 |some t=>exact ⟨t,rfl,h⟩
theorem iU.kn {o:Option Tr} (h:iU o) {op:Int} (e:lY o=op) (hop:op=9∨op=10):∃i G,o=some (.un op i 0 0 G)∧(0≤i∧i<4)∧G.ok:=by
 obtain ⟨t,rfl,ht⟩:=oi e (by omega);obtain ⟨i,G,rfl,hi⟩:=FH (h _ rfl) ht hop;exact ⟨i,G,rfl,hi,(h _ rfl).vz (List.mem_cons_self ..)⟩
theorem iU.bn {o:Option Tr} (h:iU o) {op:Int} (e:lY o=op) (hop:op=5∨op=6∨op=7∨op=8):∃p q,o=some (.bin op 0 0 0 p q)∧p.ok∧q.ok:=by
 obtain ⟨t,rfl,ht⟩:=oi e (by omega);obtain ⟨p,q,rfl⟩:=C2 (h _ rfl) ht hop;exact ⟨p,q,rfl,(h _ rfl).vz (List.mem_cons_self ..),(h _ rfl).vz (List.mem_cons_of_mem _ (List.mem_cons_self ..))⟩
theorem iU.co {o:Option Tr} (h:iU o) (e:lY o=13):∃g p q,o=some (oJ g p q)∧(1≤g∧g<16)∧p.ok∧q.ok:=by
 obtain ⟨t,rfl,ht⟩:=oi e (by omega);obtain ⟨g,p,q,rfl,hg⟩:=C1 (h _ rfl) ht;exact ⟨g,p,q,rfl,hg,(h _ rfl).vz (List.mem_cons_self ..),(h _ rfl).vz (List.mem_cons_of_mem _ (List.mem_cons_self ..))⟩
theorem iU.ev {o:Option Tr} (h:iU o) (e:lY o=11):∃g p,o=some (tm g p)∧(1≤g∧g<16)∧p.ok:=by
 obtain ⟨t,rfl,ht⟩:=oi e (by omega);obtain ⟨g,p,rfl,hg⟩:=FI (h _ rfl) ht;exact ⟨g,p,rfl,hg,(h _ rfl).vz (List.mem_cons_self ..)⟩
theorem dQ {a b:Tr} (ha:a.ok) (hb:b.ok):(aR a b).ok:=⟨by decide,rfl,by decide,ha,hb⟩
theorem gQ {a b:Tr} (ha:a.ok) (hb:b.ok):(j8 a b).ok:=⟨by decide,rfl,by decide,ha,hb⟩
theorem vC {a b:Tr} (ha:a.ok) (hb:b.ok):(oU a b).ok:=⟨by decide,rfl,by decide,ha,hb⟩
theorem bH {a:Tr} (ha:a.ok):(aG a).ok:=⟨by decide,rfl,rfl,by decide,ha⟩
theorem rD {i:Int} (hi:0≤i∧i<4):eR 9 i 0 0=0:=by
 obtain ⟨k,rfl⟩:∃k:Nat,i=(k:Int):=⟨i.toNat,by omega⟩;have:∀j:Fin 4,eR 9 ((j.val:Nat):Int) 0 0=0:=by decide
 exact this ⟨k,by omega⟩
theorem BC {g:Int} (hg:1≤g∧g<16):eR 11 0 0 g=0:=by
 obtain ⟨k,rfl⟩:∃k:Nat,g=(k:Int):=⟨g.toNat,by omega⟩;have:∀j:Fin 16,1≤j.val→eR 11 0 0 ((j.val:Nat):Int)=0:=by decide
 exact this ⟨k,by omega⟩ (by show 1≤k;omega)
theorem bE {i:Int} {a:Tr} (hi:0≤i∧i<4) (ha:a.ok):(aw i a).ok:=⟨by decide,rfl,rfl,rD hi,ha⟩
theorem yo {g:Int} {a:Tr} (hg:1≤g∧g<16) (ha:a.ok):(tm g a).ok:=⟨by decide,rfl,rfl,BC hg,ha⟩
theorem Bh {g k:Nat} {x:Tr} (hk:k≤4) (hx:x.ok):∀u∈E8 g k x,u.ok:=fun u hu=>by
 obtain ⟨j,hj,rfl⟩:=List.mem_map.1 hu;have:=EM hj;exact bE (by omega) hx
theorem Eo:∀{ts:List Tr},(∀u∈ts,u.ok)→(lW ts).ok
 |[],_=>⟨by decide,rfl,by decide⟩
 |t::ts,h=>by
  have key:∀(l:List Tr) (a:Tr),a.ok→(∀u∈l,u.ok)→(l.foldl (fun a b=>.bin 5 0 0 0 a b) a).ok:=fun l=>by
   induction l with
   |nil=>exact fun a ha _=>ha
   |cons b l ih=>exact fun a ha hl=>ih _ (gQ ha (hl b (by simp))) (fun u hu=>hl u (by simp [hu]))
  exact key ts t (h t (by simp)) (fun u hu=>h u (by simp [hu]))
theorem yH {g:Nat} {x:Tr} (hx:x.ok):(zE g x).ok:=Eo (Bh (Nat.le_refl _) hx)
theorem Am {w0 w:World} {S:List Nat} {h:Hl} {Y:List (Nat×Obj)} (s:St w0 S w h Y) (j:Nat) {q:Option Nat} {gs:List FV} {e:TypeId} {sp:List Value} (hj:h[j]?=some (q,ob FV.v e gs sp)) (hq:q=none→gs.length=0):sC w (q.map (fun b=>⟨b,0,none⟩)) gs:=by
 cases q with
 |none=>rw [List.eq_nil_of_length_eq_zero (hq rfl)];exact Sl.nil _ _
 |some b=>exact Sl.dq (s.get hj)
theorem Bi {t c:Tr} (h:yg (some t)=some c):∃z,iE (some t)=some z:=by
 cases t with
 |leaf=>cases h
 |un=>cases h
 |bin op i e g a b=>exact ⟨a,rfl⟩
def cG (l r:Int):Bool:=if r=3 then decide (l=2∨l=4∨l=6) else if r=4 then decide (3≤l) else if r=5 then decide (5≤l) else if r=6 then decide (l=1∨l=5) else true
def mq (xs:List Int):aC:=xs.foldl (fun a x=>a|||(1#64<<<x.toNat)) 0#64
theorem zi {xs:List Int} {x:Int}:mq (xs++[x])=mq xs|||(1#64<<<x.toNat):=by simp [mq]
theorem IY {l r:Int} (hl:0≤l∧l≤6):cG l r=(((if r=3 then mq [2,4,6] else if r=4 then mq [3,4,5,6] else if r=5 then mq [5,6] else if r=6 then mq [1,5] else BitVec.allOnes 64)>>>l.toNat) &&& 1#64==1#64):=by
 obtain ⟨k,rfl⟩:∃k:Nat,l=(k:Int):=⟨l.toNat,by omega⟩;have key:∀j:Fin 7,(decide (((j.val:Nat):Int)=2∨((j.val:Nat):Int)=4∨((j.val:Nat):Int)=6)=((mq [2,4,6]>>>((j.val:Nat):Int).toNat) &&& 1#64==1#64))∧(decide (3≤((j.val:Nat):Int))=((mq [3,4,5,6]>>>((j.val:Nat):Int).toNat) &&& 1#64==1#64))∧
   (decide (5≤((j.val:Nat):Int))=((mq [5,6]>>>((j.val:Nat):Int).toNat) &&& 1#64==1#64))∧(decide (((j.val:Nat):Int)=1∨((j.val:Nat):Int)=5)=((mq [1,5]>>>((j.val:Nat):Int).toNat) &&& 1#64==1#64))∧(true=((BitVec.allOnes 64>>>((j.val:Nat):Int).toNat) &&& 1#64==1#64)):=by decide+kernel
 obtain ⟨k1,k2,k3,k4,k5⟩:=key ⟨k,by omega⟩;unfold cG;by_cases h3:r=3;rw [if_pos h3,if_pos h3];exact k1;rw [if_neg h3,if_neg h3];by_cases h4:r=4;rw [if_pos h4,if_pos h4];exact k2;rw [if_neg h4,if_neg h4];by_cases h5:r=5;rw [if_pos h5,if_pos h5];exact k3;rw [if_neg h5,if_neg h5];by_cases h6:r=6;rw [if_pos h6,if_pos h6];exact k4;rw [if_neg h6,if_neg h6];exact k5
def gO (f:List NV):Int:=if aN f≠0 then aN f else if lp (l6 (ah f)) 11≠0 then 10 else 0
def eF (r:Int):Int:=if r=10 then 2 else if r=11∨r=12 then 1 else 0
end Go.Proofs.Wit
