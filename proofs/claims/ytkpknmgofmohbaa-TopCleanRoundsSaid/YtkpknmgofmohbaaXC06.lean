/- Laws of walks, for any program, under the conditions that each theorem states. -/
import Derived.Test.YtkpknmgofmohbaaXC03
import Derived.Test.YtkpknmgofmohbaaXC02
import Derived.Test.YtkpknmgofmohbaaXC01
namespace Go.Proofs.Wit
open Go Go.RowKit
open Classical in
noncomputable def ue (t:Tr):Tr:=if Fit (lG t) then (ed t).2 else lG t
structure TL where
  t:Tr
  r:Int
  a:Nat
  b:Nat
  g:Int
def TL.v (x:TL):LV:=⟨⟨none,0,bT x.t⟩,x.r,x.a,x.b,x.g⟩
structure Sg where
  ls:List TL
  bad:Bool
section
variable (T:Tr→Prop)
end
structure Sg.Le (σ σ':Sg):Prop where
  pre:σ.ls<+:σ'.ls
  ok:σ'.bad=false→σ.bad=false
section
variable {T:Tr→Prop} {t g:Tr} {r i:Int} {a b n:Nat} {σ:Sg}
end
end Go.Proofs.Wit
namespace Go.Proofs.Wit
open Go Go.RowKit
/-- no more than ten atoms -/
def lN (t:Tr):Prop:=∃l:List Tr,l.Nodup∧(∀u,u∈l↔u∈qA t)∧l.length≤10
structure Good (l:Int) (σ:Sg):Prop where
  len:σ.ls.length≤400
  tok:∀(k:Nat) (hk:k<σ.ls.length),σ.ls[k].t.ok
  ok:∀(k:Nat) (hk:k<(σ.ls.map TL.v).length),sS l (σ.ls.map TL.v) k (σ.ls.map TL.v)[k]=0
structure xd (l:Int) (P:(Tr→Prop)→Sg→Nat×Sg) (σ:Sg):Prop where
  same:P lN σ=P oK σ
  um:Good l (P lN σ).2
section
variable {l:Int} {σ:Sg}
end
end Go.Proofs.Wit
namespace Go.Proofs.Wit
open Go Go.RowKit
structure SD where
  set:au
  bX:Int
  on:Int
  e:Int
  fr:List Int
structure SV where
  d:SD
  fa:Option Addr
  fc:Nat
def nd (b:List NV) (i:Int):NV:=b.getD i.toNat ⟨0,0,0,0,0,0⟩
def tA (b:List NV) (i:Int):Tr:=af b i.toNat
def pG (s:au) (i:Int):Bool:=decide (0≤i∧i<64) && s.getLsbD i.toNat
def bW (i:Int):au:=1#64<<<i.toNat
noncomputable def nG (b:List NV) (i:Int):Int:=match (List.range b.length).find? (fun j=>decide (af b j=ue (tA b i))) with
 |some j=>(j:Int)
 |none=>-1
def ui (l:Int):Prop:=l=3∨l=4∨l=5∨l=6
def ux (l:Int):Prop:=l=5∨l=6
instance {l:Int}:Decidable (ui l):=by unfold ui;infer_instance
instance {l:Int}:Decidable (ux l):=by unfold ux;infer_instance
def uD (l:Int) (b:List NV) (i:Int):au:=(if (nd b i).op=9 then bW (nd b i).x else 0#64)|||(if ((nd b i).op=9∧ui l)∨((nd b i).op=10∧ux l) then bW i else 0#64)
def oo (l:Int) (b:List NV) (s:au) (ag:Int):Nat→au
 |0=>0#64
 |k+1=>if pG s k=true∧(nd b k).i=ag then oo l b s ag k|||uD l b k else oo l b s ag k
def pU (l:Int) (b:List NV) (s:au) (ag:Int):au:=oo l b s ag b.length
def rV (b:List NV) (s:au):Prop:=∀k,s.getLsbD k=true→k<b.length
def gm (ss:List SD) (k:Int):au:=(ss.map SD.set).getD k.toNat 0#64
def lj (ss:List SD) (k:Nat):List Int→List au→Prop
 |[],[]=>True
 |f::fs,s::us=>((0≤f∧f<k)∧gm ss f &&& ~~~ s=0#64)∧lj ss k fs us
 |_,_=>False
def tG (b:List NV) (x:SD) (op:Int):Prop:=x.on<b.length∧pG x.set x.on=true∧(nd b x.on).op=op
def tK (l:Int) (b:List NV) (ss:List SD) (k:Nat) (x:SD):Prop:=
 rV b x.set∧(
 (x.bX=1∧x.fr=[]∧((tG b x 2∧x.e=0)∨(pG x.set x.on=true∧x.on<b.length∧pG x.set x.e=true∧nG b x.on=x.e)))∨
 (x.bX=2∧x.e=0∧tG b x 5∧lj ss k x.fr [x.set|||bW (nd b x.on).x|||bW (nd b x.on).y])∨
 (x.bX=3∧x.e=0∧tG b x 6∧lj ss k x.fr [x.set|||bW (nd b x.on).x,x.set|||bW (nd b x.on).y])∨
 (x.bX=4∧(0≤x.on∧x.on<b.length)∧0≤x.e∧nG b x.on=x.e∧lj ss k x.fr [x.set|||bW x.on,x.set|||bW x.e])∨
 (x.bX=5∧x.e=0∧(l=2∨l=4∨l=6)∧tG b x 9∧lj ss k x.fr [x.set|||bW (nd b x.on).x])∨
 (x.bX=6∧x.e=0∧tG b x 10∧lj ss k x.fr [bW (nd b x.on).x|||pU l b x.set (nd b x.on).i])∨
 (x.bX=7∧x.e=0∧(l=1∨l=5)∧(0≤x.on∧x.on<4)∧lj ss k x.fr [pU l b x.set x.on]))
def po (b:List NV) (n:NV):Prop:=(n.op=1∨n.op=2∨n.op=3∨n.op=5∨n.op=6∨n.op=9∨n.op=10)∨(n.op=4∧(nd b n.x).op=3)
def o8 (b:List NV) (s:au) (ag:Int) (n:Nat):Nat:=((List.range b.length).find? (fun i=>s.getLsbD i && ((nd b i).op==9 && ((nd b i).i==ag && (nd b i).x==(n:Int))))).getD n
def sl (b:List NV) (s:au) (ag:Int) (p:au):au:=(bK p).foldl (fun o n=>o|||1#64<<<o8 b s ag n) 0#64
def tX (b:List NV) (x:SD) (bf:List au):au:=
 let p:=bf.getD (x.fr.getD 0 0).toNat 0#64
 let q:=bf.getD (x.fr.getD 1 0).toNat 0#64
 let n:=nd b x.on
 if x.bX=1 then (if n.op=2 then bW x.on else bW x.on|||bW x.e)
 else if x.bX=4 then p &&& ~~~ bW x.on|||q &&& ~~~ bW x.e
 else if x.bX=7 then sl b x.set x.on p
 else if x.bX=2 then p &&& ~~~ (bW n.x|||bW n.y)|||bW x.on
 else if x.bX=3 then p &&& ~~~ bW n.x|||q &&& ~~~ bW n.y|||bW x.on
 else if x.bX=5 then p &&& ~~~ bW n.x|||bW x.on
 else sl b x.set n.i (p &&& ~~~ bW n.x)|||bW x.on
def oU (b:List NV) (ss:List SD):Nat→List au
 |0=>[]
 |k+1=>match ss[k]? with
  |some x=>oU b ss k++[tX b x (oU b ss k)]
  |none=>oU b ss k
def vq (b:List NV) (ss:List SD) (k:Nat):au:=(oU b ss ss.length).getD k 0#64
inductive tS (ss:List SD):Nat→Prop
  |last {k:Nat}:k+1=ss.length→tS ss k
  |fr {k j:Nat} (hk:k<ss.length):tS ss k→(j:Int)∈ss[k].fr→tS ss j
end Go.Proofs.Wit
namespace Go.Proofs.Wit
open Go Go.RowKit
structure lq (b:List NV):Prop where
  pR:bj b=0
  len:b.length≤64
  vA:∀n∈b,po b n
section
variable {l:Int} {b:List NV} {ss:List SD}
end
end Go.Proofs.Wit
namespace Go.Proofs.Wit
open Go Go.RowKit
section
variable {l:Int} {b:List NV} {ss:List SD}
abbrev Us (b:List NV) (ss:List SD) (k n:Nat):Prop:=(vq b ss k).getLsbD n=true
inductive kh (l:Int) (b:List NV) (ss:List SD) (k:Nat) (x:SD):Prop
  |wW (o:Nat):x.bX=1→x.fr=[]→x.on=o→o<b.length→x.set.getLsbD o=true→(nd b o).op=2→(∀n,Us b ss k n↔n=o)→kh l b ss k x
  |neg (o e:Nat):x.bX=1→x.fr=[]→x.on=o→o<b.length→x.set.getLsbD o=true→(nd b o).op≠2→x.e=e→e<b.length→x.set.getLsbD e=true→nG b o=e→af b e=ue (af b o)→(∀n,Us b ss k n↔n=o∨n=e)→kh l b ss k x
  |and (o j:Nat):x.bX=2→x.e=0→x.fr=[(j:Int)]→j<k→x.on=o→o<b.length→x.set.getLsbD o=true→(nd b o).op=5→(∀n:Nat,(gm ss j).getLsbD n=true→x.set.getLsbD n=true∨(n:Int)=(nd b o).x∨(n:Int)=(nd b o).y)→(∀n:Nat,Us b ss k n↔(Us b ss j n∧(n:Int)≠(nd b o).x∧(n:Int)≠(nd b o).y)∨n=o)→kh l b ss k x
  |or (o j i:Nat):x.bX=3→x.e=0→x.fr=[(j:Int),(i:Int)]→j<k→i<k→x.on=o→o<b.length→x.set.getLsbD o=true→(nd b o).op=6→(∀n:Nat,(gm ss j).getLsbD n=true→x.set.getLsbD n=true∨(n:Int)=(nd b o).x)→(∀n:Nat,(gm ss i).getLsbD n=true→x.set.getLsbD n=true∨(n:Int)=(nd b o).y)→(∀n:Nat,Us b ss k n↔(Us b ss j n∧(n:Int)≠(nd b o).x)∨(Us b ss i n∧(n:Int)≠(nd b o).y)∨n=o)→kh l b ss k x
  |cut (o e j i:Nat):x.bX=4→x.fr=[(j:Int),(i:Int)]→j<k→i<k→x.on=o→o<b.length→x.e=e→e<b.length→nG b o=e→af b e=ue (af b o)→(∀n:Nat,(gm ss j).getLsbD n=true→x.set.getLsbD n=true∨n=o)→(∀n:Nat,(gm ss i).getLsbD n=true→x.set.getLsbD n=true∨n=e)→(∀n:Nat,Us b ss k n↔(Us b ss j n∧n≠o)∨(Us b ss i n∧n≠e))→kh l b ss k x
  |t (o j:Nat):x.bX=5→x.e=0→(l=2∨l=4∨l=6)→x.fr=[(j:Int)]→j<k→x.on=o→o<b.length→x.set.getLsbD o=true→(nd b o).op=9→(∀n:Nat,(gm ss j).getLsbD n=true→x.set.getLsbD n=true∨(n:Int)=(nd b o).x)→(∀n:Nat,Us b ss k n↔(Us b ss j n∧(n:Int)≠(nd b o).x)∨n=o)→kh l b ss k x
  |k (o j:Nat):x.bX=6→x.e=0→x.fr=[(j:Int)]→j<k→x.on=o→o<b.length→x.set.getLsbD o=true→(nd b o).op=10→(∀n:Nat,(gm ss j).getLsbD n=true→(pU l b x.set (nd b o).i).getLsbD n=true∨(n:Int)=(nd b o).x)→(∀n:Nat,Us b ss k n↔(∃m,Us b ss j m∧(m:Int)≠(nd b o).x∧o8 b x.set (nd b o).i m=n)∨n=o)→kh l b ss k x
  |d (j:Nat):x.bX=7→x.e=0→(l=1∨l=5)→x.fr=[(j:Int)]→j<k→(0≤x.on∧x.on<4)→(∀n:Nat,(gm ss j).getLsbD n=true→(pU l b x.set x.on).getLsbD n=true)→(∀n:Nat,Us b ss k n↔∃m,Us b ss j m∧o8 b x.set x.on m=n)→kh l b ss k x
structure v9 (l:Int) (b:List NV) (ss:List SD):Prop where
  log:0≤l∧l≤6
  base:lq b
  pos:0<ss.length
  len:ss.length≤4096
  vQ:∀(k:Nat) (hk:k<ss.length),tK l b ss k ss[k]
end
end Go.Proofs.Wit
namespace Go.Proofs.Wit
open Go Go.RowKit
section
variable {l:Int} {b:List NV} {ss:List SD} {σ:Sg}
structure xc (l:Int) (P:(Tr→Prop)→Sg→List Nat×Sg) (σ:Sg):Prop where
  same:P lN σ=P oK σ
  um:Good l (P lN σ).2
end
end Go.Proofs.Wit
namespace Go.Proofs.Wit
open Go Go.RowKit
def SV.cells (x:SV):List Value:=[U x.d.set,.int .i64 x.d.bX,.int .i64 x.d.on,.int .i64 x.d.e,.slice x.fa x.d.fr.length x.fc]
structure vY (w:World) (A:Option Addr) (ss:List SV):Prop where
  at_:Sl w A (ss.flatMap SV.cells)
  wT:∀s∈ss,ki w s.fa s.d.fr∧s.d.fr.length≤maxLen
def uC (l:Int) (A:Option Addr) (n cA:Nat) (B:Option Addr) (m cB:Nat) (O:Option Addr) (k cO:Nat):Array Value:=#[.int .i64 l,.slice A n cA,.slice B m cB,.slice O k cO]
abbrev tQ (ss:List SV):List SD:=ss.map SV.d
theorem pF {s:au} {i:Nat}:(((s>>>i) &&& 1#64)==1#64)=s.getLsbD i:=by
 rw [Bool.eq_iff_iff,beq_iff_eq]
 constructor
 ·intro h
  have:=congrArg (fun x=>x.getLsbD 0) h
  simpa using this
 intro h
 apply BitVec.eq_of_getLsbD_eq
 intro k hk
 rw [BitVec.getLsbD_and,BitVec.getLsbD_ushiftRight,BitVec.getLsbD_one]
 by_cases e:k=0
 ·subst e;simp [h]
 simp [e]
noncomputable def sN (b:List NV):List Int:=(List.range b.length).map (fun (i:Nat)=>nG b (i:Int))
structure xi (w:World) (t:TypeId) (bc:Nat) (l:Int) (A:Option Addr) (cA:Nat) (b:List NV) (B:Option Addr) (cB:Nat) (ss:List SV) (O:Option Addr) (cO:Nat):Prop where
  c5:w.heap[bc]?=some (.cells (uC l A b.length cA B ss.length cB O (sN b).length cO) t (0,0))
  fa:FA w A b
  sa:vY w B ss
  oa:ki w O (sN b)
  base:lq b
section
variable {l:Int} {b:List NV} {ss:List SD} {k:Nat} {x:SD}
end
instance {b:List NV} {n:NV}:Decidable (po b n):=by unfold po;infer_instance
end Go.Proofs.Wit
namespace Go.Proofs.Wit
open Go Go.RowKit
section
variable {l:Int} {b:List NV} {ss:List SD} {s:List Bool} {i k:Nat}
structure w6 (ss:List SD) (i:Nat) (s:List Bool):Prop where
  len:s.length=ss.length
  uj:∀j,j<ss.length→(sB s j=true↔(j+1=ss.length∨∃k,∃hk:k<ss.length,ss.length≤k+i∧tS ss k∧(j:Int)∈ss[k].fr))
end
def vx (e:TypeId) (ss:List SV) (sp:List Value):Obj:=.cells (ss.flatMap SV.cells++sp).toArray e (0,0)
def SV.vj (t:TypeId) (H:Hl) (x:SV):Prop:=∃q sp,(q,ob dP t x.d.fr sp)∈H∧x.fa=q.map (fun b=>⟨b,0,none⟩)∧(q=none→x.d.fr.length=0)
section
variable {P:Program} {r:Option Nat} {f:FuncId} {R:Value→World→Prop} {w0:World} {S:List Nat} {Y:List (Nat×Obj)} {n:Nat} {k:List Item} {l:Fl} {h:Hl}
variable {ops:Array Oper} {i d:Nat} {rest:List Nat} {ty:TypeId} {pos:String} {aft:Array Edge} {g:Option (Nat×Bool)}
end
end Go.Proofs.Wit
namespace Go.Proofs.Wit
open Go Go.RowKit
def ni (ops:Array Oper):Nat→Nat→Nat→Bool
 |0,_,_=>false
 |f+1,i,j=>(aQ ops i).any (fun e=>Nat.beq e j||ni ops f e j)
structure rW (ops:Array Oper) (rs:List Nat) (c:Nat) (ls:List Nat):Prop where
  size:c<ops.size
  wM:∀i∈rs,i<ops.size∧i≠c
  inc:∀q p,q<p→p<rs.length→rs.getD q 0<rs.getD p 0
  lt:∀i,i<ops.size→∀j∈aQ ops i,j<i
  vt:∀i∈rs,∀j∈aQ ops i,j∈rs
  vS:∀j∈aQ ops c,j∈rs
  oL:∀i,(i=c∨i∈rs)→∀o,ops[i]?=some o→bY o.op=true
  inj:∀i j d,(i=c∨i∈rs)→(j=c∨j∈rs)→aF ops i=some d→aF ops j=some d→i=j
  r8:∀i,(i=c∨i∈rs)→∀o,ops[i]?=some o→∀s∈cz ops o,∀j,(j=c∨j∈rs)→aF ops j=some s→j∈aQ ops i
  late:∀i,i<ops.size→¬(i=c∨i∈rs)→(∃j∈aQ ops i,¬(j=c∨j∈rs))∨∀j,(j=c∨j∈rs)→ni ops ops.size i j=true
  ur:forced ops (c::rs) ls=true
section
variable {P:Program} {r:Option Nat} {f:FuncId} {R:Value→World→Prop} {w0:World} {S:List Nat} {Y:List (Nat×Obj)} {n:Nat} {k:List Item} {l:Fl} {h:Hl} {ops:Array Oper}
end
end Go.Proofs.Wit
namespace Go.Proofs.Wit
open Go Go.RowKit
abbrev Nm:=List (Int×FV)
section
variable {P:Program} {r:Option Nat} {f:FuncId} {R:Value→World→Prop} {w0:World} {S:List Nat} {Y:List (Nat×Obj)} {n:Nat} {k:List Item} {l:Fl} {hb:Option Nat×Obj} {ht:Hl} {ops:Array Oper} {c:Nat} {ls:List Nat}
end
abbrev vC (m0:Nat) (L0:Nm) (m1:Nat) (L1:Nm):Hl:=[(some m0,a9 (Value.int .i64) FV.v L0),(some m1,a9 (Value.int .i64) FV.v L1)]
abbrev ug (na:Option Addr) (nl nc m0 m1:Nat):Array Value:=#[.slice na nl nc,.map (some m0),.map (some m1)]
structure qH (c:List NV) (L0 L1:Nm):Prop where
  e0:∀e∈L0,∃k:Nat,e.1=(k:Int)∧e.2.f=bT (ed (af c k)).1
  e1:∀e∈L1,∃k:Nat,e.1=(k:Int)∧e.2.f=bT (ed (af c k)).2
def tJ (t:TypeId) (L0 L1:Nm) (F:Hl) (x:FV):Prop:=x.In t F∨(∃k,(k,x)∈L0)∨∃k,(k,x)∈L1
structure vi (t:TypeId) (c:List NV) (d:Nat) (L0 L1 L0' L1':Nm) (F:Hl):Prop where
  q9:qH c L0' L1'
  s0:L0⊆L0'
  s1:L1⊆L1'
  n0:∀e∈L0',e∈L0∨(e.1<(d:Int)∧tJ t L0 L1 F e.2)
  n1:∀e∈L1',e∈L1∨(e.1<(d:Int)∧tJ t L0 L1 F e.2)
section
variable {t:TypeId} {c:List NV}
structure wj (t tn:TypeId) (c:List NV) (na:Option Addr) (nc bk m0 m1:Nat) (w:World) (L0 L1:Nm):Prop where
  has:ln w (vC m0 L0 m1 L1)
  c5:w.heap[bk]?=some (.cells (ug na c.length nc m0 m1) tn (0,0))
  fa:FA w na c
  f0:∀e∈L0,FA w e.2.a e.2.f
  f1:∀e∈L1,FA w e.2.a e.2.f
  q9:qH c L0 L1
variable {tn:TypeId} {na:Option Addr} {nc bk m0 m1:Nat} {w:World} {L0 L1:Nm}
end
section
variable {P:Program} {r:Option Nat} {f:FuncId} {R:Value→World→Prop} {w0:World} {Y:List (Nat×Obj)} {n:Nat} {k:List Item} {l:Fl} {hb:Option Nat×Obj} {ops:Array Oper} {i d:Nat} {rest:List Nat} {ty:TypeId} {pos:String} {aft:Array Edge} {g:Option (Nat×Bool)}
variable {az:Array Operand} {ts:Array TypeId} {cal:Operand} {gf:FuncId} {vs:List Value} {t tn:TypeId} {c:List NV} {na:Option Addr} {nc bk m0 m1 D D':Nat} {L0 L1 La Lb:Nm} {F:Hl} {u:Tr}
end
end Go.Proofs.Wit
namespace Go.Proofs.Wit
open Go Go.RowKit
section
variable {P:Program} {r:Option Nat} {f:FuncId} {R:Value→World→Prop} {w0:World} {S:List Nat} {Y:List (Nat×Obj)} {n:Nat} {k:List Item} {l:Fl} {h hb:Hl} {ops:Array Oper} {q:Nat} {Dn:List Nat}
theorem cE.fw {i d:Nat} {ty:TypeId} {pos:String} {aft:Array Edge} {g:Option (Nat×Bool)} {az:Array Operand} {ts:Array TypeId} {cal:Operand} {gf:FuncId} {fs cs vs:List Value} {hC hF:Hl} (hp:h.Perm (hC++hF)) (Rc:World→Value→Hl→Prop) (h1:av ops Dn=[i]) (ho:ops[i]?=some ⟨some d,.call ⟨.value cal,az,ts⟩,ty,pos,aft,g⟩) (hw:al ops l g=true)
  (hc:aA l cal=some (.func (.func gf) fs.toArray cs.toArray)) (hx:cy l az.toList=some vs) (hd:Nat.blt d n=true) (hcf:∀args w,(callFunc gf args).run P w=.ok (.enter gf args) w)
  (hcall:∀w Y',St w0 S w (hC++hF) Y'→oS P gf (fs++vs++cs) w hC (Rc w))
  (hk:∀w v h',Rc w v h'→∃H,(h'++hF).Perm H∧hb.Sublist H∧cE P r f R w0 S Y n k ops hb q (i::Dn) ((d,v)::l) H):cE P r f R w0 S Y n k ops hb (q+1) Dn l h:=by
 refine cE.one h1 ⟨_,ho,rfl,rfl,rfl,hd,.inl ⟨hw,fun t w Ds Y' hF' hS=>.inr ⟨gf,(fs++vs++cs).toArray,fun v w'=>∃h',Rc w v h'∧St w (ej hC) w' h' [],?_,?_,fun v w' ⟨h',h1,h2⟩=>?_⟩⟩⟩ hd
 ·have e1:=cJ (P:=P) (ty:=ty) (ts:=ts) (Ds:=Ds) (w:=w) hF' hc hx
  simp only [execOp,Sem.run_bind,e1,Result.andThen_ok,invoke,hcf]
  simp
 ·exact Calls.mono (hcall w Y' (hS.perm hp)) (fun e w' ⟨v,h',e1,e2,e3⟩=>⟨v,e1,h',e2,e3⟩)
 obtain ⟨H,hp2,hs,hg⟩:=hk w v h' h1
 exact ⟨H,((hS.perm hp).frame h2).perm hp2,hs,hg⟩
end
section
variable {P:Program} {r:Option Nat} {f:FuncId} {R:Value→World→Prop} {w0:World} {Y:List (Nat×Obj)} {n:Nat} {k:List Item} {l:Fl} {hb:Option Nat×Obj} {ops:Array Oper} {i d:Nat} {ty:TypeId} {pos:String} {aft:Array Edge} {g:Option (Nat×Bool)}
variable {az:Array Operand} {ts:Array TypeId} {cal:Operand} {gf:FuncId} {vs:List Value} {t tn:TypeId} {c:List NV} {na:Option Addr} {nc bk m0 m1 D D':Nat} {L0 L1 La Lb:Nm} {F:Hl} {u:Tr} {q:Nat} {Dn:List Nat}
end
end Go.Proofs.Wit
namespace Go.Proofs.Wit
open Go Go.RowKit
structure Ws where
  q:Option Nat
  cap:Nat
  ls:List LV
  sp:List Value
  H:Hl
structure w5 (tn:TypeId) (Γ:List FV) (σ:Sg) (s:Ws):Prop where
  nil:s.q=none→s.ls.length=0∧s.cap=0
  cap:(s.ls.flatMap LV.cells++s.sp).length=s.cap*5
  wX:s.ls.map LV.d=σ.ls.map (fun x=>x.v.d)
  r7:s.ls.length≤400
  ctx:∀x∈Γ,x.vj tn s.H∧x.f.length≤maxLen
  wU:∀x∈s.ls,x.f∈Γ
  wP:∀x∈σ.ls,x.t.ok
section
variable {tn tw tl:TypeId} {er:Value} {bw:Nat} {Γ:List FV} {σ:Sg} {s:Ws}
def FV.Z (x:FV):Prop:=x.f=[]→x.a=none
end
section
variable {P:Program} {tn tw tl:TypeId} {er:Value} {ef:Bool→Value} {bw:Nat} {Γ:List FV} {σ:Sg} {s:Ws}
variable {r:Option Nat} {f:FuncId} {R:Value→World→Prop} {w0:World} {S:List Nat} {Y:List (Nat×Obj)} {n:Nat} {k:List Item} {l:Fl} {ops:Array Oper} {i d:Nat} {rest:List Nat} {ty:TypeId} {pos:String} {aft:Array Edge} {g:Option (Nat×Bool)}
variable {az:Array Operand} {ts:Array TypeId} {cal:Operand} {gf:FuncId} {vs:List Value} {u:Tr}
end
section
variable {P:Program} {tn tw tl:TypeId} {er:Value} {ef:Bool→Value} {bw:Nat} {Γ:List FV} {σ:Sg} {s:Ws}
variable {r:Option Nat} {f:FuncId} {R:Value→World→Prop} {w0:World} {S:List Nat} {Y:List (Nat×Obj)} {n:Nat} {k:List Item} {l:Fl} {ops:Array Oper} {i d:Nat} {ty:TypeId} {pos:String} {aft:Array Edge} {g:Option (Nat×Bool)}
variable {az:Array Operand} {ts:Array TypeId} {cal:Operand} {gf:FuncId} {vs:List Value} {u:Tr} {hb:Hl} {q:Nat} {Dn:List Nat}
end
structure w9 (S:List Nat) (w:World) (a:Option Addr) (xs:List Int):Prop where
  at_:ki w a xs
  sep:∀b o,a=some ⟨b,o,none⟩→b∉S
section
variable {P:Program} {tn tw tl:TypeId} {ef:Bool→Value} {bw:Nat} {Γ:List FV} {σ:Sg} {s:Ws}
variable {r:Option Nat} {f:FuncId} {R:Value→World→Prop} {w0:World} {S:List Nat} {Y:List (Nat×Obj)} {n:Nat} {k:List Item} {l:Fl} {ops:Array Oper} {i d:Nat} {rest:List Nat} {ty:TypeId} {pos:String} {aft:Array Edge} {g:Option (Nat×Bool)}
variable {az:Array Operand} {ts:Array TypeId} {cal:Operand} {gf:FuncId} {vs:List Value}
end
end Go.Proofs.Wit
namespace Go.Proofs.Wit
open Go Go.RowKit
structure wi (b:List NV):Prop where
  pR:bj b=0
  vA:∀n∈b,po b n
section
variable {b:List NV}
end
end Go.Proofs.Wit
namespace Go.Proofs.Wit
open Go Go.RowKit
structure SP where
  bw:Nat
  bs:Nat
  l:Int
  A:Option Addr
  cA:Nat
  b:List NV
  B:Option Addr
  cB:Nat
  tl:List SV
  x:SV
  full:au
  Z:Option Addr
  cZ:Nat
  last:List Nat
def SP.cs (p:SP):Array Value:=#[.pointer (some ⟨p.bw,0,none⟩),.int .i64 p.l,.slice p.A p.b.length p.cA,.slice p.B p.tl.length p.cB,U p.x.d.set,.int .i64 p.x.d.bX,.int .i64 p.x.d.on,.int .i64 p.x.d.e,.slice p.x.fa p.x.d.fr.length p.x.fc,U p.full,.slice p.Z p.last.length p.cZ]
structure SP.At (p:SP) (t:TypeId) (w:World):Prop where
  c5:w.heap[p.bs]?=some (.cells p.cs t (0,0))
  fa:FA w p.A p.b
  sa:Sl w p.B (p.tl.flatMap SV.cells)
  vo:ki w p.x.fa p.x.d.fr
  vG:ki w p.Z (p.last.map (fun j:Nat=>(j:Int)))
structure SP.R (p:SP) (t:TypeId) (S:List Nat) (w:World):Prop where
  at_:p.At t w
  s1:p.bs∉S
  s2:∀b o,p.A=some ⟨b,o,none⟩→b∉S
  s3:∀b o,p.B=some ⟨b,o,none⟩→b∉S
  s4:∀b o,p.x.fa=some ⟨b,o,none⟩→b∉S
  s5:∀b o,p.Z=some ⟨b,o,none⟩→b∉S
structure SP.In (p:SP) (t tn ts ti:TypeId) (hR:Hl):Prop where
  c5:(some p.bs,.cells p.cs t (0,0))∈hR
  fa:∃q sp,(q,ja tn p.b sp)∈hR∧p.A=q.map (fun b=>⟨b,0,none⟩)∧(q=none→p.b.length=0)
  sa:∃q sp,(q,vx ts p.tl sp)∈hR∧p.B=q.map (fun b=>⟨b,0,none⟩)∧(q=none→p.tl.length=0)
  vo:∃q sp,(q,ob dP ti p.x.d.fr sp)∈hR∧p.x.fa=q.map (fun b=>⟨b,0,none⟩)∧(q=none→p.x.d.fr.length=0)
  vG:∃q sp,(q,ob dP ti (p.last.map (fun j:Nat=>(j:Int))) sp)∈hR∧p.Z=q.map (fun b=>⟨b,0,none⟩)∧(q=none→p.last.length=0)
structure xa (S:List Nat) (w:World) (a:Option Addr) (xs:List Value):Prop where
  at_:Sl w a xs
  sep:∀b o,a=some ⟨b,o,none⟩→b∉S
def SP.ag (p:SP):Int:=if p.x.d.bX=7 then p.x.d.on else (nd p.b p.x.d.on).i
def SP.S0 (p:SP):au:=gm (tQ p.tl) (p.x.d.fr.getD 0 0)
def SP.own (p:SP):List Nat:=if p.x.d.bX=6 then bK (p.S0 &&& ~~~ bW (nd p.b p.x.d.on).x) else bK p.S0
def SP.ns (p:SP):List Nat:=if p.x.d.bX=6 then p.own else p.own.dropLast
def SP.line (p:SP):Nat:=p.last.getD (p.x.d.fr.getD 0 0).toNat 0
structure SP.Ok (p:SP) (k:Nat):Prop where
  base:lq p.b
  full:rV p.b p.full
  vQ:tK p.l p.b (tQ p.tl) k p.x.d
  wR:k<p.tl.length
  vH:p.last.length=k
  qO:∀j:Nat,j<p.tl.length→rV p.b (gm (tQ p.tl) (j:Int))
  ne:∀j:Nat,j<p.tl.length→bK (gm (tQ p.tl) (j:Int))≠[]
  wZ:p.x.d.bX=6∨p.x.d.bX=7→∀n∈p.own,o8 p.b p.full p.ag n=n→(nd p.b n).op=9∨(nd p.b n).op=10
  w4:p.x.d.bX=6∨p.x.d.bX=7→0≤p.ag∧p.ag<4
section
variable {P:Program} {tn tw tl:TypeId} {er:Value} {bw:Nat} {Γ:List FV} {σ:Sg} {s:Ws}
variable {r:Option Nat} {f:FuncId} {R:Value→World→Prop} {w0:World} {S:List Nat} {Y:List (Nat×Obj)} {n:Nat} {k:List Item} {l:Fl} {ops:Array Oper} {i d:Nat} {rest:List Nat} {ty:TypeId} {pos:String} {aft:Array Edge} {g:Option (Nat×Bool)}
variable {az:Array Operand} {ts:Array TypeId} {cal:Operand} {gf:FuncId} {vs:List Value} {u:Tr}
end
section
variable {P:Program} {tn tw tl:TypeId} {er:Value} {ef:Bool→Value} {bw:Nat} {Γ:List FV} {σ:Sg} {s:Ws}
variable {r:Option Nat} {f:FuncId} {R:Value→World→Prop} {w0:World} {S:List Nat} {Y:List (Nat×Obj)} {n:Nat} {k:List Item} {l:Fl} {ops:Array Oper} {i d:Nat} {ty:TypeId} {pos:String} {aft:Array Edge} {g:Option (Nat×Bool)}
variable {az:Array Operand} {ts:Array TypeId} {cal:Operand} {gf:FuncId} {vs:List Value} {u:Tr} {hb:Hl} {q:Nat} {Dn:List Nat} {h:Hl}
theorem cE.two {i j d e:Nat} (h1:av ops Dn=[i,j]) (hi:dX P w0 S n h ops i l d (fun v h'=>hb.Sublist h'∧cE P r f R w0 S Y n k ops hb q (i::Dn) ((d,v)::l) h')) (hd:Nat.blt d n=true) (hj:dX P w0 S n h ops j l e (fun v h'=>hb.Sublist h'∧cE P r f R w0 S Y n k ops hb q (j::Dn) ((e,v)::l) h')) (he:Nat.blt e n=true):cE P r f R w0 S Y n k ops hb (q+1) Dn l h:=by
 intro t hF
 rw [Dt]
 refine .inr ⟨by rw [h1];simp,fun m hm=>?_⟩
 rw [h1] at hm
 simp only [List.mem_cons,List.not_mem_nil,or_false] at hm
 rcases hm with rfl|rfl
 ·exact cj.of hi hF (fun v h' ⟨e1,e2⟩=>⟨e1,e2 _ (hF.put v hd)⟩)
 exact cj.of hj hF (fun v h' ⟨e1,e2⟩=>⟨e1,e2 _ (hF.put v he)⟩)
end
end Go.Proofs.Wit
