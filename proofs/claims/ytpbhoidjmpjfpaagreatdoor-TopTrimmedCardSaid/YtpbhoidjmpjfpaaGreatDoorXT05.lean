/- Laws of walks, each under its own conditions. -/
import Derived.Test.YtpbhoidjmpjfpaaGreatDoorXT03
set_option maxRecDepth 100000
set_option maxHeartbeats 40000000
namespace Go.Proofs.Wit
section
variable{κ κ':Type}[DecidableEq κ][DecidableEq κ']
def Pu(key:Nat->κ)(k:κ)(n:Nat):ah:=B4 (λj=>if key j=k then some j else none) n
def P4(key:Nat->κ)(i:Nat):Nat:=(Pu key (key i) (i+1)).getD 0
def Pv(n:Nat)(key:Nat->κ):ar:=(List.range n).map (λi=>(P4 key i:Int))
end
structure Qu (p:ar):Prop where
  len:p.length<=64
  low:∀i,i<p.length->0<=p.getD i 0/\p.getD i 0<=i/\p.getD (p.getD i 0).toNat 0=p.getD i 0
def NN(p:ar):List eF:=p.map (λx=>1#64<<<x.toNat)
def PT(p:ar)(s:eF):eF:=AI (NN p) s
def PY(uw:List (List eF))(p:ar):ar:=Pv p.length (λw=>(p.getD w 0,uw.map (λr=>PT p (r.getD w 0#64))))
def Na(val:List eF)(w:Nat):Nat->Nat
 |0=>0
 |k+1=>Na val w k+(if (val.getD k 0#64).getLsbD w=true then 2^k else 0)
def fm(val:List eF)(w:Nat):Nat:=Na val w val.length
def Mz(n:Nat)(val:List eF)(uw:List (List eF)):Nat->ar
 |0=>Pv n (λw=>fm val w)
 |i+1=>PY uw (Mz n val uw i)
section
variable{n:Nat}{val:List eF}{uw:List (List eF)}
def OU(n:Nat)(val:List eF)(uw:List (List eF)):ah:=Pu (λd=>decide (Mz n val uw d=Mz n val uw (d+1))) true n
def dep(n:Nat)(val:List eF)(uw:List (List eF)):Nat:=(OU n val uw).getD 0
end
theorem sT.tC{α:Type}{enc:α->aC}{t:ax}{w w':aB}:sT enc t w w' (.slice none 0 0) ([]:List α):=⟨none,0,[],rfl,λ_=>⟨rfl,rfl⟩,rfl,λ_ e=>by cases e⟩
theorem sT.one{α:Type}{enc:α->aC}{t:ax}{w0 w:aB}{h:Hl}{Y:List (Nat×Obj)}(s:St w0 [] w h Y)(j:Nat){b:Nat}{xs:List α}{m:Nat}(hj:h[j]?=some (some b,ob enc t xs []))(hm:m=xs.length):sT enc t w0 w (.slice (aR b) m m) xs:=
 sT.mk s j (q:=some b) hj hm aK (by rw[hm];simp)
section
variable{f:List NV}{ts:List Tr}
theorem lB{t:Tr} (h:t∈ts):visit t ts=ts:=by
 cases t with
 |leaf=>rw[visit,if_pos h]
 |un=>rw[visit,if_pos h]
 |bin=>rw[visit,if_pos h]
def ld:Tr->List Tr->List Tr
 |.leaf ..,ts=>ts
 |.un _ _ _ _ a,ts=>visit a ts
 |.bin _ _ _ _ a b,ts=>visit b (visit a ts)
def nF(t:Tr)(ts:List Tr):List Tr:=if t∈ts then ts else ts++[t]
theorem l8{t:Tr} (hc:mK ts)(_hn:ts.Nodup):nF t (ld t ts)=visit t ts:=by
 unfold nF;by_cases h:t∈ts;rw[lB h];have hk:ld t ts=ts:=by
  cases t with
  |leaf=>rfl
  |un op i e g a=>exact lB (hc.mem h a (by simp[kids]))
  |bin op i e g a b=>
   show visit b (visit a ts)=ts;rw[lB (hc.mem h a (by simp[kids])),lB (hc.mem h b (by simp[kids]))]
 rw[hk,if_pos h];have w:t∉ld t ts:=λhm=>by
  cases t with
  |leaf=>exact h hm
  |un op i e g a=>
   rcases mT a hm with p|p;exact h p;simp only[size]at p;omega
  |bin op i e g a b=>
   rcases mT b hm with p|p;rcases mT a p with p|p;exact h p;simp only[size]at p;omega;simp only[size]at p;omega
 rw[if_neg w];cases t with
 |leaf=>rw[visit,if_neg h];rfl
 |un=>rw[visit,if_neg h];rfl
 |bin=>rw[visit,if_neg h];rfl
def fC(f:List NV):Prop:=∀(i:Nat) (hi:i<f.length),GF f[i] i
theorem DO.nodes (h:DO f):fC f:=λi hi=>h.at i hi
theorem fC.ord (h:fC f):yM f:=λi hi=>⟨(h i hi).x,(h i hi).y⟩
structure Ph (f:List NV) (ts:List Tr) (ds:ar):Prop where
  len:ds.length=f.length
  at_:∀i,i<f.length->ds.getD i 0=-1\/eA f i∈ts/\ds.getD i 0=(ts.idxOf (eA f i):Int)
theorem m4 {i:Nat}(hi:i<f.length):eA f i∈trees f:=by
 rw[ju hi];exact dq _
theorem GZ  (h:ts.Nodup)(hs:ts⊆trees f):ts.length<=f.length:=by
 have:=h.length_le_of_subset hs;rwa[fW]at this
theorem Bz{w w':aB}{h h':Hl}{Y:List (Nat×Obj)}{a:ae} (ha:FA w a f)(hf:0<f.length)(p:∀b o,a=some ⟨b,o,none⟩->b∉gV h)(s:St w (gV h) w' h' Y):∀b o,a=some ⟨b,o,none⟩->b∉gV h':=λb o e hm=>by
 obtain⟨E,D,e1,h1⟩:=ha.at_.isSome (by rw[sy];omega);rw[e]at e1;cases e1;obtain⟨ob,C⟩:=lL.1 hm;rcases(s.own _ C b rfl).2.2 with h2|h2;omega;exact p b o e h2
theorem iK {i:Nat}(hi:i<f.length)(hO:fC f):
  (iX f[i].op=false/\eA f i=.leaf f[i].op f[i].i f[i].e f[i].g)\/
  (iX f[i].op=true/\ij f[i].op=false/\eA f i=.un f[i].op f[i].i f[i].e f[i].g (eA f f[i].x.toNat))\/
  (ij f[i].op=true/\eA f i=.bin f[i].op f[i].i f[i].e f[i].g (eA f f[i].x.toNat) (eA f f[i].y.toNat)):=by
 have h:=hO i hi;have p:=pD hi (λhu=>by have:=h.x hu;omega) (λhu=>by have:=h.y hu;omega);by_cases h1:ij f[i].op=true;exact .inr (.inr ⟨h1,by rw[p,mj h1]⟩);by_cases h2:iX f[i].op=true;exact .inr (.inl ⟨h2,by simpa using h1,by rw[p,nY h2 (by simpa using h1)]⟩);exact .inl ⟨by simpa using h2,by rw[p,lj (by simpa using h2)]⟩
end
end Go.Proofs.Wit
namespace Go.Proofs.Wit
open Go
structure Gq (S:aq) (w:aB) (a:ae) (f:List NV):Prop where
  at_:Sl w a (f.flatMap NV.cells)
  sep:∀b o,a=some ⟨b,o,none⟩->b∉S
theorem Gq.eQ{S:aq}{w0 w:aB}{a:ae}{f:List NV}(h:Gq S w0 a f)(e:Ex S w0 w):Gq S w a f:=⟨Sl.ex h.at_ e h.sep,h.sep⟩
end Go.Proofs.Wit
namespace Go.Proofs.Wit
open Go Go.RowKit
theorem II{P:av}{t it:ax}{fs:Array Field}(hu:P.underlying t=some (.struct fs))(hfs:tv fs it)(hi:P.underlying it=some (.int .i64))(ha:∀w,(isAgg it).run P w=.ok false w)(pz:P.stoodInHeld t=false)(hg:P.eqGuardType P.depth t=false){a b:NV}:
  nE P .neq t a.v b.v (.bool (a !=b)):=by
 intro x y w;have h1:(Op.equal t a.v b.v).run P w=.ok (a==b) w:=tJ hu hfs hi ha pz 9998 a b w;have hprog:(program:Sem av).run P w=.ok P w:=rfl;have h2:(eqGuard .neq t x y a.v b.v).run P w=.ok () w:=by
  unfold eqGuard;simp only[NV.v];simp[hg]
 have h3:(binOp .neq t a.v b.v).run P w=.ok (.bool (a !=b)) w:=by
  show(do pure (Value.bool (!(<-Op.equal t a.v b.v))):Sem aC).run P w=_;simp only[Sem.run_bind,h1,Result.andThen_ok];rfl
 simp only[Sem.run_bind,h2,Result.andThen_ok,h3]
def kB(f:List NV)(i:Int):List NV:=if fK f≠0\/i<0\/(f.length:Int)<=i then []else gv (eA f i.toNat)
def B2(op:Int):Int:=if op=9\/op=10 then 1 else if op=11 then 2 else if op=12 then 4 else if op=13 then 8 else if op=14 then 16 else if op=15 then 32 else if op=16 then 64 else if op=17 then 128 else if 18<=op/\op<=21 then 256 else 0
def CE(op:Int):aC:=.agg #[.bool (iX op),.bool (ij op),.bool (op==3),.bool (uV op),.bool (qG op),.bool (op==17),aS (B2 op)]
def okO(op:Int):Bool:=decide (1<=op) && decide (op<=21)
def rO(u:Bool)(x lo hi:Int):Bool:=u && (decide (x<lo)||decide (hi<x))
theorem Hw{op:Int}(h:¬(1<=op/\op<=21)):okO op=false:=by
 simp only[okO,Bool.and_eq_false_iff,bQ];omega
theorem GM{op:Int}(h:¬(1<=op/\op<=21)):CE op=.agg #[.bool false,.bool false,.bool false,.bool false,.bool false,.bool false,aS 0]:=by
 have h1:iX op=false:=by simp only[iX,Bool.and_eq_false_iff,bQ];omega
 have h2:ij op=false:=by
  cases e:ij op with
  |false=>rfl
  |true=>rw[jz e]at h1;cases h1
 have h3:(op==3)=false:=by simp;omega
 have h4:uV op=false:=by simp[uV];omega
 have h5:qG op=false:=by simp[qG];omega
 have h6:(op==17)=false:=by simp;omega
 have h7:B2 op=0:=by
  unfold B2
  repeat(rw[if_neg aH])
 rw[CE,h1,h2,h3,h4,h5,h6,h7]
end Go.Proofs.Wit
