/- Laws of walks, each under its own conditions. -/
import Derived.Test.YtpbhoidjmpjfpaaGreatDoorXP03
set_option maxRecDepth 100000
set_option maxHeartbeats 40000000
namespace Go.Proofs.Wit
section
variable{κ κ':Type}[DecidableEq κ][DecidableEq κ']
def WC(key:Nat->κ)(k:κ)(n:Nat):ah:=Hp (λj=>if key j=k then some j else none) n
def W7(key:Nat->κ)(i:Nat):Nat:=(WC key (key i) (i+1)).getD 0
def WD(n:Nat)(key:Nat->κ):ar:=(List.range n).map (λi=>(W7 key i:Int))
end
structure Xu (p:ar):Prop where
  len:p.length<=64
  low:∀i,i<p.length->0<=p.getD i 0/\p.getD i 0<=i/\p.getD (p.getD i 0).toNat 0=p.getD i 0
def U0(p:ar):List fi:=p.map (λx=>1#64<<<x.toNat)
def WZ(p:ar)(s:fi):fi:=xG (U0 p) s
def W4(qM:List (List fi))(p:ar):ar:=WD p.length (λw=>(p.getD w 0,qM.map (λr=>WZ p (r.getD w 0#64))))
def Un(val:List fi)(w:Nat):Nat->Nat
 |0=>0
 |k+1=>Un val w k+(if (val.getD k 0#64).getLsbD w=true then 2^k else 0)
def fm(val:List fi)(w:Nat):Nat:=Un val w val.length
def TG(n:Nat)(val:List fi)(qM:List (List fi)):Nat->ar
 |0=>WD n (λw=>fm val w)
 |i+1=>W4 qM (TG n val qM i)
theorem Pn{n:Nat}{f g:Nat->Bool}(h:∀i,i<n->f i=true->g i=true){j:Nat}(hj:j<n)(h1:f j=false)(h2:g j=true):(List.range n).countP f<(List.range n).countP g:=by
 induction n with
 |zero=>omega
 |succ n C=>
  rw[ep,List.countP_append,List.countP_append];have w:∀m,m<=n->(List.range m).countP f<=(List.range m).countP g:=λm hm=>by
   refine List.countP_mono_left (λi hi e=>h i (by have:=eD.1 hi;omega) e)
  simp only[List.countP_singleton];rcases eN j n with p|D;have:=C (λi hi=>h i aH) p;have E:=h n aH;cases hf:f n with
  |false=>rw[if_neg aL];split<;>omega
  |true=>rw[E hf];simp;omega
  obtain rfl:j=n:=aH;have:=w j (eR _);rw[h1,h2];simp;omega
section
variable{n:Nat}{val:List fi}{qM:List (List fi)}
def V2(n:Nat)(val:List fi)(qM:List (List fi)):ah:=WC (λd=>decide (TG n val qM d=TG n val qM (d+1))) true n
def dep(n:Nat)(val:List fi)(qM:List (List fi)):Nat:=(V2 n val qM).getD 0
end
theorem pO.vj{α:Type}{enc:α->aC}{t:ax}{w w':aB}:pO enc t w w' (.slice none 0 0) ([]:List α):=⟨none,0,[],rfl,λ_=>⟨rfl,rfl⟩,rfl,λ_ e=>by cases e⟩
theorem pO.one{α:Type}{enc:α->aC}{t:ax}{w0 w:aB}{h:Hl}{Y:List (Nat×Obj)}(s:St w0 [] w h Y)(j:Nat){b:Nat}{xs:List α}{m:Nat}(hj:h[j]?=some (some b,ob enc t xs []))(hm:m=xs.length):pO enc t w0 w (.slice (aR b) m m) xs:=
 pO.mk s j (q:=some b) hj hm aK (by rw[hm];simp)
section
variable{f:List NV}{ts:List Tr}
theorem mY{t:Tr} (h:t∈ts):visit t ts=ts:=by
 cases t with
 |leaf=>rw[visit,if_pos h]
 |un=>rw[visit,if_pos h]
 |bin=>rw[visit,if_pos h]
def mA:Tr->List Tr->List Tr
 |.leaf ..,ts=>ts
 |.un _ _ _ _ a,ts=>visit a ts
 |.bin _ _ _ _ a b,ts=>visit b (visit a ts)
def pL(t:Tr)(ts:List Tr):List Tr:=if t∈ts then ts else ts++[t]
theorem nT{t:Tr} (hc:oN ts)(_hn:ts.Nodup):pL t (mA t ts)=visit t ts:=by
 unfold pL;by_cases h:t∈ts;rw[mY h];have hk:mA t ts=ts:=by
  cases t with
  |leaf=>rfl
  |un op i e g a=>exact mY (hc.mem h a (by simp[kids]))
  |bin op i e g a b=>
   show visit b (visit a ts)=ts;rw[mY (hc.mem h a (by simp[kids])),mY (hc.mem h b (by simp[kids]))]
 rw[hk,if_pos h];have w:t∉mA t ts:=λhm=>by
  cases t with
  |leaf=>exact h hm
  |un op i e g a=>
   rcases oU a hm with p|p;exact h p;simp only[size]at p;omega
  |bin op i e g a b=>
   rcases oU b hm with p|p;rcases oU a p with p|p;exact h p;simp only[size]at p;omega;simp only[size]at p;omega
 rw[if_neg w];cases t with
 |leaf=>rw[visit,if_neg h];rfl
 |un=>rw[visit,if_neg h];rfl
 |bin=>rw[visit,if_neg h];rfl
def fT(f:List NV):Prop:=∀(i:Nat) (hi:i<f.length),Nl f[i] i
theorem JH.nodes (h:JH f):fT f:=λi hi=>h.at i hi
theorem fT.ord (h:fT f):CJ f:=λi hi=>⟨(h i hi).x,(h i hi).y⟩
structure Wr (f:List NV) (ts:List Tr) (ds:ar):Prop where
  len:ds.length=f.length
  at_:∀i,i<f.length->ds.getD i 0=-1\/fe f i∈ts/\ds.getD i 0=(ts.idxOf (fe f i):Int)
theorem o9 {i:Nat}(hi:i<f.length):fe f i∈trees f:=by
 rw[kl hi];exact dL _
theorem NH  (h:ts.Nodup)(hs:ts⊆trees f):ts.length<=f.length:=by
 have:=h.length_le_of_subset hs;rwa[gL]at this
theorem GD{w w':aB}{h h':Hl}{Y:List (Nat×Obj)}{a:ae} (ha:FA w a f)(hf:0<f.length)(p:∀b o,a=some ⟨b,o,none⟩->b∉iR h)(s:St w (iR h) w' h' Y):∀b o,a=some ⟨b,o,none⟩->b∉iR h':=λb o e hm=>by
 obtain⟨E,D,e1,h1⟩:=ha.at_.isSome (by rw[vC];omega);rw[e]at e1;cases e1;obtain⟨ob,C⟩:=np.1 hm;rcases(s.own _ C b rfl).2.2 with h2|h2;omega;exact p b o e h2
theorem jv {i:Nat}(hi:i<f.length)(hO:fT f):
  (ji f[i].op=false/\fe f i=.leaf f[i].op f[i].i f[i].e f[i].g)\/
  (ji f[i].op=true/\iM f[i].op=false/\fe f i=.un f[i].op f[i].i f[i].e f[i].g (fe f f[i].x.toNat))\/
  (iM f[i].op=true/\fe f i=.bin f[i].op f[i].i f[i].e f[i].g (fe f f[i].x.toNat) (fe f f[i].y.toNat)):=by
 have h:=hO i hi;have p:=pQ hi (λhu=>by have:=h.x hu;omega) (λhu=>by have:=h.y hu;omega);by_cases h1:iM f[i].op=true;exact .inr (.inr ⟨h1,by rw[p,oq h1]⟩);by_cases h2:ji f[i].op=true;exact .inr (.inl ⟨h2,by simpa using h1,by rw[p,qu h2 (by simpa using h1)]⟩);exact .inl ⟨by simpa using h2,by rw[p,mC (by simpa using h2)]⟩
end
end Go.Proofs.Wit
namespace Go.Proofs.Wit
open Go
structure M7 (S:aq) (w:aB) (a:ae) (f:List NV):Prop where
  at_:Sl w a (f.flatMap NV.cells)
  sep:∀b o,a=some ⟨b,o,none⟩->b∉S
theorem M7.fD{S:aq}{w0 w:aB}{a:ae}{f:List NV}(h:M7 S w0 a f)(e:Ex S w0 w):M7 S w a f:=⟨Sl.ex h.at_ e h.sep,h.sep⟩
end Go.Proofs.Wit
namespace Go.Proofs.Wit
open Go Go.RowKit
theorem PH{P:av}{t it:ax}{fs:Array Field}(hu:P.underlying t=some (.struct fs))(hfs:wv fs it)(hi:P.underlying it=some (.int .i64))(ha:∀w,(isAgg it).run P w=.ok false w)(kz:P.stoodInHeld t=false)(hg:P.eqGuardType P.depth t=false){a b:NV}:
  oO P .neq t a.v b.v (.bool (a !=b)):=by
 intro x y w;have h1:(Op.equal t a.v b.v).run P w=.ok (a==b) w:=wG hu hfs hi ha kz 9998 a b w;have hprog:(program:Sem av).run P w=.ok P w:=rfl;have h2:(eqGuard .neq t x y a.v b.v).run P w=.ok () w:=by
  unfold eqGuard;simp only[NV.v];simp[hg]
 have h3:(binOp .neq t a.v b.v).run P w=.ok (.bool (a !=b)) w:=by
  show(do pure (Value.bool (!(<-Op.equal t a.v b.v))):Sem aC).run P w=_;simp only[Sem.run_bind,h1,Result.andThen_ok];rfl
 simp only[Sem.run_bind,h2,Result.andThen_ok,h3]
def lN(f:List NV)(i:Int):List NV:=if gp f≠0\/i<0\/(f.length:Int)<=i then []else iA (fe f i.toNat)
def EM(op:Int):Int:=if op=9\/op=10 then 1 else if op=11 then 2 else if op=12 then 4 else if op=13 then 8 else if op=14 then 16 else if op=15 then 32 else if op=16 then 64 else if op=17 then 128 else if 18<=op/\op<=21 then 256 else 0
def EO(op:Int):aC:=.agg #[.bool (ji op),.bool (iM op),.bool (op==3),.bool (ui op),.bool (rZ op),.bool (op==17),aS (EM op)]
def okO(op:Int):Bool:=decide (1<=op) && decide (op<=21)
def u5(u:Bool)(x lo hi:Int):Bool:=u && (decide (x<lo)||decide (hi<x))
theorem Oj{op:Int}(h:¬(1<=op/\op<=21)):okO op=false:=by
 simp only[okO,ct,bV];omega
theorem Nt{op:Int}(h:¬(1<=op/\op<=21)):EO op=.agg #[.bool false,.bool false,.bool false,.bool false,.bool false,.bool false,aS 0]:=by
 have h1:ji op=false:=by simp only[ji,ct,bV];omega
 have h2:iM op=false:=by
  cases e:iM op with
  |false=>rfl
  |true=>rw[jL e]at h1;cases h1
 have h3:(op==3)=false:=by simp;omega
 have h4:ui op=false:=by simp[ui];omega
 have h5:rZ op=false:=by simp[rZ];omega
 have h6:(op==17)=false:=by simp;omega
 have h7:EM op=0:=by
  unfold EM
  repeat(rw[if_neg aH])
 rw[EO,h1,h2,h3,h4,h5,h6,h7]
end Go.Proofs.Wit
