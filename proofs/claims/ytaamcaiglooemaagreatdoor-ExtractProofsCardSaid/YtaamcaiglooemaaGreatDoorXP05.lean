/- Laws of walks, each under its own conditions. -/
import Derived.Test.YtaamcaiglooemaaGreatDoorXP03
set_option maxRecDepth 100000
set_option maxHeartbeats 40000000
namespace Go.Proofs.Wit
section
variable{κ κ':Type}[DecidableEq κ][DecidableEq κ']
def Qd(key:Nat->κ)(k:κ)(n:Nat):ah:=C6 (λj=>if key j=k then some j else none) n
def QL(key:Nat->κ)(i:Nat):Nat:=(Qd key (key i) (i+1)).getD 0
def Qe(n:Nat)(key:Nat->κ):ar:=(List.range n).map (λi=>(QL key i:Int))
end
structure Q6 (p:ar):Prop where
  len:p.length<=64
  low:∀i,i<p.length->0<=p.getD i 0/\p.getD i 0<=i/\p.getD (p.getD i 0).toNat 0=p.getD i 0
def Oy(p:ar):List fC:=p.map (λx=>1#64<<<x.toNat)
def Qz(p:ar)(s:fC):fC:=BD (Oy p) s
def QE(vr:List (List fC))(p:ar):ar:=Qe p.length (λw=>(p.getD w 0,vr.map (λr=>Qz p (r.getD w 0#64))))
def Og(val:List fC)(w:Nat):Nat->Nat
 |0=>0
 |k+1=>Og val w k+(if (val.getD k 0#64).getLsbD w=true then 2^k else 0)
def fm(val:List fC)(w:Nat):Nat:=Og val w val.length
def NM(n:Nat)(val:List fC)(vr:List (List fC)):Nat->ar
 |0=>Qe n (λw=>fm val w)
 |i+1=>QE vr (NM n val vr i)
section
variable{n:Nat}{val:List fC}{vr:List (List fC)}
def PD(n:Nat)(val:List fC)(vr:List (List fC)):ah:=Qd (λd=>decide (NM n val vr d=NM n val vr (d+1))) true n
def dep(n:Nat)(val:List fC)(vr:List (List fC)):Nat:=(PD n val vr).getD 0
end
theorem ux.oU{α:Type}{enc:α->aC}{t:ax}{w w':aB}:ux enc t w w' (.slice none 0 0) ([]:List α):=⟨none,0,[],rfl,λ_=>⟨rfl,rfl⟩,rfl,λ_ e=>by cases e⟩
theorem ux.one{α:Type}{enc:α->aC}{t:ax}{w0 w:aB}{h:Hl}{Y:List (Nat×Obj)}(s:St w0 [] w h Y)(j:Nat){b:Nat}{xs:List α}{m:Nat}(hj:h[j]?=some (some b,ob enc t xs []))(hm:m=xs.length):ux enc t w0 w (.slice (aR b) m m) xs:=
 ux.mk s j (q:=some b) hj hm aK (by rw[hm];simp)
section
variable{f:List NV}{ts:List Tr}
theorem ki{t:Tr} (h:t∈ts):visit t ts=ts:=by
 cases t with
 |leaf=>rw[visit,if_pos h]
 |un=>rw[visit,if_pos h]
 |bin=>rw[visit,if_pos h]
def lK:Tr->List Tr->List Tr
 |.leaf ..,ts=>ts
 |.un _ _ _ _ a,ts=>visit a ts
 |.bin _ _ _ _ a b,ts=>visit b (visit a ts)
def p6(t:Tr)(ts:List Tr):List Tr:=if t∈ts then ts else ts++[t]
theorem rU{t:Tr} (hc:rR ts)(_hn:ts.Nodup):p6 t (lK t ts)=visit t ts:=by
 unfold p6;by_cases h:t∈ts;rw[ki h];have hk:lK t ts=ts:=by
  cases t with
  |leaf=>rfl
  |un op i e g a=>exact ki (hc.mem h a (by simp[kids]))
  |bin op i e g a b=>
   show visit b (visit a ts)=ts;rw[ki (hc.mem h a (by simp[kids])),ki (hc.mem h b (by simp[kids]))]
 rw[hk,if_pos h];have p:t∉lK t ts:=λhm=>by
  cases t with
  |leaf=>exact h hm
  |un op i e g a=>
   rcases oK a hm with m|m;exact h m;simp only[size]at m;omega
  |bin op i e g a b=>
   rcases oK b hm with m|m;rcases oK a m with m|m;exact h m;simp only[size]at m;omega;simp only[size]at m;omega
 rw[if_neg p];cases t with
 |leaf=>rw[visit,if_neg h];rfl
 |un=>rw[visit,if_neg h];rfl
 |bin=>rw[visit,if_neg h];rfl
def fT(f:List NV):Prop:=∀(i:Nat) (hi:i<f.length),HN f[i] i
theorem EE.nodes (h:EE f):fT f:=λi hi=>h.at i hi
theorem fT.ord (h:fT f):zv f:=λi hi=>⟨(h i hi).x,(h i hi).y⟩
structure ox (f:List NV) (ts:List Tr) (ds:ar):Prop where
  len:ds.length=f.length
  at_:∀i,i<f.length->ds.getD i 0=-1\/eP f i∈ts/\ds.getD i 0=(ts.idxOf (eP f i):Int)
theorem ox.mono {m:List Tr}{ds:ar}(h:ox f ts ds)(hp:ts<+:m):ox f m ds:=
 ⟨h.len,λi hi=>by
  rcases h.at_ i hi with h1|⟨h1,h2⟩;exact .inl h1;exact .inr ⟨hp.subset h1,by rw[h2,pw hp h1]⟩⟩
theorem ox.set{f:List NV}{ts:List Tr}{ds:ar}(h:ox f ts ds){i:Nat}(hi:i<f.length)(hm:eP f i∈ts):ox f ts (ds.set i (ts.idxOf (eP f i):Int)):=
 ⟨by simp[h.len],λj hj=>by
  have m:=h.len;by_cases e:j=i;subst e;exact .inr ⟨hm,by simp[aX,m,hj]⟩;rcases h.at_ j hj with h1|⟨h1,h2⟩;exact .inl (by rw[<-h1];simp[aX,Ne.symm e]);exact .inr ⟨h1,by rw[<-h2];simp[aX,Ne.symm e]⟩⟩
theorem ox.start :ox f [] (List.replicate f.length (-1)):=⟨by simp,λi hi=>.inl (by simp[aX,hi])⟩
theorem nr {i:Nat}(hi:i<f.length):eP f i∈trees f:=by
 rw[mH hi];exact dB _
theorem vF  (h:ts.Nodup)(hs:ts⊆trees f):ts.length<=f.length:=by
 have:=h.length_le_of_subset hs;rwa[js]at this
theorem wk{w w':aB}{h h':Hl}{Y:List (Nat×Obj)}{a:ae} (ha:FA w a f)(hf:0<f.length)(m:∀b o,a=some ⟨b,o,none⟩->b∉ir h)(s:St w (ir h) w' h' Y):∀b o,a=some ⟨b,o,none⟩->b∉ir h':=λb o e hm=>by
 obtain⟨D,C,e1,h1⟩:=ha.at_.isSome (by rw[nY];omega);rw[e]at e1;cases e1;obtain⟨ob,p⟩:=mj.1 hm;rcases(s.own _ p b rfl).2.2 with h2|h2;omega;exact m b o e h2
theorem iB {i:Nat}(hi:i<f.length)(hO:fT f):
  (jd f[i].op=false/\eP f i=.leaf f[i].op f[i].i f[i].e f[i].g)\/
  (jd f[i].op=true/\iH f[i].op=false/\eP f i=.un f[i].op f[i].i f[i].e f[i].g (eP f f[i].x.toNat))\/
  (iH f[i].op=true/\eP f i=.bin f[i].op f[i].i f[i].e f[i].g (eP f f[i].x.toNat) (eP f f[i].y.toNat)):=by
 have h:=hO i hi;have m:=rm hi (λhu=>by have:=h.x hu;omega) (λhu=>by have:=h.y hu;omega);by_cases h1:iH f[i].op=true;exact .inr (.inr ⟨h1,by rw[m,nP h1]⟩);by_cases h2:jd f[i].op=true;exact .inr (.inl ⟨h2,by simpa using h1,by rw[m,pH h2 (by simpa using h1)]⟩);exact .inl ⟨by simpa using h2,by rw[m,mi (by simpa using h2)]⟩
end
end Go.Proofs.Wit
namespace Go.Proofs.Wit
open Go
structure Ce (S:aq) (w:aB) (a:ae) (f:List NV):Prop where
  at_:Sl w a (f.flatMap NV.cells)
  sep:∀b o,a=some ⟨b,o,none⟩->b∉S
theorem Ce.eY{S:aq}{w0 w:aB}{a:ae}{f:List NV}(h:Ce S w0 a f)(e:Ex S w0 w):Ce S w a f:=⟨Sl.ex h.at_ e h.sep,h.sep⟩
end Go.Proofs.Wit
namespace Go.Proofs.Wit
open Go Go.RowKit
theorem JO{P:av}{t it:ax}{fs:Array Field}(hu:P.underlying t=some (.struct fs))(hfs:uO fs it)(hi:P.underlying it=some (.int .i64))(ha:∀w,(isAgg it).run P w=.ok false w)(pS:P.stoodInHeld t=false)(hg:P.eqGuardType P.depth t=false){a b:NV}:
  pD P .neq t a.v b.v (.bool (a !=b)):=by
 intro x y w;have h1:(Op.equal t a.v b.v).run P w=.ok (a==b) w:=uV hu hfs hi ha pS 9998 a b w;have hprog:(program:Sem av).run P w=.ok P w:=rfl;have h2:(eqGuard .neq t x y a.v b.v).run P w=.ok () w:=by
  unfold eqGuard;simp only[NV.v];simp[hg]
 have h3:(binOp .neq t a.v b.v).run P w=.ok (.bool (a !=b)) w:=by
  show(do pure (Value.bool (!(<-Op.equal t a.v b.v))):Sem aC).run P w=_;simp only[Sem.run_bind,h1,Result.andThen_ok];rfl
 simp only[Sem.run_bind,h2,Result.andThen_ok,h3]
def iz(f:List NV)(i:Int):List NV:=if fX f≠0\/i<0\/(f.length:Int)<=i then []else iD (eP f i.toNat)
def ED(op:Int):Int:=if op=9\/op=10 then 1 else if op=11 then 2 else if op=12 then 4 else if op=13 then 8 else if op=14 then 16 else if op=15 then 32 else if op=16 then 64 else if op=17 then 128 else if 18<=op/\op<=21 then 256 else 0
def DG(op:Int):aC:=.agg #[.bool (jd op),.bool (iH op),.bool (op==3),.bool (sJ op),.bool (oP op),.bool (op==17),aS (ED op)]
def okO(op:Int):Bool:=decide (1<=op) && decide (op<=21)
def tJ(u:Bool)(x lo hi:Int):Bool:=u && (decide (x<lo)||decide (hi<x))
theorem IS{op:Int}(h:¬(1<=op/\op<=21)):okO op=false:=by
 simp only[okO,bS,bP];omega
theorem HW{op:Int}(h:¬(1<=op/\op<=21)):DG op=.agg #[.bool false,.bool false,.bool false,.bool false,.bool false,.bool false,aS 0]:=by
 have h1:jd op=false:=by simp only[jd,bS,bP];omega
 have h2:iH op=false:=by
  cases e:iH op with
  |false=>rfl
  |true=>rw[jQ e]at h1;cases h1
 have h3:(op==3)=false:=by simp;omega
 have h4:sJ op=false:=by simp[sJ];omega
 have h5:oP op=false:=by simp[oP];omega
 have h6:(op==17)=false:=by simp;omega
 have h7:ED op=0:=by
  unfold ED
  repeat(rw[if_neg aH])
 rw[DG,h1,h2,h3,h4,h5,h6,h7]
end Go.Proofs.Wit
