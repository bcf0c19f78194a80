/- Laws of walks, for any program, under the conditions that each theorem states. -/
import Derived.Test.YtchhieaagchhhaaGreatDoorXT03
set_option maxRecDepth 100000
set_option maxHeartbeats 4000000
namespace Go.Proofs.Wit
section
variable {κ κ':Type} [DecidableEq κ] [DecidableEq κ']
def KQ (key:Nat→κ) (k:κ) (n:Nat):Option Nat:=yk (fun j=>if key j=k then some j else none) n
def Ll (key:Nat→κ) (i:Nat):Nat:=(KQ key (key i) (i+1)).getD 0
def KR (n:Nat) (key:Nat→κ):List Int:=(List.range n).map (fun i=>(Ll key i:Int))
end
structure LQ (p:List Int):Prop where
  len:p.length≤64
  low:∀i,i<p.length→0≤p.getD i 0∧p.getD i 0≤i∧p.getD (p.getD i 0).toNat 0=p.getD i 0
def Jf (p:List Int):List aC:=p.map (fun x=>1#64<<<x.toNat)
def K6 (p:List Int) (s:aC):aC:=wP (Jf p) s
def Lf (pS:List (List aC)) (p:List Int):List Int:=KR p.length (fun w=>(p.getD w 0,pS.map (fun r=>K6 p (r.getD w 0#64))))
def I0 (val:List aC) (w:Nat):Nat→Nat
 |0=>0
 |k+1=>I0 val w k+(if (val.getD k 0#64).getLsbD w=true then 2^k else 0)
def fm (val:List aC) (w:Nat):Nat:=I0 val w val.length
def Ir (n:Nat) (val:List aC) (pS:List (List aC)):Nat→List Int
 |0=>KR n (fun w=>fm val w)
 |i+1=>Lf pS (Ir n val pS i)
section
variable {n:Nat} {val:List aC} {pS:List (List aC)}
def Ki (n:Nat) (val:List aC) (pS:List (List aC)):Option Nat:=KQ (fun d=>decide (Ir n val pS d=Ir n val pS (d+1))) true n
def dep (n:Nat) (val:List aC) (pS:List (List aC)):Nat:=(Ki n val pS).getD 0
end
theorem oO.kf {α:Type} {enc:α→Value} {t:TypeId} {w w':World}:oO enc t w w' (.slice none 0 0) ([]:List α):=⟨none,0,[],rfl,fun _=>⟨rfl,rfl⟩,rfl,fun _ e=>by cases e⟩
theorem oO.one {α:Type} {enc:α→Value} {t:TypeId} {w0 w:World} {h:Hl} {Y:List (Nat×Obj)} (s:St w0 [] w h Y) (j:Nat) {b:Nat} {xs:List α} {m:Nat} (hj:h[j]?=some (some b,ob enc t xs [])) (hm:m=xs.length):oO enc t w0 w (.slice (some ⟨b,0,none⟩) m m) xs:=
 oO.mk s j (q:=some b) hj hm (fun e=>by cases e) (by rw [hm];simp)
theorem ep {t:Tr} {ts:List Tr} (h:t∈ts):visit t ts=ts:=by
 cases t with
 |leaf=>rw [visit,if_pos h]
 |un=>rw [visit,if_pos h]
 |bin=>rw [visit,if_pos h]
def fL:Tr→List Tr→List Tr
 |.leaf ..,ts=>ts
 |.un _ _ _ _ a,ts=>visit a ts
 |.bin _ _ _ _ a b,ts=>visit b (visit a ts)
def kM (t:Tr) (ts:List Tr):List Tr:=if t∈ts then ts else ts++[t]
theorem mP {t:Tr} {ts:List Tr} (hc:mM ts) (_hn:ts.Nodup):kM t (fL t ts)=visit t ts:=by
 unfold kM;by_cases h:t∈ts;rw [ep h];have hk:fL t ts=ts:=by
  cases t with
  |leaf=>rfl
  |un op i e g a=>exact ep (hc.mem h a (by simp [kids]))
  |bin op i e g a b=>
   show visit b (visit a ts)=ts;rw [ep (hc.mem h a (by simp [kids])),ep (hc.mem h b (by simp [kids]))]
 rw [hk,if_pos h];have p:t∉fL t ts:=fun hm=>by
  cases t with
  |leaf=>exact h hm
  |un op i e g a=>
   rcases jH a hm with m|m;exact h m;simp only [size] at m;omega
  |bin op i e g a b=>
   rcases jH b hm with m|m;rcases jH a m with m|m;exact h m;simp only [size] at m;omega;simp only [size] at m;omega
 rw [if_neg p];cases t with
 |leaf=>rw [visit,if_neg h];rfl
 |un=>rw [visit,if_neg h];rfl
 |bin=>rw [visit,if_neg h];rfl
def aP (f:List NV):Prop:=∀(i:Nat) (hi:i<f.length),CH f[i] i
theorem zT.nodes {f:List NV} (h:zT f):aP f:=fun i hi=>h.at i hi
theorem aP.ord {f:List NV} (h:aP f):uO f:=fun i hi=>⟨(h i hi).x,(h i hi).y⟩
structure jv (f:List NV) (ts:List Tr) (ds:List Int):Prop where
  len:ds.length=f.length
  at_:∀i,i<f.length→ds.getD i 0=-1∨aa f i∈ts∧ds.getD i 0=(ts.idxOf (aa f i):Int)
theorem jv.mono {f:List NV} {ts m:List Tr} {ds:List Int} (h:jv f ts ds) (hp:ts<+:m):jv f m ds:=
 ⟨h.len,fun i hi=>by
  rcases h.at_ i hi with h1|⟨h1,h2⟩;exact .inl h1;exact .inr ⟨hp.subset h1,by rw [h2,km hp h1]⟩⟩
theorem jv.set {f:List NV} {ts:List Tr} {ds:List Int} (h:jv f ts ds) {i:Nat} (hi:i<f.length) (hm:aa f i∈ts):jv f ts (ds.set i (ts.idxOf (aa f i):Int)):=
 ⟨by simp [h.len],fun j hj=>by
  have m:=h.len;by_cases e:j=i;subst e;exact .inr ⟨hm,by simp [List.getD_eq_getElem?_getD,m,hj]⟩;rcases h.at_ j hj with h1|⟨h1,h2⟩;exact .inl (by rw [←h1];simp [List.getD_eq_getElem?_getD,Ne.symm e]);exact .inr ⟨h1,by rw [←h2];simp [List.getD_eq_getElem?_getD,Ne.symm e]⟩⟩
theorem jv.start {f:List NV}:jv f [] (List.replicate f.length (-1)):=⟨by simp,fun i hi=>.inl (by simp [List.getD_eq_getElem?_getD,hi])⟩
theorem iK {f:List NV} {i:Nat} (hi:i<f.length):aa f i∈trees f:=by
 rw [gH hi];exact List.getElem_mem _
theorem p8 {f:List NV} {ts:List Tr} (h:ts.Nodup) (hs:ts⊆trees f):ts.length≤f.length:=by
 have:=h.length_le_of_subset hs;rwa [db] at this
theorem qO {w w':World} {h h':Hl} {Y:List (Nat×Obj)} {a:Option Addr} {f:List NV} (ha:FA w a f) (hf:0<f.length) (m:∀b o,a=some ⟨b,o,none⟩→b∉bZ h) (s:St w (bZ h) w' h' Y):∀b o,a=some ⟨b,o,none⟩→b∉bZ h':=fun b o e hm=>by
 obtain ⟨D,C,e1,h1⟩:=ha.at_.isSome (by rw [ji];omega);rw [e] at e1;cases e1;obtain ⟨ob,p⟩:=gl.1 hm;rcases (s.own _ p b rfl).2.2 with h2|h2;omega;exact m b o e h2
theorem bS {f:List NV} {i:Nat} (hi:i<f.length) (hO:aP f):
  (dh f[i].op=false∧aa f i=.leaf f[i].op f[i].i f[i].e f[i].g)∨
  (dh f[i].op=true∧cD f[i].op=false∧aa f i=.un f[i].op f[i].i f[i].e f[i].g (aa f f[i].x.toNat))∨
  (cD f[i].op=true∧aa f i=.bin f[i].op f[i].i f[i].e f[i].g (aa f f[i].x.toNat) (aa f f[i].y.toNat)):=by
 have h:=hO i hi;have m:=mi hi (fun hu=>by have:=h.x hu;omega) (fun hu=>by have:=h.y hu;omega);by_cases h1:cD f[i].op=true;exact .inr (.inr ⟨h1,by rw [m,iY h1]⟩);by_cases h2:dh f[i].op=true;exact .inr (.inl ⟨h2,by simpa using h1,by rw [m,kv h2 (by simpa using h1)]⟩);exact .inl ⟨by simpa using h2,by rw [m,gk (by simpa using h2)]⟩
end Go.Proofs.Wit
namespace Go.Proofs.Wit
open Go
structure zU (S:List Nat) (w:World) (a:Option Addr) (f:List NV):Prop where
  at_:Sl w a (f.flatMap NV.cells)
  sep:∀b o,a=some ⟨b,o,none⟩→b∉S
theorem zU.aq {S:List Nat} {w0 w:World} {a:Option Addr} {f:List NV} (h:zU S w0 a f) (e:Ex S w0 w):zU S w a f:=⟨Sl.ex h.at_ e h.sep,h.sep⟩
end Go.Proofs.Wit
namespace Go.Proofs.Wit
open Go Go.RowKit
theorem EE {P:Program} {t it:TypeId} {fs:Array Field} (hu:P.underlying t=some (.struct fs)) (hfs:pd fs it) (hi:P.underlying it=some (.int .i64)) (ha:∀w,(isAgg it).run P w=.ok false w) (l4:P.stoodInHeld t=false) (hg:P.eqGuardType P.depth t=false) {a b:NV}:
  kD P .neq t a.v b.v (.bool (a !=b)):=by
 intro x y w;have h1:(Op.equal t a.v b.v).run P w=.ok (a==b) w:=pq hu hfs hi ha l4 9998 a b w;have hprog:(program:Sem Program).run P w=.ok P w:=rfl;have h2:(eqGuard .neq t x y a.v b.v).run P w=.ok () w:=by
  unfold eqGuard;simp only [NV.v];simp [hg]
 have h3:(binOp .neq t a.v b.v).run P w=.ok (.bool (a !=b)) w:=by
  show (do pure (Value.bool (!(←Op.equal t a.v b.v))):Sem Value).run P w=_;simp only [Sem.run_bind,h1,Result.andThen_ok];rfl
 simp only [Sem.run_bind,h2,Result.andThen_ok,h3]
def eH (f:List NV) (i:Int):List NV:=if aN f≠0∨i<0∨(f.length:Int)≤i then [] else cm (aa f i.toNat)
def zS (op:Int):Int:=if op=9∨op=10 then 1 else if op=11 then 2 else if op=12 then 4 else if op=13 then 8 else if op=14 then 16 else if op=15 then 32 else if op=16 then 64 else if op=17 then 128 else if 18≤op∧op≤21 then 256 else 0
def yO (op:Int):Value:=.agg #[.bool (dh op),.bool (cD op),.bool (op==3),.bool (np op),.bool (jL op),.bool (op==17),.int .i64 (zS op)]
def okO (op:Int):Bool:=decide (1≤op) && decide (op≤21)
def og (u:Bool) (x lo hi:Int):Bool:=u && (decide (x<lo)||decide (hi<x))
theorem DC {op:Int} (h:¬(1≤op∧op≤21)):okO op=false:=by
 simp only [okO,Bool.and_eq_false_iff,decide_eq_false_iff_not];omega
theorem CO {op:Int} (h:¬(1≤op∧op≤21)):yO op=.agg #[.bool false,.bool false,.bool false,.bool false,.bool false,.bool false,.int .i64 0]:=by
 have h1:dh op=false:=by simp only [dh,Bool.and_eq_false_iff,decide_eq_false_iff_not];omega
 have h2:cD op=false:=by
  cases e:cD op with
  |false=>rfl
  |true=>rw [dZ e] at h1;cases h1
 have h3:(op==3)=false:=by simp;omega
 have h4:np op=false:=by simp [np];omega
 have h5:jL op=false:=by simp [jL];omega
 have h6:(op==17)=false:=by simp;omega
 have h7:zS op=0:=by
  unfold zS
  repeat (rw [if_neg (by omega)])
 rw [yO,h1,h2,h3,h4,h5,h6,h7]
end Go.Proofs.Wit
