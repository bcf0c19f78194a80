/- Laws of walks, for any program, under the conditions that each theorem states. -/
import Derived.Test.YtaamcaiglooemaaGreatDoorXF03
set_option maxRecDepth 100000
set_option maxHeartbeats 4000000
namespace Go.Proofs.Wit
section
variable {κ κ':Type} [DecidableEq κ] [DecidableEq κ']
def K6 (key:Nat→κ) (k:κ) (n:Nat):Option Nat:=yy (fun j=>if key j=k then some j else none) n
def LH (key:Nat→κ) (i:Nat):Nat:=(K6 key (key i) (i+1)).getD 0
def K7 (n:Nat) (key:Nat→κ):List Int:=(List.range n).map (fun i=>(LH key i:Int))
end
structure Me (p:List Int):Prop where
  len:p.length≤64
  low:∀i,i<p.length→0≤p.getD i 0∧p.getD i 0≤i∧p.getD (p.getD i 0).toNat 0=p.getD i 0
def Js (p:List Int):List aE:=p.map (fun x=>1#64<<<x.toNat)
def Lp (p:List Int) (s:aE):aE:=wS (Js p) s
def Lw (p3:List (List aE)) (p:List Int):List Int:=K7 p.length (fun w=>(p.getD w 0,p3.map (fun r=>Lp p (r.getD w 0#64))))
def Jd (val:List aE) (w:Nat):Nat→Nat
 |0=>0
 |k+1=>Jd val w k+(if (val.getD k 0#64).getLsbD w=true then 2^k else 0)
def fm (val:List aE) (w:Nat):Nat:=Jd val w val.length
def ID (n:Nat) (val:List aE) (p3:List (List aE)):Nat→List Int
 |0=>K7 n (fun w=>fm val w)
 |i+1=>Lw p3 (ID n val p3 i)
section
variable {n:Nat} {val:List aE} {p3:List (List aE)}
def Kx (n:Nat) (val:List aE) (p3:List (List aE)):Option Nat:=K6 (fun d=>decide (ID n val p3 d=ID n val p3 (d+1))) true n
def dep (n:Nat) (val:List aE) (p3:List (List aE)):Nat:=(Kx n val p3).getD 0
end
theorem oU.jX {α:Type} {enc:α→Value} {t:TypeId} {w w':World}:oU enc t w w' (.slice none 0 0) ([]:List α):=⟨none,0,[],rfl,fun _=>⟨rfl,rfl⟩,rfl,fun _ e=>by cases e⟩
theorem oU.one {α:Type} {enc:α→Value} {t:TypeId} {w0 w:World} {h:Hl} {Y:List (Nat×Obj)} (s:St w0 [] w h Y) (j:Nat) {b:Nat} {xs:List α} {m:Nat} (hj:h[j]?=some (some b,ob enc t xs [])) (hm:m=xs.length):oU enc t w0 w (.slice (some ⟨b,0,none⟩) m m) xs:=
 oU.mk s j (q:=some b) hj hm (fun e=>by cases e) (by rw [hm];simp)
theorem dZ {t:Tr} {ts:List Tr} (h:t∈ts):visit t ts=ts:=by
 cases t with
 |leaf=>rw [visit,if_pos h]
 |un=>rw [visit,if_pos h]
 |bin=>rw [visit,if_pos h]
def fM:Tr→List Tr→List Tr
 |.leaf ..,ts=>ts
 |.un _ _ _ _ a,ts=>visit a ts
 |.bin _ _ _ _ a b,ts=>visit b (visit a ts)
def kM (t:Tr) (ts:List Tr):List Tr:=if t∈ts then ts else ts++[t]
theorem mK {t:Tr} {ts:List Tr} (hc:mI ts) (_hn:ts.Nodup):kM t (fM t ts)=visit t ts:=by
 unfold kM;by_cases h:t∈ts;rw [dZ h];have hk:fM t ts=ts:=by
  cases t with
  |leaf=>rfl
  |un op i e g a=>exact dZ (hc.mem h a (by simp [kids]))
  |bin op i e g a b=>
   show visit b (visit a ts)=ts;rw [dZ (hc.mem h a (by simp [kids])),dZ (hc.mem h b (by simp [kids]))]
 rw [hk,if_pos h];have p:t∉fM t ts:=fun hm=>by
  cases t with
  |leaf=>exact h hm
  |un op i e g a=>
   rcases jC a hm with m|m;exact h m;simp only [size] at m;omega
  |bin op i e g a b=>
   rcases jC b hm with m|m;rcases jC a m with m|m;exact h m;simp only [size] at m;omega;simp only [size] at m;omega
 rw [if_neg p];cases t with
 |leaf=>rw [visit,if_neg h];rfl
 |un=>rw [visit,if_neg h];rfl
 |bin=>rw [visit,if_neg h];rfl
def aK (f:List NV):Prop:=∀(i:Nat) (hi:i<f.length),CL f[i] i
theorem z8.nodes {f:List NV} (h:z8 f):aK f:=fun i hi=>h.at i hi
theorem aK.ord {f:List NV} (h:aK f):uV f:=fun i hi=>⟨(h i hi).x,(h i hi).y⟩
structure jo (f:List NV) (ts:List Tr) (ds:List Int):Prop where
  len:ds.length=f.length
  at_:∀i,i<f.length→ds.getD i 0=-1∨aa f i∈ts∧ds.getD i 0=(ts.idxOf (aa f i):Int)
theorem jo.mono {f:List NV} {ts m:List Tr} {ds:List Int} (h:jo f ts ds) (hp:ts<+:m):jo f m ds:=
 ⟨h.len,fun i hi=>by
  rcases h.at_ i hi with h1|⟨h1,h2⟩;exact .inl h1;exact .inr ⟨hp.subset h1,by rw [h2,ke hp h1]⟩⟩
theorem jo.set {f:List NV} {ts:List Tr} {ds:List Int} (h:jo f ts ds) {i:Nat} (hi:i<f.length) (hm:aa f i∈ts):jo f ts (ds.set i (ts.idxOf (aa f i):Int)):=
 ⟨by simp [h.len],fun j hj=>by
  have m:=h.len;by_cases e:j=i;subst e;exact .inr ⟨hm,by simp [List.getD_eq_getElem?_getD,m,hj]⟩;rcases h.at_ j hj with h1|⟨h1,h2⟩;exact .inl (by rw [←h1];simp [List.getD_eq_getElem?_getD,Ne.symm e]);exact .inr ⟨h1,by rw [←h2];simp [List.getD_eq_getElem?_getD,Ne.symm e]⟩⟩
theorem jo.start {f:List NV}:jo f [] (List.replicate f.length (-1)):=⟨by simp,fun i hi=>.inl (by simp [List.getD_eq_getElem?_getD,hi])⟩
theorem iG {f:List NV} {i:Nat} (hi:i<f.length):aa f i∈trees f:=by
 rw [gH hi];exact List.getElem_mem _
theorem qs {f:List NV} {ts:List Tr} (h:ts.Nodup) (hs:ts⊆trees f):ts.length≤f.length:=by
 have:=h.length_le_of_subset hs;rwa [dc] at this
theorem qS {w w':World} {h h':Hl} {Y:List (Nat×Obj)} {a:Option Addr} {f:List NV} (ha:FA w a f) (hf:0<f.length) (m:∀b o,a=some ⟨b,o,none⟩→b∉cm h) (s:St w (cm h) w' h' Y):∀b o,a=some ⟨b,o,none⟩→b∉cm h':=fun b o e hm=>by
 obtain ⟨D,C,e1,h1⟩:=ha.at_.isSome (by rw [jr];omega);rw [e] at e1;cases e1;obtain ⟨ob,p⟩:=gu.1 hm;rcases (s.own _ p b rfl).2.2 with h2|h2;omega;exact m b o e h2
theorem cd {f:List NV} {i:Nat} (hi:i<f.length) (hO:aK f):
  (cS f[i].op=false∧aa f i=.leaf f[i].op f[i].i f[i].e f[i].g)∨
  (cS f[i].op=true∧cF f[i].op=false∧aa f i=.un f[i].op f[i].i f[i].e f[i].g (aa f f[i].x.toNat))∨
  (cF f[i].op=true∧aa f i=.bin f[i].op f[i].i f[i].e f[i].g (aa f f[i].x.toNat) (aa f f[i].y.toNat)):=by
 have h:=hO i hi;have m:=l8 hi (fun hu=>by have:=h.x hu;omega) (fun hu=>by have:=h.y hu;omega);by_cases h1:cF f[i].op=true;exact .inr (.inr ⟨h1,by rw [m,iS h1]⟩);by_cases h2:cS f[i].op=true;exact .inr (.inl ⟨h2,by simpa using h1,by rw [m,ko h2 (by simpa using h1)]⟩);exact .inl ⟨by simpa using h2,by rw [m,gq (by simpa using h2)]⟩
end Go.Proofs.Wit
namespace Go.Proofs.Wit
open Go
structure yX (S:List Nat) (w:World) (a:Option Addr) (f:List NV):Prop where
  at_:Sl w a (f.flatMap NV.cells)
  sep:∀b o,a=some ⟨b,o,none⟩→b∉S
theorem yX.au {S:List Nat} {w0 w:World} {a:Option Addr} {f:List NV} (h:yX S w0 a f) (e:Ex S w0 w):yX S w a f:=⟨Sl.ex h.at_ e h.sep,h.sep⟩
end Go.Proofs.Wit
namespace Go.Proofs.Wit
open Go Go.RowKit
theorem EE {P:Program} {t it:TypeId} {fs:Array Field} (hu:P.underlying t=some (.struct fs)) (hfs:pk fs it) (hi:P.underlying it=some (.int .i64)) (ha:∀w,(isAgg it).run P w=.ok false w) (mT:P.stoodInHeld t=false) (hg:P.eqGuardType P.depth t=false) {a b:NV}:
  ly P .neq t a.v b.v (.bool (a !=b)):=by
 intro x y w;have h1:(Op.equal t a.v b.v).run P w=.ok (a==b) w:=pB hu hfs hi ha mT 9998 a b w;have hprog:(program:Sem Program).run P w=.ok P w:=rfl;have h2:(eqGuard .neq t x y a.v b.v).run P w=.ok () w:=by
  unfold eqGuard;simp only [NV.v];simp [hg]
 have h3:(binOp .neq t a.v b.v).run P w=.ok (.bool (a !=b)) w:=by
  show (do pure (Value.bool (!(←Op.equal t a.v b.v))):Sem Value).run P w=_;simp only [Sem.run_bind,h1,Result.andThen_ok];rfl
 simp only [Sem.run_bind,h2,Result.andThen_ok,h3]
def bZ (f:List NV) (i:Int):List NV:=if aN f≠0∨i<0∨(f.length:Int)≤i then [] else cg (aa f i.toNat)
def z6 (op:Int):Int:=if op=9∨op=10 then 1 else if op=11 then 2 else if op=12 then 4 else if op=13 then 8 else if op=14 then 16 else if op=15 then 32 else if op=16 then 64 else if op=17 then 128 else if 18≤op∧op≤21 then 256 else 0
def y4 (op:Int):Value:=.agg #[.bool (cS op),.bool (cF op),.bool (op==3),.bool (nr op),.bool (jF op),.bool (op==17),.int .i64 (z6 op)]
def okO (op:Int):Bool:=decide (1≤op) && decide (op≤21)
def oh (u:Bool) (x lo hi:Int):Bool:=u && (decide (x<lo)||decide (hi<x))
theorem DF {op:Int} (h:¬(1≤op∧op≤21)):okO op=false:=by
 simp only [okO,Bool.and_eq_false_iff,decide_eq_false_iff_not];omega
theorem CR {op:Int} (h:¬(1≤op∧op≤21)):y4 op=.agg #[.bool false,.bool false,.bool false,.bool false,.bool false,.bool false,.int .i64 0]:=by
 have h1:cS op=false:=by simp only [cS,Bool.and_eq_false_iff,decide_eq_false_iff_not];omega
 have h2:cF op=false:=by
  cases e:cF op with
  |false=>rfl
  |true=>rw [dI e] at h1;cases h1
 have h3:(op==3)=false:=by simp;omega
 have h4:nr op=false:=by simp [nr];omega
 have h5:jF op=false:=by simp [jF];omega
 have h6:(op==17)=false:=by simp;omega
 have h7:z6 op=0:=by
  unfold z6
  repeat (rw [if_neg (by omega)])
 rw [y4,h1,h2,h3,h4,h5,h6,h7]
end Go.Proofs.Wit
