/- Laws of walks, for any program, under the conditions that each theorem states. -/
import Derived.Test.YtnfmegcknckahaaGreatDoorXO02
import Derived.Test.YtnfmegcknckahaaGreatDoorXO03
namespace Go.Proofs.Wit
section
variable {κ κ':Type} [DecidableEq κ] [DecidableEq κ']
def HK (key:Nat→κ) (k:κ) (n:Nat):Option Nat:=vG (fun j=>if key j=k then some j else none) n
def Ie (key:Nat→κ) (i:Nat):Nat:=(HK key (key i) (i+1)).getD 0
def HL (n:Nat) (key:Nat→κ):List Int:=(List.range n).map (fun i=>(Ie key i:Int))
end
structure IE (p:List Int):Prop where
  len:p.length≤64
  low:∀i,i<p.length→0≤p.getD i 0∧p.getD i 0≤i∧p.getD (p.getD i 0).toNat 0=p.getD i 0
def FR (p:List Int):List ax:=p.map (fun x=>1#64<<<x.toNat)
def HZ (p:List Int) (s:ax):ax:=uA (FR p) s
def H7 (oF:List (List ax)) (p:List Int):List Int:=HL p.length (fun w=>(p.getD w 0,oF.map (fun r=>HZ p (r.getD w 0#64))))
def Fz (val:List ax) (w:Nat):Nat→Nat
 |0=>0
 |k+1=>Fz val w k+(if (val.getD k 0#64).getLsbD w=true then 2^k else 0)
def fm (val:List ax) (w:Nat):Nat:=Fz val w val.length
def E2 (n:Nat) (val:List ax) (oF:List (List ax)):Nat→List Int
 |0=>HL n (fun w=>fm val w)
 |i+1=>H7 oF (E2 n val oF i)
section
variable {n:Nat} {val:List ax} {oF:List (List ax)}
def GZ (n:Nat) (val:List ax) (oF:List (List ax)):Option Nat:=HK (fun d=>decide (E2 n val oF d=E2 n val oF (d+1))) true n
def dep (n:Nat) (val:List ax) (oF:List (List ax)):Nat:=(GZ n val oF).getD 0
end
theorem nu.oI {α:Type} {enc:α→Value} {t:TypeId} {w w':World}:nu enc t w w' (.slice none 0 0) ([]:List α):=⟨none,0,[],rfl,fun _=>⟨rfl,rfl⟩,rfl,fun _ e=>by cases e⟩
theorem nu.one {α:Type} {enc:α→Value} {t:TypeId} {w0 w:World} {h:Hl} {Y:List (Nat×Obj)} (s:St w0 [] w h Y) (j:Nat) {b:Nat} {xs:List α} {m:Nat} (hj:h[j]?=some (some b,ob enc t xs [])) (hm:m=xs.length):nu enc t w0 w (.slice (some ⟨b,0,none⟩) m m) xs:=
 nu.mk s j (q:=some b) hj hm (fun e=>by cases e) (by rw [hm];simp)
end Go.Proofs.Wit
namespace Go.Proofs.Wit
theorem fZ {t:Tr} {ts:List Tr} (h:t∈ts):visit t ts=ts:=by
 cases t with
 |leaf=>rw [visit,if_pos h]
 |un=>rw [visit,if_pos h]
 |bin=>rw [visit,if_pos h]
def fL:Tr→List Tr→List Tr
 |.leaf ..,ts=>ts
 |.un _ _ _ _ a,ts=>visit a ts
 |.bin _ _ _ _ a b,ts=>visit b (visit a ts)
def E0 (t:Tr) (ts:List Tr):List Tr:=if t∈ts then ts else ts++[t]
theorem v9 {t:Tr} {ts:List Tr} (hc:lY ts) (_hn:ts.Nodup):E0 t (fL t ts)=visit t ts:=by
 unfold E0
 by_cases h:t∈ts
 ·rw [fZ h]
  have hk:fL t ts=ts:=by
   cases t with
   |leaf=>rfl
   |un op i e g a=>exact fZ (hc.mem h a (by simp [kids]))
   |bin op i e g a b=>
    show visit b (visit a ts)=ts
    rw [fZ (hc.mem h a (by simp [kids])),fZ (hc.mem h b (by simp [kids]))]
  rw [hk,if_pos h]
 have hnew:t∉fL t ts:=fun hm=>by
  cases t with
  |leaf=>exact h hm
  |un op i e g a=>
   rcases iU a hm with h5|h5
   ·exact h h5
   simp only [size] at h5;omega
  |bin op i e g a b=>
   rcases iU b hm with h5|h5
   ·rcases iU a h5 with h5|h5
    ·exact h h5
    ·simp only [size] at h5;omega
   simp only [size] at h5;omega
 rw [if_neg hnew]
 cases t with
 |leaf=>rw [visit,if_neg h];rfl
 |un=>rw [visit,if_neg h];rfl
 |bin=>rw [visit,if_neg h];rfl
def bd (f:List NV):Prop:=∀(i:Nat) (hi:i<f.length),zW f[i] i
theorem xm.nodes {f:List NV} (h:xm f):bd f:=fun i hi=>h.at i hi
theorem bd.ord {f:List NV} (h:bd f):sr f:=fun i hi=>⟨(h i hi).x,(h i hi).y⟩
structure Hv (f:List NV) (ts:List Tr) (ds:List Int):Prop where
  len:ds.length=f.length
  at_:∀i,i<f.length→ds.getD i 0=-1∨aa f i∈ts∧ds.getD i 0=(ts.idxOf (aa f i):Int)
theorem l4 {f:List NV} {i:Nat} (hi:i<f.length):aa f i∈trees f:=by
 rw [ga hi];exact List.getElem_mem _
theorem Ao {f:List NV} {ts:List Tr} (hn:ts.Nodup) (hs:ts⊆trees f):ts.length≤f.length:=by
 have:=hn.length_le_of_subset hs
 rwa [cH] at this
theorem vm {w w':World} {h h':Hl} {Y:List (Nat×Obj)} {a:Option Addr} {f:List NV} (ha:FA w a f) (hf:0<f.length) (hsep:∀b o,a=some ⟨b,o,none⟩→b∉cI h) (s:St w (cI h) w' h' Y):∀b o,a=some ⟨b,o,none⟩→b∉cI h':=fun b o e hm=>by
 obtain ⟨b1,o1,e1,h1⟩:=ha.at_.isSome (by rw [ow];omega)
 rw [e] at e1
 cases e1
 obtain ⟨ob,hob⟩:=gw.1 hm
 rcases (s.own _ hob b rfl).2.2 with h2|h2
 ·omega
 exact hsep b o e h2
theorem dE {f:List NV} {i:Nat} (hi:i<f.length) (hO:bd f):
  (cF f[i].op=false∧aa f i=.leaf f[i].op f[i].i f[i].e f[i].g)∨
  (cF f[i].op=true∧cm f[i].op=false∧aa f i=.un f[i].op f[i].i f[i].e f[i].g (aa f f[i].x.toNat))∨
  (cm f[i].op=true∧aa f i=.bin f[i].op f[i].i f[i].e f[i].g (aa f f[i].x.toNat) (aa f f[i].y.toNat)):=by
 have h:=hO i hi
 have ht:=kU hi (fun hu=>by have:=h.x hu;omega) (fun hu=>by have:=h.y hu;omega)
 by_cases h1:cm f[i].op=true
 ·exact .inr (.inr ⟨h1,by rw [ht,ie h1]⟩)
 by_cases h2:cF f[i].op=true
 ·exact .inr (.inl ⟨h2,by simpa using h1,by rw [ht,jN h2 (by simpa using h1)]⟩)
 exact .inl ⟨by simpa using h2,by rw [ht,fO (by simpa using h2)]⟩
end Go.Proofs.Wit
namespace Go.Proofs.Wit
open Go
structure Cv (S:List Nat) (w:World) (a:Option Addr) (f:List NV):Prop where
  at_:Sl w a (f.flatMap NV.cells)
  sep:∀b o,a=some ⟨b,o,none⟩→b∉S
theorem Cv.ay {S:List Nat} {w0 w:World} {a:Option Addr} {f:List NV} (h:Cv S w0 a f) (e:Ex S w0 w):Cv S w a f:=⟨Sl.ex h.at_ e h.sep,h.sep⟩
end Go.Proofs.Wit
namespace Go.Proofs.Wit
open Go Go.RowKit
theorem BN {P:Program} {t it:TypeId} {fs:Array Field} (hu:P.underlying t=some (.struct fs)) (hfs:pI fs it) (hi:P.underlying it=some (.int .i64)) (ha:∀w,(isAgg it).run P w=.ok false w) (mV:P.stoodInHeld t=false) (hg:P.eqGuardType P.depth t=false) {a b:NV}:
  kD P .neq t a.v b.v (.bool (a !=b)):=by
 intro x y w
 have h1:(Op.equal t a.v b.v).run P w=.ok (a==b) w:=rk hu hfs hi ha mV 9998 a b w
 have hprog:(program:Sem Program).run P w=.ok P w:=rfl
 have h2:(eqGuard .neq t x y a.v b.v).run P w=.ok () w:=by
  unfold eqGuard
  simp only [NV.v]
  simp [hg]
 have h3:(binOp .neq t a.v b.v).run P w=.ok (.bool (a !=b)) w:=by
  show (do pure (Value.bool (!(←Op.equal t a.v b.v))):Sem Value).run P w=_
  simp only [Sem.run_bind,h1,Result.andThen_ok];rfl
 simp only [Sem.run_bind,h2,Result.andThen_ok,h3]
def fw (f:List NV) (i:Int):List NV:=if aV f≠0∨i<0∨(f.length:Int)≤i then [] else bS (aa f i.toNat)
def xl (op:Int):Int:=if op=9∨op=10 then 1 else if op=11 then 2 else if op=12 then 4 else if op=13 then 8 else if op=14 then 16 else if op=15 then 32 else if op=16 then 64 else if op=17 then 128 else if 18≤op∧op≤21 then 256 else 0
def qJ (op:Int):Value:=.agg #[.bool (cF op),.bool (cm op),.bool (op==3),.bool (o8 op),.bool (lN op),.bool (op==17),.int .i64 (xl op)]
def okO (op:Int):Bool:=decide (1≤op) && decide (op≤21)
def kI (u:Bool) (x lo hi:Int):Bool:=u && (decide (x<lo)||decide (hi<x))
theorem vr {op:Int} (h:¬(1≤op∧op≤21)):okO op=false:=by
 simp only [okO,Bool.and_eq_false_iff,decide_eq_false_iff_not];omega
theorem z8 {op:Int} (h:¬(1≤op∧op≤21)):qJ op=.agg #[.bool false,.bool false,.bool false,.bool false,.bool false,.bool false,.int .i64 0]:=by
 have h1:cF op=false:=by simp only [cF,Bool.and_eq_false_iff,decide_eq_false_iff_not];omega
 have h2:cm op=false:=by
  cases e:cm op with
  |false=>rfl
  |true=>rw [ep e] at h1;cases h1
 have h3:(op==3)=false:=by simp;omega
 have h4:o8 op=false:=by simp [o8];omega
 have h5:lN op=false:=by simp [lN];omega
 have h6:(op==17)=false:=by simp;omega
 have h7:xl op=0:=by
  unfold xl
  repeat (rw [if_neg (by omega)])
 rw [qJ,h1,h2,h3,h4,h5,h6,h7]
end Go.Proofs.Wit
