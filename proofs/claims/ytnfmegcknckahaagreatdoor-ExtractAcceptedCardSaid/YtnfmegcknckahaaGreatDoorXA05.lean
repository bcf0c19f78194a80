/- Laws of walks, for any program, under the conditions that each theorem states. -/
import Derived.Test.YtnfmegcknckahaaGreatDoorXA02
import Derived.Test.YtnfmegcknckahaaGreatDoorXA03
namespace Go.Proofs.Wit
section
variable {κ κ':Type} [DecidableEq κ] [DecidableEq κ']
def HW (key:Nat→κ) (k:κ) (n:Nat):Option Nat:=vQ (fun j=>if key j=k then some j else none) n
def Ip (key:Nat→κ) (i:Nat):Nat:=(HW key (key i) (i+1)).getD 0
def HY (n:Nat) (key:Nat→κ):List Int:=(List.range n).map (fun i=>(Ip key i:Int))
end
structure IP (p:List Int):Prop where
  len:p.length≤64
  low:∀i,i<p.length→0≤p.getD i 0∧p.getD i 0≤i∧p.getD (p.getD i 0).toNat 0=p.getD i 0
def Gb (p:List Int):List aB:=p.map (fun x=>1#64<<<x.toNat)
def Ic (p:List Int) (s:aB):aB:=uI (Gb p) s
def Ii (oK:List (List aB)) (p:List Int):List Int:=HY p.length (fun w=>(p.getD w 0,oK.map (fun r=>Ic p (r.getD w 0#64))))
def FK (val:List aB) (w:Nat):Nat→Nat
 |0=>0
 |k+1=>FK val w k+(if (val.getD k 0#64).getLsbD w=true then 2^k else 0)
def fm (val:List aB) (w:Nat):Nat:=FK val w val.length
def Fc (n:Nat) (val:List aB) (oK:List (List aB)):Nat→List Int
 |0=>HY n (fun w=>fm val w)
 |i+1=>Ii oK (Fc n val oK i)
section
variable {n:Nat} {val:List aB} {oK:List (List aB)}
def G9 (n:Nat) (val:List aB) (oK:List (List aB)):Option Nat:=HW (fun d=>decide (Fc n val oK d=Fc n val oK (d+1))) true n
def dep (n:Nat) (val:List aB) (oK:List (List aB)):Nat:=(G9 n val oK).getD 0
end
theorem nE.oN {α:Type} {enc:α→Value} {t:TypeId} {w w':World}:nE enc t w w' (.slice none 0 0) ([]:List α):=⟨none,0,[],rfl,fun _=>⟨rfl,rfl⟩,rfl,fun _ e=>by cases e⟩
theorem nE.one {α:Type} {enc:α→Value} {t:TypeId} {w0 w:World} {h:Hl} {Y:List (Nat×Obj)} (s:St w0 [] w h Y) (j:Nat) {b:Nat} {xs:List α} {m:Nat} (hj:h[j]?=some (some b,ob enc t xs [])) (hm:m=xs.length):nE enc t w0 w (.slice (some ⟨b,0,none⟩) m m) xs:=
 nE.mk s j (q:=some b) hj hm (fun e=>by cases e) (by rw [hm];simp)
end Go.Proofs.Wit
namespace Go.Proofs.Wit
theorem gi {t:Tr} {ts:List Tr} (h:t∈ts):visit t ts=ts:=by
 cases t with
 |leaf=>rw [visit,if_pos h]
 |un=>rw [visit,if_pos h]
 |bin=>rw [visit,if_pos h]
def fP:Tr→List Tr→List Tr
 |.leaf ..,ts=>ts
 |.un _ _ _ _ a,ts=>visit a ts
 |.bin _ _ _ _ a b,ts=>visit b (visit a ts)
def Fa (t:Tr) (ts:List Tr):List Tr:=if t∈ts then ts else ts++[t]
theorem wm {t:Tr} {ts:List Tr} (hc:l9 ts) (_hn:ts.Nodup):Fa t (fP t ts)=visit t ts:=by
 unfold Fa
 by_cases h:t∈ts
 ·rw [gi h]
  have hk:fP t ts=ts:=by
   cases t with
   |leaf=>rfl
   |un op i e g a=>exact gi (hc.mem h a (by simp [kids]))
   |bin op i e g a b=>
    show visit b (visit a ts)=ts
    rw [gi (hc.mem h a (by simp [kids])),gi (hc.mem h b (by simp [kids]))]
  rw [hk,if_pos h]
 have hnew:t∉fP t ts:=fun hm=>by
  cases t with
  |leaf=>exact h hm
  |un op i e g a=>
   rcases iZ a hm with h5|h5
   ·exact h h5
   simp only [size] at h5;omega
  |bin op i e g a b=>
   rcases iZ b hm with h5|h5
   ·rcases iZ a h5 with h5|h5
    ·exact h h5
    ·simp only [size] at h5;omega
   simp only [size] at h5;omega
 rw [if_neg hnew]
 cases t with
 |leaf=>rw [visit,if_neg h];rfl
 |un=>rw [visit,if_neg h];rfl
 |bin=>rw [visit,if_neg h];rfl
def aZ (f:List NV):Prop:=∀(i:Nat) (hi:i<f.length),Ag f[i] i
theorem xy.nodes {f:List NV} (h:xy f):aZ f:=fun i hi=>h.at i hi
theorem aZ.ord {f:List NV} (h:aZ f):sE f:=fun i hi=>⟨(h i hi).x,(h i hi).y⟩
structure HI (f:List NV) (ts:List Tr) (ds:List Int):Prop where
  len:ds.length=f.length
  at_:∀i,i<f.length→ds.getD i 0=-1∨aa f i∈ts∧ds.getD i 0=(ts.idxOf (aa f i):Int)
theorem mf {f:List NV} {i:Nat} (hi:i<f.length):aa f i∈trees f:=by
 rw [gj hi];exact List.getElem_mem _
theorem AE {f:List NV} {ts:List Tr} (hn:ts.Nodup) (hs:ts⊆trees f):ts.length≤f.length:=by
 have:=hn.length_le_of_subset hs
 rwa [cK] at this
theorem vy {w w':World} {h h':Hl} {Y:List (Nat×Obj)} {a:Option Addr} {f:List NV} (ha:FA w a f) (hf:0<f.length) (hsep:∀b o,a=some ⟨b,o,none⟩→b∉cM h) (s:St w (cM h) w' h' Y):∀b o,a=some ⟨b,o,none⟩→b∉cM h':=fun b o e hm=>by
 obtain ⟨b1,o1,e1,h1⟩:=ha.at_.isSome (by rw [oz];omega)
 rw [e] at e1
 cases e1
 obtain ⟨ob,hob⟩:=gy.1 hm
 rcases (s.own _ hob b rfl).2.2 with h2|h2
 ·omega
 exact hsep b o e h2
theorem dE {f:List NV} {i:Nat} (hi:i<f.length) (hO:aZ f):
  (cG f[i].op=false∧aa f i=.leaf f[i].op f[i].i f[i].e f[i].g)∨
  (cG f[i].op=true∧ct f[i].op=false∧aa f i=.un f[i].op f[i].i f[i].e f[i].g (aa f f[i].x.toNat))∨
  (ct f[i].op=true∧aa f i=.bin f[i].op f[i].i f[i].e f[i].g (aa f f[i].x.toNat) (aa f f[i].y.toNat)):=by
 have h:=hO i hi
 have ht:=lh hi (fun hu=>by have:=h.x hu;omega) (fun hu=>by have:=h.y hu;omega)
 by_cases h1:ct f[i].op=true
 ·exact .inr (.inr ⟨h1,by rw [ht,ij h1]⟩)
 by_cases h2:cG f[i].op=true
 ·exact .inr (.inl ⟨h2,by simpa using h1,by rw [ht,jU h2 (by simpa using h1)]⟩)
 exact .inl ⟨by simpa using h2,by rw [ht,fT (by simpa using h2)]⟩
end Go.Proofs.Wit
namespace Go.Proofs.Wit
open Go
structure CI (S:List Nat) (w:World) (a:Option Addr) (f:List NV):Prop where
  at_:Sl w a (f.flatMap NV.cells)
  sep:∀b o,a=some ⟨b,o,none⟩→b∉S
theorem CI.ay {S:List Nat} {w0 w:World} {a:Option Addr} {f:List NV} (h:CI S w0 a f) (e:Ex S w0 w):CI S w a f:=⟨Sl.ex h.at_ e h.sep,h.sep⟩
end Go.Proofs.Wit
namespace Go.Proofs.Wit
open Go Go.RowKit
theorem B2 {P:Program} {t it:TypeId} {fs:Array Field} (hu:P.underlying t=some (.struct fs)) (hfs:pO fs it) (hi:P.underlying it=some (.int .i64)) (ha:∀w,(isAgg it).run P w=.ok false w) (ml:P.stoodInHeld t=false) (hg:P.eqGuardType P.depth t=false) {a b:NV}:
  kL P .neq t a.v b.v (.bool (a !=b)):=by
 intro x y w
 have h1:(Op.equal t a.v b.v).run P w=.ok (a==b) w:=rr hu hfs hi ha ml 9998 a b w
 have hprog:(program:Sem Program).run P w=.ok P w:=rfl
 have h2:(eqGuard .neq t x y a.v b.v).run P w=.ok () w:=by
  unfold eqGuard
  simp only [NV.v]
  simp [hg]
 have h3:(binOp .neq t a.v b.v).run P w=.ok (.bool (a !=b)) w:=by
  show (do pure (Value.bool (!(←Op.equal t a.v b.v))):Sem Value).run P w=_
  simp only [Sem.run_bind,h1,Result.andThen_ok];rfl
 simp only [Sem.run_bind,h2,Result.andThen_ok,h3]
def fz (f:List NV) (i:Int):List NV:=if aW f≠0∨i<0∨(f.length:Int)≤i then [] else bX (aa f i.toNat)
def xx (op:Int):Int:=if op=9∨op=10 then 1 else if op=11 then 2 else if op=12 then 4 else if op=13 then 8 else if op=14 then 16 else if op=15 then 32 else if op=16 then 64 else if op=17 then 128 else if 18≤op∧op≤21 then 256 else 0
def qQ (op:Int):Value:=.agg #[.bool (cG op),.bool (ct op),.bool (op==3),.bool (pf op),.bool (lT op),.bool (op==17),.int .i64 (xx op)]
def okO (op:Int):Bool:=decide (1≤op) && decide (op≤21)
def kM (u:Bool) (x lo hi:Int):Bool:=u && (decide (x<lo)||decide (hi<x))
theorem vD {op:Int} (h:¬(1≤op∧op≤21)):okO op=false:=by
 simp only [okO,Bool.and_eq_false_iff,decide_eq_false_iff_not];omega
theorem Am {op:Int} (h:¬(1≤op∧op≤21)):qQ op=.agg #[.bool false,.bool false,.bool false,.bool false,.bool false,.bool false,.int .i64 0]:=by
 have h1:cG op=false:=by simp only [cG,Bool.and_eq_false_iff,decide_eq_false_iff_not];omega
 have h2:ct op=false:=by
  cases e:ct op with
  |false=>rfl
  |true=>rw [ez e] at h1;cases h1
 have h3:(op==3)=false:=by simp;omega
 have h4:pf op=false:=by simp [pf];omega
 have h5:lT op=false:=by simp [lT];omega
 have h6:(op==17)=false:=by simp;omega
 have h7:xx op=0:=by
  unfold xx
  repeat (rw [if_neg (by omega)])
 rw [qQ,h1,h2,h3,h4,h5,h6,h7]
end Go.Proofs.Wit
