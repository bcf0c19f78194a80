/- Laws of walks, for any program, under the conditions that each theorem states. -/
import Derived.Test.YtaamcaiglooemaaGreatDoorXF16
set_option maxRecDepth 100000
set_option maxHeartbeats 4000000
namespace Go.Proofs.Wit
open Go Go.RowKit
def AF (ops:Array Oper):Nat→Nat→Nat→Bool
 |0,_,_=>false
 |f+1,i,j=>(cG ops i).any (fun e=>Nat.beq e j||AF ops f e j)
structure HO (ops:Array Oper) (rs:List Nat) (c:Nat) (ls:List Nat):Prop where
  size:c<ops.size
  Mq:∀i∈rs,i<ops.size∧i≠c
  inc:∀q p,q<p→p<rs.length→rs.getD q 0<rs.getD p 0
  lt:∀i,i<ops.size→∀j∈cG ops i,j<i
  Lo:∀i∈rs,∀j∈cG ops i,j∈rs
  LR:∀j∈cG ops c,j∈rs
  Ay:∀i,(i=c∨i∈rs)→∀o,ops[i]?=some o→fH o.op=true
  inj:∀i j d,(i=c∨i∈rs)→(j=c∨j∈rs)→bK ops i=some d→bK ops j=some d→i=j
  Fj:∀i,(i=c∨i∈rs)→∀o,ops[i]?=some o→∀s∈gG ops o,∀j,(j=c∨j∈rs)→bK ops j=some s→j∈cG ops i
  late:∀i,i<ops.size→¬(i=c∨i∈rs)→(∃j∈cG ops i,¬(j=c∨j∈rs))∨∀j,(j=c∨j∈rs)→AF ops ops.size i j=true
  G6:forced ops (c::rs) ls=true
section
variable {P:Program} {r:Option Nat} {f:FuncId} {R:Value→World→Prop} {w0:World} {S:List Nat} {Y:List (Nat×Obj)} {n:Nat} {k:List Item} {l:Fl} {h:Hl} {ops:Array Oper}
end
abbrev Nm:=List (Int×FV)
abbrev iq:Int→Int→Bool:=fun a b=>a==b
theorem fY {ν:Type}:∀{L:List (Int×ν)} {k:Int} {v:ν},bL iq L k=some v→(k,v)∈L
 |[],_,_,h=>by cases h
 |(a,b)::L,k,v,h=>by
  rw [bL] at h;split at h;rename_i hq;have:a=k:=(eq_of_beq hq).symm;cases h;rw [this];simp;exact List.mem_cons_of_mem _ (fY h)
theorem eZ {ν:Type}:∀{L:List (Int×ν)} {k:Int},bL iq L k=none↔∀e∈L,e.1≠k
 |[],_=>by simp [bL]
 |(a,b)::L,k=>by
  rw [bL];split;rename_i hq;have:a=k:=(eq_of_beq hq).symm;simp [this];rename_i hq;have hne:a≠k:=by rintro rfl;exact hq (by simp [iq])
  rw [eZ];constructor;intro h e he;rcases List.mem_cons.1 he with rfl|he;exact hne;exact h e he;exact fun h e he=>h e (List.mem_cons_of_mem _ he)
theorem rn {w:World} {S:List Nat} (hm:∀b∈S,∃es k,w.heap[b]?=some (.map es k)) {a:Option Addr} {xs:List Value} (h:Sl w a xs) (h0:0<xs.length):∀b o,a=some ⟨b,o,none⟩→b∉S:=fun b o e hb=>by
 obtain ⟨es,k,hm⟩:=hm b hb;have:=h.cell 0 h0;subst e;unfold ny World.cell? at this;simp only [Option.getD_some,hm] at this;cases this
theorem Sl.BJ {w w':World} {S:List Nat} (hm:∀b∈S,∃es k,w.heap[b]?=some (.map es k)) {a:Option Addr} {xs:List Value} (h:Sl w a xs) (e:Ex S w w'):Sl w' a xs:=by
 by_cases h0:0<xs.length;exact h.ex e (rn hm h h0);rw [List.eq_nil_of_length_eq_zero (by omega:xs.length=0)];exact Sl.nil _ _
theorem FA.BJ {w w':World} {S:List Nat} (hm:∀b∈S,∃es k,w.heap[b]?=some (.map es k)) {a:Option Addr} {f:List NV} (h:FA w a f) (e:Ex S w w'):FA w' a f:=⟨Sl.BJ hm h.at_ e⟩
section
variable {P:Program} {r:Option Nat} {f:FuncId} {R:Value→World→Prop} {w0:World} {S:List Nat} {Y:List (Nat×Obj)} {n:Nat} {k:List Item} {l:Fl} {hb:Option Nat×Obj} {ht:Hl} {ops:Array Oper} {c:Nat} {ls:List Nat}
end
abbrev lz (m0:Nat) (L0:Nm) (m1:Nat) (L1:Nm):Hl:=[(some m0,mg (Value.int .i64) FV.v L0),(some m1,mg (Value.int .i64) FV.v L1)]
abbrev DJ (na:Option Addr) (nl nc m0 m1:Nat):Array Value:=#[.slice na nl nc,.map (some m0),.map (some m1)]
structure tL (c:List NV) (L0 L1:Nm):Prop where
  e0:∀e∈L0,∃k:Nat,e.1=(k:Int)∧e.2.f=bT (ay (aa c k)).1
  e1:∀e∈L1,∃k:Nat,e.1=(k:Int)∧e.2.f=bT (ay (aa c k)).2
def cM (t:TypeId) (L0 L1:Nm) (F:Hl) (x:FV):Prop:=x.In t F∨(∃k,(k,x)∈L0)∨∃k,(k,x)∈L1
structure dg (t:TypeId) (c:List NV) (d:Nat) (L0 L1 L0' L1':Nm) (F:Hl):Prop where
  fy:tL c L0' L1'
  s0:L0⊆L0'
  s1:L1⊆L1'
  n0:∀e∈L0',e∈L0∨(e.1<(d:Int)∧cM t L0 L1 F e.2)
  n1:∀e∈L1',e∈L1∨(e.1<(d:Int)∧cM t L0 L1 F e.2)
section
variable {t:TypeId} {c:List NV}
theorem cM.mono {L0 L1 L0' L1':Nm} {F F':Hl} {x:FV} (h:cM t L0 L1 F x) (s0:L0⊆L0') (s1:L1⊆L1') (hs:F⊆F'):cM t L0' L1' F' x:=
 h.imp (fun h=>h.mono hs) (Or.imp (fun ⟨k,h⟩=>⟨k,s0 h⟩) (fun ⟨k,h⟩=>⟨k,s1 h⟩))
theorem cM.base {d:Nat} {L0 L1 L0' L1':Nm} {F:Hl} {x:FV} (h:dg t c d L0 L1 L0' L1' F) (g:cM t L0' L1' F x):cM t L0 L1 F x:=by
 rcases g with g|⟨k,g⟩|⟨k,g⟩;exact .inl g;rcases h.n0 _ g with h1|h1;exact .inr (.inl ⟨k,h1⟩);exact h1.2;rcases h.n1 _ g with h1|h1;exact .inr (.inr ⟨k,h1⟩);exact h1.2
theorem dg.refl {d:Nat} {L0 L1:Nm} (h:tL c L0 L1):dg t c d L0 L1 L0 L1 []:=⟨h,fun _ h=>h,fun _ h=>h,fun _ h=>.inl h,fun _ h=>.inl h⟩
theorem dg.mono {d d':Nat} {L0 L1 L0' L1':Nm} {F F':Hl} (h:dg t c d L0 L1 L0' L1' F) (hd:d≤d') (hs:F⊆F'):dg t c d' L0 L1 L0' L1' F':=
 ⟨h.fy,h.s0,h.s1,fun e he=>(h.n0 e he).imp id (fun h=>⟨by omega,h.2.mono (fun _ h=>h) (fun _ h=>h) hs⟩),fun e he=>(h.n1 e he).imp id (fun h=>⟨by omega,h.2.mono (fun _ h=>h) (fun _ h=>h) hs⟩)⟩
theorem dg.seq {d d':Nat} {L0 L1 L0' L1' L0'' L1'':Nm} {F F' H:Hl} (h:dg t c d L0 L1 L0' L1' F) (g:dg t c d' L0' L1' L0'' L1'' F') (hd:d'≤d) (h1:F⊆H) (h2:F'⊆H):dg t c d L0 L1 L0'' L1'' H:=by
 have hh:=h.mono (Nat.le_refl _) h1;have hb:∀{x:FV},cM t L0' L1' F' x→cM t L0 L1 H x:=fun hx=>(hx.mono (fun _ h=>h) (fun _ h=>h) h2).base hh;refine ⟨g.fy,fun _ hx=>g.s0 (h.s0 hx),fun _ hx=>g.s1 (h.s1 hx),fun e he=>?_,fun e he=>?_⟩;rcases g.n0 e he with h3|⟨h3,h4⟩;exact hh.n0 e h3;exact .inr ⟨by omega,hb h4⟩;rcases g.n1 e he with h3|⟨h3,h4⟩;exact hh.n1 e h3;exact .inr ⟨by omega,hb h4⟩
structure nU (t tn:TypeId) (c:List NV) (na:Option Addr) (nc bk m0 m1:Nat) (w:World) (L0 L1:Nm):Prop where
  has:fZ w (lz m0 L0 m1 L1)
  db:w.heap[bk]?=some (.cells (DJ na c.length nc m0 m1) tn (0,0))
  fa:FA w na c
  f0:∀e∈L0,FA w e.2.a e.2.f
  f1:∀e∈L1,FA w e.2.a e.2.f
  fy:tL c L0 L1
variable {tn:TypeId} {na:Option Addr} {nc bk m0 m1:Nat} {w:World} {L0 L1:Nm}
theorem nU.maps (h:nU t tn c na nc bk m0 m1 w L0 L1):∀b∈[m0,m1],∃es k,w.heap[b]?=some (.map es k):=fun b hb=>by
 simp only [List.mem_cons,List.not_mem_nil,or_false] at hb;rcases hb with rfl|rfl;exact ⟨_,_,(h.has.own _ (List.mem_cons_self ..) _ rfl).1⟩;exact ⟨_,_,(h.has.own _ (List.mem_cons_of_mem _ (List.mem_cons_self ..)) _ rfl).1⟩
theorem nU.ne (h:nU t tn c na nc bk m0 m1 w L0 L1):bk∉[m0,m1]:=fun hb=>by
 obtain ⟨es,k,hm⟩:=h.maps bk hb;rw [h.db] at hm;cases hm
theorem cM.fa {w' w0:World} {S:List Nat} {h:Hl} {Y:List (Nat×Obj)} {d:Nat} {L0' L1':Nm} {F:Hl} {x:FV} (g:cM t L0' L1' F x) (hp:nU t tn c na nc bk m0 m1 w L0 L1) (gr:dg t c d L0 L1 L0' L1' F) (e:Ex [m0,m1] w w') (s:St w0 S w' h Y) (hs:F⊆h):FA w' x.a x.f:=by
 rcases g.base gr with g|⟨k,g⟩|⟨k,g⟩;exact (g.mono hs).at s;exact (hp.f0 _ g).BJ hp.maps e;exact (hp.f1 _ g).BJ hp.maps e
theorem nU.step {w':World} {h:Hl} {Y:List (Nat×Obj)} {L0' L1':Nm} {F:Hl} {d:Nat} (g:nU t tn c na nc bk m0 m1 w L0 L1) (s:St w [m0,m1] w' h Y) (hs:(lz m0 L0' m1 L1').Sublist h) (hF:F⊆h) (gr:dg t c d L0 L1 L0' L1' F):nU t tn c na nc bk m0 m1 w' L0' L1':=
  ⟨(s.cn hs).has,by rw [s.ext.block bk (Array.getElem?_eq_some_iff.1 g.db).1 g.ne];exact g.db,g.fa.BJ g.maps s.ext,
   fun e he=>cM.fa (x:=e.2) (.inr (.inl ⟨e.1,he⟩)) g gr s.ext s hF,fun e he=>cM.fa (x:=e.2) (.inr (.inr ⟨e.1,he⟩)) g gr s.ext s hF,gr.fy⟩
def pn (no:Bool) (p:Tr×Tr):Tr:=if no then p.2 else p.1
def kA (t:TypeId) (c:List NV) (m0 m1 d:Nat) (u:Tr) (L0 L1:Nm) (v:Value) (h':Hl):Prop:=
 ∃fv L0' L1' F,v=FV.v fv∧h'=lz m0 L0' m1 L1'++F∧dg t c d L0 L1 L0' L1' F∧fv.f=bT u∧cM t L0' L1' F fv
end
section
variable {P:Program} {r:Option Nat} {f:FuncId} {R:Value→World→Prop} {w0:World} {Y:List (Nat×Obj)} {n:Nat} {k:List Item} {l:Fl} {hb:Option Nat×Obj} {ops:Array Oper} {i d:Nat} {rest:List Nat} {ty:TypeId} {pos:String} {aft:Array Edge} {g:Option (Nat×Bool)}
variable {az:Array Operand} {ts:Array TypeId} {cal:Operand} {gf:FuncId} {vs:List Value} {t tn:TypeId} {c:List NV} {na:Option Addr} {nc bk m0 m1 D D':Nat} {L0 L1 La Lb:Nm} {F:Hl} {u:Tr}
theorem j7 {A B:Hl}:(hb::(A++B)).Perm (A++(hb::B)):=List.perm_middle.symm
theorem qy {A B C:Hl}:((A++B)++(hb::C)).Perm (hb::(A++(B++C))):=by
 rw [←List.append_assoc];exact List.perm_middle
theorem ab.ot (hp:nU t tn c na nc bk m0 m1 w0 L0 L1) (gr:dg t c D L0 L1 La Lb F) (hj:D'≤D) (ho:ops[i]?=some ⟨some d,.call ⟨.value cal,az,ts⟩,ty,pos,aft,g⟩) (hw:aq ops l g=true)
  (hc:aM l cal=some (.func (.func gf) #[] #[])) (hx:cP l az.toList=some vs) (hd:Nat.blt d n=true) (hcf:∀args w,(callFunc gf args).run P w=.ok (.enter gf args) w)
  (hof:∀w L0 L1,nU t tn c na nc bk m0 m1 w L0 L1→kC P gf vs w (lz m0 L0 m1 L1) (kA t c m0 m1 D' u L0 L1))
  (hk:∀fv La' Lb' F',dg t c D L0 L1 La' Lb' F'→(∀x,cM t La Lb F x→cM t La' Lb' F' x)→fv.f=bT u→cM t La' Lb' F' fv→ab P r f R w0 [m0,m1] Y n (.inRegion ops rest::k) ((d,fv.v)::l) (hb::(lz m0 La' m1 Lb'++F'))):
  ab P r f R w0 [m0,m1] Y n (.inRegion ops (i::rest)::k) l (hb::(lz m0 La m1 Lb++F)):=by
 refine ab.hJ (h':=lz m0 La m1 Lb++(hb::F)) j7 ?_;refine ab.eF (h:=lz m0 La m1 Lb) (hF:=hb::F) (fs:=[]) (cs:=[]) (fun _=>kA t c m0 m1 D' u La Lb) ho hw hc hx hd hcf (fun w Y' hS=>?_) (fun w v h' hR=>?_);rw [List.nil_append,List.append_nil];exact hof w _ _ (hp.step hS (List.sublist_append_left _ _) (fun _ h=>List.mem_append_right _ (List.mem_cons_of_mem _ h)) gr);obtain ⟨fv,La',Lb',F2,rfl,rfl,g2,hf,hh⟩:=hR;refine ab.hJ (h':=hb::(lz m0 La' m1 Lb'++(F2++F))) qy ?_;exact hk fv La' Lb' (F2++F) (gr.seq g2 hj (List.subset_append_right _ _) (List.subset_append_left _ _)) (fun x hx=>hx.mono g2.s0 g2.s1 (List.subset_append_right _ _)) hf (hh.mono (fun _ h=>h) (fun _ h=>h) (List.subset_append_left _ _))
theorem ab.uh (gr:dg t c D L0 L1 La Lb F) (ho:ops[i]?=some ⟨some d,.call ⟨.value cal,az,ts⟩,ty,pos,aft,g⟩) (hw:aq ops l g=true)
  (hc:aM l cal=some (.func (.func gf) #[] #[])) (hx:cP l az.toList=some vs) (hd:Nat.blt d n=true) (hcf:∀args w,(callFunc gf args).run P w=.ok (.enter gf args) w)
  (hcall:∀w Y',St w0 [m0,m1] w (hb::(lz m0 La m1 Lb++F)) Y'→Cn P gf vs w (fun v w'=>av t w w' v (bT u)))
  (hk:∀fv F',dg t c D L0 L1 La Lb F'→(∀x,cM t La Lb F x→cM t La Lb F' x)→fv.f=bT u→cM t La Lb F' fv→ab P r f R w0 [m0,m1] Y n (.inRegion ops rest::k) ((d,fv.v)::l) (hb::(lz m0 La m1 Lb++F'))):
  ab P r f R w0 [m0,m1] Y n (.inRegion ops (i::rest)::k) l (hb::(lz m0 La m1 Lb++F)):=by
 refine ab.nq (fun w v w'=>av t w w' v (bT u)) ho hw hc hx hd hcf hcall (fun v w w' Y' hS he hO=>?_);obtain ⟨q,cap,sp,rfl,hq,aj,hS'⟩:=ai hS he hO;have hpm:((q,cN t (bT u) sp)::hb::(lz m0 La m1 Lb++F)).Perm (hb::(lz m0 La m1 Lb++((q,cN t (bT u) sp)::F))):=
  (List.Perm.swap _ _ _).trans (List.Perm.cons _ j7);refine ⟨_,hS'.perm hpm,?_⟩;have e1:br q (bT u).length cap=FV.v ⟨q.map (fun b=>⟨b,0,none⟩),cap,bT u⟩:=by cases q<;>rfl
 rw [e1];exact hk _ _ (gr.mono (Nat.le_refl _) (List.subset_cons_self _ _)) (fun x hx=>hx.mono (fun _ h=>h) (fun _ h=>h) (List.subset_cons_self _ _)) rfl (.inl ⟨q,sp,List.mem_cons_self ..,rfl,hq,aj⟩)
theorem lU {w':World} {fv:FV} (gr:dg t c D L0 L1 La Lb F) (hf:fv.f=bT u) (hh:cM t La Lb F fv) (hS:St w0 [m0,m1] w' (hb::(lz m0 La m1 Lb++F)) []):∃h',kA t c m0 m1 D u L0 L1 fv.v h'∧St w0 [m0,m1] w' h' []:=
 ⟨_,⟨fv,La,Lb,F,rfl,rfl,gr,hf,hh⟩,hS.cn (List.sublist_cons_self _ _)⟩
end
theorem dg.HG {t:TypeId} {c:List NV} {i:Nat} {L0 L1 La Lb:Nm} {F:Hl} {fv:FV} (g:dg t c i L0 L1 La Lb F) (hf:fv.f=bT (ay (aa c i)).1) (hh:cM t La Lb F fv):dg t c (i+1) L0 L1 (La++[((i:Int),fv)]) Lb F:=
 ⟨⟨fun e he=>by
  rcases List.mem_append.1 he with he|he;exact g.fy.e0 e he;rw [List.mem_singleton.1 he];exact ⟨i,rfl,hf⟩,g.fy.e1⟩,fun _ h=>List.mem_append_left _ (g.s0 h),g.s1,fun e he=>by
  rcases List.mem_append.1 he with he|he;exact (g.n0 e he).imp id (fun h=>⟨by omega,h.2⟩);rw [List.mem_singleton.1 he];exact .inr ⟨by simp only [];omega,hh.base g⟩,fun e he=>(g.n1 e he).imp id (fun h=>⟨by omega,h.2⟩)⟩
theorem dg.HF {t:TypeId} {c:List NV} {i:Nat} {L0 L1 La Lb:Nm} {F:Hl} {fv:FV} (g:dg t c i L0 L1 La Lb F) (hf:fv.f=bT (ay (aa c i)).2) (hh:cM t La Lb F fv):dg t c (i+1) L0 L1 La (Lb++[((i:Int),fv)]) F:=
 ⟨⟨g.fy.e0,fun e he=>by
  rcases List.mem_append.1 he with he|he;exact g.fy.e1 e he;rw [List.mem_singleton.1 he];exact ⟨i,rfl,hf⟩⟩,g.s0,fun _ h=>List.mem_append_left _ (g.s1 h),fun e he=>(g.n0 e he).imp id (fun h=>⟨by omega,h.2⟩),fun e he=>by
  rcases List.mem_append.1 he with he|he;exact (g.n1 e he).imp id (fun h=>⟨by omega,h.2⟩);rw [List.mem_singleton.1 he];exact .inr ⟨by simp only [];omega,hh.base g⟩⟩
def sV (sl:Value) (ms:List Nat):Array Value:=#[sl,.map ms[0]?,.map ms[1]?]
theorem zq {sl:Value} {ms:List Nat} {b:Nat} (h:ms.length<2):(sV sl ms).setIfInBounds (1+ms.length) (.map (some b))=sV sl (ms++[b]):=by
 rcases ms with _|⟨a,_|⟨b,l⟩⟩;rfl;rfl;simp only [List.length_cons] at h;omega
theorem FH {ms:List Nat} (h:ms.length=2):∃a b,ms=[a,b]:=by
 rcases ms with _|⟨a,_|⟨b,_|⟨c,l⟩⟩⟩;cases h;cases h;exact ⟨a,b,rfl⟩;simp only [List.length_cons] at h;omega
theorem pg (p:Tr×Tr):pn true p=p.2:=rfl
theorem su (p:Tr×Tr):pn false p=p.1:=rfl
theorem aD {f:List NV} {t:Tr} (h:f=bT t):f.length≤maxLen:=by
 rw [h];have:=wg t;unfold maxLen;omega
theorem AX {op i e g:Int} {a:Tr} (h:op≠4):(ay (.un op i e g a)).1=.un op i e g (ay a).1:=by
 rw [ay,if_neg h];split;rfl;split<;>rfl
theorem yg {op i e g:Int} {a b:Tr} (h7:op≠7) (h8:op≠8):(ay (.bin op i e g a b)).1=.bin op i e g (ay a).1 (ay b).1:=by
 rw [ay];split;rfl;split;rfl;rfl
end Go.Proofs.Wit
