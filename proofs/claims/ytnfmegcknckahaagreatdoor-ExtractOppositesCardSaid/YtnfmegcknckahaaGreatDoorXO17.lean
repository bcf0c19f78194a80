/- Laws of walks, for any program, under the conditions that each theorem states. -/
import Derived.Test.YtnfmegcknckahaaGreatDoorXO02
import Derived.Test.YtnfmegcknckahaaGreatDoorXO15
import Derived.Test.YtnfmegcknckahaaGreatDoorXO13
namespace Go.Proofs.Wit
open Go Go.RowKit
def pw (ops:Array Oper):Nat→Nat→Nat→Bool
 |0,_,_=>false
 |f+1,i,j=>(bP ops i).any (fun e=>Nat.beq e j||pw ops f e j)
def oZ (ops:Array Oper) (_l:Fl) (rs:List Nat) (c:Nat) (ls:List Nat):Bool:=
 Nat.blt c ops.size && rs.all (fun i=>Nat.blt i ops.size && !Nat.beq i c) &&
 (List.range rs.length).all (fun p=>(List.range p).all (fun q=>Nat.blt (rs.getD q 0) (rs.getD p 0))) &&
 (List.range ops.size).all (fun i=>(bP ops i).all (fun j=>Nat.blt j i)) &&
 rs.all (fun i=>(bP ops i).all (fun j=>rs.contains j)) && (bP ops c).all (fun j=>rs.contains j) &&
 (c::rs).all (fun i=>match ops[i]? with
  |none=>false
  |some o=>eW o.op && match o.dst with
   |none=>false
   |some d=>(c::rs).all (fun j=>Nat.beq j i||!(bj ops j==some d)) &&
    (fS ops o).all (fun s=>(c::rs).all (fun j=>!(bj ops j==some s)||(bP ops i).contains j))) &&
 (List.range ops.size).all (fun i=>(c::rs).contains i||(bP ops i).any (fun j=>!(c::rs).contains j)||(c::rs).all (fun j=>pw ops ops.size i j)) &&
 forced ops (c::rs) ls
structure qs (ops:Array Oper) (rs:List Nat) (c:Nat) (ls:List Nat):Prop where
  size:c<ops.size
  EW:∀i∈rs,i<ops.size∧i≠c
  inc:∀q p,q<p→p<rs.length→rs.getD q 0<rs.getD p 0
  lt:∀i,i<ops.size→∀j∈bP ops i,j<i
  GA:∀i∈rs,∀j∈bP ops i,j∈rs
  Io:∀j∈bP ops c,j∈rs
  xS:∀i,(i=c∨i∈rs)→∀o,ops[i]?=some o→eW o.op=true
  inj:∀i j d,(i=c∨i∈rs)→(j=c∨j∈rs)→bj ops i=some d→bj ops j=some d→i=j
  zU:∀i,(i=c∨i∈rs)→∀o,ops[i]?=some o→∀s∈fS ops o,∀j,(j=c∨j∈rs)→bj ops j=some s→j∈bP ops i
  late:∀i,i<ops.size→¬(i=c∨i∈rs)→(∃j∈bP ops i,¬(j=c∨j∈rs))∨∀j,(j=c∨j∈rs)→pw ops ops.size i j=true
  DM:forced ops (c::rs) ls=true
section
variable {P:Program} {r:Option Nat} {f:FuncId} {R:Value→World→Prop} {w0:World} {S:List Nat} {Y:List (Nat×Obj)} {n:Nat} {k:List Item} {l:Fl} {h:Hl} {ops:Array Oper}
theorem v8 {rs ls:List Nat} {c:Nat} (hc:oZ ops l rs c ls=true):qs ops rs c ls:=by
 simp only [oZ,Bool.and_eq_true,List.all_eq_true,List.mem_range,Nat.blt_eq,Bool.or_eq_true,List.contains_iff_mem,List.any_eq_true,Bool.not_eq_true',List.mem_cons] at hc
 obtain ⟨⟨⟨⟨⟨⟨⟨⟨hsz,hrsz⟩,hinc⟩,hlt⟩,hrd⟩,hcd⟩,hr⟩,hla⟩,hfo⟩:=hc
 have hat:∀i,(i=c∨i∈rs)→∃o d,ops[i]?=some o∧o.dst=some d∧eW o.op=true∧(∀j,(j=c∨j∈rs)→j=i∨bj ops j≠some d)∧(∀s∈fS ops o,∀j,(j=c∨j∈rs)→bj ops j≠some s∨j∈bP ops i):=by
  intro i hi
  have:=hr i hi
  cases ho:ops[i]? with
  |none=>simp [ho] at this
  |some o=>
   cases hd:o.dst with
   |none=>simp [ho,hd] at this
   |some d=>
    simp only [ho,hd,Bool.and_eq_true,List.all_eq_true,Bool.or_eq_true,Nat.beq_eq,Bool.not_eq_true',beq_eq_false_iff_ne,List.contains_iff_mem,List.mem_cons] at this
    exact ⟨o,d,rfl,hd,this.1,fun j hj=>this.2.1 j hj,fun s hs j hj=>this.2.2 s hs j hj⟩
 refine ⟨hsz,fun i hi=>⟨(hrsz i hi).1,fun e=>by have:=(hrsz i hi).2;rw [e] at this;simp at this⟩,fun q p hq hp=>hinc p hp q hq,hlt,hrd,hcd,fun i hi o ho=>?_,fun i j d hi hj h1 h2=>?_,fun i hi o ho s hs j hj hd=>?_,fun i h1 h2=>?_,hfo⟩
 ·obtain ⟨o',d,e1,_,e3,_⟩:=hat i hi
  rw [ho] at e1;cases e1;exact e3
 ·obtain ⟨o,d',e1,e2,_,e5,_⟩:=hat i hi
  have:d'=d:=by simp [bj,e1,e2] at h1;exact h1
  subst this
  rcases e5 j hj with e|e
  ·exact e.symm
  exact absurd h2 e
 ·obtain ⟨o',d,e1,_,_,_,e6⟩:=hat i hi
  rw [ho] at e1;cases e1
  rcases e6 s hs j hj with e|e
  ·exact absurd hd e
  exact e
 rcases hla i h1 with (e|⟨j,e1,e2⟩)|e
 ·exact absurd e h2
 ·refine .inl ⟨j,e1,fun hx=>?_⟩
  have:(c::rs).contains j=true:=by rw [List.contains_iff_mem,List.mem_cons];exact hx
  rw [this] at e2;cases e2
 exact .inr e
theorem mG {listed:Nat→Bool} (hcl:∀j,listed j=true→∀e∈bP ops j,listed e=true):∀{f i j:Nat},pw ops f i j=true→(∀e∈bP ops i,listed e=true)→listed j=true
 |0,_,_,h,_=>by cases h
 |f+1,i,j,h,hd=>by
  rw [pw,List.any_eq_true] at h
  obtain ⟨e,he,h⟩:=h
  rw [Bool.or_eq_true,Nat.beq_eq] at h
  rcases h with rfl|h
  ·exact hd e he
  exact mG hcl h (hcl e (hd e he))
def zK (P:Program) (w0:World) (S:List Nat) (n:Nat) (Hs:Hl→Prop) (ops:Array Oper) (F:Array Value→Prop):List Nat→Array Value→Prop
 |[],t=>F t
 |i::rs,t=>∃d v,(∀h',Hs h'→jx P w0 S n h' ops i t d v)∧zK P w0 S n Hs ops F rs (t.setIfInBounds d v)
theorem zK.seq {Hs:Hl→Prop} {F:Array Value→Prop}:∀{rs:List Nat} {t:Array Value},zK P w0 S n Hs ops F rs t→∃(D:Nat→Nat) (V:Nat→Value),(∀j,j<rs.length→∀h',Hs h'→jx P w0 S n h' ops (rs.getD j 0) (oE D V t j) (D j) (V j))∧F (oE D V t rs.length)
 |[],t,hF=>⟨fun _=>0,fun _=>undef,fun j hj=>absurd hj (Nat.not_lt_zero _),hF⟩
 |i::rs,t,⟨d,v,ho,hr⟩=>by
  obtain ⟨D,V,h1,h2⟩:=zK.seq hr
  refine ⟨fun j=>match j with|0=>d|j+1=>D j,fun j=>match j with|0=>v|j+1=>V j,fun j hj=>?_,?_⟩
  ·cases j with
   |zero=>exact ho
   |succ j=>
    have:=h1 j (by simpa using hj)
    rw [jV]
    simpa using this
  rw [List.length_cons,jV];exact h2
def BV (P:Program) (w0:World) (S:List Nat) (n:Nat) (Hs:Hl→Prop) (ops:Array Oper) (F:Fl→Prop) (rs:List Nat) (l:Fl):Prop:=
 ∀t,jv n t l→zK P w0 S n Hs ops (fun t'=>∃l',jv n t' l'∧F l') rs t
theorem BV.nil {Hs:Hl→Prop} {F:Fl→Prop} (hg:F l):BV P w0 S n Hs ops F [] l:=fun _ hF=>⟨l,hF,hg⟩
theorem BV.v {Hs:Hl→Prop} {F:Fl→Prop} {i:Nat} {rs:List Nat} (d:Nat) (v:Value) (hd:Nat.blt d n=true) (hv:∀h',Hs h'→ae P w0 S n h' ops i l d v) (hg:BV P w0 S n Hs ops F rs ((d,v)::l)):BV P w0 S n Hs ops F (i::rs) l:=by
 intro t hF
 refine ⟨d,v,fun h' hh=>?_,hg _ (hF.put v hd)⟩
 obtain ⟨o,ho,hw,hdst,hnd,hd,hr⟩:=hv h' hh
 exact ⟨o,ho,hdst,by simpa [Nat.blt_eq] using hd,hnd,.inl ⟨eI hF hw,fun w Ds Y' hS=>by obtain ⟨nx,h1,rfl⟩:=hr t w Ds Y' hF hS;exact .inl h1⟩⟩
theorem wF {c:Nat} {rs ls:List Nat} (hf:qs ops rs c ls) {Hs:Hl→Prop} (hh0:Hs h) {D:Nat→Nat} {V:Nat→Value} {t0:Array Value} (ht0:t0.size=n) {l':Fl} {d:Nat} {K:Value→Hl→Prop}
  (hout:∀j,j<rs.length→∀h',Hs h'→jx P w0 S n h' ops (rs.getD j 0) (oE D V t0 j) (D j) (V j)) (hFr:jv n (oE D V t0 rs.length) l') (hm:dk P w0 S n h ops c l' d K)
  (hK:∀v h',K v h'→Hs h'∧ab P r f R w0 S Y n (.inRegion ops ls::k) ((d,v)::l') h'):
  ∀(fuel τ:Nat) (arr:Array Bool) (t:Array Value),arr.size=ops.size→(∀j,arr.getD j false=true→∀e∈bP ops j,arr.getD e false=true)→(∀j,¬(j=c∨j∈rs)→arr.getD j false=false)→t.size=n→
   (∀j,j<rs.length→arr.getD (rs.getD j 0) false=true→t.getD (D j) undef=V j)→(∀s,(∀j,j<rs.length→arr.getD (rs.getD j 0) false=true→D j≠s)→(arr.getD c false=true→d≠s)→t.getD s undef=t0.getD s undef)→
   (List.range ops.size).countP (fun j=>!arr.getD j false)≤fuel→∀w Ds,
   (arr.getD c false=false∧St w0 S w h (mR Ds++Y)∨arr.getD c false=true∧∃v h',K v h'∧t.getD d undef=v∧St w0 S w h' (mR Ds++Y))→
   dN P r f R (.inRegion ops (Region.linearise.go .any ops fuel τ arr [])::k) t (Ds.map mark) w:=by
 have hmem:∀j,j<rs.length→rs.getD j 0∈rs:=fun j hj=>by rw [List.getD_eq_getElem?_getD,List.getElem?_eq_getElem hj];exact List.getElem_mem hj
 have hpos:∀i,i∈rs→∃j,j<rs.length∧rs.getD j 0=i:=fun i hi=>by
  obtain ⟨j,hj,rfl⟩:=List.mem_iff_getElem.1 hi
  exact ⟨j,hj,by rw [List.getD_eq_getElem?_getD,List.getElem?_eq_getElem hj];rfl⟩
 have hpinj:∀i j,i<rs.length→j<rs.length→rs.getD i 0=rs.getD j 0→i=j:=fun i j hi hj e=>by
  rcases Nat.lt_trichotomy i j with h1|h1|h1
  ·have:=hf.inc i j h1 hj;omega
  ·exact h1
  have:=hf.inc j i h1 hi;omega
 have hDst:∀j,j<rs.length→bj ops (rs.getD j 0)=some (D j):=fun j hj=>by
  obtain ⟨o,h1,h2,_⟩:=hout j hj h hh0
  unfold bj;rw [h1];exact h2
 have hdst:bj ops c=some d:=by
  obtain ⟨o,h1,h2,_⟩:=hm
  simp [bj,h1,h2]
 have hdn:d<n:=by
  obtain ⟨o,_,_,_,_,h5,_⟩:=hm
  simpa [Nat.blt_eq] using h5
 have hDlt:∀j,j<rs.length→D j<t0.size:=fun j hj=>by
  obtain ⟨o,_,_,h3,_⟩:=hout j hj h hh0;omega
 have hDinj:∀i j,i<rs.length→j<rs.length→D i=D j→i=j:=fun i j hi hj e=>hpinj i j hi hj (hf.inj _ _ (D i) (.inr (hmem i hi)) (.inr (hmem j hj)) (hDst i hi) (by rw [hDst j hj,e]))
 have hDd:∀j,j<rs.length→D j≠d:=fun j hj e=>
  (hf.EW _ (hmem j hj)).2 (hf.inj _ c d (.inr (hmem j hj)) (.inl rfl) (by rw [hDst j hj,e]) hdst)
 have fin:∀(fuel τ:Nat) (arr:Array Bool) (t:Array Value),arr.size=ops.size→(∀j,¬(j=c∨j∈rs)→arr.getD j false=false)→t.size=n→(∀j,(j=c∨j∈rs)→arr.getD j false=true)→
   (∀j,j<rs.length→arr.getD (rs.getD j 0) false=true→t.getD (D j) undef=V j)→(∀s,(∀j,j<rs.length→arr.getD (rs.getD j 0) false=true→D j≠s)→(arr.getD c false=true→d≠s)→t.getD s undef=t0.getD s undef)→
   (List.range ops.size).countP (fun j=>!arr.getD j false)≤fuel→∀w Ds v h',K v h'→t.getD d undef=v→St w0 S w h' (mR Ds++Y)→
   dN P r f R (.inRegion ops (Region.linearise.go .any ops fuel τ arr [])::k) t (Ds.map mark) w:=by
  intro fuel τ arr t has hno hts hall h1 h2 hc w Ds v h' hKv hv hS
  have harr:∀j,arr.getD j false=(c::rs).contains j:=fun j=>by
   by_cases hj:j=c∨j∈rs
   ·rw [hall j hj];symm;rw [List.contains_iff_mem,List.mem_cons];exact hj
   rw [hno j hj];symm;rw [←Bool.not_eq_true,List.contains_iff_mem,List.mem_cons];exact hj
  have hlen:=mg hf.DM
  have hcnt:(List.range ops.size).countP (fun j=>!(c::rs).contains j)=(List.range ops.size).countP (fun j=>!arr.getD j false):=by
   congr 1;funext j;rw [harr j]
  rw [nT hf.DM has harr (by omega)]
  have ht:t=(oE D V t0 rs.length).setIfInBounds d v:=by
   obtain ⟨g1,g2⟩:=jz hDlt hDinj rs.length (Nat.le_refl _)
   have hdT:d<(oE D V t0 rs.length).size:=by rw [gp];omega
   refine Array.ext_getElem? (fun s=>iw (by rw [hts,Array.size_setIfInBounds,gp,ht0]) ?_)
   rw [cu hdT]
   by_cases hs:d=s
   ·subst hs;rw [if_pos rfl,hv]
   rw [if_neg hs]
   by_cases hx:∃j,j<rs.length∧D j=s
   ·obtain ⟨j,hj,rfl⟩:=hx
    rw [h1 j hj (hall _ (.inr (hmem j hj))),g1 j hj]
   rw [h2 s (fun j hj _ e=>hx ⟨j,hj,e⟩) (fun _=>hs),g2 s (fun j hj e=>hx ⟨j,hj,e⟩)]
  rw [ht]
  exact (hK v h' hKv).2 _ w Ds (hFr.put v (by simpa [Nat.blt_eq] using hdn)) hS
 intro fuel
 induction fuel with
 |zero=>
  intro τ arr t has hcl hno hts h1 h2 hc w Ds hmm
  have hl:∀j,j<ops.size→arr.getD j false=true:=fun j hj=>by
   have:=List.countP_eq_zero.1 (Nat.le_zero.1 hc) j (by simpa using hj)
   simpa using this
  have hsz:=hf.size
  rcases hmm with ⟨h3,_⟩|⟨_,v,h',h4,h5,h6⟩
  ·rw [hl c hsz] at h3;cases h3
  exact fin 0 τ arr t has hno hts (fun j hj=>hl j (by rcases hj with rfl|hj;exact hsz;exact (hf.EW j hj).1)) h1 h2 hc w Ds v h' h4 h5 h6
 |succ fuel ih=>
  intro τ arr t has hcl hno hts h1 h2 hc w Ds hmm
  have hsz:=hf.size
  by_cases hall:∀j,(j=c∨j∈rs)→arr.getD j false=true
  ·rcases hmm with ⟨h3,_⟩|⟨_,v,h',h4,h5,h6⟩
   ·rw [hall c (.inl rfl)] at h3;cases h3
   ·exact fin (fuel+1) τ arr t has hno hts hall h1 h2 hc w Ds v h' h4 h5 h6
  obtain ⟨j0,hj0⟩:=Classical.not_forall.1 hall
  obtain ⟨hj0c,hj0u⟩:=Classical.not_imp.1 hj0
  rw [Bool.not_eq_true] at hj0u
  have hj0s:j0<ops.size:=by rcases hj0c with rfl|hj;exact hsz;exact (hf.EW j0 hj).1
  have hready:Region.ready .any ops arr≠[]:=by
   have key:∀q,q<ops.size→arr.getD q false=false→Region.ready .any ops arr≠[]:=by
    intro q
    induction q using Nat.strongRecOn with
    |_ q ihq=>
     intro hq hqu
     by_cases hb:∃e∈bP ops q,arr.getD e false=false
     ·obtain ⟨e,he,heu⟩:=hb
      have hlt:=hf.lt q hq e he
      exact ihq e hlt (by omega) heu
     obtain ⟨o,ho⟩:∃o,ops[q]?=some o:=⟨ops[q],Array.getElem?_eq_getElem hq⟩
     have:q∈Region.ready .any ops arr:=by
      rw [mem_ready]
      refine ⟨by rw [kB (by omega)];exact hqu,o,ho,fun e he hbd=>?_⟩
      cases hx:arr.getD e.on false with
      |true=>rfl
      |false=>exact absurd ⟨e.on,(j7 ho).2 ⟨e,he,hbd,rfl⟩,hx⟩ hb
     exact List.ne_nil_of_mem this
   exact key j0 hj0s hj0u
  simp only [Region.linearise.go]
  change dN P r f R (.inRegion ops (match (Region.ready .any ops arr)[τ%(Region.ready .any ops arr).length]? with
   |some i=>Region.linearise.go .any ops fuel (τ / (Region.ready .any ops arr).length) (arr.setIfInBounds i true) [i]
   |none=>[].reverse)::k) t (Ds.map mark) w
  cases hi:(Region.ready .any ops arr)[τ%(Region.ready .any ops arr).length]? with
  |none=>
   exfalso
   cases hr:Region.ready .any ops arr with
   |nil=>exact hready hr
   |cons x xs=>
    rw [hr] at hi
    have hlt:τ%(x::xs).length<(x::xs).length:=Nat.mod_lt _ (by simp)
    rw [List.getElem?_eq_getElem hlt] at hi;cases hi
  |some i=>
   have hmemi:=List.mem_of_getElem? hi
   rw [mem_ready] at hmemi
   obtain ⟨hu,o,ho,hdep⟩:=hmemi
   have hiN:i<ops.size:=(Array.getElem?_eq_some_iff.1 ho).1
   rw [kB (by omega)] at hu
   simp only []
   rw [linearise_go_acc,List.reverse_singleton,List.singleton_append]
   have hdl:∀e∈bP ops i,arr.getD e false=true:=fun e he=>by
    obtain ⟨e',he',hb,rfl⟩:=(j7 ho).1 he
    exact hdep e' he' hb
   have hic:i=c∨i∈rs:=by
    apply Classical.byContradiction
    intro hgt
    rcases hf.late i hiN hgt with ⟨j,e1,e2⟩|e
    ·have:=hdl j e1;rw [hno j e2] at this;cases this
    have:=mG (ops:=ops) (listed:=fun j=>arr.getD j false) hcl (e j0 hj0c) hdl
    rw [hj0u] at this;cases this
   have hcl':∀j,(arr.setIfInBounds i true).getD j false=true→∀e∈bP ops j,(arr.setIfInBounds i true).getD e false=true:=by
    intro j hj e he
    rw [aJ (by omega)] at hj⊢
    split
    ·rfl
    split at hj
    ·rename_i hij;subst hij;exact hdl e he
    exact hcl j hj e he
   have hno':∀j,¬(j=c∨j∈rs)→(arr.setIfInBounds i true).getD j false=false:=fun j hj=>by
    rw [aJ (by omega),if_neg (fun e:i=j=>hj (by rw [←e];exact hic))];exact hno j hj
   have hcnt:=count_set (listed:=arr) has hiN hu
   by_cases him:i∈rs
   ·-- a read
    obtain ⟨p,hp,hpe⟩:=hpos i him
    have heyes:∀o',ops[i]?=some o'→∀s∈fS ops o',t.getD s undef=(oE D V t0 p).getD s undef:=fun o' ho' s hs=>by
     obtain ⟨g1,g2⟩:=jz hDlt hDinj p (by omega)
     by_cases hx:∃j,j<rs.length∧D j=s
     ·obtain ⟨j,hj,rfl⟩:=hx
      have hjd:=hf.zU i hic o' ho' (D j) hs _ (.inr (hmem j hj)) (hDst j hj)
      have hjp:j<p:=by
       have h3:=hf.lt i hiN _ hjd
       rw [←hpe] at h3
       rcases Nat.lt_trichotomy j p with h4|h4|h4
       ·exact h4
       ·subst h4;omega
       have:=hf.inc p j h4 hj;omega
      rw [h1 j hj (hdl _ hjd),g1 j hjp]
     have hsd:arr.getD c false=true→d≠s:=fun _ e=>by
      subst e
      have:=hf.GA i him c (hf.zU i hic o' ho' d hs c (.inl rfl) hdst)
      exact (hf.EW c this).2 rfl
     rw [h2 s (fun j hj _ e=>hx ⟨j,hj,e⟩) hsd,g2 s (fun j hj e=>hx ⟨j,by omega,e⟩)]
    have hOut:∀h',Hs h'→jx P w0 S n h' ops i t (D p) (V p):=fun h' hh=>by
     have:=hout p hp h' hh
     rw [hpe] at this
     exact this.congr (hf.xS i hic) (by rw [hts,gp,ht0]) heyes
    have hDi:D p<t.size:=by rw [hts,←ht0];exact hDlt p hp
    have hcc:(arr.setIfInBounds i true).getD c false=arr.getD c false:=by rw [aJ (by omega),if_neg ((hf.EW i him).2)]
    have next:∀w',(arr.getD c false=false∧St w0 S w' h (mR Ds++Y)∨arr.getD c false=true∧∃v h',K v h'∧t.getD d undef=v∧St w0 S w' h' (mR Ds++Y))→
      dN P r f R (.inRegion ops (Region.linearise.go .any ops fuel (τ / (Region.ready .any ops arr).length) (arr.setIfInBounds i true) [])::k) (t.setIfInBounds (D p) (V p)) (Ds.map mark) w':=fun w' hmem'=>by
     refine ih _ _ _ (by simpa using has) hcl' hno' (by simpa using hts) (fun j hj hlj=>?_) (fun s hs hsd=>?_) (by omega) w' Ds ?_
     ·rw [cu hDi]
      split
      ·rename_i e;rw [hDinj p j hp hj e]
      rename_i e
      rw [aJ (by omega)] at hlj
      split at hlj
      ·rename_i e2;exact absurd (by rw [hpinj p j hp hj (by rw [hpe,e2])]) e
      exact h1 j hj hlj
     ·rw [cu hDi,if_neg (hs p hp (by rw [hpe,aJ (by omega),if_pos rfl]))]
      refine h2 s (fun j hj hlj=>hs j hj ?_) (fun hx=>hsd (by rw [hcc];exact hx))
      rw [aJ (by omega)];split
      ·rfl
      exact hlj
     rw [hcc,cu hDi,if_neg (hDd p hp)];exact hmem'
    rcases hmm with ⟨h3,hS⟩|⟨h3,v,h',h4,h5,hS⟩
    ·exact (hOut h hh0).go hS (fun w' hS'=>next w' (.inl ⟨h3,hS'⟩))
    exact (hOut h' (hK v h' h4).1).go hS (fun w' hS'=>next w' (.inr ⟨h3,v,h',h4,h5,hS'⟩))
   -- the operation that turns memory
   have hice:i=c:=by rcases hic with e|e;exact e;exact absurd e him
   subst hice
   have heyes:∀o',ops[i]?=some o'→∀s∈fS ops o',t.getD s undef=(oE D V t0 rs.length).getD s undef:=fun o' ho' s hs=>by
    obtain ⟨g1,g2⟩:=jz hDlt hDinj rs.length (Nat.le_refl _)
    by_cases hx:∃j,j<rs.length∧D j=s
    ·obtain ⟨j,hj,rfl⟩:=hx
     have hjd:=hf.zU i hic o' ho' (D j) hs _ (.inr (hmem j hj)) (hDst j hj)
     rw [h1 j hj (hdl _ hjd),g1 j hj]
    have hsd:arr.getD i false=true→d≠s:=fun _ e=>by
     subst e
     have:=hf.lt i hiN i (hf.zU i hic o' ho' d hs i (.inl rfl) hdst)
     omega
    rw [h2 s (fun j hj _ e=>hx ⟨j,hj,e⟩) hsd,g2 s (fun j hj e=>hx ⟨j,hj,e⟩)]
   rcases hmm with ⟨h3,hS⟩|⟨h3,_⟩
   ·refine dk.go hm hFr (by rw [hts,gp,ht0]) heyes hS (fun v w' h' hKv hS'=>?_)
    have hdt:d<t.size:=by omega
    refine ih _ _ _ (by simpa using has) hcl' hno' (by simpa using hts) (fun j hj hlj=>?_) (fun s hs hsd=>?_) (by omega) w' Ds ?_
    ·rw [cu hdt,if_neg (fun e=>hDd j hj e.symm)]
     rw [aJ (by omega),if_neg (fun e:i=rs.getD j 0=>him (by rw [e];exact hmem j hj))] at hlj
     exact h1 j hj hlj
    ·rw [cu hdt,if_neg (hsd (by rw [aJ (by omega),if_pos rfl]))]
     refine h2 s (fun j hj hlj=>hs j hj ?_) (fun hx=>by rw [h3] at hx;cases hx)
     rw [aJ (by omega),if_neg (fun e:i=rs.getD j 0=>him (by rw [e];exact hmem j hj))];exact hlj
    refine .inr ⟨by rw [aJ (by omega),if_pos rfl],v,h',hKv,?_,hS'⟩
    rw [cu hdt,if_pos rfl]
   rw [hu] at h3;cases h3
theorem ab.FI {id:Nat} (rs:List Nat) (c:Nat) (ls:List Nat) (Hs:Hl→Prop) (hmix:P.follows .mixedOrders=true) (hc:oZ ops l rs c ls=true) (hh0:Hs h)
  (hg:BV P w0 S n Hs ops (fun l'=>∃d K,dk P w0 S n h ops c l' d K∧∀v h',K v h'→Hs h'∧ab P r f R w0 S Y n (.inRegion ops ls::k) ((d,v)::l') h') rs l):ab P r f R w0 S Y n (.code (.region id ops true)::k) l h:=by
 intro t w Ds hF hS
 have hf:=v8 hc
 refine .i7 (fun τ=>?_)
 obtain ⟨D,V,hout,l',hFr,d,K,hm,hK⟩:=(hg t hF).seq
 simp only [Region.schedule,hmix,Bool.true_or,if_true,Region.linearise]
 have h0:∀j,(Array.replicate ops.size false).getD j false=false:=fun j=>by
  simp [Array.getD_eq_getD_getElem?,Array.getElem?_replicate];split<;>simp
 refine wF hf hh0 hF.1 hout hFr hm hK ops.size τ _ t (by simp) (fun j hj=>?_) (fun j _=>h0 j) hF.1 (fun j _ hj=>?_) (fun s _ _=>rfl) ?_ _ Ds (.inl ⟨h0 c,hS.drew⟩)
 ·rw [h0 j] at hj;cases hj
 ·rw [h0 _] at hj;cases hj
 exact Nat.le_trans (List.countP_le_length) (by simp)
end
end Go.Proofs.Wit
namespace Go.Proofs.Wit
open Go Go.RowKit
abbrev Nm:=List (Int×FV)
abbrev iq:Int→Int→Bool:=fun a b=>a==b
theorem j6 {ν:Type}:∀{L:List (Int×ν)} {k:Int} {v:ν},cG iq L k=some v→(k,v)∈L
 |[],_,_,h=>by cases h
 |(a,b)::L,k,v,h=>by
  rw [cG] at h
  split at h
  ·rename_i hq
   have:a=k:=(eq_of_beq hq).symm
   cases h;rw [this];simp
  exact List.mem_cons_of_mem _ (j6 h)
theorem jc {ν:Type}:∀{L:List (Int×ν)} {k:Int},cG iq L k=none↔∀e∈L,e.1≠k
 |[],_=>by simp [cG]
 |(a,b)::L,k=>by
  rw [cG]
  split
  ·rename_i hq
   have:a=k:=(eq_of_beq hq).symm
   simp [this]
  rename_i hq
  have hne:a≠k:=by rintro rfl;exact hq (by simp [iq])
  rw [jc]
  constructor
  ·intro h e he
   rcases List.mem_cons.1 he with rfl|he
   ·exact hne
   exact h e he
  exact fun h e he=>h e (List.mem_cons_of_mem _ he)
theorem pE {w:World} {S:List Nat} (hm:∀b∈S,∃es k,w.heap[b]?=some (.map es k)) {a:Option Addr} {xs:List Value} (h:Sl w a xs) (h0:0<xs.length):∀b o,a=some ⟨b,o,none⟩→b∉S:=fun b o e hb=>by
 obtain ⟨es,k,hm⟩:=hm b hb
 have:=h.cell 0 h0
 subst e
 unfold nr World.cell? at this
 simp only [Option.getD_some,hm] at this
 cases this
theorem Sl.y4 {w w':World} {S:List Nat} (hm:∀b∈S,∃es k,w.heap[b]?=some (.map es k)) {a:Option Addr} {xs:List Value} (h:Sl w a xs) (e:Ex S w w'):Sl w' a xs:=by
 by_cases h0:0<xs.length
 ·exact h.ex e (pE hm h h0)
 rw [List.eq_nil_of_length_eq_zero (by omega:xs.length=0)];exact Sl.nil _ _
theorem FA.y4 {w w':World} {S:List Nat} (hm:∀b∈S,∃es k,w.heap[b]?=some (.map es k)) {a:Option Addr} {f:List NV} (h:FA w a f) (e:Ex S w w'):FA w' a f:=⟨Sl.y4 hm h.at_ e⟩
def dy (P:Program) (r:Option Nat) (f:FuncId) (R:Value→World→Prop) (w0:World) (S:List Nat) (Y:List (Nat×Obj)) (n:Nat) (k:List Item) (hb:Option Nat×Obj) (ht:Hl) (ops:Array Oper) (c:Nat) (ls rs:List Nat) (l:Fl):Prop:=
 BV P w0 S n (fun h'=>∃H,h'=hb::H) ops (fun l'=>∃d K,dk P w0 S n (hb::ht) ops c l' d K∧∀v h',K v h'→(∃H,h'=hb::H)∧ab P r f R w0 S Y n (.inRegion ops ls::k) ((d,v)::l') h') rs l
section
variable {P:Program} {r:Option Nat} {f:FuncId} {R:Value→World→Prop} {w0:World} {S:List Nat} {Y:List (Nat×Obj)} {n:Nat} {k:List Item} {l:Fl} {hb:Option Nat×Obj} {ht:Hl} {ops:Array Oper} {c:Nat} {ls:List Nat}
theorem ab.nU {id:Nat} (rs:List Nat) (c:Nat) (ls:List Nat) (hmix:P.follows .mixedOrders=true) (hc:oZ ops l rs c ls=true) (hg:dy P r f R w0 S Y n k hb ht ops c ls rs l):ab P r f R w0 S Y n (.code (.region id ops true)::k) l (hb::ht):=
 ab.FI rs c ls _ hmix hc ⟨ht,rfl⟩ hg
theorem dy.v {i d:Nat} {rs:List Nat} {v:Value} (hv:∀H,ae P w0 S n (hb::H) ops i l d v) (hg:dy P r f R w0 S Y n k hb ht ops c ls rs ((d,v)::l)):dy P r f R w0 S Y n k hb ht ops c ls (i::rs) l:=by
 obtain ⟨_,_,_,_,_,hd,_⟩:=hv []
 exact BV.v d v hd (fun h' ⟨H,e⟩=>by subst e;exact hv H) hg
theorem dy.iG {d:Nat} {ty:TypeId} {pos:String} {aft:Array Edge} {g:Option (Nat×Bool)} {az:Array Operand} {ts:Array TypeId} {cal:Operand} {gf:FuncId} {fs cs vs:List Value} {hC hF:Hl} (hp:(hb::ht).Perm (hC++hF)) (Rc:World→Value→Hl→Prop) (ho:ops[c]?=some ⟨some d,.call ⟨.value cal,az,ts⟩,ty,pos,aft,g⟩) (hw:au ops l g=true)
  (hc:aU l cal=some (.func (.func gf) fs.toArray cs.toArray)) (hx:dq l az.toList=some vs) (hd:Nat.blt d n=true) (hcf:∀args w,(callFunc gf args).run P w=.ok (.enter gf args) w)
  (hcall:∀w Y',St w0 S w (hC++hF) Y'→qv P gf (fs++vs++cs) w hC (Rc w))
  (hk:∀w v h',Rc w v h'→∃H,(h'++hF).Perm (hb::H)∧ab P r f R w0 S Y n (.inRegion ops ls::k) ((d,v)::l) (hb::H)):dy P r f R w0 S Y n k hb ht ops c ls [] l:=by
 refine BV.nil ⟨d,fun v h'=>(∃H,h'=hb::H)∧ab P r f R w0 S Y n (.inRegion ops ls::k) ((d,v)::l) h',?_,fun _ _ hK=>hK⟩
 refine ⟨_,ho,rfl,rfl,rfl,hd,.inl ⟨hw,fun t w Ds Y' hF' hS=>.inr ⟨gf,(fs++vs++cs).toArray,fun v w'=>∃h',Rc w v h'∧St w (cI hC) w' h' [],?_,?_,fun v w' ⟨h',h1,h2⟩=>?_⟩⟩⟩
 ·have e1:=gh (P:=P) (ty:=ty) (ts:=ts) (Ds:=Ds) (w:=w) hF' hc hx
  simp only [execOp,Sem.run_bind,e1,Result.andThen_ok,invoke,hcf]
  simp
 ·exact Calls.mono (hcall w Y' (hS.perm hp)) (fun e w' ⟨v,h',e1,e2,e3⟩=>⟨v,e1,h',e2,e3⟩)
 obtain ⟨H,hp2,hg⟩:=hk w v h' h1
 exact ⟨hb::H,((hS.perm hp).frame h2).perm hp2,⟨H,rfl⟩,hg⟩
end
abbrev jS (m0:Nat) (L0:Nm) (m1:Nat) (L1:Nm):Hl:=[(some m0,lh (Value.int .i64) FV.v L0),(some m1,lh (Value.int .i64) FV.v L1)]
abbrev AX (na:Option Addr) (nl nc m0 m1:Nat):Array Value:=#[.slice na nl nc,.map (some m0),.map (some m1)]
structure zO (c:List NV) (L0 L1:Nm):Prop where
  e0:∀e∈L0,∃k:Nat,e.1=(k:Int)∧e.2.f=bT (aN (aa c k)).1
  e1:∀e∈L1,∃k:Nat,e.1=(k:Int)∧e.2.f=bT (aN (aa c k)).2
def fK (t:TypeId) (L0 L1:Nm) (F:Hl) (x:FV):Prop:=x.In t F∨(∃k,(k,x)∈L0)∨∃k,(k,x)∈L1
structure cM (t:TypeId) (c:List NV) (d:Nat) (L0 L1 L0' L1':Nm) (F:Hl):Prop where
  kv:zO c L0' L1'
  s0:L0⊆L0'
  s1:L1⊆L1'
  n0:∀e∈L0',e∈L0∨(e.1<(d:Int)∧fK t L0 L1 F e.2)
  n1:∀e∈L1',e∈L1∨(e.1<(d:Int)∧fK t L0 L1 F e.2)
section
variable {t:TypeId} {c:List NV}
theorem fK.mono {L0 L1 L0' L1':Nm} {F F':Hl} {x:FV} (h:fK t L0 L1 F x) (s0:L0⊆L0') (s1:L1⊆L1') (hs:F⊆F'):fK t L0' L1' F' x:=
 h.imp (fun h=>h.mono hs) (Or.imp (fun ⟨k,h⟩=>⟨k,s0 h⟩) (fun ⟨k,h⟩=>⟨k,s1 h⟩))
theorem fK.base {d:Nat} {L0 L1 L0' L1':Nm} {F:Hl} {x:FV} (h:cM t c d L0 L1 L0' L1' F) (g:fK t L0' L1' F x):fK t L0 L1 F x:=by
 rcases g with g|⟨k,g⟩|⟨k,g⟩
 ·exact .inl g
 ·rcases h.n0 _ g with h1|h1
  ·exact .inr (.inl ⟨k,h1⟩)
  ·exact h1.2
 rcases h.n1 _ g with h1|h1
 ·exact .inr (.inr ⟨k,h1⟩)
 exact h1.2
theorem cM.refl {d:Nat} {L0 L1:Nm} (h:zO c L0 L1):cM t c d L0 L1 L0 L1 []:=⟨h,fun _ h=>h,fun _ h=>h,fun _ h=>.inl h,fun _ h=>.inl h⟩
theorem cM.mono {d d':Nat} {L0 L1 L0' L1':Nm} {F F':Hl} (h:cM t c d L0 L1 L0' L1' F) (hd:d≤d') (hs:F⊆F'):cM t c d' L0 L1 L0' L1' F':=
 ⟨h.kv,h.s0,h.s1,fun e he=>(h.n0 e he).imp id (fun h=>⟨by omega,h.2.mono (fun _ h=>h) (fun _ h=>h) hs⟩),fun e he=>(h.n1 e he).imp id (fun h=>⟨by omega,h.2.mono (fun _ h=>h) (fun _ h=>h) hs⟩)⟩
theorem cM.seq {d d':Nat} {L0 L1 L0' L1' L0'' L1'':Nm} {F F' H:Hl} (h:cM t c d L0 L1 L0' L1' F) (g:cM t c d' L0' L1' L0'' L1'' F') (hd:d'≤d) (h1:F⊆H) (h2:F'⊆H):cM t c d L0 L1 L0'' L1'' H:=by
 have hh:=h.mono (Nat.le_refl _) h1
 have hb:∀{x:FV},fK t L0' L1' F' x→fK t L0 L1 H x:=fun hx=>(hx.mono (fun _ h=>h) (fun _ h=>h) h2).base hh
 refine ⟨g.kv,fun _ hx=>g.s0 (h.s0 hx),fun _ hx=>g.s1 (h.s1 hx),fun e he=>?_,fun e he=>?_⟩
 ·rcases g.n0 e he with h3|⟨h3,h4⟩
  ·exact hh.n0 e h3
  ·exact .inr ⟨by omega,hb h4⟩
 rcases g.n1 e he with h3|⟨h3,h4⟩
 ·exact hh.n1 e h3
 exact .inr ⟨by omega,hb h4⟩
structure mq (t tn:TypeId) (c:List NV) (na:Option Addr) (nc bk m0 m1:Nat) (w:World) (L0 L1:Nm):Prop where
  has:iB w (jS m0 L0 m1 L1)
  dg:w.heap[bk]?=some (.cells (AX na c.length nc m0 m1) tn (0,0))
  fa:FA w na c
  f0:∀e∈L0,FA w e.2.a e.2.f
  f1:∀e∈L1,FA w e.2.a e.2.f
  kv:zO c L0 L1
variable {tn:TypeId} {na:Option Addr} {nc bk m0 m1:Nat} {w:World} {L0 L1:Nm}
theorem mq.maps (h:mq t tn c na nc bk m0 m1 w L0 L1):∀b∈[m0,m1],∃es k,w.heap[b]?=some (.map es k):=fun b hb=>by
 simp only [List.mem_cons,List.not_mem_nil,or_false] at hb
 rcases hb with rfl|rfl
 ·exact ⟨_,_,(h.has.own _ (List.mem_cons_self ..) _ rfl).1⟩
 exact ⟨_,_,(h.has.own _ (List.mem_cons_of_mem _ (List.mem_cons_self ..)) _ rfl).1⟩
theorem mq.ne (h:mq t tn c na nc bk m0 m1 w L0 L1):bk∉[m0,m1]:=fun hb=>by
 obtain ⟨es,k,hm⟩:=h.maps bk hb
 rw [h.dg] at hm;cases hm
theorem fK.fa {w' w0:World} {S:List Nat} {h:Hl} {Y:List (Nat×Obj)} {d:Nat} {L0' L1':Nm} {F:Hl} {x:FV} (g:fK t L0' L1' F x) (hp:mq t tn c na nc bk m0 m1 w L0 L1) (gr:cM t c d L0 L1 L0' L1' F) (e:Ex [m0,m1] w w') (s:St w0 S w' h Y) (hs:F⊆h):FA w' x.a x.f:=by
 rcases g.base gr with g|⟨k,g⟩|⟨k,g⟩
 ·exact (g.mono hs).at s
 ·exact (hp.f0 _ g).y4 hp.maps e
 exact (hp.f1 _ g).y4 hp.maps e
theorem mq.step {w':World} {h:Hl} {Y:List (Nat×Obj)} {L0' L1':Nm} {F:Hl} {d:Nat} (g:mq t tn c na nc bk m0 m1 w L0 L1) (s:St w [m0,m1] w' h Y) (hs:(jS m0 L0' m1 L1').Sublist h) (hF:F⊆h) (gr:cM t c d L0 L1 L0' L1' F):mq t tn c na nc bk m0 m1 w' L0' L1':=
  ⟨(s.dH hs).has,by rw [s.ext.block bk (Array.getElem?_eq_some_iff.1 g.dg).1 g.ne];exact g.dg,g.fa.y4 g.maps s.ext,
   fun e he=>fK.fa (x:=e.2) (.inr (.inl ⟨e.1,he⟩)) g gr s.ext s hF,fun e he=>fK.fa (x:=e.2) (.inr (.inr ⟨e.1,he⟩)) g gr s.ext s hF,gr.kv⟩
def pn (no:Bool) (p:Tr×Tr):Tr:=if no then p.2 else p.1
def jr (t:TypeId) (c:List NV) (m0 m1 d:Nat) (u:Tr) (L0 L1:Nm) (v:Value) (h':Hl):Prop:=
 ∃fv L0' L1' F,v=FV.v fv∧h'=jS m0 L0' m1 L1'++F∧cM t c d L0 L1 L0' L1' F∧fv.f=bT u∧fK t L0' L1' F fv
end
section
variable {P:Program} {r:Option Nat} {f:FuncId} {R:Value→World→Prop} {w0:World} {Y:List (Nat×Obj)} {n:Nat} {k:List Item} {l:Fl} {hb:Option Nat×Obj} {ops:Array Oper} {i d:Nat} {rest:List Nat} {ty:TypeId} {pos:String} {aft:Array Edge} {g:Option (Nat×Bool)}
variable {az:Array Operand} {ts:Array TypeId} {cal:Operand} {gf:FuncId} {vs:List Value} {t tn:TypeId} {c:List NV} {na:Option Addr} {nc bk m0 m1 D D':Nat} {L0 L1 La Lb:Nm} {F:Hl} {u:Tr}
theorem mJ {A B:Hl}:(hb::(A++B)).Perm (A++(hb::B)):=List.perm_middle.symm
theorem rI {A B C:Hl}:((A++B)++(hb::C)).Perm (hb::(A++(B++C))):=by
 rw [←List.append_assoc];exact List.perm_middle
theorem ab.ey (hp:mq t tn c na nc bk m0 m1 w0 L0 L1) (gr:cM t c D L0 L1 La Lb F) (hj:D'≤D) (ho:ops[i]?=some ⟨some d,.call ⟨.value cal,az,ts⟩,ty,pos,aft,g⟩) (hw:au ops l g=true)
  (hc:aU l cal=some (.func (.func gf) #[] #[])) (hx:dq l az.toList=some vs) (hd:Nat.blt d n=true) (hcf:∀args w,(callFunc gf args).run P w=.ok (.enter gf args) w)
  (hof:∀w L0 L1,mq t tn c na nc bk m0 m1 w L0 L1→qv P gf vs w (jS m0 L0 m1 L1) (jr t c m0 m1 D' u L0 L1))
  (hk:∀fv La' Lb' F',cM t c D L0 L1 La' Lb' F'→(∀x,fK t La Lb F x→fK t La' Lb' F' x)→fv.f=bT u→fK t La' Lb' F' fv→ab P r f R w0 [m0,m1] Y n (.inRegion ops rest::k) ((d,fv.v)::l) (hb::(jS m0 La' m1 Lb'++F'))):
  ab P r f R w0 [m0,m1] Y n (.inRegion ops (i::rest)::k) l (hb::(jS m0 La m1 Lb++F)):=by
 refine ab.mK (h':=jS m0 La m1 Lb++(hb::F)) mJ ?_
 refine ab.iG (h:=jS m0 La m1 Lb) (hF:=hb::F) (fs:=[]) (cs:=[]) (fun _=>jr t c m0 m1 D' u La Lb) ho hw hc hx hd hcf (fun w Y' hS=>?_) (fun w v h' hR=>?_)
 ·rw [List.nil_append,List.append_nil]
  exact hof w _ _ (hp.step hS (List.sublist_append_left _ _) (fun _ h=>List.mem_append_right _ (List.mem_cons_of_mem _ h)) gr)
 obtain ⟨fv,La',Lb',F2,rfl,rfl,g2,hf,hh⟩:=hR
 refine ab.mK (h':=hb::(jS m0 La' m1 Lb'++(F2++F))) rI ?_
 exact hk fv La' Lb' (F2++F) (gr.seq g2 hj (List.subset_append_right _ _) (List.subset_append_left _ _)) (fun x hx=>hx.mono g2.s0 g2.s1 (List.subset_append_right _ _)) hf (hh.mono (fun _ h=>h) (fun _ h=>h) (List.subset_append_left _ _))
theorem dy.ey {ls:List Nat} (hp:mq t tn c na nc bk m0 m1 w0 L0 L1) (gr:cM t c D L0 L1 La Lb F) (hj:D'≤D) (ho:ops[i]?=some ⟨some d,.call ⟨.value cal,az,ts⟩,ty,pos,aft,g⟩) (hw:au ops l g=true)
  (hc:aU l cal=some (.func (.func gf) #[] #[])) (hx:dq l az.toList=some vs) (hd:Nat.blt d n=true) (hcf:∀args w,(callFunc gf args).run P w=.ok (.enter gf args) w)
  (hof:∀w L0 L1,mq t tn c na nc bk m0 m1 w L0 L1→qv P gf vs w (jS m0 L0 m1 L1) (jr t c m0 m1 D' u L0 L1))
  (hk:∀fv La' Lb' F',cM t c D L0 L1 La' Lb' F'→(∀x,fK t La Lb F x→fK t La' Lb' F' x)→fv.f=bT u→fK t La' Lb' F' fv→ab P r f R w0 [m0,m1] Y n (.inRegion ops ls::k) ((d,fv.v)::l) (hb::(jS m0 La' m1 Lb'++F'))):
  dy P r f R w0 [m0,m1] Y n k hb (jS m0 La m1 Lb++F) ops i ls [] l:=by
 refine dy.iG (hC:=jS m0 La m1 Lb) (hF:=hb::F) (fs:=[]) (cs:=[]) mJ (fun _=>jr t c m0 m1 D' u La Lb) ho hw hc hx hd hcf (fun w Y' hS=>?_) (fun w v h' hR=>?_)
 ·rw [List.nil_append,List.append_nil]
  exact hof w _ _ (hp.step hS (List.sublist_append_left _ _) (fun _ h=>List.mem_append_right _ (List.mem_cons_of_mem _ h)) gr)
 obtain ⟨fv,La',Lb',F2,rfl,rfl,g2,hf,hh⟩:=hR
 exact ⟨jS m0 La' m1 Lb'++(F2++F),rI,hk fv La' Lb' (F2++F) (gr.seq g2 hj (List.subset_append_right _ _) (List.subset_append_left _ _)) (fun x hx=>hx.mono g2.s0 g2.s1 (List.subset_append_right _ _)) hf (hh.mono (fun _ h=>h) (fun _ h=>h) (List.subset_append_left _ _))⟩
theorem ab.rM (gr:cM t c D L0 L1 La Lb F) (ho:ops[i]?=some ⟨some d,.call ⟨.value cal,az,ts⟩,ty,pos,aft,g⟩) (hw:au ops l g=true)
  (hc:aU l cal=some (.func (.func gf) #[] #[])) (hx:dq l az.toList=some vs) (hd:Nat.blt d n=true) (hcf:∀args w,(callFunc gf args).run P w=.ok (.enter gf args) w)
  (hcall:∀w Y',St w0 [m0,m1] w (hb::(jS m0 La m1 Lb++F)) Y'→Cn P gf vs w (fun v w'=>aI t w w' v (bT u)))
  (hk:∀fv F',cM t c D L0 L1 La Lb F'→(∀x,fK t La Lb F x→fK t La Lb F' x)→fv.f=bT u→fK t La Lb F' fv→ab P r f R w0 [m0,m1] Y n (.inRegion ops rest::k) ((d,fv.v)::l) (hb::(jS m0 La m1 Lb++F'))):
  ab P r f R w0 [m0,m1] Y n (.inRegion ops (i::rest)::k) l (hb::(jS m0 La m1 Lb++F)):=by
 refine ab.ni (fun w v w'=>aI t w w' v (bT u)) ho hw hc hx hd hcf hcall (fun v w w' Y' hS he hO=>?_)
 obtain ⟨q,cap,sp,rfl,hq,ao,hS'⟩:=ak hS he hO
 have hpm:((q,eO t (bT u) sp)::hb::(jS m0 La m1 Lb++F)).Perm (hb::(jS m0 La m1 Lb++((q,eO t (bT u) sp)::F))):=
  (List.Perm.swap _ _ _).trans (List.Perm.cons _ mJ)
 refine ⟨_,hS'.perm hpm,?_⟩
 have e1:cK q (bT u).length cap=FV.v ⟨q.map (fun b=>⟨b,0,none⟩),cap,bT u⟩:=by cases q<;>rfl
 rw [e1]
 exact hk _ _ (gr.mono (Nat.le_refl _) (List.subset_cons_self _ _)) (fun x hx=>hx.mono (fun _ h=>h) (fun _ h=>h) (List.subset_cons_self _ _)) rfl (.inl ⟨q,sp,List.mem_cons_self ..,rfl,hq,ao⟩)
theorem kL {w':World} {fv:FV} (gr:cM t c D L0 L1 La Lb F) (hf:fv.f=bT u) (hh:fK t La Lb F fv) (hS:St w0 [m0,m1] w' (hb::(jS m0 La m1 Lb++F)) []):∃h',jr t c m0 m1 D u L0 L1 fv.v h'∧St w0 [m0,m1] w' h' []:=
 ⟨_,⟨fv,La,Lb,F,rfl,rfl,gr,hf,hh⟩,hS.dH (List.sublist_cons_self _ _)⟩
end
theorem cM.Hh {t:TypeId} {c:List NV} {i:Nat} {L0 L1 La Lb:Nm} {F:Hl} {fv:FV} (g:cM t c i L0 L1 La Lb F) (hf:fv.f=bT (aN (aa c i)).1) (hh:fK t La Lb F fv):cM t c (i+1) L0 L1 (La++[((i:Int),fv)]) Lb F:=
 ⟨⟨fun e he=>by
  rcases List.mem_append.1 he with he|he
  ·exact g.kv.e0 e he
  ·rw [List.mem_singleton.1 he];exact ⟨i,rfl,hf⟩,g.kv.e1⟩,fun _ h=>List.mem_append_left _ (g.s0 h),g.s1,fun e he=>by
  rcases List.mem_append.1 he with he|he
  ·exact (g.n0 e he).imp id (fun h=>⟨by omega,h.2⟩)
  rw [List.mem_singleton.1 he];exact .inr ⟨by simp only [];omega,hh.base g⟩,fun e he=>(g.n1 e he).imp id (fun h=>⟨by omega,h.2⟩)⟩
theorem cM.Hg {t:TypeId} {c:List NV} {i:Nat} {L0 L1 La Lb:Nm} {F:Hl} {fv:FV} (g:cM t c i L0 L1 La Lb F) (hf:fv.f=bT (aN (aa c i)).2) (hh:fK t La Lb F fv):cM t c (i+1) L0 L1 La (Lb++[((i:Int),fv)]) F:=
 ⟨⟨g.kv.e0,fun e he=>by
  rcases List.mem_append.1 he with he|he
  ·exact g.kv.e1 e he
  ·rw [List.mem_singleton.1 he];exact ⟨i,rfl,hf⟩⟩,g.s0,fun _ h=>List.mem_append_left _ (g.s1 h),fun e he=>(g.n0 e he).imp id (fun h=>⟨by omega,h.2⟩),fun e he=>by
  rcases List.mem_append.1 he with he|he
  ·exact (g.n1 e he).imp id (fun h=>⟨by omega,h.2⟩)
  rw [List.mem_singleton.1 he];exact .inr ⟨by simp only [];omega,hh.base g⟩⟩
def qS (sl:Value) (ms:List Nat):Array Value:=#[sl,.map ms[0]?,.map ms[1]?]
theorem wD {sl:Value} {ms:List Nat} {b:Nat} (h:ms.length<2):(qS sl ms).setIfInBounds (1+ms.length) (.map (some b))=qS sl (ms++[b]):=by
 rcases ms with _|⟨a,_|⟨b,l⟩⟩
 ·rfl
 ·rfl
 simp only [List.length_cons] at h;omega
theorem CD {ms:List Nat} (h:ms.length=2):∃a b,ms=[a,b]:=by
 rcases ms with _|⟨a,_|⟨b,_|⟨c,l⟩⟩⟩
 ·cases h
 ·cases h
 ·exact ⟨a,b,rfl⟩
 simp only [List.length_cons] at h;omega
theorem nK (p:Tr×Tr):pn true p=p.2:=rfl
theorem qz (p:Tr×Tr):pn false p=p.1:=rfl
theorem aC {f:List NV} {t:Tr} (h:f=bT t):f.length≤maxLen:=by
 rw [h];have:=Cl t;unfold maxLen;omega
theorem Da {op i e g:Int} {a:Tr} (h:op≠4):(aN (.un op i e g a)).1=.un op i e g (aN a).1:=by
 rw [aN,if_neg h];split
 ·rfl
 split<;>rfl
theorem AV {op i e g:Int} {a b:Tr} (h7:op≠7) (h8:op≠8):(aN (.bin op i e g a b)).1=.bin op i e g (aN a).1 (aN b).1:=by
 rw [aN];split
 ·rfl
 split
 ·rfl
 rfl
end Go.Proofs.Wit
namespace Go.Proofs.Wit
open Go Go.RowKit
def lL (op:Int):Bool:=op==3||decide (8<op)
def uS (op:Int) (x y:Bool):Bool:=if op=1 then true else if op=4 then !x else if op=5 then x && y else if op=6 then x||y else if op=7 then !x||y else if op=8 then x==y else false
def bV (r:Tr→Bool):Tr→Bool
 |.leaf op i e g=>if lL op=true then r (.leaf op i e g) else uS op false false
 |.un op i e g a=>if lL op=true then r (.un op i e g a) else uS op (bV r a) false
 |.bin op i e g a b=>if lL op=true then r (.bin op i e g a b) else uS op (bV r a) (bV r b)
def kH:Tr→List Tr
 |.leaf op i e g=>if lL op=true then [.leaf op i e g] else []
 |.un op i e g a=>if lL op=true then [.un op i e g a] else kH a
 |.bin op i e g a b=>if lL op=true then [.bin op i e g a b] else kH a++kH b
theorem m4 {r r':Tr→Bool}:∀{t:Tr},(∀u∈kH t,r u=r' u)→bV r t=bV r' t
 |.leaf op i e g,h=>by
  unfold bV kH at*
  split
  ·rename_i hl;rw [if_pos hl] at h;exact h _ (List.mem_cons_self ..)
  rfl
 |.un op i e g a,h=>by
  unfold kH at h
  unfold bV
  split
  ·rename_i hl;rw [if_pos hl] at h;exact h _ (List.mem_cons_self ..)
  rename_i hl;rw [if_neg hl] at h;rw [m4 h]
 |.bin op i e g a b,h=>by
  unfold kH at h
  unfold bV
  split
  ·rename_i hl;rw [if_pos hl] at h;exact h _ (List.mem_cons_self ..)
  rename_i hl
  rw [if_neg hl] at h
  rw [m4 (t:=a) (fun u hu=>h u (List.mem_append_left _ hu)),m4 (t:=b) (fun u hu=>h u (List.mem_append_right _ hu))]
def lD (t:Tr):Prop:=(∃l:List Tr,l.Nodup∧(∀u,u∈l↔u∈kH t)∧l.length≤10)∧∀r:Tr→Bool,bV r t=true
theorem Am {t:Tr} {l:List Tr} (hn:l.Nodup) (hm:∀u,u∈l↔u∈kH t):lD t↔l.length≤10∧∀r:Tr→Bool,bV r t=true:=by
 constructor
 ·rintro ⟨⟨l',hn',hm',hl'⟩,h⟩
  have:=hn.length_le_of_subset (fun u hu=>(hm' u).2 ((hm u).1 hu):l⊆l')
  exact ⟨by omega,h⟩
 rintro ⟨h1,h2⟩
 exact ⟨⟨l,hn,hm,h1⟩,h2⟩
theorem vX (b:Nat→Bool):∀n:Nat,∃v,v<2^n∧∀k,k<n→v.testBit k=b k
 |0=>⟨0,by decide,fun k hk=>absurd hk (Nat.not_lt_zero _)⟩
 |n+1=>by
  obtain ⟨v,hv,h⟩:=vX b n
  cases hb:b n with
  |false=>
   refine ⟨v,by rw [Nat.pow_succ];omega,fun k hk=>?_⟩
   by_cases e:k=n
   ·subst e;rw [hb];exact Nat.testBit_lt_two_pow hv
   exact h k (by omega)
  |true=>
   refine ⟨2^n+v,by rw [Nat.pow_succ];omega,fun k hk=>?_⟩
   by_cases e:k=n
   ·subst e;rw [hb,Nat.testBit_two_pow_add_eq,Nat.testBit_lt_two_pow hv];rfl
   rw [Nat.testBit_two_pow_add_gt (by omega)];exact h k (by omega)
theorem xD {t:Tr} {l:List Tr} (hm:∀u,u∈l↔u∈kH t) {R:Nat→Tr→Bool} (hR:∀v u,u∈l→R v u=v.testBit (l.idxOf u)):(∀r:Tr→Bool,bV r t=true)↔∀v,v<2^l.length→bV (R v) t=true:=by
 constructor
 ·exact fun h v _=>h _
 intro h r
 obtain ⟨v,hv,hb⟩:=vX (fun k=>r (l.getD k (.leaf 0 0 0 0))) l.length
 rw [←h v hv]
 refine m4 (fun u hu=>?_)
 have hul:=(hm u).2 hu
 have hlt:=List.idxOf_lt_length_of_mem hul
 rw [hR v u hul,hb _ hlt]
 simp [List.getD_eq_getElem?_getD,hlt,List.getElem_idxOf]
end Go.Proofs.Wit
namespace Go.Proofs.Wit
open Go Go.RowKit
abbrev sB (s:List Bool) (j:Nat):Bool:=s.getD j false
structure Lv (c:List NV) (i:Nat) (s:List Bool) (o:List Int) (s':List Bool) (o':List Int):Prop where
  len:s'.length=s.length
  mono:∀j,sB s j=true→sB s' j=true
  self:sB s' i=true
  new:∀(j:Nat),sB s' j=true→sB s j=false→∃hj:j<c.length,(lL c[j].op=true→aa c j∈kH (aa c i))∧(lL c[j].op=false→(cF c[j].op=true→sB s' c[j].x.toNat=true)∧(cm c[j].op=true→sB s' c[j].y.toNat=true))
  out:∃l:List Nat,o'=o++l.map (fun j:Nat=>(j:Int))∧l.Nodup∧∀j,j∈l↔(sB s' j=true∧sB s j=false∧∃hj:j<c.length,lL c[j].op=true)
theorem rE {s:List Bool} {i j:Nat} (hi:i<s.length):sB (s.set i true) j=if j=i then true else sB s j:=by
 unfold sB
 by_cases e:j=i
 ·subst e;simp [List.getD_eq_getElem?_getD,hi]
 rw [if_neg e];simp [List.getD_eq_getElem?_getD,Ne.symm e]
theorem oU {s:List Bool} {i j:Nat} (hi:i<s.length) (h:sB s j=true):sB (s.set i true) j=true:=by
 rw [rE hi];split
 ·rfl
 exact h
section
variable {c:List NV} {i:Nat} {s s1 s2 s3:List Bool} {o o2 o3:List Int}
theorem Lv.seen (h:sB s i=true):Lv c i s o s o:=
 ⟨rfl,fun _ h=>h,h,fun j h1 h2=>(by rw [h1] at h2;cases h2),[],by simp,List.nodup_nil,fun j=>⟨fun h=>(by cases h),fun ⟨h1,h2,_⟩=>by rw [h1] at h2;cases h2⟩⟩
theorem tU {t:Tr} (h:lL (fC t)=true):kH t=[t]:=by
 cases t<;>exact if_pos h
theorem Lv.leaf (hi:i<c.length) (hO:bd c) (hs:s.length=c.length) (h0:sB s i=false) (hl:lL c[i].op=true):Lv c i s o (s.set i true) (o++[(i:Int)]):=by
 have mV:∀j,sB (s.set i true) j=if j=i then true else sB s j:=fun j=>rE (by omega)
 have ht:fC (aa c i)=c[i].op:=nI hi hO
 refine ⟨by simp,fun j h=>oU (by omega) h,by rw [mV];simp,fun j h1 h2=>?_,[i],by simp,by simp,fun j=>?_⟩
 ·rw [mV] at h1
  by_cases e:j=i
  ·subst e;exact ⟨hi,fun _=>by rw [tU (by rw [ht];exact hl)];exact List.mem_cons_self ..,fun h=>(by rw [hl] at h;cases h)⟩
  rw [if_neg e,h2] at h1;cases h1
 rw [mV,List.mem_singleton]
 constructor
 ·rintro rfl;exact ⟨by simp,h0,hi,hl⟩
 rintro ⟨h1,h2,_⟩
 by_cases e:j=i
 ·exact e
 rw [if_neg e,h2] at h1;cases h1
theorem Lv.node (hi:i<c.length) (hs:s.length=c.length) (h0:sB s i=false) (hl:lL c[i].op=false)
  (hA:(cF c[i].op=true∧Lv c c[i].x.toNat (s.set i true) o s2 o2∧∀u∈kH (aa c c[i].x.toNat),u∈kH (aa c i))∨(cF c[i].op=false∧s2=s.set i true∧o2=o))
  (hB:(cm c[i].op=true∧Lv c c[i].y.toNat s2 o2 s3 o3∧∀u∈kH (aa c c[i].y.toNat),u∈kH (aa c i))∨(cm c[i].op=false∧s3=s2∧o3=o2)):Lv c i s o s3 o3:=by
 have mV:∀j,sB (s.set i true) j=if j=i then true else sB s j:=fun j=>rE (by omega)
 have l2:s2.length=s.length:=by
  rcases hA with ⟨_,h,_⟩|⟨_,h,_⟩
  ·rw [h.len];simp
  rw [h];simp
 have m2:∀j,sB (s.set i true) j=true→sB s2 j=true:=fun j h=>by
  rcases hA with ⟨_,h',_⟩|⟨_,h',_⟩
  ·exact h'.mono j h
  rw [h'];exact h
 have l3:s3.length=s.length:=by
  rcases hB with ⟨_,h,_⟩|⟨_,h,_⟩
  ·rw [h.len,l2]
  rw [h,l2]
 have m3:∀j,sB s2 j=true→sB s3 j=true:=fun j h=>by
  rcases hB with ⟨_,h',_⟩|⟨_,h',_⟩
  ·exact h'.mono j h
  rw [h'];exact h
 have i1:sB (s.set i true) i=true:=by rw [mV];simp
 have hx:cF c[i].op=true→sB s2 c[i].x.toNat=true:=fun h=>by
  rcases hA with ⟨_,h',_⟩|⟨h',_⟩
  ·exact h'.self
  rw [h] at h';cases h'
 have hy:cm c[i].op=true→sB s3 c[i].y.toNat=true:=fun h=>by
  rcases hB with ⟨_,h',_⟩|⟨h',_⟩
  ·exact h'.self
  rw [h] at h';cases h'
 have n2:∀j,sB s2 j=true→sB (s.set i true) j=false→∃hj:j<c.length,(lL c[j].op=true→aa c j∈kH (aa c i))∧(lL c[j].op=false→(cF c[j].op=true→sB s2 c[j].x.toNat=true)∧(cm c[j].op=true→sB s2 c[j].y.toNat=true)):=fun j h1 h2=>by
  rcases hA with ⟨_,h',hsub⟩|⟨_,h',_⟩
  ·obtain ⟨hj,k1,k2⟩:=h'.new j h1 h2
   exact ⟨hj,fun h=>hsub _ (k1 h),k2⟩
  rw [h',h2] at h1;cases h1
 have n3:∀j,sB s3 j=true→sB s2 j=false→∃hj:j<c.length,(lL c[j].op=true→aa c j∈kH (aa c i))∧(lL c[j].op=false→(cF c[j].op=true→sB s3 c[j].x.toNat=true)∧(cm c[j].op=true→sB s3 c[j].y.toNat=true)):=fun j h1 h2=>by
  rcases hB with ⟨_,h',hsub⟩|⟨_,h',_⟩
  ·obtain ⟨hj,k1,k2⟩:=h'.new j h1 h2
   exact ⟨hj,fun h=>hsub _ (k1 h),k2⟩
  rw [h',h2] at h1;cases h1
 obtain ⟨la,ea,na,ma⟩:∃l:List Nat,o2=o++l.map (fun j:Nat=>(j:Int))∧l.Nodup∧∀j,j∈l↔(sB s2 j=true∧sB (s.set i true) j=false∧∃hj:j<c.length,lL c[j].op=true):=by
  rcases hA with ⟨_,h',_⟩|⟨_,h',e⟩
  ·exact h'.out
  exact ⟨[],by simp [e],List.nodup_nil,fun j=>⟨fun h=>(by cases h),fun ⟨k1,k2,_⟩=>by rw [h',k2] at k1;cases k1⟩⟩
 obtain ⟨lb,eb,nb,mb⟩:∃l:List Nat,o3=o2++l.map (fun j:Nat=>(j:Int))∧l.Nodup∧∀j,j∈l↔(sB s3 j=true∧sB s2 j=false∧∃hj:j<c.length,lL c[j].op=true):=by
  rcases hB with ⟨_,h',_⟩|⟨_,h',e⟩
  ·exact h'.out
  exact ⟨[],by simp [e],List.nodup_nil,fun j=>⟨fun h=>(by cases h),fun ⟨k1,k2,_⟩=>by rw [h',k2] at k1;cases k1⟩⟩
 refine ⟨l3,fun j h=>m3 j (m2 j (oU (by omega) h)),m3 i (m2 i i1),fun j h1 h2=>?_,la++lb,by rw [eb,ea,List.map_append,List.append_assoc],List.nodup_append.2 ⟨na,nb,fun a h1 b h2 e=>?_⟩,fun j=>?_⟩
 ·by_cases e:j=i
  ·subst e
   exact ⟨hi,fun h=>(by rw [hl] at h;cases h),fun _=>⟨fun h=>m3 _ (hx h),hy⟩⟩
  ·cases h3:sB s2 j with
   |false=>exact n3 j h1 h3
   |true=>
    obtain ⟨hj,k1,k2⟩:=n2 j h3 (by rw [mV,if_neg e];exact h2)
    exact ⟨hj,k1,fun h=>⟨fun h'=>m3 _ ((k2 h).1 h'),fun h'=>m3 _ ((k2 h).2 h')⟩⟩
 ·subst e
  have k1:=((ma a).1 h1).1
  have k2:=((mb a).1 h2).2.1
  rw [k1] at k2;cases k2
 rw [List.mem_append,ma,mb]
 constructor
 ·rintro (⟨k1,k2,k3⟩|⟨k1,k2,k3⟩)
  ·refine ⟨m3 j k1,?_,k3⟩
   rw [mV] at k2
   split at k2
   ·cases k2
   exact k2
  ·refine ⟨k1,?_,k3⟩
   cases h:sB s j with
   |false=>rfl
   |true=>
    have:=m2 j (oU (by omega) h)
    rw [this] at k2;cases k2
 rintro ⟨k1,k2,k3⟩
 have hji:j≠i:=fun e=>by
  subst e
  obtain ⟨_,h⟩:=k3
  rw [hl] at h;cases h
 cases h3:sB s2 j with
 |true=>exact .inl ⟨rfl,by rw [mV,if_neg hji];exact k2,k3⟩
 |false=>exact .inr ⟨k1,rfl,k3⟩
theorem Lv.done (hO:bd c) (_hi:i<c.length) (h:Lv c i (List.replicate c.length false) [] s3 o3):∃l:List Nat,o3=l.map (fun j:Nat=>(j:Int))∧l.Nodup∧(∀j∈l,j<c.length)∧∀u,u∈l.map (aa c)↔u∈kH (aa c i):=by
 obtain ⟨l,e,hn,hm⟩:=h.out
 have h0:∀j,sB (List.replicate c.length false) j=false:=fun j=>by
  unfold sB
  rw [List.getD_eq_getElem?_getD,List.getElem?_replicate]
  split<;>rfl
 have key:∀j,sB s3 j=true→∀u∈kH (aa c j),u∈l.map (aa c):=by
  intro j
  induction j using Nat.strongRecOn with
  |_ j ih=>
   intro hj u hu
   obtain ⟨hjl,k1,k2⟩:=h.new j hj (h0 j)
   have ht:fC (aa c j)=c[j].op:=nI hjl hO
   cases hl:lL c[j].op with
   |true=>
    rw [tU (by rw [ht];exact hl),List.mem_singleton] at hu
    rw [hu]
    exact List.mem_map_of_mem ((hm j).2 ⟨hj,h0 j,hjl,hl⟩)
   |false=>
    obtain ⟨kx,ky⟩:=k2 hl
    have hord:=hO.ord j hjl
    rcases dE hjl hO with ⟨h1,h2⟩|⟨h1,h1',h2⟩|⟨h1,h2⟩
    ·rw [h2] at hu
     unfold kH at hu
     rw [hl] at hu;cases hu
    ·rw [h2] at hu
     unfold kH at hu
     rw [hl] at hu
     have hx:=hord.1 h1
     exact ih _ (by omega) (kx h1) u hu
    rw [h2] at hu
    unfold kH at hu
    rw [hl] at hu
    have hx:=hord.1 (ep h1)
    have hy:=hord.2 h1
    rcases List.mem_append.1 hu with hu|hu
    ·exact ih _ (by omega) (kx (ep h1)) u hu
    exact ih _ (by omega) (ky h1) u hu
 refine ⟨l,by rw [e];rfl,hn,fun j hj=>by obtain ⟨_,_,hj',_⟩:=(hm j).1 hj;exact hj',fun u=>⟨fun hu=>?_,key i h.self u⟩⟩
 obtain ⟨j,hj,rfl⟩:=List.mem_map.1 hu
 obtain ⟨k1,k2,hj',k3⟩:=(hm j).1 hj
 obtain ⟨_,k4,_⟩:=h.new j k1 k2
 exact k4 k3
end
theorem vL {c:List NV} {k:Nat} {r:Tr→Bool} (hk:k<c.length) (hO:bd c) (hl:lL c[k].op=true):bV r (aa c k)=r (aa c k):=by
 have ht:fC (aa c k)=c[k].op:=nI hk hO
 rw [←ht] at hl
 generalize aa c k=t at hl
 cases t<;>exact if_pos hl
theorem Bq {c:List NV} {k:Nat} {r:Tr→Bool} {bx bY:Bool} (hk:k<c.length) (hO:bd c) (hl:lL c[k].op=false) (hx:cF c[k].op=true→bx=bV r (aa c c[k].x.toNat)) (hy:cm c[k].op=true→bY=bV r (aa c c[k].y.toNat)):
  uS c[k].op bx bY=bV r (aa c k):=by
 have hop:=(hO k hk).op
 have hc:(1≤c[k].op∧c[k].op≤8)∧c[k].op≠3:=by
  unfold lL at hl
  simp only [Bool.or_eq_false_iff,decide_eq_false_iff_not,beq_eq_false_iff_ne] at hl
  omega
 rcases dE hk hO with ⟨h1,h2⟩|⟨h1,h1',h2⟩|⟨h1,h2⟩
 ·rw [h2]
  unfold bV
  rw [if_neg (by rw [hl];simp)]
  rw [pe hop,decide_eq_false_iff_not] at h1
  have:c[k].op=1∨c[k].op=2:=by omega
  rcases this with h|h<;>rw [h]<;>rfl
 ·rw [h2]
  unfold bV
  rw [if_neg (by rw [hl];simp),hx h1]
  have:c[k].op=4:=by
   rcases (by omega:c[k].op=1∨c[k].op=2∨c[k].op=4∨c[k].op=5∨c[k].op=6∨c[k].op=7∨c[k].op=8) with h|h|h|h|h|h|h
   ·rw [h] at h1;cases h1
   ·rw [h] at h1;cases h1
   ·exact h
   all_goals rw [h] at h1';cases h1'
  rw [this];rfl
 rw [h2]
 conv=>rhs;unfold bV
 rw [if_neg (by rw [hl];simp),hx (ep h1),hy h1]
theorem A8 {c:List NV} {k:Nat} (hk:k<c.length) (hO:bd c) (hl:lL c[k].op=false):(cF c[k].op=true→∀u∈kH (aa c c[k].x.toNat),u∈kH (aa c k))∧(cm c[k].op=true→∀u∈kH (aa c c[k].y.toNat),u∈kH (aa c k)):=by
 rcases dE hk hO with ⟨h1,h2⟩|⟨h1,h1',h2⟩|⟨h1,h2⟩
 ·exact ⟨fun h=>(by rw [h1] at h;cases h),fun h=>(by have:=ep h;rw [h1] at this;cases this)⟩
 ·refine ⟨fun _ u hu=>?_,fun h=>(by rw [h1'] at h;cases h)⟩
  rw [h2]
  unfold kH
  rw [if_neg (by rw [hl];simp)]
  exact hu
 refine ⟨fun _ u hu=>?_,fun _ u hu=>?_⟩<;>rw [h2]<;>unfold kH<;>rw [if_neg (by rw [hl];simp)]
 ·exact List.mem_append_left _ hu
 exact List.mem_append_right _ hu
def rT (c:List NV) (b:Nat→Bool) (u:Tr):Bool:=b ((trees c).idxOf u)
theorem xV {c:List NV} (hC:gI c) {b:Nat→Bool} {k:Nat} (hk:k<c.length):rT c b (aa c k)=b k:=by
 have hn:(trees c).Nodup:=by rw [hC.trees];exact (ia _).nd
 unfold rT
 have hk':k<(trees c).length:=by rw [cH];exact hk
 rw [ga hk,hn.idxOf_getElem k hk']
def ny (c:List NV) (s:List Bool) (o:List Int):Prop:=∃l:List Nat,o=l.map (fun j:Nat=>(j:Int))∧l.Nodup∧∀j∈l,sB s j=true∧j<c.length
theorem ny.nil {c:List NV} {s:List Bool}:ny c s []:=⟨[],rfl,List.nodup_nil,fun _ h=>by cases h⟩
theorem ny.le {c:List NV} {s:List Bool} {o:List Int} (h:ny c s o):o.length≤c.length:=by
 obtain ⟨l,rfl,hn,hm⟩:=h
 have:=hn.length_le_of_subset (fun j hj=>List.mem_range.2 (hm j hj).2:l⊆List.range c.length)
 simpa using this
theorem ny.set {c:List NV} {s:List Bool} {o:List Int} {i:Nat} (h:ny c s o) (hi:i<s.length):ny c (s.set i true) o:=by
 obtain ⟨l,e,hn,hm⟩:=h
 exact ⟨l,e,hn,fun j hj=>⟨oU hi (hm j hj).1,(hm j hj).2⟩⟩
theorem ny.go {c:List NV} {i:Nat} {s s':List Bool} {o o':List Int} (h:ny c s o) (g:Lv c i s o s' o'):ny c s' o':=by
 obtain ⟨l,rfl,hn,hm⟩:=h
 obtain ⟨l2,rfl,hn2,hm2⟩:=g.out
 refine ⟨l++l2,by rw [List.map_append],List.nodup_append.2 ⟨hn,hn2,fun a h1 b h2 e=>?_⟩,fun j hj=>?_⟩
 ·subst e
  have k1:=(hm a h1).1
  have k2:=((hm2 a).1 h2).2.1
  rw [k1] at k2;cases k2
 rcases List.mem_append.1 hj with hj|hj
 ·exact ⟨g.mono j (hm j hj).1,(hm j hj).2⟩
 obtain ⟨k1,_,k3,_⟩:=(hm2 j).1 hj
 exact ⟨k1,k3⟩
def qB (L:Nat) (l:List Nat) (k:Nat):List Int:=(List.range L).map (fun i=>if l.idxOf i<k then (l.idxOf i:Int) else 0)
theorem vw {L k:Nat} {l:List Nat}:(qB L l k).length=L:=by simp [qB]
theorem ys {L:Nat} {l:List Nat}:qB L l 0=List.replicate L 0:=by
 apply List.ext_getElem (by simp [qB])
 intro i h1 h2
 simp [qB]
theorem vx {L k i:Nat} {l:List Nat} (hi:i<L):(qB L l k).getD i 0=if l.idxOf i<k then (l.idxOf i:Int) else 0:=by simp [qB,List.getD_eq_getElem?_getD,hi]
theorem AW {L k:Nat} {l:List Nat} (hn:l.Nodup) (hk:k<l.length):(qB L l k).set l[k] (k:Int)=qB L l (k+1):=by
 have hx:l.idxOf l[k]=k:=hn.idxOf_getElem k hk
 apply List.ext_getElem (by simp [qB])
 intro i h1 h2
 rw [List.getElem_set]
 by_cases e:l[k]=i
 ·subst e;rw [if_pos rfl];simp [qB,hx]
 rw [if_neg e]
 have hne:l.idxOf i≠k:=fun h=>by
  have hlt:l.idxOf i<l.length:=by omega
  have:=List.getElem_idxOf hlt
  apply e
  rw [←this]
  congr 1
  exact h.symm
 simp only [qB,List.getElem_map,List.getElem_range]
 by_cases h:l.idxOf i<k
 ·rw [if_pos h,if_pos (by omega)]
 rw [if_neg h,if_neg (by omega)]
section
variable {c:List NV} {l:List Nat}
theorem ph (hC:gI c) {i j:Nat} (hi:i<c.length) (hj:j<c.length) (e:aa c i=aa c j):i=j:=by
 have hn:(trees c).Nodup:=by rw [hC.trees];exact (ia _).nd
 rw [ga hi,ga hj] at e
 exact (List.getElem_inj hn).1 e
theorem yA (hC:gI c) (hn:l.Nodup) (hl:∀j∈l,j<c.length):(l.map (aa c)).Nodup:=by
 induction l with
 |nil=>exact List.nodup_nil
 |cons a l ih=>
  rw [List.nodup_cons] at hn
  rw [List.map_cons,List.nodup_cons]
  refine ⟨fun h=>?_,ih hn.2 (fun j hj=>hl j (by simp [hj]))⟩
  obtain ⟨j,hj,e⟩:=List.mem_map.1 h
  have:=ph hC (hl j (by simp [hj])) (hl a (by simp)) e
  exact hn.1 (this ▸ hj)
theorem Bg (hC:gI c) (hl:∀j∈l,j<c.length) {j:Nat} (hj:j∈l):(l.map (aa c)).idxOf (aa c j)=l.idxOf j:=by
 induction l with
 |nil=>cases hj
 |cons a l ih=>
  rw [List.map_cons,List.idxOf_cons,List.idxOf_cons]
  by_cases e:a=j
  ·subst e;simp
  have hne:¬aa c a=aa c j:=fun h=>e (ph hC (hl a (by simp)) (hl j hj) h)
  have hj2:j∈l:=by
   rcases List.mem_cons.1 hj with h|h
   ·exact absurd h.symm e
   exact h
  have h1:(aa c a==aa c j)=false:=beq_eq_false_iff_ne.2 hne
  have h2:(a==j)=false:=beq_eq_false_iff_ne.2 e
  rw [h1,h2,ih (fun j hj=>hl j (by simp [hj])) hj2]
theorem AE (hC:gI c) (hl:∀j∈l,j<c.length) (v:Nat) (u:Tr) (hu:u∈l.map (aa c)):rT c (fun i=>v.testBit ((qB c.length l l.length).getD i 0).toNat) u=v.testBit ((l.map (aa c)).idxOf u):=by
 obtain ⟨j,hj,rfl⟩:=List.mem_map.1 hu
 rw [xV hC (hl j hj),Bg hC hl hj,vx (hl j hj),if_pos (List.idxOf_lt_length_of_mem hj),Int.toNat_natCast]
end
def oD (r:Int) (t:Tr):Prop:=if r=1 then lD t else if r=2 then El t else if r=3 then Cw t else if r=4 then Cz t else if r=5 then Eo t else if r=6 then Cy t else if r=7 then Ek t else if r=8 then Em t else if r=9 then En t else False
theorem nine {p:Int→Prop} (h:p 1∧p 2∧p 3∧p 4∧p 5∧p 6∧p 7∧p 8∧p 9) {r:Int} (h1:1≤r) (h9:r≤9):p r:=by
 obtain ⟨a1,a2,a3,a4,a5,a6,a7,a8,a9⟩:=h
 rcases (by omega:r=1∨r=2∨r=3∨r=4∨r=5∨r=6∨r=7∨r=8∨r=9) with e|e|e|e|e|e|e|e|e<;>rw [e]<;>assumption
structure BZ (g:Nat) (fn:Int→FuncId) (w:World):Prop where
  size:g<w.heap.size
  cell:∀r:Nat,1≤r→r≤9→w.cell? ⟨g,r,none⟩=some (.func (.func (fn r)) #[] #[])
theorem BZ.ex {g:Nat} {fn:Int→FuncId} {w0 w:World} {S:List Nat} (h:BZ g fn w0) (e:Ex S w0 w) (hS:g∉S:=by simp):BZ g fn w:=
 ⟨Nat.lt_of_lt_of_le h.size e.size,fun i h1 h9=>by rw [←h.cell i h1 h9];exact World.cell?_of_block (e.block g h.size hS)⟩
structure LV where
  f:FV
  r:Int
  a:Int
  b:Int
  g:Int
def LV.cells (x:LV):List Value:=[x.f.v,.int .i64 x.r,.int .i64 x.a,.int .i64 x.b,.int .i64 x.g]
structure LA (w:World) (A:Option Addr) (ls:List LV):Prop where
  at_:Sl w A (ls.flatMap LV.cells)
  fs:∀l∈ls,FA w l.f.a l.f.f∧l.f.f.length≤maxLen
theorem LA.ay {w0 w:World} {A:Option Addr} {ls:List LV} (h:LA w0 A ls) (e:Ex [] w0 w):LA w A ls:=⟨Sl.ex h.at_ e (by simp),fun l hl=>⟨(h.fs l hl).1.ay e,(h.fs l hl).2⟩⟩
end Go.Proofs.Wit
