/- Laws of walks, for any program, under the conditions that each theorem states. -/
import Derived.Test.YtkpknmgofmohbaaXC03
import Derived.Test.YtkpknmgofmohbaaXC04
namespace Go.Proofs.Wit
open Go Go.RowKit
def cur (c:Nat) (hb hb2:Hl) (D:List Nat):Hl:=if D.contains c=true then hb2 else hb
theorem oi {c i:Nat} {hb hb2:Hl} {D:List Nat} (h2:hb2.Sublist hb):(cur c hb hb2 (i::D)).Sublist (cur c hb hb2 D):=by
 unfold cur
 by_cases h:D.contains c=true
 ·rw [if_pos h,if_pos (by rw [List.contains_cons,h,Bool.or_true])]
  exact List.Sublist.refl _
 rw [if_neg h]
 split
 ·exact h2
 exact List.Sublist.refl _
theorem pN {c:Nat} {hb hb2:Hl} {D:List Nat} (h2:hb2.Sublist hb):hb2.Sublist (cur c hb hb2 D):=by
 unfold cur
 split
 ·exact List.Sublist.refl _
 exact h2
theorem mE {c:Nat} {hb hb2:Hl} {D D':List Nat} (h:∀j,j∈D↔j∈D'):cur c hb hb2 D=cur c hb hb2 D':=by
 unfold cur
 have:D.contains c=D'.contains c:=by rw [Bool.eq_iff_iff];simp [h c]
 rw [this]
theorem ar {c:Nat} {hb hb2:Hl} {D:List Nat} (h:D.contains c=false):cur c hb hb2 D=hb:=if_neg (by rw [h];simp)
theorem cd {c:Nat} {hb hb2:Hl} {D:List Nat} (h:D.contains c=true):cur c hb hb2 D=hb2:=if_pos h
section
variable {P:Program} {r:Option Nat} {f:FuncId} {R:Value→World→Prop} {w0:World} {S:List Nat} {Y:List (Nat×Obj)} {n:Nat} {k:List Item} {l:Fl} {h:Hl} {ops:Array Oper} {c:Nat} {hb hb2:Hl}
def qb (P:Program) (w0:World) (S:List Nat) (ops:Array Oper) (i:Nat) (t:Array Value) (h:Hl) (K:Hl→Prop):Prop:=
 ∃o,ops[i]?=some o∧o.dst=none∧bJ o.op=false∧bY o.op=true∧Region.wanted o (yielded ops t)=true∧∀(w:World) (Ds:List Nat) (Y':List (Nat×Obj)),St w0 S w h Y'→
  ∃w' h',(execOp (Act.eval ⟨t,Ds.map mark⟩) o).run P w=.ok .skip w'∧St w0 S w' h' Y'∧K h'
theorem qb.congr {i:Nat} {t t':Array Value} {K K':Hl→Prop} (hm:qb P w0 S ops i t h K) (hs:t'.size=t.size) (he:∀o,ops[i]?=some o→∀s∈cz ops o,t'.getD s undef=t.getD s undef)
  (hK:∀h',K h'→K' h'):qb P w0 S ops i t' h K':=by
 obtain ⟨o,ho,hdst,hnd,hsel,hwant,hr⟩:=hm
 have hw:=dG (ops:=ops) (o:=o) hs (he o ho)
 refine ⟨o,ho,hdst,hnd,hsel,hw.trans hwant,fun w Ds Y' hS=>?_⟩
 have hexec:execOp (Act.eval ⟨t',Ds.map mark⟩) o=execOp (Act.eval ⟨t,Ds.map mark⟩) o:=execOp_congr (ρ':=Act.eval ⟨t,Ds.map mark⟩) o (fun cs bb e=>by rw [e] at hsel;cases hsel) (fun x hx=>by
  cases x with
  |tmp s=>exact he o ho s (by
    simp only [cz,List.mem_append]
    exact .inr (List.mem_filterMap.2 ⟨.tmp s,by simpa using hx,rfl⟩))
  |const v=>rfl
  |global g=>rfl
  |func g=>rfl)
 rw [hexec]
 obtain ⟨w',h',h1,h2,h3⟩:=hr w Ds Y' hS
 exact ⟨w',h',h1,h2,hK h' h3⟩
def Dq (P:Program) (r:Option Nat) (f:FuncId) (R:Value→World→Prop) (w0:World) (S:List Nat) (Y:List (Nat×Obj)) (n:Nat) (k:List Item) (ops:Array Oper) (c:Nat) (hb hb2:Hl):Nat→List Nat→Array Value→Hl→Prop
 |0,_,_,_=>False
 |q+1,D,t,h=>
  (av ops D=[]∧∀w Ds,St w0 S w h (gA Ds++Y)→aY P r f R (.inRegion ops []::k) t (Ds.map mark) w)∨
  (av ops D≠[]∧∀i∈av ops D,cj P w0 S n ops i t h (fun t' h'=>(cur c hb hb2 (i::D)).Sublist h'∧Dq P r f R w0 S Y n k ops c hb hb2 q (i::D) t' h')∨qb P w0 S ops i t h (fun h'=>(cur c hb hb2 (i::D)).Sublist h'∧Dq P r f R w0 S Y n k ops c hb hb2 q (i::D) t h'))
theorem Dq.perm:∀{q:Nat} {D D':List Nat} {t:Array Value} {h:Hl},(∀j,j∈D↔j∈D')→Dq P r f R w0 S Y n k ops c hb hb2 q D t h→Dq P r f R w0 S Y n k ops c hb hb2 q D' t h
 |0,_,_,_,_,_,hd=>hd
 |q+1,D,D',t,h,hp,hd=>by
  rw [Dq] at hd⊢
  rw [←fh hp]
  rcases hd with hd|⟨h1,h2⟩
  ·exact .inl hd
  refine .inr ⟨h1,fun i hi=>?_⟩
  have e3:cur c hb hb2 (i::D)=cur c hb hb2 (i::D'):=mE (fun j=>by simp only [List.mem_cons,hp j])
  have hp2:∀j,j∈i::D↔j∈i::D':=fun j=>by simp only [List.mem_cons,hp j]
  rcases h2 i hi with h3|h3
  ·exact .inl (h3.mono (fun t' h' ⟨e1,e2⟩=>⟨by rw [←e3];exact e1,e2.perm hp2⟩))
  exact .inr (h3.congr rfl (fun _ _ _ _=>rfl) (fun h' ⟨e1,e2⟩=>⟨by rw [←e3];exact e1,e2.perm hp2⟩))
theorem Dq.pure (h2:hb2.Sublist hb) {hx:Hl} {i d:Nat} (hic:i≠c) (hf:oH ops i d) (hd:d<n):∀{q:Nat} {D:List Nat} {t:Array Value} {h:Hl} {v:Value},t.size=n→i∈av ops D→dW P w0 S n hx ops i t d v→(hx=hb2∨(hx=hb∧i∈aQ ops c∧c∉D))→(cur c hb hb2 D).Sublist h→Dq P r f R w0 S Y n k ops c hb hb2 q (i::D) (t.setIfInBounds d v) h→Dq P r f R w0 S Y n k ops c hb hb2 (q+1) D t h
 |0,_,_,_,_,_,_,_,_,_,hd=>hd.elim
 |q+1,D,t,h,v,hts,hi,ho,hX,hs,hdt=>by
  have hsx:hx.Sublist h:=by
   rcases hX with rfl|⟨rfl,_,h4⟩
   ·exact (pN h2).trans hs
   have:cur c hx hb2 D=hx:=if_neg (by simpa using h4)
   rw [this] at hs;exact hs
  have hme:cj P w0 S n ops i t h (fun t' h'=>(cur c hb hb2 (i::D)).Sublist h'∧Dq P r f R w0 S Y n k ops c hb hb2 (q+1) (i::D) t' h'):=cj.pure ho hf.oL hsx ⟨(oi h2).trans hs,hdt⟩
  have hne:av ops D≠[]:=fun e=>by rw [e] at hi;cases hi
  obtain ⟨hiS,hiD,hid⟩:=aE.1 hi
  rw [Dq]
  refine .inr ⟨hne,fun j hj=>?_⟩
  by_cases hji:j=i
  ·rw [hji];exact .inl hme
  obtain ⟨hjS,hjD,hjd⟩:=aE.1 hj
  have hj2:j∈av ops (i::D):=aE.2 ⟨hjS,by simp [hji,hjD],fun e he=>List.mem_cons_of_mem _ (hjd e he)⟩
  rw [Dq] at hdt
  rcases hdt with ⟨h1,_⟩|⟨_,h3⟩
  ·rw [h1] at hj2;cases hj2
  have hjo:∀o,ops[j]?=some o→d∉cz ops o:=fun o hoo hm=>(hf.seen j o hjS hji hoo hm).elim (fun h5=>hiD (hjd i h5)) (fun h5=>hjD (hid j h5))
  have hjt:∀o,ops[j]?=some o→∀s∈cz ops o,t.getD s undef=(t.setIfInBounds d v).getD s undef:=fun o hoo s hse=>by
   have hds:d≠s:=fun e1=>hjo o hoo (by rw [e1];exact hse)
   rw [a6 (by rw [hts];exact hd),if_neg hds]
  have hX':hx=hb2∨(hx=hb∧i∈aQ ops c∧c∉j::D):=by
   rcases hX with h5|⟨h5,h6,h7⟩
   ·exact .inl h5
   refine .inr ⟨h5,h6,fun h8=>?_⟩
   rcases List.mem_cons.1 h8 with h8|h8
   ·subst h8;exact hiD (hjd i h6)
   exact h7 h8
  have hk0:cur c hb hb2 (j::D)=cur c hb hb2 (j::i::D):=by
   unfold cur
   have e:(j::D).contains c=(j::i::D).contains c:=by
    rw [Bool.eq_iff_iff];simp only [List.contains_eq_mem,decide_eq_true_eq,List.mem_cons]
    constructor
    ·rintro (h|h)
     ·exact .inl h
     ·exact .inr (.inr h)
    rintro (h|h|h)
    ·exact .inl h
    ·exact absurd h.symm hic
    exact .inr h
   rw [e]
  have hi2:i∈av ops (j::D):=aE.2 ⟨hiS,by simp [Ne.symm hji,hiD],fun e he=>List.mem_cons_of_mem _ (hid e he)⟩
  rcases h3 j hj2 with h3|h3
  ·refine .inl (h3.congr (by simp) hjt (fun e u h' hde hk=>?_))
   obtain ⟨hk1,hk2⟩:=hk
   refine ⟨by rw [hk0];exact hk1,?_⟩
   have hde2:d≠e:=fun e1=>hf.one j hjS hji (by rw [hde,e1])
   rw [set_comm hde2] at hk2
   refine Dq.pure h2 hic hf hd (by simpa using hts) hi2 (ho.congr hf.oL (by simp) (fun o hoo s hse=>?_)) hX' (by rw [hk0];exact hk1) (hk2.perm (fun x=>by simp only [List.mem_cons];exact or_left_comm))
   have hes:e≠s:=fun e1=>by
    subst e1
    rcases hf.so j e o hjS hji hde hoo hse with h5|h5
    ·exact hjD (hid j h5)
    exact hiD (hjd i h5)
   by_cases hlt:e<t.size
   ·rw [a6 hlt,if_neg hes]
   rw [show t.setIfInBounds e u=t from Array.setIfInBounds_eq_of_size_le (Nat.le_of_not_lt hlt)]
  refine .inr (h3.congr (by simp) hjt (fun h' hk=>?_))
  obtain ⟨hk1,hk2⟩:=hk
  exact ⟨by rw [hk0];exact hk1,Dq.pure h2 hic hf hd hts hi2 ho hX' (by rw [hk0];exact hk1) (hk2.perm (fun x=>by simp only [List.mem_cons];exact or_left_comm))⟩
theorem Dq.go:∀(fuel τ:Nat) (arr:Array Bool) (D:List Nat) (q:Nat) (t:Array Value) (h:Hl) (w:World) (Ds:List Nat),arr.size=ops.size→(∀j,arr.getD j false=D.contains j)→Dq P r f R w0 S Y n k ops c hb hb2 q D t h→St w0 S w h (gA Ds++Y)→(List.range ops.size).countP (fun j=>!D.contains j)≤fuel→
  aY P r f R (.inRegion ops (Region.linearise.go .any ops fuel τ arr [])::k) t (Ds.map mark) w
 |_,_,_,_,0,_,_,_,_,_,_,hd,_,_=>hd.elim
 |fuel,τ,arr,D,q+1,t,h,w,Ds,hs,ha,hd,hS,hfu=>by
  rw [Dq] at hd
  rcases hd with ⟨h0,hg⟩|⟨h1,h2⟩
  ·have:Region.linearise.go .any ops fuel τ arr []=[]:=by
    cases fuel with
    |zero=>rfl
    |succ fuel=>
     simp only [Region.linearise.go]
     change (match (Region.ready .any ops arr)[_%(Region.ready .any ops arr).length]? with
      |some i=>_
      |none=>[].reverse)=[]
     rw [dx hs ha,h0];rfl
   rw [this];exact hg w Ds hS
  cases fuel with
  |zero=>
   exfalso
   obtain ⟨x,hx⟩:=List.exists_mem_of_ne_nil _ h1
   obtain ⟨e1,e2,_⟩:=aE.1 hx
   have:0<(List.range ops.size).countP (fun j=>!D.contains j):=List.countP_pos_iff.2 ⟨x,by simpa using e1,by simpa using e2⟩
   omega
  |succ fuel=>
   have hpos:0<(av ops D).length:=List.length_pos_iff.2 h1
   simp only [Region.linearise.go]
   change aY P r f R (.inRegion ops (match (Region.ready .any ops arr)[τ%(Region.ready .any ops arr).length]? with
    |some i=>Region.linearise.go .any ops fuel (τ / (Region.ready .any ops arr).length) (arr.setIfInBounds i true) [i]
    |none=>[].reverse)::k) t (Ds.map mark) w
   rw [dx hs ha]
   have hlt:τ%(av ops D).length<(av ops D).length:=Nat.mod_lt _ hpos
   rw [List.getElem?_eq_getElem hlt]
   obtain ⟨x,hx⟩:∃x,x=(av ops D)[τ%(av ops D).length]:=⟨_,rfl⟩
   rw [←hx]
   have hxm:x∈av ops D:=by rw [hx];exact List.getElem_mem hlt
   obtain ⟨e1,e2,_⟩:=aE.1 hxm
   dsimp only
   rw [linearise_go_acc,List.reverse_singleton,List.singleton_append]
   have hnext:∀(t':Array Value) (h':Hl) (w':World),(cur c hb hb2 (x::D)).Sublist h'∧Dq P r f R w0 S Y n k ops c hb hb2 q (x::D) t' h'→St w0 S w' h' (gA Ds++Y)→aY P r f R (.inRegion ops (Region.linearise.go .any ops fuel (τ / (av ops D).length) (arr.setIfInBounds x true) [])::k) t' (Ds.map mark) w':=fun t' h' w' hK hS'=>by
    refine Dq.go fuel _ _ (x::D) q t' h' w' Ds (by simpa using hs) (fun j=>?_) hK.2 hS' ?_
    ·rw [aB (by omega),ha j,List.contains_cons]
     split
     ·rename_i e;subst e;simp
     rename_i e;rw [beq_false_of_ne (Ne.symm e)];rfl
    have:=eA (l:=List.range ops.size) (p:=fun j=>!(x::D).contains j) (q:=fun j=>!D.contains j) (fun y _ hy=>by simp at hy⊢;exact hy.2) ⟨x,by simpa using e1,by simpa using e2,by simp⟩
    omega
   rcases h2 x hxm with h2x|h2x
   case inr=>
    obtain ⟨o,ho,hdst,hnd,hsel,hw,hr⟩:=h2x
    obtain ⟨w',h',h3,h4,h5⟩:=hr w Ds _ hS
    refine aY.op ho hw (aR hnd) h3 (.inr ⟨rfl,rfl⟩) ?_
    rw [hdst];exact hnext _ _ _ h5 h4
   obtain ⟨o,d,ho,hdst,hnd,hsel,hdn,hr⟩:=h2x
   rcases hr with ⟨hw,hr⟩|⟨hw,hk⟩
   ·rcases hr w Ds _ hS with ⟨v,w',h',h3,h4,h5⟩|⟨gf,args,Rc,h3,h4,h5⟩
    ·refine aY.op ho hw (aR hnd) h3 (.inl rfl) ?_
     rw [hdst];exact hnext _ _ _ h5 h4
    ·refine aY.call ho hw (aR hnd) h3 h4 (fun u w2 hu=>?_)
     obtain ⟨h',h6,h7⟩:=h5 u w2 hu
     rw [hdst];exact hnext _ _ _ h7 h6
   refine aY.fE ho hw ?_
   rw [hdst];exact hnext _ _ _ hk hS
def cm (P:Program) (r:Option Nat) (f:FuncId) (R:Value→World→Prop) (w0:World) (S:List Nat) (Y:List (Nat×Obj)) (n:Nat) (k:List Item) (ops:Array Oper) (c:Nat) (hb hb2:Hl) (q:Nat) (D:List Nat) (l:Fl) (h:Hl):Prop:=
 ∀t,du n t l→Dq P r f R w0 S Y n k ops c hb hb2 q D t h
variable {q:Nat} {D:List Nat}
theorem aa.s9 {id:Nat} (q c:Nat) (hb2:Hl) (hmix:P.follows .mixedOrders=true) (hg:cm P r f R w0 S Y n k ops c h hb2 q [] l h):aa P r f R w0 S Y n (.code (.region id ops true)::k) l h:=by
 intro t w Ds hF hS
 refine .dI (fun τ=>?_)
 simp only [Region.schedule,hmix,Bool.true_or,if_true,Region.linearise]
 refine Dq.go ops.size τ _ [] q t h _ Ds (by simp) (fun j=>?_) (hg t hF) hS.drew ?_
 ·simp [Array.getD_eq_getD_getElem?,Array.getElem?_replicate];split<;>simp
 exact Nat.le_trans List.countP_le_length (by simp)
theorem cm.done (h0:av ops D=[]) (hg:aa P r f R w0 S Y n (.inRegion ops []::k) l h):cm P r f R w0 S Y n k ops c hb hb2 (q+1) D l h:=fun t hF=>.inl ⟨h0,fun w Ds hS=>hg t w Ds hF hS⟩
theorem cm.pk {hx:Hl} {i d:Nat} {v:Value} (h2:hb2.Sublist hb) (hic:Nat.beq i c=false) (hi:(av ops D).contains i=true) (hp:ec ops i=true) (ho:∀t,du n t l→dW P w0 S n hx ops i t d v) (hX:hx=hb2∨(hx=hb∧i∈aQ ops c∧c∉D)) (hs:(cur c hb hb2 D).Sublist h) (hg:cm P r f R w0 S Y n k ops c hb hb2 q (i::D) ((d,v)::l) h):cm P r f R w0 S Y n k ops c hb hb2 (q+1) D l h:=by
 intro t hF
 obtain ⟨d',hf⟩:=jE hp
 have hO:=ho t hF
 obtain ⟨o,h1,h2',h3,_⟩:=hO
 have e:d'=d:=by
  have:=hf.dst
  simp [aF,h1,h2'] at this;exact this.symm
 subst e
 exact Dq.pure h2 (by intro e;subst e;simp at hic) hf h3 hF.1 (by simpa using hi) (ho t hF) hX hs (hg _ (hF.put v (by simpa [Nat.blt_eq] using h3)))
theorem cm.u {i d:Nat} {v:Value} (hv:ah P w0 S n hb2 ops i l d v) (h2:hb2.Sublist hb) (hic:Nat.beq i c=false) (hi:(av ops D).contains i=true) (hp:ec ops i=true) (hs:(cur c hb hb2 D).Sublist h) (hg:cm P r f R w0 S Y n k ops c hb hb2 q (i::D) ((d,v)::l) h):cm P r f R w0 S Y n k ops c hb hb2 (q+1) D l h:=by
 refine cm.pk (hx:=hb2) h2 hic hi hp (fun t hF=>?_) (.inl rfl) hs hg
 obtain ⟨o,ho,hw,hdst,hnd,hd,hr⟩:=hv
 exact ⟨o,ho,hdst,by simpa [Nat.blt_eq] using hd,hnd,.inl ⟨bu hF hw,fun w Ds Y' hS=>by
  obtain ⟨nx,h1,rfl⟩:=hr t w Ds Y' hF hS;exact .inl h1⟩⟩
end
end Go.Proofs.Wit
namespace Go.Proofs.Wit
open Go Go.RowKit
section
variable {P:Program} {t:TypeId}
theorem qw {x m:Nat} {b:Int} (hb:b=m) (hm:m≠0):dF P .rem t (.int .i64 x) (.int .i64 b) (.int .i64 ((x%m:Nat):Int)):=bI _ (by
 subst hb
 show Op.intDiv .rem .i64 (x:Int) (m:Int)=_
 unfold Op.intDiv
 rw [if_neg (by omega)]
 rfl)
theorem oA {x m:Nat} {b:Int} (hb:b=m) (hm:m≠0):dF P .rem t (.int .u8 x) (.int .u8 b) (.int .u8 ((x%m:Nat):Int)):=bI _ (by
 subst hb
 show Op.intDiv .rem .u8 (x:Int) (m:Int)=_
 unfold Op.intDiv
 rw [if_neg (by omega)]
 rfl)
theorem tk {x m:Nat} {b:Int} (hb:b=m) (hm:m≠0) (hx:x<9223372036854775808):dF P .quo t (.int .i64 x) (.int .i64 b) (.int .i64 ((x / m:Nat):Int)):=bI _ (by
 subst hb
 have hd:x / m≤x:=Nat.div_le_self _ _
 show Op.intDiv .quo .i64 (x:Int) (m:Int)=_
 unfold Op.intDiv
 rw [if_neg (by omega)]
 show pure (Value.int .i64 (IntKind.i64.wrap ((x / m:Nat):Int)))=_
 obtain ⟨q,hq⟩:∃q,q=x / m:=⟨_,rfl⟩
 rw [←hq] at hd⊢
 rw [IntWalk.i64_in _ (by omega)])
end
section
variable {P:Program} {r:Option Nat} {f:FuncId} {R:Value→World→Prop} {w0:World} {S:List Nat} {Y:List (Nat×Obj)} {n:Nat} {k:List Item} {l:Fl} {h:Hl} {ops:Array Oper} {c:Nat} {hb hb2:Hl} {q:Nat} {D:List Nat}
theorem cm.cases {d:Nat} {b:Bool} (hv:look l d=some (.bool b)) (ht:b=true→cm P r f R w0 S Y n k ops c hb hb2 q D ((d,.bool true)::l) h) (hf:b=false→cm P r f R w0 S Y n k ops c hb hb2 q D ((d,.bool false)::l) h):cm P r f R w0 S Y n k ops c hb hb2 q D l h:=by
 intro t hF
 cases hb3:b with
 |true=>exact ht hb3 t (fq hF hv hb3)
 |false=>exact hf hb3 t (fq hF hv hb3)
theorem cm.no {i d:Nat} {o:Oper} (ho:ops[i]?=some o) (hw:fU ops l o.guard=true) (hdst:o.dst=some d) (hnd:bJ o.op=false) (hd:Nat.blt d n=true) (h2:hb2.Sublist hb) (hic:Nat.beq i c=false) (hi:(av ops D).contains i=true) (hp:ec ops i=true) (hs:(cur c hb hb2 D).Sublist h) (hg:cm P r f R w0 S Y n k ops c hb hb2 q (i::D) ((d,undef)::l) h):cm P r f R w0 S Y n k ops c hb hb2 (q+1) D l h:=
 cm.pk (hx:=hb2) h2 hic hi hp (fun _ hF=>⟨o,ho,hdst,by simpa [Nat.blt_eq] using hd,hnd,.inr ⟨e8 hF hw,rfl⟩⟩) (.inl rfl) hs hg
end
def V8 (x:Nat):Value:=.int .u8 (x:Int)
def eX (d:RD) (t p:Nat):Int:=(d.loc.getD t []).getD p 0
def dK (d:RD) (t n:Nat):Int:=aZ (fun p s=>max s (eX d t p)) n 0
def rm (s:Int) (p:Nat):Bool:=!((s.toNat - 1) / 3^p%3==0)
structure iS (n R:Nat) (ds:List RD):Prop where
  loc:∀d∈ds,d.loc.length=R+1∧d.lO.length=R+1∧∀l∈d.loc,l.length=n
  pos:∀d∈ds,∀p,p<n→0≤eX d R p∧eX d R p<1000
  one:∀d∈ds,∀p,p<n→eX d R p≠0→eX d R p=dK d R n
  bit:∀d∈ds,∀p,p<n→dK d R n≠0→rm (dK d R n) p=true→(d.lO.getD R 0#64).getLsbD p=(((dK d R n).toNat - 1) / 3^p%3==2)
def mb (n R:Nat) (d:RD):Bool:=
 decide (d.loc.length=R+1) && decide (d.lO.length=R+1) && d.loc.all (fun l=>decide (l.length=n)) &&
 (List.range n).all (fun p=>decide (0≤eX d R p∧eX d R p<1000) && decide (eX d R p≠0→eX d R p=dK d R n) && decide (dK d R n≠0→rm (dK d R n) p=true→(d.lO.getD R 0#64).getLsbD p=(((dK d R n).toNat - 1) / 3^p%3==2)))
theorem mY {n R:Nat} {ds:List RD} (h:∀d∈ds,mb n R d=true):iS n R ds:=by
 have key:∀d∈ds,(d.loc.length=R+1∧d.lO.length=R+1∧∀l∈d.loc,l.length=n)∧∀p,p<n→((0≤eX d R p∧eX d R p<1000)∧(eX d R p≠0→eX d R p=dK d R n))∧(dK d R n≠0→rm (dK d R n) p=true→(d.lO.getD R 0#64).getLsbD p=(((dK d R n).toNat - 1) / 3^p%3==2)):=fun d hd=>by
  have:=h d hd
  simp only [mb,Bool.and_eq_true,decide_eq_true_eq,List.all_eq_true,List.mem_range] at this
  exact ⟨⟨this.1.1.1,this.1.1.2,this.1.2⟩,this.2⟩
 exact ⟨fun d hd=>(key d hd).1,fun d hd p hp=>((key d hd).2 p hp).1.1,fun d hd p hp=>((key d hd).2 p hp).1.2,fun d hd p hp=>((key d hd).2 p hp).2⟩
theorem m4:∀F R,F<R→R≤2→∀x,x<4→∀d∈eE 2 F R x,mb 2 R d=true:=by
 have h:∀R,R≤2→∀F,F<R→∀x,x<4→∀d∈eE 2 F R x,mb 2 R d=true:=by decide+kernel
 exact fun F R h1 h2=>h R h2 F h1
theorem mZ:∀F R,F<R→R≤2→∀x,x<8→∀d∈eE 3 F R x,mb 3 R d=true:=by
 have h:∀R,R≤2→∀F,F<R→∀x,x<8→∀d∈eE 3 F R x,mb 3 R d=true:=by decide+kernel
 exact fun F R h1 h2=>h R h2 F h1
theorem oY {n F R:Nat} {xs:List Nat} (hn:2≤n∧n≤3) (h1:F<R) (h2:R≤2) (hx:∀x∈xs,x<2^n):iS n R (eD n F R xs):=mY (fun d hd=>by
 obtain ⟨x,hxm,hd⟩:=List.mem_flatMap.1 hd
 have:=hx x hxm
 rcases (show n=2∨n=3 by omega) with rfl|rfl
 ·exact m4 F R h1 h2 x this d hd
 exact mZ F R h1 h2 x this d hd)
theorem jF {n F R:Nat} (hn:2≤n∧n≤3) (h1:F≤1) (h2:R≤2):(aW n R n [] F).length≤25∧0<(aW n R n [] F).length:=by
 have h:∀n,n≤3→2≤n→∀F,F≤1→∀R,R≤2→(aW n R n [] F).length≤25∧0<(aW n R n [] F).length:=by decide+kernel
 exact h n hn.2 hn.1 F h1 R h2
end Go.Proofs.Wit
