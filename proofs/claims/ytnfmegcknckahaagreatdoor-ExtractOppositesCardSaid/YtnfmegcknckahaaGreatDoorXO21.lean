/- Laws of walks, for any program, under the conditions that each theorem states. -/
import Derived.Test.YtnfmegcknckahaaGreatDoorXO03
namespace Go.Proofs.Wit
open Go Go.RowKit
def cur (c:Nat) (hb hb2:Hl) (D:List Nat):Hl:=if D.contains c=true then hb2 else hb
theorem ze {c i:Nat} {hb hb2:Hl} {D:List Nat} (h2:hb2.Sublist hb):(cur c hb hb2 (i::D)).Sublist (cur c hb hb2 D):=by
 unfold cur
 by_cases h:D.contains c=true
 ·rw [if_pos h,if_pos (by rw [List.contains_cons,h,Bool.or_true])]
  exact List.Sublist.refl _
 rw [if_neg h]
 split
 ·exact h2
 exact List.Sublist.refl _
theorem Bx {c:Nat} {hb hb2:Hl} {D:List Nat} (h2:hb2.Sublist hb):hb2.Sublist (cur c hb hb2 D):=by
 unfold cur
 split
 ·exact List.Sublist.refl _
 exact h2
theorem wX {c:Nat} {hb hb2:Hl} {D D':List Nat} (h:∀j,j∈D↔j∈D'):cur c hb hb2 D=cur c hb hb2 D':=by
 unfold cur
 have:D.contains c=D'.contains c:=by rw [Bool.eq_iff_iff];simp [h c]
 rw [this]
theorem ec {c:Nat} {hb hb2:Hl} {D:List Nat} (h:D.contains c=false):cur c hb hb2 D=hb:=if_neg (by rw [h];simp)
theorem iX {c:Nat} {hb hb2:Hl} {D:List Nat} (h:D.contains c=true):cur c hb hb2 D=hb2:=if_pos h
section
variable {P:Program} {r:Option Nat} {f:FuncId} {R:Value→World→Prop} {w0:World} {S:List Nat} {Y:List (Nat×Obj)} {n:Nat} {k:List Item} {l:Fl} {h:Hl} {ops:Array Oper} {c:Nat} {hb hb2:Hl}
def BU (P:Program) (w0:World) (S:List Nat) (ops:Array Oper) (i:Nat) (t:Array Value) (h:Hl) (K:Hl→Prop):Prop:=
 ∃o,ops[i]?=some o∧o.dst=none∧eZ o.op=false∧eW o.op=true∧Region.wanted o (yielded ops t)=true∧∀(w:World) (Ds:List Nat) (Y':List (Nat×Obj)),St w0 S w h Y'→
  ∃w' h',(execOp (Act.eval ⟨t,Ds.map mark⟩) o).run P w=.ok .skip w'∧St w0 S w' h' Y'∧K h'
theorem BU.congr {i:Nat} {t t':Array Value} {K K':Hl→Prop} (hm:BU P w0 S ops i t h K) (hs:t'.size=t.size) (he:∀o,ops[i]?=some o→∀s∈fS ops o,t'.getD s undef=t.getD s undef)
  (hK:∀h',K h'→K' h'):BU P w0 S ops i t' h K':=by
 obtain ⟨o,ho,hdst,hnd,hsel,hwant,hr⟩:=hm
 have hw:=kl (ops:=ops) (o:=o) hs (he o ho)
 refine ⟨o,ho,hdst,hnd,hsel,hw.trans hwant,fun w Ds Y' hS=>?_⟩
 have hexec:execOp (Act.eval ⟨t',Ds.map mark⟩) o=execOp (Act.eval ⟨t,Ds.map mark⟩) o:=execOp_congr (ρ':=Act.eval ⟨t,Ds.map mark⟩) o (fun cs bb e=>by rw [e] at hsel;cases hsel) (fun x hx=>by
  cases x with
  |tmp s=>exact he o ho s (by
    simp only [fS,List.mem_append]
    exact .inr (List.mem_filterMap.2 ⟨.tmp s,by simpa using hx,rfl⟩))
  |const v=>rfl
  |global g=>rfl
  |func g=>rfl)
 rw [hexec]
 obtain ⟨w',h',h1,h2,h3⟩:=hr w Ds Y' hS
 exact ⟨w',h',h1,h2,hK h' h3⟩
def Dq (P:Program) (r:Option Nat) (f:FuncId) (R:Value→World→Prop) (w0:World) (S:List Nat) (Y:List (Nat×Obj)) (n:Nat) (k:List Item) (ops:Array Oper) (c:Nat) (hb hb2:Hl):Nat→List Nat→Array Value→Hl→Prop
 |0,_,_,_=>False
 |q+1,D,t,h=>
  (aB ops D=[]∧∀w Ds,St w0 S w h (mR Ds++Y)→dN P r f R (.inRegion ops []::k) t (Ds.map mark) w)∨
  (aB ops D≠[]∧∀i∈aB ops D,fV P w0 S n ops i t h (fun t' h'=>(cur c hb hb2 (i::D)).Sublist h'∧Dq P r f R w0 S Y n k ops c hb hb2 q (i::D) t' h')∨BU P w0 S ops i t h (fun h'=>(cur c hb hb2 (i::D)).Sublist h'∧Dq P r f R w0 S Y n k ops c hb hb2 q (i::D) t h'))
theorem Dq.perm:∀{q:Nat} {D D':List Nat} {t:Array Value} {h:Hl},(∀j,j∈D↔j∈D')→Dq P r f R w0 S Y n k ops c hb hb2 q D t h→Dq P r f R w0 S Y n k ops c hb hb2 q D' t h
 |0,_,_,_,_,_,hd=>hd
 |q+1,D,D',t,h,hp,hd=>by
  rw [Dq] at hd⊢
  rw [←mF hp]
  rcases hd with hd|⟨h1,h2⟩
  ·exact .inl hd
  refine .inr ⟨h1,fun i hi=>?_⟩
  have e3:cur c hb hb2 (i::D)=cur c hb hb2 (i::D'):=wX (fun j=>by simp only [List.mem_cons,hp j])
  have hp2:∀j,j∈i::D↔j∈i::D':=fun j=>by simp only [List.mem_cons,hp j]
  rcases h2 i hi with h3|h3
  ·exact .inl (h3.mono (fun t' h' ⟨e1,e2⟩=>⟨by rw [←e3];exact e1,e2.perm hp2⟩))
  exact .inr (h3.congr rfl (fun _ _ _ _=>rfl) (fun h' ⟨e1,e2⟩=>⟨by rw [←e3];exact e1,e2.perm hp2⟩))
theorem Dq.pure (h2:hb2.Sublist hb) {hx:Hl} {i d:Nat} (hic:i≠c) (hf:zL ops i d) (hd:d<n):∀{q:Nat} {D:List Nat} {t:Array Value} {h:Hl} {v:Value},t.size=n→i∈aB ops D→jx P w0 S n hx ops i t d v→(hx=hb2∨(hx=hb∧i∈bP ops c∧c∉D))→(cur c hb hb2 D).Sublist h→Dq P r f R w0 S Y n k ops c hb hb2 q (i::D) (t.setIfInBounds d v) h→Dq P r f R w0 S Y n k ops c hb hb2 (q+1) D t h
 |0,_,_,_,_,_,_,_,_,_,hd=>hd.elim
 |q+1,D,t,h,v,hts,hi,ho,hX,hs,hdt=>by
  have hsx:hx.Sublist h:=by
   rcases hX with rfl|⟨rfl,_,h4⟩
   ·exact (Bx h2).trans hs
   have:cur c hx hb2 D=hx:=if_neg (by simpa using h4)
   rw [this] at hs;exact hs
  have hme:fV P w0 S n ops i t h (fun t' h'=>(cur c hb hb2 (i::D)).Sublist h'∧Dq P r f R w0 S Y n k ops c hb hb2 (q+1) (i::D) t' h'):=fV.pure ho hf.xS hsx ⟨(ze h2).trans hs,hdt⟩
  have hne:aB ops D≠[]:=fun e=>by rw [e] at hi;cases hi
  obtain ⟨hiS,hiD,hid⟩:=bL.1 hi
  rw [Dq]
  refine .inr ⟨hne,fun j hj=>?_⟩
  by_cases hji:j=i
  ·rw [hji];exact .inl hme
  obtain ⟨hjS,hjD,hjd⟩:=bL.1 hj
  have hj2:j∈aB ops (i::D):=bL.2 ⟨hjS,by simp [hji,hjD],fun e he=>List.mem_cons_of_mem _ (hjd e he)⟩
  rw [Dq] at hdt
  rcases hdt with ⟨h1,_⟩|⟨_,h3⟩
  ·rw [h1] at hj2;cases hj2
  have hjo:∀o,ops[j]?=some o→d∉fS ops o:=fun o hoo hm=>(hf.seen j o hjS hji hoo hm).elim (fun h5=>hiD (hjd i h5)) (fun h5=>hjD (hid j h5))
  have hjt:∀o,ops[j]?=some o→∀s∈fS ops o,t.getD s undef=(t.setIfInBounds d v).getD s undef:=fun o hoo s hse=>by
   have hds:d≠s:=fun e1=>hjo o hoo (by rw [e1];exact hse)
   rw [cu (by rw [hts];exact hd),if_neg hds]
  have hX':hx=hb2∨(hx=hb∧i∈bP ops c∧c∉j::D):=by
   rcases hX with h5|⟨h5,h6,h7⟩
   ·exact .inl h5
   refine .inr ⟨h5,h6,fun h8=>?_⟩
   rcases List.mem_cons.1 h8 with h8|h8
   ·subst h8;exact hiD (hjd i h6)
   exact h7 h8
  have hk0:cur c hb hb2 (j::D)=cur c hb hb2 (j::i::D):=by
   unfold cur
   have e:(j::D).contains c=(j::i::D).contains c:=by
    rw [Bool.eq_iff_iff];simp only [List.contains_eq_mem,decide_eq_true_eq,List.mem_cons]
    constructor
    ·rintro (h|h)
     ·exact .inl h
     ·exact .inr (.inr h)
    rintro (h|h|h)
    ·exact .inl h
    ·exact absurd h.symm hic
    exact .inr h
   rw [e]
  have hi2:i∈aB ops (j::D):=bL.2 ⟨hiS,by simp [Ne.symm hji,hiD],fun e he=>List.mem_cons_of_mem _ (hid e he)⟩
  rcases h3 j hj2 with h3|h3
  ·refine .inl (h3.congr (by simp) hjt (fun e u h' hde hk=>?_))
   obtain ⟨hk1,hk2⟩:=hk
   refine ⟨by rw [hk0];exact hk1,?_⟩
   have hde2:d≠e:=fun e1=>hf.one j hjS hji (by rw [hde,e1])
   rw [set_comm hde2] at hk2
   refine Dq.pure h2 hic hf hd (by simpa using hts) hi2 (ho.congr hf.xS (by simp) (fun o hoo s hse=>?_)) hX' (by rw [hk0];exact hk1) (hk2.perm (fun x=>by simp only [List.mem_cons];exact or_left_comm))
   have hes:e≠s:=fun e1=>by
    subst e1
    rcases hf.CQ j e o hjS hji hde hoo hse with h5|h5
    ·exact hjD (hid j h5)
    exact hiD (hjd i h5)
   by_cases hlt:e<t.size
   ·rw [cu hlt,if_neg hes]
   rw [show t.setIfInBounds e u=t from Array.setIfInBounds_eq_of_size_le (Nat.le_of_not_lt hlt)]
  refine .inr (h3.congr (by simp) hjt (fun h' hk=>?_))
  obtain ⟨hk1,hk2⟩:=hk
  exact ⟨by rw [hk0];exact hk1,Dq.pure h2 hic hf hd hts hi2 ho hX' (by rw [hk0];exact hk1) (hk2.perm (fun x=>by simp only [List.mem_cons];exact or_left_comm))⟩
theorem Dq.go:∀(fuel τ:Nat) (arr:Array Bool) (D:List Nat) (q:Nat) (t:Array Value) (h:Hl) (w:World) (Ds:List Nat),arr.size=ops.size→(∀j,arr.getD j false=D.contains j)→Dq P r f R w0 S Y n k ops c hb hb2 q D t h→St w0 S w h (mR Ds++Y)→(List.range ops.size).countP (fun j=>!D.contains j)≤fuel→
  dN P r f R (.inRegion ops (Region.linearise.go .any ops fuel τ arr [])::k) t (Ds.map mark) w
 |_,_,_,_,0,_,_,_,_,_,_,hd,_,_=>hd.elim
 |fuel,τ,arr,D,q+1,t,h,w,Ds,hs,ha,hd,hS,hfu=>by
  rw [Dq] at hd
  rcases hd with ⟨h0,hg⟩|⟨h1,h2⟩
  ·have:Region.linearise.go .any ops fuel τ arr []=[]:=by
    cases fuel with
    |zero=>rfl
    |succ fuel=>
     simp only [Region.linearise.go]
     change (match (Region.ready .any ops arr)[_%(Region.ready .any ops arr).length]? with
      |some i=>_
      |none=>[].reverse)=[]
     rw [jY hs ha,h0];rfl
   rw [this];exact hg w Ds hS
  cases fuel with
  |zero=>
   exfalso
   obtain ⟨x,hx⟩:=List.exists_mem_of_ne_nil _ h1
   obtain ⟨e1,e2,_⟩:=bL.1 hx
   have:0<(List.range ops.size).countP (fun j=>!D.contains j):=List.countP_pos_iff.2 ⟨x,by simpa using e1,by simpa using e2⟩
   omega
  |succ fuel=>
   have hpos:0<(aB ops D).length:=List.length_pos_iff.2 h1
   simp only [Region.linearise.go]
   change dN P r f R (.inRegion ops (match (Region.ready .any ops arr)[τ%(Region.ready .any ops arr).length]? with
    |some i=>Region.linearise.go .any ops fuel (τ / (Region.ready .any ops arr).length) (arr.setIfInBounds i true) [i]
    |none=>[].reverse)::k) t (Ds.map mark) w
   rw [jY hs ha]
   have hlt:τ%(aB ops D).length<(aB ops D).length:=Nat.mod_lt _ hpos
   rw [List.getElem?_eq_getElem hlt]
   obtain ⟨x,hx⟩:∃x,x=(aB ops D)[τ%(aB ops D).length]:=⟨_,rfl⟩
   rw [←hx]
   have hxm:x∈aB ops D:=by rw [hx];exact List.getElem_mem hlt
   obtain ⟨e1,e2,_⟩:=bL.1 hxm
   dsimp only
   rw [linearise_go_acc,List.reverse_singleton,List.singleton_append]
   have hnext:∀(t':Array Value) (h':Hl) (w':World),(cur c hb hb2 (x::D)).Sublist h'∧Dq P r f R w0 S Y n k ops c hb hb2 q (x::D) t' h'→St w0 S w' h' (mR Ds++Y)→dN P r f R (.inRegion ops (Region.linearise.go .any ops fuel (τ / (aB ops D).length) (arr.setIfInBounds x true) [])::k) t' (Ds.map mark) w':=fun t' h' w' hK hS'=>by
    refine Dq.go fuel _ _ (x::D) q t' h' w' Ds (by simpa using hs) (fun j=>?_) hK.2 hS' ?_
    ·rw [aJ (by omega),ha j,List.contains_cons]
     split
     ·rename_i e;subst e;simp
     rename_i e;rw [beq_false_of_ne (Ne.symm e)];rfl
    have:=lP (l:=List.range ops.size) (p:=fun j=>!(x::D).contains j) (q:=fun j=>!D.contains j) (fun y _ hy=>by simp at hy⊢;exact hy.2) ⟨x,by simpa using e1,by simpa using e2,by simp⟩
    omega
   rcases h2 x hxm with h2x|h2x
   case inr=>
    obtain ⟨o,ho,hdst,hnd,hsel,hw,hr⟩:=h2x
    obtain ⟨w',h',h3,h4,h5⟩:=hr w Ds _ hS
    refine dN.op ho hw (cS hnd) h3 (.inr ⟨rfl,rfl⟩) ?_
    rw [hdst];exact hnext _ _ _ h5 h4
   obtain ⟨o,d,ho,hdst,hnd,hsel,hdn,hr⟩:=h2x
   rcases hr with ⟨hw,hr⟩|⟨hw,hk⟩
   ·rcases hr w Ds _ hS with ⟨v,w',h',h3,h4,h5⟩|⟨gf,args,Rc,h3,h4,h5⟩
    ·refine dN.op ho hw (cS hnd) h3 (.inl rfl) ?_
     rw [hdst];exact hnext _ _ _ h5 h4
    ·refine dN.call ho hw (cS hnd) h3 h4 (fun u w2 hu=>?_)
     obtain ⟨h',h6,h7⟩:=h5 u w2 hu
     rw [hdst];exact hnext _ _ _ h7 h6
   refine dN.nM ho hw ?_
   rw [hdst];exact hnext _ _ _ hk hS
def eP (P:Program) (r:Option Nat) (f:FuncId) (R:Value→World→Prop) (w0:World) (S:List Nat) (Y:List (Nat×Obj)) (n:Nat) (k:List Item) (ops:Array Oper) (c:Nat) (hb hb2:Hl) (q:Nat) (D:List Nat) (l:Fl) (h:Hl):Prop:=
 ∀t,jv n t l→Dq P r f R w0 S Y n k ops c hb hb2 q D t h
variable {q:Nat} {D:List Nat}
theorem ab.zb {id:Nat} (q c:Nat) (hb2:Hl) (hmix:P.follows .mixedOrders=true) (hg:eP P r f R w0 S Y n k ops c h hb2 q [] l h):ab P r f R w0 S Y n (.code (.region id ops true)::k) l h:=by
 intro t w Ds hF hS
 refine .i7 (fun τ=>?_)
 simp only [Region.schedule,hmix,Bool.true_or,if_true,Region.linearise]
 refine Dq.go ops.size τ _ [] q t h _ Ds (by simp) (fun j=>?_) (hg t hF) hS.drew ?_
 ·simp [Array.getD_eq_getD_getElem?,Array.getElem?_replicate];split<;>simp
 exact Nat.le_trans List.countP_le_length (by simp)
theorem eP.done (h0:aB ops D=[]) (hg:ab P r f R w0 S Y n (.inRegion ops []::k) l h):eP P r f R w0 S Y n k ops c hb hb2 (q+1) D l h:=fun t hF=>.inl ⟨h0,fun w Ds hS=>hg t w Ds hF hS⟩
theorem eP.ye {hx:Hl} {i d:Nat} {v:Value} (h2:hb2.Sublist hb) (hic:Nat.beq i c=false) (hi:(aB ops D).contains i=true) (hp:jM ops i=true) (ho:∀t,jv n t l→jx P w0 S n hx ops i t d v) (hX:hx=hb2∨(hx=hb∧i∈bP ops c∧c∉D)) (hs:(cur c hb hb2 D).Sublist h) (hg:eP P r f R w0 S Y n k ops c hb hb2 q (i::D) ((d,v)::l) h):eP P r f R w0 S Y n k ops c hb hb2 (q+1) D l h:=by
 intro t hF
 obtain ⟨d',hf⟩:=sQ hp
 have hO:=ho t hF
 obtain ⟨o,h1,h2',h3,_⟩:=hO
 have e:d'=d:=by
  have:=hf.dst
  simp [bj,h1,h2'] at this;exact this.symm
 subst e
 exact Dq.pure h2 (by intro e;subst e;simp at hic) hf h3 hF.1 (by simpa using hi) (ho t hF) hX hs (hg _ (hF.put v (by simpa [Nat.blt_eq] using h3)))
theorem eP.v {i d:Nat} {v:Value} (hv:ae P w0 S n hb ops i l d v) (h2:hb2.Sublist hb) (hic:Nat.beq i c=false) (hi:(aB ops D).contains i=true) (hp:jM ops i=true) (hX:((bP ops c).contains i && !D.contains c)=true) (hs:hb.Sublist h) (hg:eP P r f R w0 S Y n k ops c hb hb2 q (i::D) ((d,v)::l) h):eP P r f R w0 S Y n k ops c hb hb2 (q+1) D l h:=by
 rw [Bool.and_eq_true,Bool.not_eq_true'] at hX
 refine eP.ye (hx:=hb) h2 hic hi hp (fun t hF=>?_) (.inr ⟨rfl,by simpa using hX.1,by simpa using hX.2⟩) (by unfold cur;rw [if_neg (by rw [hX.2];simp)];exact hs) hg
 obtain ⟨o,ho,hw,hdst,hnd,hd,hr⟩:=hv
 exact ⟨o,ho,hdst,by simpa [Nat.blt_eq] using hd,hnd,.inl ⟨eI hF hw,fun w Ds Y' hS=>by
  obtain ⟨nx,h1,rfl⟩:=hr t w Ds Y' hF hS;exact .inl h1⟩⟩
theorem eP.u {i d:Nat} {v:Value} (hv:ae P w0 S n hb2 ops i l d v) (h2:hb2.Sublist hb) (hic:Nat.beq i c=false) (hi:(aB ops D).contains i=true) (hp:jM ops i=true) (hs:(cur c hb hb2 D).Sublist h) (hg:eP P r f R w0 S Y n k ops c hb hb2 q (i::D) ((d,v)::l) h):eP P r f R w0 S Y n k ops c hb hb2 (q+1) D l h:=by
 refine eP.ye (hx:=hb2) h2 hic hi hp (fun t hF=>?_) (.inl rfl) hs hg
 obtain ⟨o,ho,hw,hdst,hnd,hd,hr⟩:=hv
 exact ⟨o,ho,hdst,by simpa [Nat.blt_eq] using hd,hnd,.inl ⟨eI hF hw,fun w Ds Y' hS=>by
  obtain ⟨nx,h1,rfl⟩:=hr t w Ds Y' hF hS;exact .inl h1⟩⟩
theorem eP.one {i d:Nat} (h1:aB ops D=[i]) (hm:dk P w0 S n h ops i l d (fun v h'=>(cur c hb hb2 (i::D)).Sublist h'∧eP P r f R w0 S Y n k ops c hb hb2 q (i::D) ((d,v)::l) h')) (hd:Nat.blt d n=true):eP P r f R w0 S Y n k ops c hb hb2 (q+1) D l h:=by
 intro t hF
 rw [Dq]
 refine .inr ⟨by rw [h1];simp,fun j hj=>?_⟩
 rw [h1] at hj;obtain rfl:=List.mem_singleton.1 hj
 exact .inl (fV.of hm hF (fun v h' ⟨e1,e2⟩=>⟨e1,e2 _ (hF.put v hd)⟩))
theorem eP.call {i d:Nat} {ty:TypeId} {pos:String} {aft:Array Edge} {g:Option (Nat×Bool)} {az:Array Operand} {ts:Array TypeId} {cal:Operand} {gf:FuncId} {vs:List Value} (Rc:World→Value→World→Prop) (h1:aB ops D=[i]) (ho:ops[i]?=some ⟨some d,.call ⟨.value cal,az,ts⟩,ty,pos,aft,g⟩) (hw:au ops l g=true)
  (hc:aU l cal=some (.func (.func gf) #[] #[])) (hx:dq l az.toList=some vs) (hd:Nat.blt d n=true) (hcf:∀args w,(callFunc gf args).run P w=.ok (.enter gf args) w)
  (hcall:∀w Y',St w0 S w h Y'→Cn P gf vs w (Rc w))
  (hk:∀v w w' Y',St w0 S w h Y'→Ex [] w w'→Rc w v w'→∃h',St w0 S w' h' Y'∧(cur c hb hb2 (i::D)).Sublist h'∧eP P r f R w0 S Y n k ops c hb hb2 q (i::D) ((d,v)::l) h'):eP P r f R w0 S Y n k ops c hb hb2 (q+1) D l h:=
 eP.one h1 (dk.call Rc ho hw hc hx hd hcf hcall (fun v w w' Y' hS he hr=>by
  obtain ⟨h',e1,e2,e3⟩:=hk v w w' Y' hS he hr;exact ⟨h',e1,e2,e3⟩)) hd
theorem eP.cC {i d:Nat} {v:Value} {ty:TypeId} {pos:String} {aft:Array Edge} {g:Option (Nat×Bool)} {az:Array Operand} {ts:Array TypeId} {cal:Operand} {gf:FuncId} {vs:List Value} (h1:aB ops D=[i]) (ho:ops[i]?=some ⟨some d,.call ⟨.value cal,az,ts⟩,ty,pos,aft,g⟩) (hw:au ops l g=true)
  (hc:aU l cal=some (.func (.func gf) #[] #[])) (hx:dq l az.toList=some vs) (hd:Nat.blt d n=true) (hcf:∀args w,(callFunc gf args).run P w=.ok (.enter gf args) w)
  (hcall:∀w Y',St w0 S w h Y'→Cn P gf vs w (fun u _=>u=v)) (hs:(cur c hb hb2 (i::D)).Sublist h) (hg:eP P r f R w0 S Y n k ops c hb hb2 q (i::D) ((d,v)::l) h):eP P r f R w0 S Y n k ops c hb hb2 (q+1) D l h:=
 eP.call (fun _ u _=>u=v) h1 ho hw hc hx hd hcf hcall (fun _u _ _ _ hS he e=>⟨h,hS.later he,hs,e ▸ hg⟩)
theorem eP.st {i:Nat} {ty:TypeId} {pos:String} {aft:Array Edge} {g:Option (Nat×Bool)} {t:TypeId} {x y:Operand} {b off:Nat} {cs:Array Value} {e:TypeId} {v:Value} (h1:aB ops D=[i]) (ho:ops[i]?=some ⟨none,.store t x y,ty,pos,aft,g⟩) (hw:au ops l g=true)
  (hx:aU l x=some (.pointer (some ⟨b,off,none⟩))) (hy:aU l y=some v) (hz:∀w,(sizeOf t).run P w=.ok 1 w) (hv:v.oneCell'=true) (j:Nat) (hj:h[j]?=some (some b,.cells cs e (0,0))) (hoff:Nat.blt off cs.size=true)
  (hs:(cur c hb hb2 (i::D)).Sublist (h.set j (some b,.cells (cs.setIfInBounds off v) e (0,0))))
  (hk:eP P r f R w0 S Y n k ops c hb hb2 q (i::D) l (h.set j (some b,.cells (cs.setIfInBounds off v) e (0,0)))):eP P r f R w0 S Y n k ops c hb hb2 (q+1) D l h:=by
 intro t' hF
 rw [Dq]
 refine .inr ⟨by rw [h1];simp,fun i' hi=>?_⟩
 rw [h1] at hi;obtain rfl:=List.mem_singleton.1 hi
 refine .inr ⟨_,ho,rfl,rfl,rfl,eI hF hw,fun w Ds Y' hS=>?_⟩
 refine ⟨w.setCell ⟨b,off,none⟩ v,_,?_,hS.pf hj (o':=.cells (cs.setIfInBounds off v) e (0,0)) rfl rfl rfl rfl ?_ ?_ ?_,hs,hk t' hF⟩
 ·simp only [execOp,hF.aU hx,hF.aU hy,Sem.run_bind,qM hz (hS.get hj) (by simpa [Nat.blt_eq] using hoff) hv];rfl
 ·simp [World.setCell]
 ·obtain ⟨hlt,hg⟩:=Array.getElem?_eq_some_iff.1 (hS.get hj)
  simp only [World.setCell]
  rw [Array.getElem?_modify,if_pos rfl,hS.get hj];rfl
 intro q _ hq
 exact Below.heap_setCell _ _ _ _ hq
theorem eP.xJ {α:Type} (enc:α→Value) (v:α) {i:Nat} {ty:TypeId} {pos:String} {aft:Array Edge} {g:Option (Nat×Bool)} {t:TypeId} {x y:Operand} {b m:Nat} {xs:List α} {sp:List Value} {e:TypeId} (h1:aB ops D=[i]) (ho:ops[i]?=some ⟨none,.store t x y,ty,pos,aft,g⟩) (hw:au ops l g=true)
  (hx:aU l x=some (.pointer (some ⟨b,0+m*1,none⟩))) (hy:aU l y=some (enc v)) (hz:∀w,(sizeOf t).run P w=.ok 1 w) (hv:(enc v).oneCell'=true) (j:Nat) (hj:h[j]?=some (some b,ob enc e xs sp)) (hq:m<xs.length)
  (hs:(cur c hb hb2 (i::D)).Sublist (h.set j (some b,ob enc e (xs.set m v) sp)))
  (hk:eP P r f R w0 S Y n k ops c hb hb2 q (i::D) l (h.set j (some b,ob enc e (xs.set m v) sp))):eP P r f R w0 S Y n k ops c hb hb2 (q+1) D l h:=by
 have:((xs.map enc++sp).toArray.setIfInBounds (0+m*1) (enc v))=((xs.set m v).map enc++sp).toArray:=by
  rw [Nat.zero_add,Nat.mul_one,List.map_set]
  have hq2:m<(xs.map enc).length:=by simpa using hq
  simp [List.set_append_left _ _ hq2]
 refine eP.st h1 ho hw hx hy hz hv j hj (by rw [Nat.blt_eq];simp;omega) ?_ ?_
 ·rw [this];exact hs
 rw [this];exact hk
end
end Go.Proofs.Wit
