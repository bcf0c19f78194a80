/- Laws of walks, for any program, under the conditions that each theorem states. -/
import Derived.Test.YtaamcaiglooemaaGreatDoorXF03
set_option maxRecDepth 100000
set_option maxHeartbeats 4000000
namespace Go.Proofs.Wit
open Go Go.RowKit
def cur (c:Nat) (hb hb2:Hl) (D:List Nat):Hl:=if D.contains c=true then hb2 else hb
theorem rU {c i:Nat} {hb hb2:Hl} {D:List Nat} (h2:hb2.Sublist hb):(cur c hb hb2 (i::D)).Sublist (cur c hb hb2 D):=by
 unfold cur;by_cases h:D.contains c=true;rw [if_pos h,if_pos (by rw [List.contains_cons,h,Bool.or_true])];exact List.Sublist.refl _;rw [if_neg h];split;exact h2;exact List.Sublist.refl _
theorem Ek {c:Nat} {hb hb2:Hl} {D:List Nat} (h2:hb2.Sublist hb):hb2.Sublist (cur c hb hb2 D):=by
 unfold cur;split;exact List.Sublist.refl _;exact h2
theorem zK {c:Nat} {hb hb2:Hl} {D D':List Nat} (h:∀j,j∈D↔j∈D'):cur c hb hb2 D=cur c hb hb2 D':=by
 unfold cur;have:D.contains c=D'.contains c:=by rw [Bool.eq_iff_iff];simp [h c]
 rw [this]
theorem ak {c:Nat} {hb hb2:Hl} {D:List Nat} (h:D.contains c=false):cur c hb hb2 D=hb:=if_neg (by rw [h];simp)
theorem bV {c:Nat} {hb hb2:Hl} {D:List Nat} (h:D.contains c=true):cur c hb hb2 D=hb2:=if_pos h
section
variable {P:Program} {r:Option Nat} {f:FuncId} {R:Value→World→Prop} {w0:World} {S:List Nat} {Y:List (Nat×Obj)} {n:Nat} {k:List Item} {l:Fl} {h:Hl} {ops:Array Oper} {c:Nat} {hb hb2:Hl}
def ER (P:Program) (w0:World) (S:List Nat) (ops:Array Oper) (i:Nat) (t:Array Value) (h:Hl) (K:Hl→Prop):Prop:=
 ∃o,ops[i]?=some o∧o.dst=none∧fO o.op=false∧fH o.op=true∧Region.wanted o (yielded ops t)=true∧∀(w:World) (Ds:List Nat) (Y':List (Nat×Obj)),St w0 S w h Y'→
  ∃w' h',(execOp (Act.eval ⟨t,Ds.map mark⟩) o).run P w=.ok .skip w'∧St w0 S w' h' Y'∧K h'
theorem ER.congr {i:Nat} {t t':Array Value} {K K':Hl→Prop} (hm:ER P w0 S ops i t h K) (hs:t'.size=t.size) (he:∀o,ops[i]?=some o→∀s∈gG ops o,t'.getD s undef=t.getD s undef)
  (hK:∀h',K h'→K' h'):ER P w0 S ops i t' h K':=by
 obtain ⟨o,ho,hdst,hnd,hsel,hwant,hr⟩:=hm;have hw:=lA (ops:=ops) (o:=o) hs (he o ho);refine ⟨o,ho,hdst,hnd,hsel,hw.trans hwant,fun w Ds Y' hS=>?_⟩;have hexec:execOp (Act.eval ⟨t',Ds.map mark⟩) o=execOp (Act.eval ⟨t,Ds.map mark⟩) o:=execOp_congr (ρ':=Act.eval ⟨t,Ds.map mark⟩) o (fun cs bb e=>by rw [e] at hsel;cases hsel) (fun x hx=>by
  cases x with
  |tmp s=>exact he o ho s (by
    simp only [gG,List.mem_append];exact .inr (List.mem_filterMap.2 ⟨.tmp s,by simpa using hx,rfl⟩))
  |const v=>rfl
  |global g=>rfl
  |func g=>rfl);rw [hexec];obtain ⟨w',h',h1,h2,h3⟩:=hr w Ds Y' hS;exact ⟨w',h',h1,h2,hK h' h3⟩
def Dq (P:Program) (r:Option Nat) (f:FuncId) (R:Value→World→Prop) (w0:World) (S:List Nat) (Y:List (Nat×Obj)) (n:Nat) (k:List Item) (ops:Array Oper) (c:Nat) (hb hb2:Hl):Nat→List Nat→Array Value→Hl→Prop
 |0,_,_,_=>False
 |q+1,D,t,h=>
  (aw ops D=[]∧∀w Ds,St w0 S w h (ou Ds++Y)→dR P r f R (.inRegion ops []::k) t (Ds.map mark) w)∨
  (aw ops D≠[]∧∀i∈aw ops D,eH P w0 S n ops i t h (fun t' h'=>(cur c hb hb2 (i::D)).Sublist h'∧Dq P r f R w0 S Y n k ops c hb hb2 q (i::D) t' h')∨ER P w0 S ops i t h (fun h'=>(cur c hb hb2 (i::D)).Sublist h'∧Dq P r f R w0 S Y n k ops c hb hb2 q (i::D) t h'))
theorem Dq.perm:∀{q:Nat} {D D':List Nat} {t:Array Value} {h:Hl},(∀j,j∈D↔j∈D')→Dq P r f R w0 S Y n k ops c hb hb2 q D t h→Dq P r f R w0 S Y n k ops c hb hb2 q D' t h
 |0,_,_,_,_,_,hd=>hd
 |q+1,D,D',t,h,hp,hd=>by
  rw [Dq] at hd⊢;rw [←lD hp];rcases hd with hd|⟨h1,h2⟩;exact .inl hd;refine .inr ⟨h1,fun i hi=>?_⟩;have e3:cur c hb hb2 (i::D)=cur c hb hb2 (i::D'):=zK (fun j=>by simp only [List.mem_cons,hp j]);have hp2:∀j,j∈i::D↔j∈i::D':=fun j=>by simp only [List.mem_cons,hp j]
  rcases h2 i hi with h3|h3;exact .inl (h3.mono (fun t' h' ⟨e1,e2⟩=>⟨by rw [←e3];exact e1,e2.perm hp2⟩));exact .inr (h3.congr rfl (fun _ _ _ _=>rfl) (fun h' ⟨e1,e2⟩=>⟨by rw [←e3];exact e1,e2.perm hp2⟩))
theorem Dq.pure (h2:hb2.Sublist hb) {hx:Hl} {i d:Nat} (hic:i≠c) (hf:yU ops i d) (hd:d<n):∀{q:Nat} {D:List Nat} {t:Array Value} {h:Hl} {v:Value},t.size=n→i∈aw ops D→jB P w0 S n hx ops i t d v→(hx=hb2∨(hx=hb∧i∈cG ops c∧c∉D))→(cur c hb hb2 D).Sublist h→Dq P r f R w0 S Y n k ops c hb hb2 q (i::D) (t.setIfInBounds d v) h→Dq P r f R w0 S Y n k ops c hb hb2 (q+1) D t h
 |0,_,_,_,_,_,_,_,_,_,hd=>hd.elim
 |q+1,D,t,h,v,hts,hi,ho,hX,hs,hdt=>by
  have hsx:hx.Sublist h:=by
   rcases hX with rfl|⟨rfl,_,h4⟩;exact (Ek h2).trans hs;have:cur c hx hb2 D=hx:=if_neg (by simpa using h4);rw [this] at hs;exact hs
  have hme:eH P w0 S n ops i t h (fun t' h'=>(cur c hb hb2 (i::D)).Sublist h'∧Dq P r f R w0 S Y n k ops c hb hb2 (q+1) (i::D) t' h'):=eH.pure ho hf.Ay hsx ⟨(rU h2).trans hs,hdt⟩;have hne:aw ops D≠[]:=fun e=>by rw [e] at hi;cases hi
  obtain ⟨hiS,hiD,hid⟩:=cy.1 hi;rw [Dq];refine .inr ⟨hne,fun j hj=>?_⟩;by_cases hji:j=i;rw [hji];exact .inl hme;obtain ⟨hjS,hjD,hjd⟩:=cy.1 hj;have hj2:j∈aw ops (i::D):=cy.2 ⟨hjS,by simp [hji,hjD],fun e he=>List.mem_cons_of_mem _ (hjd e he)⟩;rw [Dq] at hdt;rcases hdt with ⟨h1,_⟩|⟨_,h3⟩;rw [h1] at hj2;cases hj2;have hjo:∀o,ops[j]?=some o→d∉gG ops o:=fun o hoo hm=>(hf.seen j o hjS hji hoo hm).elim (fun h5=>hiD (hjd i h5)) (fun h5=>hjD (hid j h5));have hjt:∀o,ops[j]?=some o→∀s∈gG ops o,t.getD s undef=(t.setIfInBounds d v).getD s undef:=fun o hoo s hse=>by
   have hds:d≠s:=fun e1=>hjo o hoo (by rw [e1];exact hse);rw [cQ (by rw [hts];exact hd),if_neg hds]
  have hX':hx=hb2∨(hx=hb∧i∈cG ops c∧c∉j::D):=by
   rcases hX with h5|⟨h5,h6,h7⟩;exact .inl h5;refine .inr ⟨h5,h6,fun h8=>?_⟩;rcases List.mem_cons.1 h8 with h8|h8;subst h8;exact hiD (hjd i h6);exact h7 h8
  have hk0:cur c hb hb2 (j::D)=cur c hb hb2 (j::i::D):=by
   unfold cur;have e:(j::D).contains c=(j::i::D).contains c:=by
    rw [Bool.eq_iff_iff];simp only [List.contains_eq_mem,decide_eq_true_eq,List.mem_cons];constructor;rintro (h|h);exact .inl h;exact .inr (.inr h);rintro (h|h|h);exact .inl h;exact absurd h.symm hic;exact .inr h
   rw [e]
  have hi2:i∈aw ops (j::D):=cy.2 ⟨hiS,by simp [Ne.symm hji,hiD],fun e he=>List.mem_cons_of_mem _ (hid e he)⟩;rcases h3 j hj2 with h3|h3;refine .inl (h3.congr (by simp) hjt (fun e u h' hde hk=>?_));obtain ⟨hk1,hk2⟩:=hk;refine ⟨by rw [hk0];exact hk1,?_⟩;have hde2:d≠e:=fun e1=>hf.one j hjS hji (by rw [hde,e1]);rw [set_comm hde2] at hk2;refine Dq.pure h2 hic hf hd (by simpa using hts) hi2 (ho.congr hf.Ay (by simp) (fun o hoo s hse=>?_)) hX' (by rw [hk0];exact hk1) (hk2.perm (fun x=>by simp only [List.mem_cons];exact or_left_comm));have hes:e≠s:=fun e1=>by
   subst e1;rcases hf.FX j e o hjS hji hde hoo hse with h5|h5;exact hjD (hid j h5);exact hiD (hjd i h5)
  by_cases hlt:e<t.size;rw [cQ hlt,if_neg hes];rw [show t.setIfInBounds e u=t from Array.setIfInBounds_eq_of_size_le (Nat.le_of_not_lt hlt)];refine .inr (h3.congr (by simp) hjt (fun h' hk=>?_));obtain ⟨hk1,hk2⟩:=hk;exact ⟨by rw [hk0];exact hk1,Dq.pure h2 hic hf hd hts hi2 ho hX' (by rw [hk0];exact hk1) (hk2.perm (fun x=>by simp only [List.mem_cons];exact or_left_comm))⟩
theorem Dq.go:∀(fuel τ:Nat) (arr:Array Bool) (D:List Nat) (q:Nat) (t:Array Value) (h:Hl) (w:World) (Ds:List Nat),arr.size=ops.size→(∀j,arr.getD j false=D.contains j)→Dq P r f R w0 S Y n k ops c hb hb2 q D t h→St w0 S w h (ou Ds++Y)→(List.range ops.size).countP (fun j=>!D.contains j)≤fuel→
  dR P r f R (.inRegion ops (Region.linearise.go .any ops fuel τ arr [])::k) t (Ds.map mark) w
 |_,_,_,_,0,_,_,_,_,_,_,hd,_,_=>hd.elim
 |fuel,τ,arr,D,q+1,t,h,w,Ds,hs,ha,hd,hS,hfu=>by
  rw [Dq] at hd;rcases hd with ⟨h0,hg⟩|⟨h1,h2⟩;have:Region.linearise.go .any ops fuel τ arr []=[]:=by
   cases fuel with
   |zero=>rfl
   |succ fuel=>
    simp only [Region.linearise.go];change (match (Region.ready .any ops arr)[_%(Region.ready .any ops arr).length]? with
     |some i=>_
     |none=>[].reverse)=[];rw [kK hs ha,h0];rfl
  rw [this];exact hg w Ds hS;cases fuel with
  |zero=>
   exfalso;obtain ⟨x,hx⟩:=List.exists_mem_of_ne_nil _ h1;obtain ⟨e1,e2,_⟩:=cy.1 hx;have:0<(List.range ops.size).countP (fun j=>!D.contains j):=List.countP_pos_iff.2 ⟨x,by simpa using e1,by simpa using e2⟩;omega
  |succ fuel=>
   have hpos:0<(aw ops D).length:=List.length_pos_iff.2 h1;simp only [Region.linearise.go];change dR P r f R (.inRegion ops (match (Region.ready .any ops arr)[τ%(Region.ready .any ops arr).length]? with
    |some i=>Region.linearise.go .any ops fuel (τ / (Region.ready .any ops arr).length) (arr.setIfInBounds i true) [i]
    |none=>[].reverse)::k) t (Ds.map mark) w;rw [kK hs ha];have hlt:τ%(aw ops D).length<(aw ops D).length:=Nat.mod_lt _ hpos;rw [List.getElem?_eq_getElem hlt];obtain ⟨x,hx⟩:∃x,x=(aw ops D)[τ%(aw ops D).length]:=⟨_,rfl⟩;rw [←hx];have hxm:x∈aw ops D:=by rw [hx];exact List.getElem_mem hlt
   obtain ⟨e1,e2,_⟩:=cy.1 hxm;dsimp only;rw [linearise_go_acc,List.reverse_singleton,List.singleton_append];have hnext:∀(t':Array Value) (h':Hl) (w':World),(cur c hb hb2 (x::D)).Sublist h'∧Dq P r f R w0 S Y n k ops c hb hb2 q (x::D) t' h'→St w0 S w' h' (ou Ds++Y)→dR P r f R (.inRegion ops (Region.linearise.go .any ops fuel (τ / (aw ops D).length) (arr.setIfInBounds x true) [])::k) t' (Ds.map mark) w':=fun t' h' w' hK hS'=>by
    refine Dq.go fuel _ _ (x::D) q t' h' w' Ds (by simpa using hs) (fun j=>?_) hK.2 hS' ?_;rw [aJ (by omega),ha j,List.contains_cons];split;rename_i e;subst e;simp;rename_i e;rw [beq_false_of_ne (Ne.symm e)];rfl;have:=mV (l:=List.range ops.size) (p:=fun j=>!(x::D).contains j) (q:=fun j=>!D.contains j) (fun y _ hy=>by simp at hy⊢;exact hy.2) ⟨x,by simpa using e1,by simpa using e2,by simp⟩;omega
   rcases h2 x hxm with h2x|h2x
   case inr=>
    obtain ⟨o,ho,hdst,hnd,hsel,hw,hr⟩:=h2x;obtain ⟨w',h',h3,h4,h5⟩:=hr w Ds _ hS;refine dR.op ho hw (du hnd) h3 (.inr ⟨rfl,rfl⟩) ?_;rw [hdst];exact hnext _ _ _ h5 h4
   obtain ⟨o,d,ho,hdst,hnd,hsel,hdn,hr⟩:=h2x;rcases hr with ⟨hw,hr⟩|⟨hw,hk⟩;rcases hr w Ds _ hS with ⟨v,w',h',h3,h4,h5⟩|⟨gf,args,Rc,h3,h4,h5⟩;refine dR.op ho hw (du hnd) h3 (.inl rfl) ?_;rw [hdst];exact hnext _ _ _ h5 h4;refine dR.call ho hw (du hnd) h3 h4 (fun u w2 hu=>?_);obtain ⟨h',h6,h7⟩:=h5 u w2 hu;rw [hdst];exact hnext _ _ _ h7 h6;refine dR.pj ho hw ?_;rw [hdst];exact hnext _ _ _ hk hS
def bH (P:Program) (r:Option Nat) (f:FuncId) (R:Value→World→Prop) (w0:World) (S:List Nat) (Y:List (Nat×Obj)) (n:Nat) (k:List Item) (ops:Array Oper) (c:Nat) (hb hb2:Hl) (q:Nat) (D:List Nat) (l:Fl) (h:Hl):Prop:=
 ∀t,iW n t l→Dq P r f R w0 S Y n k ops c hb hb2 q D t h
variable {q:Nat} {D:List Nat}
theorem ab.pR {id:Nat} (q c:Nat) (hb2:Hl) (hmix:P.follows .mixedOrders=true) (hg:bH P r f R w0 S Y n k ops c h hb2 q [] l h):ab P r f R w0 S Y n (.code (.region id ops true)::k) l h:=by
 intro t w Ds hF hS;refine .jJ (fun τ=>?_);simp only [Region.schedule,hmix,Bool.true_or,if_true,Region.linearise];refine Dq.go ops.size τ _ [] q t h _ Ds (by simp) (fun j=>?_) (hg t hF) hS.drew ?_;simp [Array.getD_eq_getD_getElem?,Array.getElem?_replicate];split<;>simp
 exact Nat.le_trans List.countP_le_length (by simp)
theorem bH.done (h0:aw ops D=[]) (hg:ab P r f R w0 S Y n (.inRegion ops []::k) l h):bH P r f R w0 S Y n k ops c hb hb2 (q+1) D l h:=fun t hF=>.inl ⟨h0,fun w Ds hS=>hg t w Ds hF hS⟩
theorem bH.AO {hx:Hl} {i d:Nat} {v:Value} (h2:hb2.Sublist hb) (hic:Nat.beq i c=false) (hi:(aw ops D).contains i=true) (hp:iJ ops i=true) (ho:∀t,iW n t l→jB P w0 S n hx ops i t d v) (hX:hx=hb2∨(hx=hb∧i∈cG ops c∧c∉D)) (hs:(cur c hb hb2 D).Sublist h) (hg:bH P r f R w0 S Y n k ops c hb hb2 q (i::D) ((d,v)::l) h):bH P r f R w0 S Y n k ops c hb hb2 (q+1) D l h:=by
 intro t hF;obtain ⟨d',hf⟩:=re hp;have hO:=ho t hF;obtain ⟨o,h1,h2',h3,_⟩:=hO;have e:d'=d:=by
  have:=hf.dst;simp [bK,h1,h2'] at this;exact this.symm
 subst e;exact Dq.pure h2 (by intro e;subst e;simp at hic) hf h3 hF.1 (by simpa using hi) (ho t hF) hX hs (hg _ (hF.put v (by simpa [Nat.blt_eq] using h3)))
theorem bH.v {i d:Nat} {v:Value} (hv:af P w0 S n hb ops i l d v) (h2:hb2.Sublist hb) (hic:Nat.beq i c=false) (hi:(aw ops D).contains i=true) (hp:iJ ops i=true) (hX:((cG ops c).contains i && !D.contains c)=true) (hs:hb.Sublist h) (hg:bH P r f R w0 S Y n k ops c hb hb2 q (i::D) ((d,v)::l) h):bH P r f R w0 S Y n k ops c hb hb2 (q+1) D l h:=by
 rw [Bool.and_eq_true,Bool.not_eq_true'] at hX;refine bH.AO (hx:=hb) h2 hic hi hp (fun t hF=>?_) (.inr ⟨rfl,by simpa using hX.1,by simpa using hX.2⟩) (by unfold cur;rw [if_neg (by rw [hX.2];simp)];exact hs) hg;obtain ⟨o,ho,hw,hdst,hnd,hd,hr⟩:=hv
 exact ⟨o,ho,hdst,by simpa [Nat.blt_eq] using hd,hnd,.inl ⟨eJ hF hw,fun w Ds Y' hS=>by
  obtain ⟨nx,h1,rfl⟩:=hr t w Ds Y' hF hS;exact .inl h1⟩⟩
theorem bH.u {i d:Nat} {v:Value} (hv:af P w0 S n hb2 ops i l d v) (h2:hb2.Sublist hb) (hic:Nat.beq i c=false) (hi:(aw ops D).contains i=true) (hp:iJ ops i=true) (hs:(cur c hb hb2 D).Sublist h) (hg:bH P r f R w0 S Y n k ops c hb hb2 q (i::D) ((d,v)::l) h):bH P r f R w0 S Y n k ops c hb hb2 (q+1) D l h:=by
 refine bH.AO (hx:=hb2) h2 hic hi hp (fun t hF=>?_) (.inl rfl) hs hg;obtain ⟨o,ho,hw,hdst,hnd,hd,hr⟩:=hv
 exact ⟨o,ho,hdst,by simpa [Nat.blt_eq] using hd,hnd,.inl ⟨eJ hF hw,fun w Ds Y' hS=>by
  obtain ⟨nx,h1,rfl⟩:=hr t w Ds Y' hF hS;exact .inl h1⟩⟩
theorem bH.uZ {i d:Nat} {v:Value} (hv:af P w0 S n hb2 ops i l d v) (h2:hb2.Sublist hb) (hs:(cur c hb hb2 D).Sublist h) (hg:bH P r f R w0 S Y n k ops c hb hb2 q (i::D) ((d,v)::l) h) (hic:Nat.beq i c=false:=by exact rfl) (hi:(aw ops D).contains i=true:=by exact rfl) (hp:iJ ops i=true:=by exact rfl):bH P r f R w0 S Y n k ops c hb hb2 (q+1) D l h:=bH.u (hv:=hv) (h2:=h2) (hic:=hic) (hi:=hi) (hp:=hp) (hs:=hs) (hg:=hg)
theorem bH.one {i d:Nat} (h1:aw ops D=[i]) (hm:cR P w0 S n h ops i l d (fun v h'=>(cur c hb hb2 (i::D)).Sublist h'∧bH P r f R w0 S Y n k ops c hb hb2 q (i::D) ((d,v)::l) h')) (hd:Nat.blt d n=true):bH P r f R w0 S Y n k ops c hb hb2 (q+1) D l h:=by
 intro t hF;rw [Dq];refine .inr ⟨by rw [h1];simp,fun j hj=>?_⟩;rw [h1] at hj;obtain rfl:=List.mem_singleton.1 hj;exact .inl (eH.of hm hF (fun v h' ⟨e1,e2⟩=>⟨e1,e2 _ (hF.put v hd)⟩))
theorem bH.call {i d:Nat} {ty:TypeId} {pos:String} {aft:Array Edge} {g:Option (Nat×Bool)} {az:Array Operand} {ts:Array TypeId} {cal:Operand} {gf:FuncId} {vs:List Value} (Rc:World→Value→World→Prop) (h1:aw ops D=[i]) (ho:ops[i]?=some ⟨some d,.call ⟨.value cal,az,ts⟩,ty,pos,aft,g⟩) (hw:aq ops l g=true)
  (hc:aM l cal=some (.func (.func gf) #[] #[])) (hx:cP l az.toList=some vs) (hd:Nat.blt d n=true) (hcf:∀args w,(callFunc gf args).run P w=.ok (.enter gf args) w)
  (hcall:∀w Y',St w0 S w h Y'→Cn P gf vs w (Rc w))
  (hk:∀v w w' Y',St w0 S w h Y'→Ex [] w w'→Rc w v w'→∃h',St w0 S w' h' Y'∧(cur c hb hb2 (i::D)).Sublist h'∧bH P r f R w0 S Y n k ops c hb hb2 q (i::D) ((d,v)::l) h'):bH P r f R w0 S Y n k ops c hb hb2 (q+1) D l h:=
 bH.one h1 (cR.call Rc ho hw hc hx hd hcf hcall (fun v w w' Y' hS he hr=>by
  obtain ⟨h',e1,e2,e3⟩:=hk v w w' Y' hS he hr;exact ⟨h',e1,e2,e3⟩)) hd
theorem bH.mx {i d:Nat} {v:Value} {ty:TypeId} {pos:String} {aft:Array Edge} {g:Option (Nat×Bool)} {az:Array Operand} {ts:Array TypeId} {cal:Operand} {gf:FuncId} {vs:List Value} (h1:aw ops D=[i]) (ho:ops[i]?=some ⟨some d,.call ⟨.value cal,az,ts⟩,ty,pos,aft,g⟩) (hw:aq ops l g=true)
  (hc:aM l cal=some (.func (.func gf) #[] #[])) (hx:cP l az.toList=some vs) (hd:Nat.blt d n=true) (hcf:∀args w,(callFunc gf args).run P w=.ok (.enter gf args) w)
  (hcall:∀w Y',St w0 S w h Y'→Cn P gf vs w (fun u _=>u=v)) (hs:(cur c hb hb2 (i::D)).Sublist h) (hg:bH P r f R w0 S Y n k ops c hb hb2 q (i::D) ((d,v)::l) h):bH P r f R w0 S Y n k ops c hb hb2 (q+1) D l h:=
 bH.call (fun _ u _=>u=v) h1 ho hw hc hx hd hcf hcall (fun _u _ _ _ hS he e=>⟨h,hS.later he,hs,e ▸ hg⟩)
theorem bH.st {i:Nat} {ty:TypeId} {pos:String} {aft:Array Edge} {g:Option (Nat×Bool)} {t:TypeId} {x y:Operand} {b off:Nat} {cs:Array Value} {e:TypeId} {v:Value} (h1:aw ops D=[i]) (ho:ops[i]?=some ⟨none,.store t x y,ty,pos,aft,g⟩) (hw:aq ops l g=true)
  (hx:aM l x=some (.pointer (some ⟨b,off,none⟩))) (hy:aM l y=some v) (hz:∀w,(sizeOf t).run P w=.ok 1 w) (hv:v.oneCell'=true) (j:Nat) (hj:h[j]?=some (some b,.cells cs e (0,0))) (hoff:Nat.blt off cs.size=true)
  (hs:(cur c hb hb2 (i::D)).Sublist (h.set j (some b,.cells (cs.setIfInBounds off v) e (0,0))))
  (hk:bH P r f R w0 S Y n k ops c hb hb2 q (i::D) l (h.set j (some b,.cells (cs.setIfInBounds off v) e (0,0)))):bH P r f R w0 S Y n k ops c hb hb2 (q+1) D l h:=by
 intro t' hF;rw [Dq];refine .inr ⟨by rw [h1];simp,fun i' hi=>?_⟩;rw [h1] at hi;obtain rfl:=List.mem_singleton.1 hi;refine .inr ⟨_,ho,rfl,rfl,rfl,eJ hF hw,fun w Ds Y' hS=>?_⟩;refine ⟨w.setCell ⟨b,off,none⟩ v,_,?_,hS.pZ hj (o':=.cells (cs.setIfInBounds off v) e (0,0)) rfl rfl rfl rfl ?_ ?_ ?_,hs,hk t' hF⟩;simp only [execOp,hF.aM hx,hF.aM hy,Sem.run_bind,sO hz (hS.get hj) (by simpa [Nat.blt_eq] using hoff) hv];rfl;simp [World.setCell];obtain ⟨hlt,hg⟩:=Array.getElem?_eq_some_iff.1 (hS.get hj);simp only [World.setCell];rw [Array.getElem?_modify,if_pos rfl,hS.get hj];rfl;intro q _ hq;exact Below.heap_setCell _ _ _ _ hq
theorem bH.tW {α:Type} (enc:α→Value) (v:α) {i:Nat} {ty:TypeId} {pos:String} {aft:Array Edge} {g:Option (Nat×Bool)} {t:TypeId} {x y:Operand} {b m:Nat} {xs:List α} {sp:List Value} {e:TypeId} (h1:aw ops D=[i]) (ho:ops[i]?=some ⟨none,.store t x y,ty,pos,aft,g⟩) (hw:aq ops l g=true)
  (hx:aM l x=some (.pointer (some ⟨b,0+m*1,none⟩))) (hy:aM l y=some (enc v)) (hz:∀w,(sizeOf t).run P w=.ok 1 w) (hv:(enc v).oneCell'=true) (j:Nat) (hj:h[j]?=some (some b,ob enc e xs sp)) (hq:m<xs.length)
  (hs:(cur c hb hb2 (i::D)).Sublist (h.set j (some b,ob enc e (xs.set m v) sp)))
  (hk:bH P r f R w0 S Y n k ops c hb hb2 q (i::D) l (h.set j (some b,ob enc e (xs.set m v) sp))):bH P r f R w0 S Y n k ops c hb hb2 (q+1) D l h:=by
 have:((xs.map enc++sp).toArray.setIfInBounds (0+m*1) (enc v))=((xs.set m v).map enc++sp).toArray:=by
  rw [Nat.zero_add,Nat.mul_one,List.map_set];have hq2:m<(xs.map enc).length:=by simpa using hq
  simp [List.set_append_left _ _ hq2]
 refine bH.st h1 ho hw hx hy hz hv j hj (by rw [Nat.blt_eq];simp;omega) ?_ ?_;rw [this];exact hs;rw [this];exact hk
end
section
variable {P:Program} {r:Option Nat} {f:FuncId} {R:Value→World→Prop} {w0:World} {S:List Nat} {Y:List (Nat×Obj)} {n:Nat} {k:List Item} {l:Fl} {h:Hl} {ops:Array Oper} {i d m:Nat} {rest:List Nat} {ty:TypeId} {pos:String} {aft:Array Edge} {g:Option (Nat×Bool)} {x y c:Operand} {v u a b:Value}
structure Vo (P:Program) (w0:World) (S:List Nat) (n:Nat) (h:Hl) (l:Fl) (o:Op) (v:Value):Prop where
  at_:∀{ops:Array Oper} {i d:Nat} {ty:TypeId} {pos:String} {aft:Array Edge} {g:Option (Nat×Bool)},ops[i]?=some ⟨some d,o,ty,pos,aft,g⟩→aq ops l g=true→Nat.blt d n=true→af P w0 S n h ops i l d v
theorem Vo.mv (hx:aM l x=some v):Vo P w0 S n h l (.move x) v:=⟨fun a b c=>.mv a b hx c⟩
theorem Vo.zQ (hx:aM l x=some v):Vo P w0 S n h l (.assign x) v:=⟨fun a b c=>.zQ a b hx c⟩
theorem Vo.pt (hc:aM l c=some (.bool true)) (hx:aM l x=some v):Vo P w0 S n h l (.pick c x y) v:=⟨fun a b c=>.eD a b hc hx c⟩
theorem Vo.pf (hc:aM l c=some (.bool false)) (hx:aM l y=some v):Vo P w0 S n h l (.pick c x y) v:=⟨fun a b c=>.E1 a b hc hx c⟩
theorem Vo.nk {q:Addr} (hx:aM l x=some (.pointer (some q))):Vo P w0 S n h l (.nilCheck x) (.pointer (some q)):=⟨fun a b c=>.lP a b hx c⟩
theorem Vo.ex {j:Nat} {vs:Array Value} (hx:aM l x=some (.tuple vs)) (hb:vs[j]?=some v):Vo P w0 S n h l (.extract x j) v:=⟨fun a b c=>.ext a b hx hb c⟩
theorem Vo.un {o:UnOp} {tx:TypeId} (hx:aM l x=some a) (hb:JV P o a v):Vo P w0 S n h l (.unOp o tx x) v:=⟨fun a b c=>.un a b hx hb c⟩
theorem Vo.bi {o:BinOp} {tx tyy:TypeId} (hx:aM l x=some a) (hy:aM l y=some b) (hb:ly P o tx a b v):Vo P w0 S n h l (.binOp o tx x y tyy) v:=⟨fun a b c=>.bin a b hx hy hb c⟩
theorem Vo.bl {t e:TypeId} {A:Option Addr} {q cp:Nat} (hx:cP l [x]=some [.slice A q cp]) (hu:P.underlying t=some (.slice e)):Vo P w0 S n h l (.call ⟨.builtin .len,#[x],#[t]⟩) (.int .i64 q):=⟨fun a b c=>.blt a b hx (eA hu) c⟩
theorem My {o:Op} (ho:ops[i]?=some ⟨some d,o,ty,pos,aft,g⟩) (hw:aq ops l g=true) (hd:Nat.blt d n=true) (hv:Vo P w0 S n h l o v) (hk:ab P r f R w0 S Y n (.inRegion ops rest::k) ((d,v)::l) h):ab P r f R w0 S Y n (.inRegion ops (i::rest)::k) l h:=.v (hv.at_ ho hw hd) hk
theorem Ms {o:Op} (ho:ops[i]?=some ⟨some d,o,ty,pos,aft,g⟩) (hw:aq ops l g=true) (hd:Nat.blt d n=true) (hv:Vo P w0 S n h l o v) (hk:aR P r f R w0 S Y n k ops (i+1) m ((d,v)::l) h):aR P r f R w0 S Y n k ops i (m+1) l h:=.v (hv.at_ ho hw hd) hk
theorem KZ {D:List Nat} {j:Nat} (h:(aw ops D)[j]?=some i):(aw ops D).contains i=true:=by simpa using List.mem_of_getElem? h
theorem MD (j:Nat) {q:Nat} {D:List Nat} {hb:Hl} {o:Op} (hi:(aw ops D)[j]?=some i) (ho:ops[i]?=some ⟨some d,o,ty,pos,aft,g⟩) (hw:aq ops l g=true) (hd:Nat.blt d n=true) (hv:Vo P w0 S n hb l o v) (hp:iJ ops i=true) (hs:hb.Sublist h) (hg:ax P r f R w0 S Y n k ops hb q (i::D) ((d,v)::l) h):ax P r f R w0 S Y n k ops hb (q+1) D l h:=.v (hv.at_ ho hw hd) (KZ hi) hp hs hg
theorem ME (j:Nat) {q:Nat} {D:List Nat} {hb:Hl} {o:Oper} (hi:(aw ops D)[j]?=some i) (ho:ops[i]?=some o) (hw:nh ops l o.guard=true) (hdst:o.dst=some d) (hnd:fO o.op=false) (hd:Nat.blt d n=true) (hp:iJ ops i=true) (hs:hb.Sublist h) (hg:ax P r f R w0 S Y n k ops hb q (i::D) ((d,undef)::l) h):ax P r f R w0 S Y n k ops hb (q+1) D l h:=.no ho hw hdst hnd hd (KZ hi) hp hs hg
theorem Mz {o:Oper} (ho:ops[i]?=some o) (hw:nh ops l o.guard=true) (hdst:o.dst=some d) (hd:Nat.blt d n=true) (hk:ab P r f R w0 S Y n (.inRegion ops rest::k) ((d,undef)::l) h):ab P r f R w0 S Y n (.inRegion ops (i::rest)::k) l h:=.no ho hw hdst hd hk
theorem Mt {o:Oper} (ho:ops[i]?=some o) (hw:nh ops l o.guard=true) (hdst:o.dst=some d) (hnd:fO o.op=false) (hd:Nat.blt d n=true) (hk:aR P r f R w0 S Y n k ops (i+1) m ((d,undef)::l) h):aR P r f R w0 S Y n k ops i (m+1) l h:=.no ho hw hdst hnd hd hk
theorem Vo.Mw {t:TypeId} {B off:Nat} {cs:Array Value} {e:TypeId} {fr:Nat×Nat} (hx:aM l x=some (.pointer (some ⟨B,off,none⟩))) (ha:∀w,(isAgg t).run P w=.ok false w) (hj:∃j:Nat,h[j]?=some (some B,.cells cs e fr)) (hv:cs[off]?=some v):Vo P w0 S n h l (.load t x) v:=⟨fun a b c=>let ⟨j,hj⟩:=hj;.te a b hx c ha j hj hv⟩
theorem Vo.Mx {t:TypeId} {B m:Nat} {cs:Array Value} {e:TypeId} {fr:Nat×Nat} (hx:aM l x=some (.pointer (some ⟨B,0,none⟩))) (ha:∀w,(isAgg t).run P w=.ok true w) (hj:∃j:Nat,h[j]?=some (some B,.cells cs e fr)) (hz:∀w,(sizeOf t).run P w=.ok m w) (hm:cs.size=m):Vo P w0 S n h l (.load t x) (.agg cs):=⟨fun a b c=>let ⟨j,hj⟩:=hj;.GI a b hx c ha j hj hz hm⟩
theorem Vo.fp {s tt:TypeId} {B o q o':Nat} {fs:Array Field} {fd:Field} {sz:Nat} (hx:aM l x=some (.pointer (some ⟨B,o,none⟩))) (hu:P.underlying s=some (.struct fs)) (hq:fs[q]?=some fd) (ht:fd.type=tt) (he:∀w,(sizeOf tt).run P w=.ok (sz+1) w) (hO:o+fd.offset=o'):Vo P w0 S n h l (.fieldAddr s x q) (.pointer (some ⟨B,o',none⟩)):=⟨fun a b c=>.ji a b hx c hu hq (ht ▸ he) o' hO⟩
theorem Vo.fd {s:TypeId} {q:Nat} {cs:Array Value} {fs:Array Field} {fd:Field} (hx:aM l x=some (.agg cs)) (hu:P.underlying s=some (.struct fs)) (hq:fs[q]?=some fd) (ha:∀w,(isAgg fd.type).run P w=.ok false w) (hv:cs[fd.offset]?=some v):Vo P w0 S n h l (.field s x q) v:=⟨fun a b c=>.iD a b hx c hu hq ha hv⟩
section
variable {p q:Prop} {X Y:Code} {B:Bool} {Yy:List (Nat×Obj)}
theorem aH (ht:p→ab P r f R w0 S Yy n (.code X::k) l h) (hf:q→ab P r f R w0 S Yy n (.code Y::k) l h) (hc:aM l c=some (.bool B):=by exact rfl) (et:B=true→p:=by intro h;first|simpa using h|(simp at h;omega)|exact h) (ef:B=false→q:=by intro h;first|simpa using h|(simp at h;omega)|exact h):ab P r f R w0 S Yy n (.code (.cond c X Y)::k) l h:=.cond hc (fun e=>ht (et e)) (fun e=>hf (ef e))
theorem Fg (ht:p→ab P r f R w0 S Yy n (.code X::k) l h) (hf:B=false→ab P r f R w0 S Yy n (.code Y::k) l h) (hc:aM l c=some (.bool B):=by exact rfl) (et:B=true→p:=by intro h;first|simpa using h|(simp at h;omega)|exact h):ab P r f R w0 S Yy n (.code (.cond c X Y)::k) l h:=.cond hc (fun e=>ht (et e)) hf
theorem lQ (ht:B=true→ab P r f R w0 S Yy n (.code X::k) l h) (hf:q→ab P r f R w0 S Yy n (.code Y::k) l h) (hc:aM l c=some (.bool B):=by exact rfl) (ef:B=false→q:=by intro h;first|simpa using h|(simp at h;omega)|exact h):ab P r f R w0 S Yy n (.code (.cond c X Y)::k) l h:=.cond hc ht (fun e=>hf (ef e))
theorem aO (d:Nat) (ht:p→ab P r f R w0 S Yy n k ((d,.bool true)::l) h) (hf:q→ab P r f R w0 S Yy n k ((d,.bool false)::l) h) (hv:look l d=some (.bool B):=by exact rfl) (et:B=true→p:=by intro h;first|simpa using h|(simp at h;omega)|exact h) (ef:B=false→q:=by intro h;first|simpa using h|(simp at h;omega)|exact h):ab P r f R w0 S Yy n k l h:=.cases hv (fun e=>ht (et e)) (fun e=>hf (ef e))
end
structure Bj (P:Program) (o:BinOp) (t:TypeId) (a b v:Value):Prop where
  b:ly P o t a b v
section
variable {t:TypeId} {x y:Int} {k:IntKind} {p q:aE}
theorem Bj.eq (_hk:k≠.u64):Bj P .eql t (.int k x) (.int k y) (.bool (x==y)):=⟨Ch⟩
theorem Bj.ne (_hk:k≠.u64):Bj P .neq t (.int k x) (.int k y) (.bool (x !=y)):=⟨xu⟩
theorem Bj.lt (_hk:k≠.u64):Bj P .lss t (.int k x) (.int k y) (.bool (decide (x<y))):=⟨EF⟩
theorem Bj.le (_hk:k≠.u64):Bj P .leq t (.int k x) (.int k y) (.bool (decide (x≤y))):=⟨Lc⟩
theorem Bj.gt (_hk:k≠.u64):Bj P .gtr t (.int k x) (.int k y) (.bool (decide (x>y))):=⟨Jw⟩
theorem Bj.ge (_hk:k≠.u64):Bj P .geq t (.int k x) (.int k y) (.bool (decide (x≥y))):=⟨Fs⟩
theorem Bj.or:Bj P .or t (U p) (U q) (U (p|||q)):=⟨LU⟩
theorem Bj.an:Bj P .and t (U p) (U q) (U (p &&& q)):=⟨EI⟩
theorem Bj.ad:Bj P .andNot t (U p) (U q) (U (p &&& ~~~q)):=⟨EH⟩
theorem Bj.nu:Bj P .neq t (U p) (U q) (.bool (p !=q)):=⟨Jt⟩
theorem Bj.eu:Bj P .eql t (U p) (U q) (.bool (p==q)):=⟨xv⟩
theorem Bj.MF (h:-9223372036854775808≤x+y∧x+y≤9223372036854775807):Bj P .add t (.int .i64 x) (.int .i64 y) (.int .i64 (x+y)):=⟨xx h⟩
end
theorem Vo.bj {o:BinOp} {tx tyy:TypeId} (hx:aM l x=some a) (hy:aM l y=some b) (hb:Bj P o tx a b v):Vo P w0 S n h l (.binOp o tx x y tyy) v:=.bi hx hy hb.b
end
end Go.Proofs.Wit
