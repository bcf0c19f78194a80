/- Laws of walks, for any program, under the conditions that each theorem states. -/
import Derived.Test.YtaamcaiglooemaaGreatDoorXF02
import Derived.MapKept
set_option maxRecDepth 100000
set_option maxHeartbeats 4000000
namespace Go.Proofs.Wit
open Go Go.RowKit
def reach (ops:Array Oper):Nat→List Nat→List Nat
 |0,acc=>acc
 |j+1,acc=>reach ops j (cond (acc.any fun z=>(cG ops z).contains j) (j::acc) acc)
def below (ops:Array Oper) (x:Nat):List Nat:=reach ops x [x]
def forced (ops:Array Oper):List Nat→List Nat→Bool
 |listed,[]=>(aw ops listed).isEmpty
 |listed,x::rest=>(aw ops listed==[x]) && forced ops (x::listed) rest
def wy (ops:Array Oper) (_l:Fl) (m:Nat):Bool:=
 Nat.ble m ops.size &&
 (List.range ops.size).all (fun i=>(cG ops i).all (fun j=>Nat.blt j i)) &&
 (List.range m).all (fun i=>match ops[i]? with
  |none=>false
  |some o=>fH o.op && match o.dst with
   |none=>false
   |some d=>(List.range ops.size).all (fun j=>Nat.beq j i||!(bK ops j==some d)) &&
    (gG ops o).all (fun s=>(List.range ops.size).all (fun j=>!(bK ops j==some s)||(cG ops i).contains j||(Nat.ble m j && (below ops j).contains i)))) &&
 (List.range' m (ops.size - m)).all (fun i=>match ops[i]? with
  |none=>false
  |some o=>(gG ops o).all (fun s=>(List.range m).all (fun j=>!(bK ops j==some s)||(cG ops i).contains j)))
section
variable {P:Program} {r:Option Nat} {f:FuncId} {R:Value→World→Prop} {w0:World} {S:List Nat} {Y:List (Nat×Obj)} {n:Nat} {k:List Item} {l:Fl} {h:Hl} {ops:Array Oper}
def cR (P:Program) (w0:World) (S:List Nat) (n:Nat) (h:Hl) (ops:Array Oper) (i:Nat) (l:Fl) (d:Nat) (K:Value→Hl→Prop):Prop:=
 ∃o,ops[i]?=some o∧o.dst=some d∧fO o.op=false∧fH o.op=true∧Nat.blt d n=true∧
  ((aq ops l o.guard=true∧∀(t:Array Value) (w:World) (Ds:List Nat) (Y':List (Nat×Obj)),iW n t l→St w0 S w h Y'→
   (∃v w' h',(execOp (Act.eval ⟨t,Ds.map mark⟩) o).run P w=.ok (.value v) w'∧St w0 S w' h' Y'∧K v h')∨
   (∃gf args,∃Rc:Value→World→Prop,(execOp (Act.eval ⟨t,Ds.map mark⟩) o).run P w=.ok (.enter gf args) w∧(Calls P gf args w fun e w'=>∃v,e=.returned v∧Rc v w')∧∀v w',Rc v w'→∃h',St w0 S w' h' Y'∧K v h'))∨
  (nh ops l o.guard=true∧K undef h))
theorem cR.v {i d:Nat} {v:Value} {K:Value→Hl→Prop} (hv:af P w0 S n h ops i l d v) (hsel:∀o,ops[i]?=some o→fH o.op=true) (hk:K v h):cR P w0 S n h ops i l d K:=by
 obtain ⟨o,ho,hw,hdst,hnd,hd,hr⟩:=hv;exact ⟨o,ho,hdst,hnd,hsel o ho,hd,.inl ⟨hw,fun t w Ds Y' hF hS=>.inl (by
  obtain ⟨nx,h1,rfl⟩:=hr t w Ds Y' hF hS;exact ⟨v,w,h,h1,hS,hk⟩)⟩⟩
section
variable {i d:Nat} {ty:TypeId} {pos:String} {aft:Array Edge} {g:Option (Nat×Bool)} {K:Value→Hl→Prop}
theorem cR.z7 {e:TypeId} {z:Value} (ho:ops[i]?=some ⟨some d,.alloc e,ty,pos,aft,g⟩) (hw:aq ops l g=true) (hd:Nat.blt d n=true) (hz:∀w,(zeroValue e).run P w=.ok z w)
  (hk:∀b,K (.pointer (some ⟨b,0,none⟩)) ((some b,.cells z.cells e)::h)):cR P w0 S n h ops i l d K:=
 ⟨_,ho,rfl,rfl,rfl,hd,.inl ⟨hw,fun t w Ds Y' hF hS=>.inl ⟨.pointer (some ⟨w.heap.size,0,none⟩),w.alloc (.cells z.cells e),_,by
  simp [execOp,Instr.alloc,hz,newVar,newRow],hS.alloc rfl,hk _⟩⟩⟩
theorem cR.bx {e:TypeId} {x:Operand} {v:Value} (ho:ops[i]?=some ⟨some d,.box e x,ty,pos,aft,g⟩) (hw:aq ops l g=true) (hx:aM l x=some v) (hd:Nat.blt d n=true)
  (hk:∀b,K (.pointer (some ⟨b,0,none⟩)) ((some b,.cells v.cells e)::h)):cR P w0 S n h ops i l d K:=
 ⟨_,ho,rfl,rfl,rfl,hd,.inl ⟨hw,fun t w Ds Y' hF hS=>.inl ⟨.pointer (some ⟨w.heap.size,0,none⟩),w.alloc (.cells v.cells e),_,by
  simp [execOp,Instr.box,hF.aM hx,newVar,newRow],hS.alloc rfl,hk _⟩⟩⟩
theorem cR.m8 {t e:TypeId} {len:Nat} {az:Array (Nat×Operand)} {ps:List (Nat×Value)} {z:Value} {size:Nat} {c:List Value} (ho:ops[i]?=some ⟨some d,.buildSlice t len az,ty,pos,aft,g⟩) (hw:aq ops l g=true) (hx:lI l az.toList=some ps) (hd:Nat.blt d n=true)
  (hu:P.underlying t=some (.slice e)) (hs:∀w,(sizeOf e).run P w=.ok size w) (hz:∀w,(zeroValue e).run P w=.ok z w) (hm:Nat.ble (len*size) 16777216=true)
  (hf:oG (fun i=>some (i*size,size)) ((List.range (len*size)).map fun i=>z.cells.toList.getD (i%z.cells.toList.length) default) ps=some c)
  (hk:∀b,K (.slice (some ⟨b,0,none⟩) len len) ((some b,.cells (c++[]).toArray e)::h)):cR P w0 S n h ops i l d K:=
 ⟨_,ho,rfl,rfl,rfl,hd,.inl ⟨hw,fun _ w Ds _ hF hS=>.inl ⟨.slice (some ⟨w.heap.size,0,none⟩) len len,w.alloc (.cells (c++[]).toArray e),_,
  yN hF hx hu hs hz hm hf Ds w,hS.alloc rfl,hk _⟩⟩⟩
theorem cR.nq {az:Array Operand} {ts:Array TypeId} {cal:Operand} {gf:FuncId} {fs cs vs:List Value} (Rc:World→Value→World→Prop) (ho:ops[i]?=some ⟨some d,.call ⟨.value cal,az,ts⟩,ty,pos,aft,g⟩) (hw:aq ops l g=true)
  (hc:aM l cal=some (.func (.func gf) fs.toArray cs.toArray)) (hx:cP l az.toList=some vs) (hd:Nat.blt d n=true) (hcf:∀args w,(callFunc gf args).run P w=.ok (.enter gf args) w)
  (hcall:∀w Y',St w0 S w h Y'→Cn P gf (fs++vs++cs) w (Rc w))
  (hk:∀v w w' Y',St w0 S w h Y'→Ex [] w w'→Rc w v w'→∃h',St w0 S w' h' Y'∧K v h'):cR P w0 S n h ops i l d K:=
 ⟨_,ho,rfl,rfl,rfl,hd,.inl ⟨hw,fun t w Ds Y' hF hS=>.inr ⟨gf,(fs++vs++cs).toArray,fun u w'=>Ex [] w w'∧Rc w u w',by
  have e1:=gI (P:=P) (ty:=ty) (ts:=ts) (Ds:=Ds) (w:=w) hF hc hx;simp only [execOp,Sem.run_bind,e1,Result.andThen_ok,invoke,hcf];simp,hcall w Y' hS,fun u w' ⟨he,hu⟩=>hk u w w' Y' hS he hu⟩⟩⟩
end
theorem cR.call {i d:Nat} {ty:TypeId} {pos:String} {aft:Array Edge} {g:Option (Nat×Bool)} {K:Value→Hl→Prop} {az:Array Operand} {ts:Array TypeId} {cal:Operand} {gf:FuncId} {vs:List Value} (Rc:World→Value→World→Prop) (ho:ops[i]?=some ⟨some d,.call ⟨.value cal,az,ts⟩,ty,pos,aft,g⟩) (hw:aq ops l g=true)
  (hc:aM l cal=some (.func (.func gf) #[] #[])) (hx:cP l az.toList=some vs) (hd:Nat.blt d n=true) (hcf:∀args w,(callFunc gf args).run P w=.ok (.enter gf args) w)
  (hcall:∀w Y',St w0 S w h Y'→Cn P gf vs w (Rc w))
  (hk:∀v w w' Y',St w0 S w h Y'→Ex [] w w'→Rc w v w'→∃h',St w0 S w' h' Y'∧K v h'):cR P w0 S n h ops i l d K:=
 .nq (fs:=[]) (cs:=[]) Rc ho hw hc hx hd hcf (fun w Y' hS=>by rw [List.nil_append,List.append_nil];exact hcall w Y' hS) hk
def wj (ops:Array Oper) (m:Nat):List Nat→Bool
 |[]=>true
 |x::_=>(List.range m).all (fun i=>(below ops x).contains i && !(Nat.beq i x))
def Tl (P:Program) (r:Option Nat) (f:FuncId) (R:Value→World→Prop) (w0:World) (S:List Nat) (Y:List (Nat×Obj)) (n:Nat) (k:List Item) (ops:Array Oper) (m:Nat) (hb:Hl):Nat→List Nat→Fl→Hl→Prop
 |0,_,_,_=>False
 |q+1,TL,l,h=>
  (∃rest,forced ops (TL++List.range m) rest=true∧wj ops m rest=true∧ab P r f R w0 S Y n (.inRegion ops rest::k) l h)∨
  (aw ops (TL++List.range m)≠[]∧∀i∈aw ops (TL++List.range m),∃d,cR P w0 S n h ops i l d (fun v h'=>hb.Sublist h'∧Tl P r f R w0 S Y n k ops m hb q (i::TL) ((d,v)::l) h'))
def lM (P:Program) (w0:World) (S:List Nat) (n:Nat) (ops:Array Oper) (h:Hl) (F:Fl→Prop) (i m:Nat) (l:Fl):Prop:=
 ∀t,iW n t l→H7 P w0 S n h ops (fun t'=>∃l',iW n t' l'∧F l') i m t
theorem lM.nil {F:Fl→Prop} {i:Nat} (hg:F l):lM P w0 S n ops h F i 0 l:=fun _ hF=>⟨l,hF,hg⟩
theorem lM.v {F:Fl→Prop} {i m d:Nat} {v:Value} (hv:af P w0 S n h ops i l d v) (hg:lM P w0 S n ops h F (i+1) m ((d,v)::l)):lM P w0 S n ops h F i (m+1) l:=by
 intro t hF;obtain ⟨o,ho,hw,hdst,hnd,hd,hr⟩:=hv
 exact ⟨d,v,⟨o,ho,hdst,by simpa [Nat.blt_eq] using hd,hnd,.inl ⟨eJ hF hw,fun w Ds Y' hS=>by
  obtain ⟨nx,h1,rfl⟩:=hr t w Ds Y' hF hS;exact .inl h1⟩⟩,hg _ (hF.put v hd)⟩
theorem sY {x:Nat} {listed:List Nat} (hc:∀j∈listed,∀e∈cG ops j,e∈listed) (hx:∀e∈cG ops x,e∈listed):∀{j:Nat} {acc:List Nat},(∀z∈acc,z=x∨z∈listed)→∀y∈reach ops j acc,y=x∨y∈listed
 |0,_,ha,y,hy=>ha y hy
 |j+1,acc,ha,y,hy=>by
  rw [reach] at hy;refine sY hc hx (acc:=cond (acc.any fun z=>(cG ops z).contains j) (j::acc) acc) (fun z hz=>?_) y hy;cases hb:acc.any fun z=>(cG ops z).contains j with
  |false=>rw [hb] at hz;exact ha z hz
  |true=>
   rw [hb] at hz;rcases List.mem_cons.1 hz with rfl|hz;obtain ⟨u,hu,hd⟩:=List.any_eq_true.1 hb;have hd:=List.contains_iff_mem.1 hd;rcases ha u hu with rfl|h;exact .inr (hx _ hd);exact .inr (hc u h _ hd);exact ha z hz
theorem sZ {x:Nat} {listed:List Nat} (hc:∀j∈listed,∀e∈cG ops j,e∈listed) (hx:∀e∈cG ops x,e∈listed):∀y∈below ops x,y=x∨y∈listed:=
 sY hc hx (fun _ hz=>.inl (List.mem_singleton.1 hz))
theorem cy {listed:List Nat} {i:Nat}:i∈aw ops listed↔i<ops.size∧i∉listed∧∀e∈cG ops i,e∈listed:=by
 simp [aw,List.mem_filter]
structure tK (ops:Array Oper) (m:Nat):Prop where
  size:m≤ops.size
  lt:∀i,i<ops.size→∀j∈cG ops i,j<i
  Ay:∀i,i<m→∀o,ops[i]?=some o→fH o.op=true
  inj:∀i j d,i<m→j<ops.size→bK ops i=some d→bK ops j=some d→i=j
  Fj:∀i,i<m→∀o,ops[i]?=some o→∀s∈gG ops o,∀j,j<ops.size→bK ops j=some s→j∈cG ops i∨(m≤j∧i∈below ops j)
  Kq:∀i,m≤i→∀o,ops[i]?=some o→∀s∈gG ops o,∀j,j<m→bK ops j=some s→j∈cG ops i
theorem tV {m:Nat} (hc:wy ops l m=true):tK ops m:=by
 simp only [wy,Bool.and_eq_true,List.all_eq_true,List.mem_range,List.mem_range'_1,Nat.blt_eq,Nat.ble_eq] at hc;obtain ⟨⟨⟨hsz,hlt⟩,hr⟩,ht⟩:=hc;have hat:∀i,i<m→∃o d,ops[i]?=some o∧o.dst=some d∧fH o.op=true∧(∀j,j<ops.size→j=i∨bK ops j≠some d)∧(∀s∈gG ops o,∀j,j<ops.size→(bK ops j≠some s∨j∈cG ops i)∨(m≤j∧i∈below ops j)):=by
  intro i hi;have:=hr i hi;cases ho:ops[i]? with
  |none=>simp [ho] at this
  |some o=>
   cases hd:o.dst with
   |none=>simp [ho,hd] at this
   |some d=>
    simp only [ho,hd,Bool.and_eq_true,List.all_eq_true,List.mem_range,Bool.or_eq_true,Nat.beq_eq,Bool.not_eq_true',beq_eq_false_iff_ne,List.contains_iff_mem,Nat.ble_eq] at this;exact ⟨o,d,rfl,hd,this.1,this.2.1,this.2.2⟩
 refine ⟨hsz,hlt,fun i hi o ho=>?_,fun i j d hi hj h1 h2=>?_,fun i hi o ho s hs j hj hd=>?_,fun i hi o ho s hs j hj hd=>?_⟩;obtain ⟨o',d,h1,_,h3,_⟩:=hat i hi;rw [ho] at h1;cases h1;exact h3;obtain ⟨o,d',e1,e2,_,e5,_⟩:=hat i hi;have:d'=d:=by simp [bK,e1,e2] at h1;exact h1
 subst this;rcases e5 j hj with e|e;exact e.symm;exact absurd h2 e;obtain ⟨o',d,e1,_,_,_,e6⟩:=hat i hi;rw [ho] at e1;cases e1;rcases e6 s hs j hj with (e|e)|e;exact absurd hd e;exact .inl e;exact .inr e;have hiN:=(Array.getElem?_eq_some_iff.1 ho).1;have:=ht i ⟨hi,by omega⟩;simp only [ho,List.all_eq_true,Bool.or_eq_true,Bool.not_eq_true',beq_eq_false_iff_ne,List.contains_iff_mem,List.mem_range] at this;rcases this s hs j hj with e|e;exact absurd hd e;exact e
theorem lD {a b:List Nat} (h:∀j,j∈a↔j∈b):aw ops a=aw ops b:=by
 have:∀j,a.contains j=b.contains j:=fun j=>by rw [Bool.eq_iff_iff];simp [h j]
 unfold aw;simp only [this]
theorem pA:∀{rest listed:List Nat} {fuel τ:Nat} {arr:Array Bool},forced ops listed rest=true→arr.size=ops.size→(∀j,arr.getD j false=listed.contains j)→rest.length≤fuel→
  Region.linearise.go .any ops fuel τ arr []=rest
 |[],listed,fuel,τ,arr,hf,hs,h,_=>by
  have h0:aw ops listed=[]:=by simpa [forced] using hf
  cases fuel with
  |zero=>rfl
  |succ fuel=>
   simp only [Region.linearise.go];change (match (Region.ready .any ops arr)[_%(Region.ready .any ops arr).length]? with
    |some i=>_
    |none=>[].reverse)=[];rw [kK hs h,h0];rfl
 |x::rest,listed,0,τ,arr,hf,hs,h,hl=>by simp at hl
 |x::rest,listed,fuel+1,τ,arr,hf,hs,h,hl=>by
  simp only [forced,Bool.and_eq_true,beq_iff_eq] at hf;simp only [Region.linearise.go];change (match (Region.ready .any ops arr)[_%(Region.ready .any ops arr).length]? with
   |some i=>Region.linearise.go .any ops fuel (τ / (Region.ready .any ops arr).length) (arr.setIfInBounds i true) [i]
   |none=>[].reverse)=_;rw [kK hs h,hf.1];simp only [List.length_singleton,Nat.mod_one,List.getElem?_cons_zero];rw [linearise_go_acc,List.reverse_singleton,List.singleton_append];have hx:x∈aw ops listed:=by rw [hf.1];simp
  have hxl:=(cy.1 hx).1;rw [pA (listed:=x::listed) hf.2 (by simpa using hs) (fun j=>?_) (by simpa using hl)];rw [aJ (by omega),h j,List.contains_cons];split;rename_i e;subst e;simp;rename_i e;rw [beq_false_of_ne (Ne.symm e)];rfl
theorem nL:∀{rest listed:List Nat},forced ops listed rest=true→rest.length≤(List.range ops.size).countP (fun j=>!listed.contains j)
 |[],_,_=>Nat.zero_le _
 |x::rest,listed,hf=>by
  simp only [forced,Bool.and_eq_true,beq_iff_eq] at hf;have hx:x∈aw ops listed:=by rw [hf.1];simp
  obtain ⟨h1,h2,_⟩:=cy.1 hx;have ih:=nL hf.2;have:=mV (l:=List.range ops.size) (p:=fun j=>!(x::listed).contains j) (q:=fun j=>!listed.contains j) (fun y _ hy=>by simp at hy⊢;exact hy.2) ⟨x,by simpa using h1,by simpa using h2,by simp⟩;simp only [List.length_cons];omega
theorem jB.LM {i d:Nat} {v:Value} {t:Array Value} {rest:List Nat} {w:World} {Ds:List Nat} {hb:Hl} (ho:jB P w0 S n hb ops i t d v) (hs:hb.Sublist h) (hS:St w0 S w h (ou Ds++Y))
  (hk:∀w',St w0 S w' h (ou Ds++Y)→dR P r f R (.inRegion ops rest::k) (t.setIfInBounds d v) (Ds.map mark) w'):dR P r f R (.inRegion ops (i::rest)::k) t (Ds.map mark) w:=by
 obtain ⟨o,h1,h2,h3,h4,h5⟩:=ho;rcases h5 with ⟨a,b⟩|⟨a,rfl⟩;rcases b w Ds _ (hS.cn hs) with hb|⟨gf,args,hb,hcall⟩;refine dR.op h1 a (du h4) hb (.inl rfl) ?_;rw [h2];exact hk w hS;refine dR.call h1 a (du h4) hb hcall (fun u w2 hu=>?_);obtain ⟨he,rfl⟩:=hu;rw [h2];exact hk w2 (hS.later he);refine dR.pj h1 a ?_;rw [h2];exact hk w hS
theorem lA {o:Oper} {t t':Array Value} (hs:t'.size=t.size) (he:∀s∈gG ops o,t'.getD s undef=t.getD s undef):Region.wanted o (yielded ops t')=Region.wanted o (yielded ops t):=by
 unfold Region.wanted;cases hg:o.guard with
 |none=>rfl
 |some p=>
  obtain ⟨j,want⟩:=p;have:yielded ops t' j=yielded ops t j:=by
   unfold yielded;cases hd:(ops[j]?).bind (·.dst) with
   |none=>rfl
   |some dj=>
    simp only [Option.bind_some];rw [jc hs (he dj (by simp [gG,hg,bK,hd]))]
  simp only [this]
theorem cR.go {i d:Nat} {K:Value→Hl→Prop} {T t:Array Value} {rest:List Nat} {w:World} {Ds:List Nat} (hm:cR P w0 S n h ops i l d K) (hF:iW n T l) (hs:t.size=T.size)
  (he:∀o,ops[i]?=some o→∀s∈gG ops o,t.getD s undef=T.getD s undef) (hS:St w0 S w h (ou Ds++Y))
  (hk:∀v w' h',K v h'→St w0 S w' h' (ou Ds++Y)→dR P r f R (.inRegion ops rest::k) (t.setIfInBounds d v) (Ds.map mark) w'):dR P r f R (.inRegion ops (i::rest)::k) t (Ds.map mark) w:=by
 obtain ⟨o,ho,hdst,hnd,hsel,hd,hr⟩:=hm;have hw:=lA (ops:=ops) (o:=o) hs (he o ho);rcases hr with ⟨hwant,hr⟩|⟨hskip,hK⟩;have hexec:execOp (Act.eval ⟨t,Ds.map mark⟩) o=execOp (Act.eval ⟨T,Ds.map mark⟩) o:=execOp_congr (ρ':=Act.eval ⟨T,Ds.map mark⟩) o (fun cs bb e=>by rw [e] at hsel;cases hsel) (fun x hx=>by
  cases x with
  |tmp s=>exact he o ho s (by
    simp only [gG,List.mem_append];exact .inr (List.mem_filterMap.2 ⟨.tmp s,by simpa using hx,rfl⟩))
  |const v=>rfl
  |global g=>rfl
  |func g=>rfl);rcases hr T w Ds _ hF hS with ⟨v,w',h',h1,h2,h3⟩|⟨gf,args,Rc,h1,h2,h3⟩;refine dR.op ho (hw.trans (eJ hF hwant)) (du hnd) (by rw [hexec];exact h1) (.inl rfl) ?_;rw [hdst];exact hk v w' h' h3 h2;refine dR.call ho (hw.trans (eJ hF hwant)) (du hnd) (by rw [hexec];exact h1) h2 (fun u w2 hu=>?_);obtain ⟨h',h4,h5⟩:=h3 u w2 hu;rw [hdst];exact hk u w2 h' h5 h4;refine dR.pj ho (hw.trans (oe hF hskip)) ?_;rw [hdst];exact hk undef w h hK hS
theorem y7 {m:Nat} (hf:tK ops m) {D:Nat→Nat} {V:Nat→Value} {t0:Array Value} {hB:Hl} (ht0:t0.size=n)
  (hout:∀j,j<m→jB P w0 S n hB ops j (qh D V t0 j) (D j) (V j)):
  ∀(fuel τ:Nat) (arr:Array Bool) (TL:List Nat) (q:Nat) (l:Fl) (h:Hl) (t T:Array Value),arr.size=ops.size→(∀j,arr.getD j false=true→∀e∈cG ops j,arr.getD e false=true)→
   (∀j,m≤j→(arr.getD j false=true↔j∈TL))→(∀j∈TL,m≤j)→iW n T l→Tl P r f R w0 S Y n k ops m hB q TL l h→hB.Sublist h→t.size=n→
   (∀j,j<m→T.getD (D j) undef=V j)→(∀s,(∀j,j<m→arr.getD j false=false→D j≠s)→t.getD s undef=T.getD s undef)→(∀s,(∀j,j<m→D j≠s)→(∀j,m≤j→j<ops.size→bK ops j=some s→arr.getD j false=false)→T.getD s undef=t0.getD s undef)→
   (List.range ops.size).countP (fun j=>!arr.getD j false)≤fuel→∀w Ds,St w0 S w h (ou Ds++Y)→dR P r f R (.inRegion ops (Region.linearise.go .any ops fuel τ arr [])::k) t (Ds.map mark) w:=by
 have hDst:∀j,j<m→bK ops j=some (D j):=fun j hj=>by
  obtain ⟨o,h1,h2,_⟩:=hout j hj;simp [bK,h1,h2]
 have hDlt:∀j,j<m→D j<t0.size:=fun j hj=>by
  obtain ⟨o,_,_,h3,_⟩:=hout j hj;omega
 have hmN:=hf.size;have hDinj:∀i j,i<m→j<m→D i=D j→i=j:=fun i j hi hj e=>hf.inj i j (D i) hi (by omega) (hDst i hi) (by rw [hDst j hj,e]);have hsw:∀{fuel τ:Nat} {arr:Array Bool} {TL rest:List Nat} {l:Fl} {h:Hl} {t T:Array Value},arr.size=ops.size→(∀j,m≤j→(arr.getD j false=true↔j∈TL))→(∀j∈TL,m≤j)→iW n T l→t.size=n→
   (∀s,(∀j,j<m→arr.getD j false=false→D j≠s)→t.getD s undef=T.getD s undef)→(∀j,j<m→arr.getD j false=true)→forced ops (TL++List.range m) rest=true→
   ab P r f R w0 S Y n (.inRegion ops rest::k) l h→(List.range ops.size).countP (fun j=>!arr.getD j false)≤fuel→∀w Ds,St w0 S w h (ou Ds++Y)→dR P r f R (.inRegion ops (Region.linearise.go .any ops fuel τ arr [])::k) t (Ds.map mark) w:=by
  intro fuel τ arr TL rest l h t T hls hTL hTm hF hts hb hall hfo hg hc w Ds hS;have hcont:∀j,arr.getD j false=(TL++List.range m).contains j:=fun j=>by
   rw [Bool.eq_iff_iff,List.contains_iff_mem,List.mem_append,List.mem_range];rcases Nat.lt_or_ge j m with hj|hj;exact ⟨fun _=>.inr hj,fun _=>hall j hj⟩;exact ⟨fun x=>.inl ((hTL j hj).1 x),fun x=>(hTL j hj).2 (by rcases x with x|x;exact x;omega)⟩
  have hlen:=nL hfo;have e1:(fun j=>!(TL++List.range m).contains j)=fun j=>!arr.getD j false:=by funext j;rw [hcont]
  rw [e1] at hlen;rw [pA hfo hls hcont (by omega)];have ht:t=T:=Array.ext_getElem? (fun s=>jc (by rw [hts,hF.1]) (hb s (fun j hj hu=>by rw [hall j hj] at hu;cases hu)));rw [ht];exact hg T w Ds hF hS
 intro fuel
 induction fuel with
 |zero=>
  intro τ arr TL q l h t T hls hcl hTL hTm hF htl hsub hts ha hb hcb hc w Ds hS;have hl:∀j,j<ops.size→arr.getD j false=true:=fun j hj=>by
   have:=List.countP_eq_zero.1 (Nat.le_zero.1 hc) j (by simpa using hj);simpa using this
  cases q with
  |zero=>exact htl.elim
  |succ q=>
   rcases htl with ⟨rest,h1,_,h3⟩|⟨hne,_⟩;exact hsw hls hTL hTm hF hts hb (fun j hj=>hl j (by omega)) h1 h3 hc w Ds hS;exfalso;apply hne;rw [List.eq_nil_iff_forall_not_mem];intro j hj;obtain ⟨a1,a2,_⟩:=cy.1 hj;apply a2;rw [List.mem_append,List.mem_range];rcases Nat.lt_or_ge j m with hj|hj;exact .inr hj;exact .inl ((hTL j hj).1 (hl j a1))
 |succ fuel ih=>
  intro τ arr TL q l h t T hls hcl hTL hTm hF htl hsub hts ha hb hcb hc w Ds hS;have hready:(∃j,j<ops.size∧arr.getD j false=false)→Region.ready .any ops arr≠[]:=by
   rintro ⟨j,hj,hu⟩;have key:∀q,q<ops.size→arr.getD q false=false→Region.ready .any ops arr≠[]:=by
    intro q
    induction q using Nat.strongRecOn with
    |_ q ihq=>
     intro hq hqu;by_cases hb:∃e∈cG ops q,arr.getD e false=false;obtain ⟨e,he,heu⟩:=hb;have hlt:=hf.lt q hq e he;exact ihq e hlt (by omega) heu;obtain ⟨o,ho⟩:∃o,ops[q]?=some o:=⟨ops[q],Array.getElem?_eq_getElem hq⟩;have:q∈Region.ready .any ops arr:=by
      rw [mem_ready];refine ⟨by rw [lK (by omega)];exact hqu,o,ho,fun e he hbd=>?_⟩;cases hx:arr.getD e.on false with
      |true=>rfl
      |false=>exact absurd ⟨e.on,(kS ho).2 ⟨e,he,hbd,rfl⟩,hx⟩ hb
     exact List.ne_nil_of_mem this
   exact key j hj hu
  have hrT:∀i,m≤i→i<ops.size→arr.getD i false=false→(∀e∈cG ops i,arr.getD e false=true)→i∈aw ops (TL++List.range m):=fun i him hiN hu hd=>by
   rw [cy];refine ⟨hiN,fun hx=>?_,fun e he=>?_⟩;rw [List.mem_append,List.mem_range] at hx;rcases hx with hx|hx;rw [(hTL i him).2 hx] at hu;cases hu;omega;rw [List.mem_append,List.mem_range];rcases Nat.lt_or_ge e m with hj|hj;exact .inr hj;exact .inl ((hTL e hj).1 (hd e he))
  by_cases hdone:∃rest,forced ops (TL++List.range m) rest=true∧ab P r f R w0 S Y n (.inRegion ops rest::k) l h∧∀j,j<m→arr.getD j false=true;obtain ⟨rest,h1,h2,h3⟩:=hdone;exact hsw hls hTL hTm hF hts hb h3 h1 h2 hc w Ds hS;simp only [Region.linearise.go];change dR P r f R (.inRegion ops (match (Region.ready .any ops arr)[τ%(Region.ready .any ops arr).length]? with
   |some i=>Region.linearise.go .any ops fuel (τ / (Region.ready .any ops arr).length) (arr.setIfInBounds i true) [i]
   |none=>[].reverse)::k) t (Ds.map mark) w;cases hi:(Region.ready .any ops arr)[τ%(Region.ready .any ops arr).length]? with
  |none=>
   exfalso;have hnil:Region.ready .any ops arr=[]:=by
    cases hr:Region.ready .any ops arr with
    |nil=>rfl
    |cons x xs=>
     rw [hr] at hi;have hlt:τ%(x::xs).length<(x::xs).length:=Nat.mod_lt _ (by simp);rw [List.getElem?_eq_getElem hlt] at hi;cases hi
   have hl:∀j,j<ops.size→arr.getD j false=true:=fun j hj=>by
    cases hx:arr.getD j false with
    |true=>rfl
    |false=>exact absurd hnil (hready ⟨j,hj,hx⟩)
   cases q with
   |zero=>exact htl.elim
   |succ q=>
    rcases htl with ⟨rest,h1,_,h3⟩|⟨hne,_⟩;exact hdone ⟨rest,h1,h3,fun j hj=>hl j (by omega)⟩;apply hne;rw [List.eq_nil_iff_forall_not_mem];intro j hj;obtain ⟨a1,a2,_⟩:=cy.1 hj;apply a2;rw [List.mem_append,List.mem_range];rcases Nat.lt_or_ge j m with hj|hj;exact .inr hj;exact .inl ((hTL j hj).1 (hl j a1))
  |some i=>
   have hmem:=List.mem_of_getElem? hi;rw [mem_ready] at hmem;obtain ⟨hu,o,ho,hdep⟩:=hmem;have hiN:i<ops.size:=(Array.getElem?_eq_some_iff.1 ho).1;rw [lK (by omega)] at hu;simp only [];rw [linearise_go_acc,List.reverse_singleton,List.singleton_append];have hdl:∀e∈cG ops i,arr.getD e false=true:=fun e he=>by
    obtain ⟨e',he',hb,rfl⟩:=(kS ho).1 he;exact hdep e' he' hb
   have hcl':∀j,(arr.setIfInBounds i true).getD j false=true→∀e∈cG ops j,(arr.setIfInBounds i true).getD e false=true:=by
    intro j hj e he;rw [aJ (by omega)] at hj⊢;split;rfl;split at hj;rename_i hij;subst hij;exact hdl e he;exact hcl j hj e he
   have hcnt:=count_set (listed:=arr) hls hiN hu;by_cases him:i<m;have hgo:=hout i him;have hDi:D i<t.size:=by rw [hts,←ht0];exact hDlt i him
   have heq:jB P w0 S n hB ops i t (D i) (V i):=by
    refine hgo.congr (hf.Ay i him) (by rw [hts,gU,ht0]) (fun o' ho' s hs=>?_);obtain ⟨g1,g2⟩:=lB hDlt hDinj i (by omega);by_cases hx:∃j,j<m∧D j=s;obtain ⟨j,hj,rfl⟩:=hx;have hjd:=(hf.Fj i him o' ho' (D j) hs j (by omega) (hDst j hj)).resolve_right (fun x=>by omega);rw [g1 j (hf.lt i hiN j hjd),hb (D j) (fun j' hj' hu' e=>by
     have:=hDinj j' j hj' hj e;subst this;rw [hdl j' hjd] at hu';cases hu'),ha j hj];rw [hb s (fun j hj _ e=>hx ⟨j,hj,e⟩),g2 s (fun j hj e=>hx ⟨j,by omega,e⟩)];refine hcb s (fun j hj e=>hx ⟨j,hj,e⟩) (fun j hmj hj hd=>?_);rcases hf.Fj i him o' ho' s hs j hj hd with hjd|⟨_,hjb⟩;have hjl:=hf.lt i hiN j hjd;omega;cases hja:arr.getD j false with
    |false=>rfl
    |true=>
     exfalso;have:=sZ (ops:=ops) (listed:=(List.range ops.size).filter (fun j=>arr.getD j false)) (x:=j) (fun j hj e he=>by
      rw [List.mem_filter,List.mem_range] at hj⊢;have hlt:=hf.lt j hj.1 e he;exact ⟨by omega,hcl j hj.2 e he⟩) (fun e he=>by
      rw [List.mem_filter,List.mem_range];have hlt:=hf.lt j hj e he;exact ⟨by omega,hcl j hja e he⟩) i hjb;rcases this with h|h;omega;rw [(List.mem_filter.1 h).2] at hu;cases hu
   refine heq.LM hsub hS (fun w hS=>?_);refine ih _ _ TL q l h _ T (by simpa using hls) hcl' (fun j hj=>?_) hTm hF htl hsub (by simpa using hts) ha (fun s hs=>?_) (fun s hs1 hs2=>hcb s hs1 (fun j hj hjN hd=>by
    have:=hs2 j hj hjN hd;rwa [aJ (by omega),if_neg (by omega)] at this)) (by omega) w Ds hS;rw [aJ (by omega),if_neg (by omega)];exact hTL j hj;rw [cQ hDi];split;rename_i e;subst e;exact (ha i him).symm;rename_i e;refine hb s (fun j hj hu'=>?_);by_cases e2:i=j;subst e2;exact e;exact hs j hj (by rw [aJ (by omega),if_neg e2];exact hu')
   -- of the tail
   have him':m≤i:=by omega
   have hir:=hrT i him' hiN hu hdl;cases q with
   |zero=>exact htl.elim
   |succ q=>
    rcases htl with ⟨rest,h1,hbel,h3⟩|⟨_,hop⟩;exfalso;cases rest with
    |nil=>
     have h0:aw ops (TL++List.range m)=[]:=by simpa [forced] using h1
     rw [h0] at hir;cases hir
    |cons x rest=>
     have hx:aw ops (TL++List.range m)=[x]:=by
      simp only [forced,Bool.and_eq_true,beq_iff_eq] at h1;exact h1.1
     rw [hx] at hir;obtain rfl:=List.mem_singleton.1 hir;refine hdone ⟨i::rest,h1,h3,fun j hj=>?_⟩;have hmem:j∈below ops i∧j≠i:=by
      have:=List.all_eq_true.1 hbel j (by simpa using hj);rw [Bool.and_eq_true,List.contains_iff_mem,Bool.not_eq_true'] at this;exact ⟨this.1,fun e=>by rw [e,Nat.beq_refl] at this;cases this.2⟩
     have:=sZ (ops:=ops) (listed:=(List.range ops.size).filter (fun j=>arr.getD j false)) (x:=i) (fun j hj e he=>by
      rw [List.mem_filter,List.mem_range] at hj⊢;have hlt:=hf.lt j hj.1 e he;exact ⟨by omega,hcl j hj.2 e he⟩) (fun e he=>by
      rw [List.mem_filter,List.mem_range];have hlt:=hf.lt i hiN e he;exact ⟨by omega,hdl e he⟩) j hmem.1;exact (List.mem_filter.1 (this.resolve_left hmem.2)).2
    obtain ⟨d,hmop⟩:=hop i hir;have hdi:bK ops i=some d:=by
     obtain ⟨o',e1,e2,_⟩:=hmop;simp [bK,e1,e2]
    have hdn:d<n:=by
     obtain ⟨o',_,_,_,_,hd,_⟩:=hmop;simpa [Nat.blt_eq] using hd
    refine hmop.go hF (by rw [hts,hF.1]) (fun o' ho' s hs=>?_) hS (fun v w' h' hK hS'=>?_);refine hb s (fun j hj hu' e=>?_);subst e;have hjd:=hf.Kq i him' o' ho' (D j) hs j hj (hDst j hj);rw [hdl j hjd] at hu';cases hu';obtain ⟨hsub',htl'⟩:=hK;refine ih _ _ (i::TL) q ((d,v)::l) h' _ (T.setIfInBounds d v) (by simpa using hls) hcl' (fun j hj=>?_) (fun j hj=>?_) (hF.put v (by simpa [Nat.blt_eq] using hdn)) htl' hsub' (by simpa using hts) (fun j hj=>?_) (fun s hs=>?_) (fun s hs1 hs2=>?_) (by omega) w' Ds hS';rw [aJ (by omega),List.mem_cons];split;rename_i e;subst e;simp;rename_i e;rw [hTL j hj];exact ⟨.inr,fun x=>x.resolve_left (Ne.symm e)⟩;rcases List.mem_cons.1 hj with rfl|hj;exact him';exact hTm j hj;rw [cQ (by rw [hF.1];exact hdn)];split;rename_i e;have:=hf.inj j i d hj hiN (by rw [hDst j hj,e]) hdi;omega;exact ha j hj;rw [cQ (by rw [hts];exact hdn),cQ (by rw [hF.1];exact hdn)];split;rfl;refine hb s (fun j hj hu'=>hs j hj ?_);rw [aJ (by omega),if_neg (by omega)];exact hu';rw [cQ (by rw [hF.1];exact hdn)];split;rename_i e;have:=hs2 i him' hiN (by rw [hdi,e]);rw [aJ (by omega),if_pos rfl] at this;cases this;refine hcb s hs1 (fun j hj hjN hd=>?_);have:=hs2 j hj hjN hd;rw [aJ (by omega)] at this;split at this;cases this;exact this
theorem Tl.sw {m q:Nat} {hb:Hl} {TL:List Nat} (rest:List Nat) (h1:forced ops (TL++List.range m) rest=true) (h2:wj ops m rest=true)
  (hg:ab P r f R w0 S Y n (.inRegion ops rest::k) l h):Tl P r f R w0 S Y n k ops m hb (q+1) TL l h:=.inl ⟨rest,h1,h2,hg⟩
theorem Tl.one {m q i d:Nat} {hb:Hl} {TL:List Nat} (h1:aw ops (TL++List.range m)=[i]) (hm:cR P w0 S n h ops i l d (fun v h'=>hb.Sublist h'∧Tl P r f R w0 S Y n k ops m hb q (i::TL) ((d,v)::l) h')):Tl P r f R w0 S Y n k ops m hb (q+1) TL l h:=
 .inr ⟨by rw [h1];simp,fun j hj=>by rw [h1] at hj;obtain rfl:=List.mem_singleton.1 hj;exact ⟨d,hm⟩⟩
theorem Tl.two {m q i d i2 d2:Nat} {hb:Hl} {TL:List Nat} (h1:aw ops (TL++List.range m)=[i,i2]) (hm:cR P w0 S n h ops i l d (fun v h'=>hb.Sublist h'∧Tl P r f R w0 S Y n k ops m hb q (i::TL) ((d,v)::l) h'))
  (hm2:cR P w0 S n h ops i2 l d2 (fun v h'=>hb.Sublist h'∧Tl P r f R w0 S Y n k ops m hb q (i2::TL) ((d2,v)::l) h')):Tl P r f R w0 S Y n k ops m hb (q+1) TL l h:=
 .inr ⟨by rw [h1];simp,fun j hj=>by
  rw [h1] at hj;rcases List.mem_cons.1 hj with rfl|hj;exact ⟨d,hm⟩;obtain rfl:=List.mem_singleton.1 hj;exact ⟨d2,hm2⟩⟩
end
theorem ab.Im {P:Program} {r:Option Nat} {f:FuncId} {R:Value→World→Prop} {w0:World} {S:List Nat} {Y:List (Nat×Obj)} {n:Nat} {k:List Item} {l l':Fl} {h h':Hl} (hg:ab P r f R w0 S Y n k l' h') (hl:bh l' l) (hh:∀w Y',St w0 S w h Y'→St w0 S w h' Y'):ab P r f R w0 S Y n k l h:=
 fun t w Ds hF hS=>hg t w Ds (hF.sub hl) (hh w _ hS)
theorem ab.fN {P:Program} {r:Option Nat} {f:FuncId} {R:Value→World→Prop} {w0:World} {S:List Nat} {Y:List (Nat×Obj)} {n:Nat} {k:List Item} {l:Fl} {h:Hl} {ops:Array Oper} {id:Nat} {dr:Bool} {α:Type} (restc:List Nat) (lf:α→Fl) (hf:α→Hl)
  (hK:∀a,ab P r f R w0 S Y n (.inRegion ops restc::k) (lf a) (hf a))
  (hg:(∀a l h,bh (lf a) l→(∀w Y',St w0 S w h Y'→St w0 S w (hf a) Y')→ab P r f R w0 S Y n (.inRegion ops restc::k) l h)→ab P r f R w0 S Y n (.code (.region id ops dr)::k) l h):ab P r f R w0 S Y n (.code (.region id ops dr)::k) l h:=
 hg (fun a _ _ hl hh=>(hK a).Im hl hh)
section
variable {P:Program} {r:Option Nat} {f:FuncId} {R:Value→World→Prop} {w0:World} {S:List Nat} {Y:List (Nat×Obj)} {n:Nat} {k:List Item} {l:Fl} {h:Hl} {ops:Array Oper}
end
def uH (ops:Array Oper) (_l:Fl) (c:Nat):Bool:=
 Nat.blt c ops.size &&
 (List.range ops.size).all (fun i=>(cG ops i).all (fun j=>Nat.blt j i)) &&
 (List.range (c+1)).all (fun i=>match ops[i]? with
  |none=>false
  |some o=>fH o.op && match o.dst with
   |none=>false
   |some d=>(List.range (c+1)).all (fun j=>Nat.beq j i||!(bK ops j==some d)) &&
    (gG ops o).all (fun s=>(List.range (c+1)).all (fun j=>!(bK ops j==some s)||(cG ops i).contains j))) &&
 (List.range' (c+1) (ops.size - (c+1))).all (fun i=>(List.range (c+1)).all (fun j=>(cG ops i).contains j)||(cG ops i).any (fun j=>Nat.blt c j)) &&
 forced ops (List.range (c+1)) (List.range' (c+1) (ops.size - (c+1)))
section
variable {P:Program} {r:Option Nat} {f:FuncId} {R:Value→World→Prop} {w0:World} {S:List Nat} {Y:List (Nat×Obj)} {n:Nat} {k:List Item} {l:Fl} {h:Hl} {ops:Array Oper}
structure sf (ops:Array Oper) (c:Nat):Prop where
  size:c<ops.size
  lt:∀i,i<ops.size→∀j∈cG ops i,j<i
  Ay:∀i,i≤c→∀o,ops[i]?=some o→fH o.op=true
  inj:∀i j d,i≤c→j≤c→bK ops i=some d→bK ops j=some d→i=j
  Fj:∀i,i≤c→∀o,ops[i]?=some o→∀s∈gG ops o,∀j,j≤c→bK ops j=some s→j∈cG ops i
  late:∀i,c<i→i<ops.size→(∀j,j≤c→j∈cG ops i)∨∃j∈cG ops i,c<j
  G6:forced ops (List.range (c+1)) (List.range' (c+1) (ops.size - (c+1)))=true
theorem zs {c:Nat} (hc:uH ops l c=true):sf ops c:=by
 simp only [uH,Bool.and_eq_true,List.all_eq_true,List.mem_range,Nat.blt_eq,Bool.or_eq_true,List.contains_iff_mem,List.any_eq_true,List.mem_range'_1] at hc;obtain ⟨⟨⟨⟨hsz,hlt⟩,hr⟩,hla⟩,hfo⟩:=hc;have hat:∀i,i≤c→∃o d,ops[i]?=some o∧o.dst=some d∧fH o.op=true∧(∀j,j≤c→j=i∨bK ops j≠some d)∧(∀s∈gG ops o,∀j,j≤c→bK ops j≠some s∨j∈cG ops i):=by
  intro i hi;have:=hr i (by omega);cases ho:ops[i]? with
  |none=>simp [ho] at this
  |some o=>
   cases hd:o.dst with
   |none=>simp [ho,hd] at this
   |some d=>
    simp only [ho,hd,Bool.and_eq_true,List.all_eq_true,List.mem_range,Bool.or_eq_true,Nat.beq_eq,Bool.not_eq_true',beq_eq_false_iff_ne,List.contains_iff_mem] at this;exact ⟨o,d,rfl,hd,this.1,fun j hj=>this.2.1 j (by omega),fun s hs j hj=>this.2.2 s hs j (by omega)⟩
 refine ⟨hsz,hlt,fun i hi o ho=>?_,fun i j d hi hj h1 h2=>?_,fun i hi o ho s hs j hj hd=>?_,fun i h1 h2=>?_,hfo⟩;obtain ⟨o',d,e1,_,e3,_⟩:=hat i hi;rw [ho] at e1;cases e1;exact e3;obtain ⟨o,d',e1,e2,_,e5,_⟩:=hat i hi;have:d'=d:=by simp [bK,e1,e2] at h1;exact h1
 subst this;rcases e5 j hj with e|e;exact e.symm;exact absurd h2 e;obtain ⟨o',d,e1,_,_,_,e6⟩:=hat i hi;rw [ho] at e1;cases e1;rcases e6 s hs j hj with e|e;exact absurd hd e;exact e;rcases hla i ⟨by omega,by omega⟩ with e|⟨j,e1,e2⟩;exact .inl (fun j hj=>e j (by omega));exact .inr ⟨j,e1,e2⟩
def Cy (P:Program) (w0:World) (S:List Nat) (n:Nat) (Hs:Hl→Prop) (ops:Array Oper) (F:Array Value→Prop):Nat→Nat→Array Value→Prop
 |_,0,t=>F t
 |i,m+1,t=>∃d v,(∀h',Hs h'→jB P w0 S n h' ops i t d v)∧Cy P w0 S n Hs ops F (i+1) m (t.setIfInBounds d v)
theorem Cy.seq {Hs:Hl→Prop} {F:Array Value→Prop}:∀{m i:Nat} {t:Array Value},Cy P w0 S n Hs ops F i m t→∃(D:Nat→Nat) (V:Nat→Value),(∀j,j<m→∀h',Hs h'→jB P w0 S n h' ops (i+j) (qh D V t j) (D j) (V j))∧F (qh D V t m)
 |0,_,t,hF=>⟨fun _=>0,fun _=>undef,fun j hj=>by omega,hF⟩
 |m+1,i,t,⟨d,v,ho,hr⟩=>by
  obtain ⟨D,V,h1,h2⟩:=Cy.seq hr;refine ⟨fun j=>match j with|0=>d|j+1=>D j,fun j=>match j with|0=>v|j+1=>V j,fun j hj=>?_,?_⟩;cases j with
  |zero=>exact ho
  |succ j=>
   have:=h1 j (by omega);rw [show i+(j+1)=i+1+j from by omega,kF];exact this
  rw [kF];exact h2
def nW (P:Program) (w0:World) (S:List Nat) (n:Nat) (Hs:Hl→Prop) (ops:Array Oper) (F:Fl→Prop) (i m:Nat) (l:Fl):Prop:=
 ∀t,iW n t l→Cy P w0 S n Hs ops (fun t'=>∃l',iW n t' l'∧F l') i m t
theorem nW.nil {Hs:Hl→Prop} {F:Fl→Prop} {i:Nat} (hg:F l):nW P w0 S n Hs ops F i 0 l:=fun _ hF=>⟨l,hF,hg⟩
theorem nW.v {Hs:Hl→Prop} {F:Fl→Prop} {i m:Nat} (d:Nat) (v:Value) (hd:Nat.blt d n=true) (hv:∀h',Hs h'→af P w0 S n h' ops i l d v) (hg:nW P w0 S n Hs ops F (i+1) m ((d,v)::l)):nW P w0 S n Hs ops F i (m+1) l:=by
 intro t hF;refine ⟨d,v,fun h' hh=>?_,hg _ (hF.put v hd)⟩;obtain ⟨o,ho,hw,hdst,hnd,hd,hr⟩:=hv h' hh;exact ⟨o,ho,hdst,by simpa [Nat.blt_eq] using hd,hnd,.inl ⟨eJ hF hw,fun w Ds Y' hS=>by obtain ⟨nx,h1,rfl⟩:=hr t w Ds Y' hF hS;exact .inl h1⟩⟩
theorem A0 {c:Nat} (hf:sf ops c) {Hs:Hl→Prop} (hh0:Hs h) {D:Nat→Nat} {V:Nat→Value} {t0:Array Value} (ht0:t0.size=n) {l':Fl} {d:Nat} {K:Value→Hl→Prop}
  (hout:∀j,j<c→∀h',Hs h'→jB P w0 S n h' ops j (qh D V t0 j) (D j) (V j)) (hFr:iW n (qh D V t0 c) l') (hm:cR P w0 S n h ops c l' d K)
  (hK:∀v h',K v h'→Hs h'∧ab P r f R w0 S Y n (.inRegion ops (List.range' (c+1) (ops.size - (c+1)))::k) ((d,v)::l') h'):
  ∀(fuel τ:Nat) (arr:Array Bool) (t:Array Value),arr.size=ops.size→(∀j,arr.getD j false=true→∀e∈cG ops j,arr.getD e false=true)→(∀j,c<j→arr.getD j false=false)→t.size=n→
   (∀j,j<c→arr.getD j false=true→t.getD (D j) undef=V j)→(∀s,(∀j,j<c→arr.getD j false=true→D j≠s)→(arr.getD c false=true→d≠s)→t.getD s undef=t0.getD s undef)→
   (List.range ops.size).countP (fun j=>!arr.getD j false)≤fuel→∀w Ds,
   (arr.getD c false=false∧St w0 S w h (ou Ds++Y)∨arr.getD c false=true∧∃v h',K v h'∧t.getD d undef=v∧St w0 S w h' (ou Ds++Y))→
   dR P r f R (.inRegion ops (Region.linearise.go .any ops fuel τ arr [])::k) t (Ds.map mark) w:=by
 have hDst:∀j,j<c→bK ops j=some (D j):=fun j hj=>by
  obtain ⟨o,h1,h2,_⟩:=hout j hj h hh0;simp [bK,h1,h2]
 have hdst:bK ops c=some d:=by
  obtain ⟨o,h1,h2,_⟩:=hm;simp [bK,h1,h2]
 have hdn:d<n:=by
  obtain ⟨o,_,_,_,_,h5,_⟩:=hm;simpa [Nat.blt_eq] using h5
 have hDlt:∀j,j<c→D j<t0.size:=fun j hj=>by
  obtain ⟨o,_,_,h3,_⟩:=hout j hj h hh0;omega
 have hDinj:∀i j,i<c→j<c→D i=D j→i=j:=fun i j hi hj e=>hf.inj i j (D i) (by omega) (by omega) (hDst i hi) (by rw [hDst j hj,e]);have hDd:∀j,j<c→D j≠d:=fun j hj e=>by
  have:=hf.inj j c d (by omega) (Nat.le_refl _) (by rw [hDst j hj,e]) hdst;omega
 have fin:∀(fuel τ:Nat) (arr:Array Bool) (t:Array Value),arr.size=ops.size→(∀j,c<j→arr.getD j false=false)→t.size=n→(∀j,j≤c→arr.getD j false=true)→
   (∀j,j<c→arr.getD j false=true→t.getD (D j) undef=V j)→(∀s,(∀j,j<c→arr.getD j false=true→D j≠s)→(arr.getD c false=true→d≠s)→t.getD s undef=t0.getD s undef)→
   (List.range ops.size).countP (fun j=>!arr.getD j false)≤fuel→∀w Ds v h',K v h'→t.getD d undef=v→St w0 S w h' (ou Ds++Y)→
   dR P r f R (.inRegion ops (Region.linearise.go .any ops fuel τ arr [])::k) t (Ds.map mark) w:=by
  intro fuel τ arr t has hno hts hall h1 h2 hc w Ds v h' hKv hv hS;have harr:∀j,arr.getD j false=(List.range (c+1)).contains j:=fun j=>by
   by_cases hj:j≤c;rw [hall j hj];symm;rw [List.contains_iff_mem,List.mem_range];omega;rw [hno j (by omega)];symm;rw [←Bool.not_eq_true,List.contains_iff_mem,List.mem_range];omega
  have hlen:=nL hf.G6;have hcnt:(List.range ops.size).countP (fun j=>!(List.range (c+1)).contains j)=(List.range ops.size).countP (fun j=>!arr.getD j false):=by
   congr 1;funext j;rw [harr j]
  rw [pA hf.G6 has harr (by omega)];have ht:t=(qh D V t0 c).setIfInBounds d v:=by
   obtain ⟨g1,g2⟩:=lB hDlt hDinj c (Nat.le_refl _);have hdT:d<(qh D V t0 c).size:=by rw [gU];omega
   refine Array.ext_getElem? (fun s=>jc (by rw [hts,Array.size_setIfInBounds,gU,ht0]) ?_);rw [cQ hdT];by_cases hs:d=s;subst hs;rw [if_pos rfl,hv];rw [if_neg hs];by_cases hx:∃j,j<c∧D j=s;obtain ⟨j,hj,rfl⟩:=hx;rw [h1 j hj (hall j (by omega)),g1 j hj];rw [h2 s (fun j hj _ e=>hx ⟨j,hj,e⟩) (fun _=>hs),g2 s (fun j hj e=>hx ⟨j,hj,e⟩)]
  rw [ht];exact (hK v h' hKv).2 _ w Ds (hFr.put v (by simpa [Nat.blt_eq] using hdn)) hS
 intro fuel
 induction fuel with
 |zero=>
  intro τ arr t has hcl hno hts h1 h2 hc w Ds hmem;have hl:∀j,j<ops.size→arr.getD j false=true:=fun j hj=>by
   have:=List.countP_eq_zero.1 (Nat.le_zero.1 hc) j (by simpa using hj);simpa using this
  have hsz:=hf.size;rcases hmem with ⟨h3,_⟩|⟨_,v,h',h4,h5,h6⟩;rw [hl c hsz] at h3;cases h3;exact fin 0 τ arr t has hno hts (fun j hj=>hl j (by omega)) h1 h2 hc w Ds v h' h4 h5 h6
 |succ fuel ih=>
  intro τ arr t has hcl hno hts h1 h2 hc w Ds hmem;have hsz:=hf.size;by_cases hall:∀j,j≤c→arr.getD j false=true;rcases hmem with ⟨h3,_⟩|⟨_,v,h',h4,h5,h6⟩;rw [hall c (Nat.le_refl _)] at h3;cases h3;exact fin (fuel+1) τ arr t has hno hts hall h1 h2 hc w Ds v h' h4 h5 h6;obtain ⟨j0,hj0⟩:=Classical.not_forall.1 hall;obtain ⟨hj0c,hj0u⟩:=Classical.not_imp.1 hj0;rw [Bool.not_eq_true] at hj0u;have hready:Region.ready .any ops arr≠[]:=by
   have key:∀q,q<ops.size→arr.getD q false=false→Region.ready .any ops arr≠[]:=by
    intro q
    induction q using Nat.strongRecOn with
    |_ q ihq=>
     intro hq hqu;by_cases hb:∃e∈cG ops q,arr.getD e false=false;obtain ⟨e,he,heu⟩:=hb;have hlt:=hf.lt q hq e he;exact ihq e hlt (by omega) heu;obtain ⟨o,ho⟩:∃o,ops[q]?=some o:=⟨ops[q],Array.getElem?_eq_getElem hq⟩;have:q∈Region.ready .any ops arr:=by
      rw [mem_ready];refine ⟨by rw [lK (by omega)];exact hqu,o,ho,fun e he hbd=>?_⟩;cases hx:arr.getD e.on false with
      |true=>rfl
      |false=>exact absurd ⟨e.on,(kS ho).2 ⟨e,he,hbd,rfl⟩,hx⟩ hb
     exact List.ne_nil_of_mem this
   exact key j0 (by omega) hj0u
  simp only [Region.linearise.go];change dR P r f R (.inRegion ops (match (Region.ready .any ops arr)[τ%(Region.ready .any ops arr).length]? with
   |some i=>Region.linearise.go .any ops fuel (τ / (Region.ready .any ops arr).length) (arr.setIfInBounds i true) [i]
   |none=>[].reverse)::k) t (Ds.map mark) w;cases hi:(Region.ready .any ops arr)[τ%(Region.ready .any ops arr).length]? with
  |none=>
   exfalso;cases hr:Region.ready .any ops arr with
   |nil=>exact hready hr
   |cons x xs=>
    rw [hr] at hi;have hlt:τ%(x::xs).length<(x::xs).length:=Nat.mod_lt _ (by simp);rw [List.getElem?_eq_getElem hlt] at hi;cases hi
  |some i=>
   have hmemi:=List.mem_of_getElem? hi;rw [mem_ready] at hmemi;obtain ⟨hu,o,ho,hdep⟩:=hmemi;have hiN:i<ops.size:=(Array.getElem?_eq_some_iff.1 ho).1;rw [lK (by omega)] at hu;simp only [];rw [linearise_go_acc,List.reverse_singleton,List.singleton_append];have hdl:∀e∈cG ops i,arr.getD e false=true:=fun e he=>by
    obtain ⟨e',he',hb,rfl⟩:=(kS ho).1 he;exact hdep e' he' hb
   have hic:i≤c:=by
    apply Classical.byContradiction;intro hgt;rcases hf.late i (by omega) hiN with e|⟨j,e1,e2⟩;have:=hdl j0 (e j0 hj0c);rw [hj0u] at this;cases this;have:=hdl j e1;rw [hno j e2] at this;cases this
   have hcl':∀j,(arr.setIfInBounds i true).getD j false=true→∀e∈cG ops j,(arr.setIfInBounds i true).getD e false=true:=by
    intro j hj e he;rw [aJ (by omega)] at hj⊢;split;rfl;split at hj;rename_i hij;subst hij;exact hdl e he;exact hcl j hj e he
   have hno':∀j,c<j→(arr.setIfInBounds i true).getD j false=false:=fun j hj=>by
    rw [aJ (by omega),if_neg (by omega)];exact hno j hj
   have hcnt:=count_set (listed:=arr) has hiN hu;have heyes:∀o',ops[i]?=some o'→∀s∈gG ops o',t.getD s undef=(qh D V t0 i).getD s undef:=fun o' ho' s hs=>by
    obtain ⟨g1,g2⟩:=lB hDlt hDinj i hic;by_cases hx:∃j,j<c∧D j=s;obtain ⟨j,hj,rfl⟩:=hx;have hjd:=hf.Fj i hic o' ho' (D j) hs j (by omega) (hDst j hj);rw [h1 j hj (hdl j hjd),g1 j (hf.lt i hiN j hjd)];have hsd:arr.getD c false=true→d≠s:=fun _ e=>by
     subst e;have:=hf.lt i hiN c (hf.Fj i hic o' ho' d hs c (Nat.le_refl _) hdst);omega
    rw [h2 s (fun j hj _ e=>hx ⟨j,hj,e⟩) hsd,g2 s (fun j hj e=>hx ⟨j,by omega,e⟩)]
   by_cases him:i<c
   ·
    have hOut:∀h',Hs h'→jB P w0 S n h' ops i t (D i) (V i):=fun h' hh=>
     (hout i him h' hh).congr (hf.Ay i hic) (by rw [hts,gU,ht0]) heyes;have hDi:D i<t.size:=by rw [hts,←ht0];exact hDlt i him
    have hcc:(arr.setIfInBounds i true).getD c false=arr.getD c false:=by rw [aJ (by omega),if_neg (by omega)]
    have next:∀w',(arr.getD c false=false∧St w0 S w' h (ou Ds++Y)∨arr.getD c false=true∧∃v h',K v h'∧t.getD d undef=v∧St w0 S w' h' (ou Ds++Y))→
      dR P r f R (.inRegion ops (Region.linearise.go .any ops fuel (τ / (Region.ready .any ops arr).length) (arr.setIfInBounds i true) [])::k) (t.setIfInBounds (D i) (V i)) (Ds.map mark) w':=fun w' hmem'=>by
     refine ih _ _ _ (by simpa using has) hcl' hno' (by simpa using hts) (fun j hj hlj=>?_) (fun s hs hsd=>?_) (by omega) w' Ds ?_;rw [cQ hDi];split;rename_i e;rw [hDinj i j him hj e];rename_i e;rw [aJ (by omega)] at hlj;split at hlj;rename_i e2;subst e2;exact absurd rfl e;exact h1 j hj hlj;rw [cQ hDi,if_neg (hs i him (by rw [aJ (by omega),if_pos rfl]))];refine h2 s (fun j hj hlj=>hs j hj ?_) (fun hx=>hsd (by rw [hcc];exact hx));rw [aJ (by omega)];split;rfl;exact hlj;rw [hcc,cQ hDi,if_neg (hDd i him)];exact hmem'
    rcases hmem with ⟨h3,hS⟩|⟨h3,v,h',h4,h5,hS⟩;exact (hOut h hh0).go hS (fun w' hS'=>next w' (.inl ⟨h3,hS'⟩));exact (hOut h' (hK v h' h4).1).go hS (fun w' hS'=>next w' (.inr ⟨h3,v,h',h4,h5,hS'⟩))
   -- the operation that turns memory
   obtain rfl:i=c:=by omega
   rcases hmem with ⟨h3,hS⟩|⟨h3,_⟩;refine cR.go hm hFr (by rw [hts,gU,ht0]) heyes hS (fun v w' h' hKv hS'=>?_);have hdt:d<t.size:=by omega
   refine ih _ _ _ (by simpa using has) hcl' hno' (by simpa using hts) (fun j hj hlj=>?_) (fun s hs hsd=>?_) (by omega) w' Ds ?_;rw [cQ hdt,if_neg (fun e=>hDd j hj e.symm)];rw [aJ (by omega),if_neg (by omega)] at hlj;exact h1 j hj hlj;rw [cQ hdt,if_neg (hsd (by rw [aJ (by omega),if_pos rfl]))];refine h2 s (fun j hj hlj=>hs j hj ?_) (fun hx=>by rw [h3] at hx;cases hx);rw [aJ (by omega),if_neg (by omega)];exact hlj;refine .inr ⟨by rw [aJ (by omega),if_pos rfl],v,h',hKv,?_,hS'⟩;rw [cQ hdt,if_pos rfl];rw [hu] at h3;cases h3
theorem ab.BR {id:Nat} (c:Nat) (Hs:Hl→Prop) (hmix:P.follows .mixedOrders=true) (hc:uH ops l c=true) (hh0:Hs h)
  (hg:nW P w0 S n Hs ops (fun l'=>∃d K,cR P w0 S n h ops c l' d K∧∀v h',K v h'→Hs h'∧ab P r f R w0 S Y n (.inRegion ops (List.range' (c+1) (ops.size - (c+1)))::k) ((d,v)::l') h') 0 c l):ab P r f R w0 S Y n (.code (.region id ops true)::k) l h:=by
 intro t w Ds hF hS;have hf:=zs hc;refine .jJ (fun τ=>?_);obtain ⟨D,V,hout,l',hFr,d,K,hm,hK⟩:=(hg t hF).seq;simp only [Nat.zero_add] at hout;simp only [Region.schedule,hmix,Bool.true_or,if_true,Region.linearise];have h0:∀j,(Array.replicate ops.size false).getD j false=false:=fun j=>by
  simp [Array.getD_eq_getD_getElem?,Array.getElem?_replicate];split<;>simp
 refine A0 hf hh0 hF.1 hout hFr hm hK ops.size τ _ t (by simp) (fun j hj=>?_) (fun j _=>h0 j) hF.1 (fun j _ hj=>?_) (fun s _ _=>rfl) ?_ _ Ds (.inl ⟨h0 c,hS.drew⟩);rw [h0 j] at hj;cases hj;rw [h0 j] at hj;cases hj;exact Nat.le_trans (List.countP_le_length) (by simp)
theorem ab.rS {id:Nat} (m q:Nat) (hb:Hl) (hsub:hb.Sublist h) (hmix:P.follows .mixedOrders=true) (hc:wy ops l m=true) (hg:lM P w0 S n ops hb (fun l'=>Tl P r f R w0 S Y n k ops m hb q [] l' h) 0 m l):ab P r f R w0 S Y n (.code (.region id ops true)::k) l h:=by
 intro t w Ds hF hS;have hf:=tV hc;refine .jJ (fun τ=>?_);obtain ⟨D,V,hout,l',hF',htl⟩:=(hg t hF).seq;simp only [Nat.zero_add] at hout;simp only [Region.schedule,hmix,Bool.true_or,if_true,Region.linearise];have hDst:∀j,j<m→bK ops j=some (D j):=fun j hj=>by
  obtain ⟨o,h1,h2,_⟩:=hout j hj;simp [bK,h1,h2]
 have hDlt:∀j,j<m→D j<t.size:=fun j hj=>by
  obtain ⟨o,_,_,h3,_⟩:=hout j hj;rw [hF.1];exact h3
 have hmN:=hf.size;have hDinj:∀i j,i<m→j<m→D i=D j→i=j:=fun i j hi hj e=>hf.inj i j (D i) hi (by omega) (hDst i hi) (by rw [hDst j hj,e]);obtain ⟨g1,g2⟩:=lB hDlt hDinj m (Nat.le_refl _);have harr:∀j,(Array.replicate ops.size false).getD j false=false:=fun j=>by
  simp [Array.getD_eq_getD_getElem?,Array.getElem?_replicate];split<;>simp
 refine y7 hf hF.1 hout ops.size τ _ [] q l' h t _ (by simp) (fun j hj=>?_) (fun j _=>?_) (by simp) hF' htl hsub hF.1 g1 (fun s hs=>?_) (fun s hs _=>?_) ?_ _ Ds hS.drew;rw [harr] at hj;cases hj;rw [harr];simp;rw [g2 s (fun j hj=>hs j hj (harr j))];exact g2 s (fun j hj e=>hs j hj e);exact Nat.le_trans (List.countP_le_length) (by simp)
theorem cR.app {i d:Nat} {ty:TypeId} {pos:String} {aft:Array Edge} {g:Option (Nat×Bool)} {K:Value→Hl→Prop} {t e:TypeId} {x y:Operand} {inf:TypeInfo} {z:Value} {q:Option Nat} {xs sp:List Value} {nx cap:Nat} {bn m c:Nat} {news spn:List Value} {en:TypeId} {frn:Nat×Nat} (size:Nat)
  (ho:ops[i]?=some ⟨some d,.call ⟨.builtin .append,#[x,y],#[t,t]⟩,ty,pos,aft,g⟩) (hw:aq ops l g=true) (hx:aM l x=some (br q nx cap)) (hy:aM l y=some (.slice (some ⟨bn,0,none⟩) m c)) (hd:Nat.blt d n=true)
  (hu:P.underlying t=some (.slice e)) (hi:P.info? e=some inf) (hz:inf.zero=some z) (hsz:inf.size=size) (hz1:z.cells.size=size)
  (hq:q=none→nx=0∧cap=0) (j:Nat) (hj:h[j]?=some (q,.cells (xs++sp).toArray e (0,0))) (jn:Nat) (hjn:h[jn]?=some (some bn,.cells (news++spn).toArray en frn))
  (hnx:xs.length=nx*size) (aj:(xs++sp).length=cap*size) (hl:news.length=m*size) (hm0:0<m) (h1:∀u∈news,u.oneCell'=true) (hmx:nx+m≤maxLen) (hbytes:(nx+m)*inf.bytes≤140737488355328)
  (hk:∀b' sp' cap',(xs++news++sp').length=cap'*size→K (br (some b') (nx+m) cap') (h.set j (some b',.cells (xs++news++sp').toArray e (0,0)))):cR P w0 S n h ops i l d K:=
 ⟨_,ho,rfl,rfl,rfl,hd,.inl ⟨hw,fun t' w Ds Y' hF hS=>.inl (by
  have hbn:=hS.get hjn;have hnews:∀j u,news[j]?=some u→w.cell? ((⟨bn,0,none⟩:Addr).add j)=some u:=by
   intro j u hv;have hjl:=(List.getElem?_eq_some_iff.1 hv).1;have e1:(⟨bn,0,none⟩:Addr).add j=⟨bn,j,none⟩:=by unfold Addr.add;split;(rename_i h0;rw [h0]);simp
   rw [e1];rw [List.getElem?_eq_getElem hjl] at hv;cases hv;simp [World.cell?,hbn,List.getElem?_append,hjl]
  obtain ⟨b',sp',cap',w',hrun,hlen,hS'⟩:=qI hu hi hz hsz hz1 hS hnx aj hq hj (c:=c) hl hm0 hnews h1 hmx hbytes ty;refine ⟨_,w',_,?_,hS',hk b' sp' cap' hlen⟩;have e1:(#[x,y]:Array Operand).map (Act.eval ⟨t',Ds.map mark⟩)=#[br q nx cap,.slice (some ⟨bn,0,none⟩) m c]:=by simp [hF.aM hx,hF.aM hy]
  simp only [execOp,resolve,e1,Sem.run_bind,Sem.run_pure,Result.andThen_ok,invoke,builtin,hrun])⟩⟩
end
def cm (h:Hl):List Nat:=h.filterMap (·.1)
theorem gu {h:Hl} {b:Nat}:b∈cm h↔∃o,(some b,o)∈h:=by
 simp only [cm,List.mem_filterMap];constructor;rintro ⟨⟨q,o⟩,h1,h2⟩;dsimp only at h2;subst h2;exact ⟨o,h1⟩;rintro ⟨o,h1⟩;exact ⟨_,h1,rfl⟩
structure fZ (w:World) (h:Hl):Prop where
  own:∀p∈h,∀b,p.1=some b→w.heap[b]?=some p.2∧pO p.2=false
  apart:h.Pairwise nR
theorem St.has {w0 w:World} {S:List Nat} {h:Hl} {Y:List (Nat×Obj)} (s:St w0 S w h Y):fZ w h:=⟨fun p hp b hb=>⟨(s.own p hp b hb).1,(s.own p hp b hb).2.1⟩,s.apart⟩
theorem fZ.st {w:World} {h:Hl} (g:fZ w h):St w (cm h) w h []:=
 ⟨Ex.refl _ _,fun p hp b hb=>⟨(g.own p hp b hb).1,(g.own p hp b hb).2,.inr (gu.2 ⟨p.2,by rw [←hb];exact hp⟩)⟩,g.apart,(fun p hp=>by cases hp),List.nodup_nil⟩
theorem fZ.sub {w:World} {h h':Hl} (g:fZ w h) (hs:h'.Sublist h):fZ w h':=⟨fun p hp=>g.own p (hs.subset hp),g.apart.sublist hs⟩
theorem St.frame {w0 w w':World} {S:List Nat} {h h' hF:Hl} {Y:List (Nat×Obj)} (s:St w0 S w (h++hF) Y) (g:St w (cm h) w' h' []):St w0 S w' (h'++hF) Y:=by
 have hown:∀b∈cm h,w0.heap.size≤b∨b∈S:=fun b hb=>by
  obtain ⟨o,ho⟩:=gu.1 hb;exact (s.own _ (List.mem_append_left _ ho) b rfl).2.2
 have hap:=List.pairwise_append.1 s.apart;have hkeep:∀b o,w.heap[b]?=some o→b∉cm h→w'.heap[b]?=some o:=fun b o ho hb=>by
  rw [g.ext.block b (Array.getElem?_eq_some_iff.1 ho).1 hb];exact ho
 have hsz:=g.ext.size;have hsz0:=s.ext.size;refine ⟨s.ext.trans g.ext (fun x hx=>(hown x hx).symm),fun p hp b hb=>?_,List.pairwise_append.2 ⟨g.apart,hap.2.1,fun p hp q hq b hb hqb=>?_⟩,fun p hp=>?_,s.yY⟩;rcases List.mem_append.1 hp with hp|hp;obtain ⟨h1,h2,h3⟩:=g.own p hp b hb;refine ⟨h1,h2,?_⟩;rcases h3 with h3|h3;exact .inl (by omega);exact hown b h3;obtain ⟨h1,h2,h3⟩:=s.own p (List.mem_append_right _ hp) b hb;refine ⟨hkeep b _ h1 (fun hm=>?_),h2,h3⟩;obtain ⟨o,ho⟩:=gu.1 hm;exact hap.2.2 _ ho p hp b rfl hb;obtain ⟨h1,h2,h3⟩:=g.own p hp b hb;obtain ⟨k1,k2,k3⟩:=s.own q (List.mem_append_right _ hq) b hqb;rcases h3 with h3|h3;have:=(Array.getElem?_eq_some_iff.1 k1).1;omega;obtain ⟨o,ho⟩:=gu.1 h3;exact hap.2.2 _ ho q hq b rfl hqb;obtain ⟨h1,h2,h3⟩:=s.sys p hp;refine ⟨h1,hkeep p.1 _ h2 (fun hm=>?_),h3⟩;obtain ⟨o,ho⟩:=gu.1 hm;obtain ⟨k1,k2,_⟩:=s.own _ (List.mem_append_left _ ho) p.1 rfl;rw [h2] at k1;cases k1;dsimp only at k2;rw [h3] at k2;cases k2
def kC (P:Program) (gf:FuncId) (args:List Value) (w:World) (h:Hl) (Rc:Value→Hl→Prop):Prop:=
 Calls P gf args.toArray w fun e w'=>∃v h',e=.returned v∧Rc v h'∧St w (cm h) w' h' []
section
variable {P:Program} {r:Option Nat} {f:FuncId} {R:Value→World→Prop} {w0:World} {S:List Nat} {Y:List (Nat×Obj)} {n:Nat} {k:List Item} {l:Fl} {h:Hl} {ops:Array Oper} {i d:Nat} {rest:List Nat} {ty:TypeId} {pos:String} {aft:Array Edge} {g:Option (Nat×Bool)}
theorem kC.of {gf:FuncId} {fn:Func} {c:Code} {args:List Value} {w:World} {Rc:Value→Hl→Prop} (hh:fZ w h) (hf:P.funcs[gf]?=some fn) (hb:fn.body=some c) (hn:Nat.ble args.length fn.ntmps=true)
  (hgo:ab P none gf (fun v w'=>∃h',Rc v h'∧St w (cm h) w' h' []) w (cm h) [] fn.ntmps [.code c] (vr 0 args) h):kC P gf args w h Rc:=by
 unfold kC;refine Calls.mono (v9 hf hb hn h hh.st hgo) ?_;rintro e w' ⟨v,rfl,h',h1,h2⟩;exact ⟨v,h',rfl,h1,h2⟩
theorem kC.mono {gf:FuncId} {args:List Value} {w:World} {Rc Rc':Value→Hl→Prop} (hc:kC P gf args w h Rc) (hr:∀v h',Rc v h'→Rc' v h'):kC P gf args w h Rc':=
 Calls.mono hc (fun _ _ ⟨v,h',e,h1,h2⟩=>⟨v,h',e,hr v h' h1,h2⟩)
theorem ab.eF {hF:Hl} {az:Array Operand} {ts:Array TypeId} {cal:Operand} {gf:FuncId} {fs cs vs:List Value} (Rc:World→Value→Hl→Prop) (ho:ops[i]?=some ⟨some d,.call ⟨.value cal,az,ts⟩,ty,pos,aft,g⟩) (hw:aq ops l g=true)
  (hc:aM l cal=some (.func (.func gf) fs.toArray cs.toArray)) (hx:cP l az.toList=some vs) (hd:Nat.blt d n=true) (hcf:∀args w,(callFunc gf args).run P w=.ok (.enter gf args) w)
  (hcall:∀w Y',St w0 S w (h++hF) Y'→kC P gf (fs++vs++cs) w h (Rc w))
  (hk:∀w v h',Rc w v h'→ab P r f R w0 S Y n (.inRegion ops rest::k) ((d,v)::l) (h'++hF)):ab P r f R w0 S Y n (.inRegion ops (i::rest)::k) l (h++hF):=
 .yM ho hw hc hx hd hcf (fun w Y' hS=>⟨fun v w'=>∃h',Rc w v h'∧St w (cm h) w' h' [],by
  have:=hcall w Y' hS;unfold kC at this;simp only [List.append_toArray];exact Calls.mono this (fun e w' ⟨v,h',e1,e2,e3⟩=>⟨v,e1,h',e2,e3⟩),fun v w' ⟨h',h1,h2⟩=>⟨h'++hF,hS.frame h2,hk w v h' h1⟩⟩)
theorem cR.eF {hF:Hl} {az:Array Operand} {ts:Array TypeId} {cal:Operand} {gf:FuncId} {fs cs vs:List Value} {K:Value→Hl→Prop} (ho:ops[i]?=some ⟨some d,.call ⟨.value cal,az,ts⟩,ty,pos,aft,g⟩) (hw:aq ops l g=true)
  (hc:aM l cal=some (.func (.func gf) fs.toArray cs.toArray)) (hx:cP l az.toList=some vs) (hd:Nat.blt d n=true) (hcf:∀args w,(callFunc gf args).run P w=.ok (.enter gf args) w)
  (hcall:∀w Y',St w0 S w (h++hF) Y'→kC P gf (fs++vs++cs) w h (fun v h'=>K v (h'++hF))):cR P w0 S n (h++hF) ops i l d K:=by
 refine ⟨_,ho,rfl,rfl,rfl,hd,.inl ⟨hw,fun t w Ds Y' hF' hS=>.inr ⟨gf,(fs++vs++cs).toArray,fun v w'=>∃h',K v (h'++hF)∧St w (cm h) w' h' [],?_,?_,fun v w' ⟨h',h1,h2⟩=>⟨h'++hF,hS.frame h2,h1⟩⟩⟩⟩;have e1:=gI (P:=P) (ty:=ty) (ts:=ts) (Ds:=Ds) (w:=w) hF' hc hx;simp only [execOp,Sem.run_bind,e1,Result.andThen_ok,invoke,hcf];simp;exact Calls.mono (hcall w Y' hS) (fun e w' ⟨v,h',e1,e2,e3⟩=>⟨v,e1,h',e2,e3⟩)
end
section
variable {κ ν:Type}
def oJ (ek:κ→Value) (ev:ν→Value):List (κ×ν)→Nat→List MapEntry
 |[],_=>[]
 |p::L,i=>⟨ek p.1,ev p.2,i⟩::oJ ek ev L (i+1)
abbrev mg (ek:κ→Value) (ev:ν→Value) (L:List (κ×ν)):Obj:=.map (oJ ek ev L 0).toArray L.length
def bL (q:κ→κ→Bool):List (κ×ν)→κ→Option ν
 |[],_=>none
 |p::L,k=>if q k p.1=true then some p.2 else bL q L k
variable {ek:κ→Value} {ev:ν→Value} {q:κ→κ→Bool}
theorem pQ:∀{L:List (κ×ν)} {k:κ} {v:ν} {i:Nat},oJ ek ev (L++[(k,v)]) i=oJ ek ev L i++[⟨ek k,ev v,i+L.length⟩]
 |[],k,v,i=>rfl
 |p::L,k,v,i=>by rw [List.cons_append,oJ,pQ,oJ,List.cons_append,List.length_cons,Nat.add_assoc,Nat.add_comm 1]
def found (q:κ→κ→Bool) (ev:ν→Value):List (κ×ν)→κ→Nat→Option (Nat×Value)
 |[],_,_=>none
 |p::L,k,i=>if q k p.1=true then some (i,ev p.2) else found q ev L k (i+1)
theorem rG:∀{L:List (κ×ν)} {k:κ} {i:Nat},(found q ev L k i).map (·.2)=(bL q L k).map ev
 |[],_,_=>rfl
 |p::L,k,i=>by
  rw [found,bL];split;rfl;exact rG
theorem rP {kd:TypeDesc} (hs:∀a b:κ,Instr.sameNow kd (ek a) (ek b)=some (q a b)):∀{L:List (κ×ν)} {k:κ} {i j:Nat},Instr.findNow kd (ek k) (oJ ek ev L j) i=some (found q ev L k i)
 |[],_,_,_=>rfl
 |p::L,k,i,j=>by
  rw [oJ,Instr.findNow,hs,found];cases q k p.1 with
  |true=>rfl
  |false=>exact rP hs
theorem rQ {P:Program} {kt:TypeId} {w:World} (hs:∀a b:κ,(Op.equal kt (ek a) (ek b)).run P w=.ok (q a b) w):∀{L:List (κ×ν)} {k:κ} {i j:Nat},(Instr.findAsking kt (ek k) (oJ ek ev L j) i).run P w=.ok (found q ev L k i) w
 |[],_,_,_=>rfl
 |p::L,k,i,j=>by
  rw [oJ,Instr.findAsking,found];simp only [Sem.run_bind,hs,Result.andThen_ok];cases q k p.1 with
  |true=>rfl
  |false=>exact rQ hs
structure kl (P:Program) (kt:TypeId) (ek:κ→Value) (q:κ→κ→Bool):Prop where
  jk:∀(e:Bool) (a:κ) (w:World),(Instr.checkKey e 10000 kt (ek a)).run P w=.ok () w
  find:∀{ν:Type} (ev:ν→Value) (L:List (κ×ν)) (k:κ) (w:World),(Instr.findKey kt (ek k) (oJ ek ev L 0)).run P w=.ok (found q ev L k 0) w
theorem kl.now {P:Program} {kt:TypeId} {kd:TypeDesc} (hu:P.underlying kt=some kd) (hc:∀(e:Bool) (a:κ) (w:World),(Instr.checkKey e 10000 kt (ek a)).run P w=.ok () w) (hs:∀a b:κ,Instr.sameNow kd (ek a) (ek b)=some (q a b)):kl P kt ek q:=
 ⟨hc,fun ev L k w=>by
  simp only [Instr.findKey,Sem.run_bind,run_underlying hu,Result.andThen_ok,rP hs];rfl⟩
theorem kl.int {P:Program} {kt:TypeId} {kd:IntKind} (hu:P.underlying kt=some (.int kd)):kl P kt (Value.int kd) (fun a b=>a==b):=
 .now hu (fun e a w=>Go.MapKept.run_checkKey hu (by simp [Go.MapKept.IsKey]) e 9999) (fun a b=>by simp [Instr.sameNow])
theorem KD {P:Program} {t et:TypeId} {n s:Nat} {z:Value} {ps:List (Nat×Value)} {c:List Value} (hu:P.underlying t=some (.array n et)) (hs:∀w,(sizeOf et).run P w=.ok s w) (hz:∀w,(zeroValue t).run P w=.ok z w)
  (hf:oG (fun i=>some (i*s,s)) z.cells.toList ps=some c):J0 P t ps (.agg c.toArray):=by
 intro w;have h1:=fill_eq hf;rw [Array.toArray_toList] at h1;simp only [Instr.build,Sem.run_bind,hz,Result.andThen_ok,run_underlying hu,hs];rw [h1];rfl
theorem kO {P:Program} {et:TypeId} (ha:∀w,(isAgg et).run P w=.ok false w) {cs:Array Value} {j:Nat} {v:Value} (hv:cs[j]?=some v) (w:World):(part et cs j).run P w=.ok v w:=by
 simp only [part,Sem.run_bind,ha,Result.andThen_ok,hv];rfl
theorem BP {P:Program} {t:TypeId} {kd:IntKind} (dd:Nat) {p q:Int} (hu:P.underlying t=some (.int kd)) (w:World):(Op.equalIn (dd+1) t (.int kd p) (.int kd q)).run P w=.ok (p==q) w:=by
 simp only [Op.equalIn,Sem.run_bind,run_underlying hu,Result.andThen_ok];simp
end
section
variable {P:Program} {r:Option Nat} {f:FuncId} {R:Value→World→Prop} {w0:World} {S:List Nat} {Y:List (Nat×Obj)} {n:Nat} {k:List Item} {l:Fl} {h:Hl}
variable {ops:Array Oper} {i d:Nat} {rest:List Nat} {ty:TypeId} {pos:String} {aft:Array Edge} {g:Option (Nat×Bool)}
variable {κ ν:Type} {ek:κ→Value} {ev:ν→Value} {q:κ→κ→Bool}
theorem ab.mkMap (ek:κ→Value) (ev:ν→Value) {t:TypeId} (ho:ops[i]?=some ⟨some d,.makeMap t none,ty,pos,aft,g⟩) (hw:aq ops l g=true) (hd:Nat.blt d n=true)
  (hk:∀b,ab P r f R w0 S Y n (.inRegion ops rest::k) ((d,.map (some b))::l) ((some b,mg ek ev [])::h)):ab P r f R w0 S Y n (.inRegion ops (i::rest)::k) l h:=
 .mem ho hw rfl rfl hd (fun t' w Ds _ hF hS=>⟨.map (some w.heap.size),w.alloc (.map #[] 0),_,by
  simp [execOp,Instr.makeMap],hS.alloc rfl,hk _⟩)
theorem af.DS {t kt el:TypeId} (hK:kl P kt ek q) {z:Value} {x ix:Operand} {b:Nat} {a:κ} {L:List (κ×ν)} (ho:ops[i]?=some ⟨some d,.lookup t x ix true,ty,pos,aft,g⟩) (hw:aq ops l g=true)
  (hx:aM l x=some (.map (some b))) (hy:aM l ix=some (ek a)) (hd:Nat.blt d n=true) (hu:P.underlying t=some (.map kt el)) (hz:∀w,(zeroValue el).run P w=.ok z w) (j:Nat) (hj:h[j]?=some (some b,mg ek ev L)):
  af P w0 S n h ops i l d (.tuple #[((bL q L a).map ev).getD z,.bool (bL q L a).isSome]):=
 .of ho hw rfl rfl hd (fun t' w Ds _ hF hS=>⟨.value (.tuple #[((bL q L a).map ev).getD z,.bool (bL q L a).isSome]),by
  have hg:(getObj b).run P w=.ok (mg ek ev L) w:=by simp [getObj,Sem.run,hS.get hj]
  have hf:=hK.find ev L a w;have e1:(found q ev L a 0).map (·.2)=(bL q L a).map ev:=rG;simp only [execOp,hF.aM hx,hF.aM hy,Sem.run_bind,Instr.lookup,run_underlying hu,Result.andThen_ok,hg,hK.jk,Sem.run_pure,hf];cases hfo:found q ev L a 0 with
  |none=>
   rw [hfo] at e1;cases ha:bL q L a with
   |none=>simp [hz]
   |some v=>rw [ha] at e1;cases e1
  |some y=>
   rw [hfo] at e1;cases ha:bL q L a with
   |none=>rw [ha] at e1;cases e1
   |some v=>rw [ha] at e1;simp at e1⊢;exact e1,rfl⟩)
theorem rF:∀{L:List (κ×ν)} {a:κ} {i:Nat},bL q L a=none→found q ev L a i=none
 |[],_,_,_=>rfl
 |p::L,a,i,h=>by
  rw [bL] at h;rw [found];split at h;cases h;rename_i hq;rw [if_neg hq];exact rF h
theorem wR {t kt el:TypeId} (hK:kl P kt ek q) {b:Nat} {a:κ} {v:ν} {L:List (κ×ν)} {w:World} (hu:P.underlying t=some (.map kt el)) (hb:w.heap[b]?=some (mg ek ev L)) (ha:bL q L a=none):
  (Instr.mapUpdate t (.map (some b)) (ek a) (ev v)).run P w=.ok () {w with heap:=w.heap.setIfInBounds b (mg ek ev (L++[(a,v)]))}:=by
 have hg:(getObj b).run P w=.ok (mg ek ev L) w:=by simp [getObj,Sem.run,hb]
 have hf:=hK.find ev L a w;rw [rF ha] at hf;simp only [Instr.mapUpdate,Sem.run_bind,run_underlying hu,Result.andThen_ok,hg,hK.jk,hf];have e1:((oJ ek ev L 0).toArray.push ⟨ek a,ev v,L.length⟩)=(oJ ek ev (L++[(a,v)]) 0).toArray:=by rw [pQ];simp
 rw [e1];simp [setObj,Sem.run,hb,mg]
theorem ab.ry {t kt el:TypeId} (hK:kl P kt ek q) {m x y:Operand} {b:Nat} {a:κ} {v:ν} {L:List (κ×ν)} {o:Oper} (ho:ops[i]?=some o) (hop:o.op=.mapUpdate t m x y∨o.op=.insert t m x y) (hdst:o.dst=none) (hw:aq ops l o.guard=true)
  (hm:aM l m=some (.map (some b))) (hx:aM l x=some (ek a)) (hy:aM l y=some (ev v)) (hu:P.underlying t=some (.map kt el)) (j:Nat) (hj:h[j]?=some (some b,mg ek ev L)) (ha:bL q L a=none)
  (hk:ab P r f R w0 S Y n (.inRegion ops rest::k) l (h.set j (some b,mg ek ev (L++[(a,v)])))):ab P r f R w0 S Y n (.inRegion ops (i::rest)::k) l h:=
 .Kv ho hw hdst (by rcases hop with e|e<;>rw [e]<;>rfl) (fun t' w Ds _ hF hS=>by
  have hb:=hS.get hj;refine ⟨{w with heap:=w.heap.setIfInBounds b (mg ek ev (L++[(a,v)]))},_,?_,hS.pZ hj (o':=mg ek ev (L++[(a,v)])) rfl rfl rfl rfl (by simp) ?_ ?_,hk⟩;have hrun:=wR hK (v:=v) hu hb ha;unfold execOp;rcases hop with e|e<;>rw [e]<;>simp only [hF.aM hm,hF.aM hx,hF.aM hy,Sem.run_bind,hrun]<;>rfl
  have hlt:=hS.lt hj;simp [hlt];intro q _ hq;simp [Ne.symm hq])
end
def NV.v (n:NV):Value:=.agg #[aQ n.op,aQ n.i,aQ n.e,aQ n.g,aQ n.x,aQ n.y]
structure FA (w:World) (a:Option Addr) (f:List NV):Prop where
  at_:Sl w a (f.flatMap NV.cells)
theorem FA.au {w0 w:World} {a:Option Addr} {f:List NV} (h:FA w0 a f) {S:List Nat} (e:Ex S w0 w) (hS:∀b o,a=some ⟨b,o,none⟩→b∉S:=by simp):FA w a f:=⟨Sl.ex h.at_ e hS⟩
abbrev cN (e:TypeId) (ns:List NV) (sp:List Value):Obj:=.cells (ns.flatMap NV.cells++sp).toArray e (0,0)
theorem jr {ns:List NV}:(ns.flatMap NV.cells).length=ns.length*6:=al (enc:=NV.cells) (sz:=6) (fun _=>rfl)
theorem aI {w0 w:World} {S:List Nat} {h:Hl} {Y:List (Nat×Obj)} (s:St w0 S w h Y) (j:Nat) {q:Option Nat} {ns:List NV} {e:TypeId} {sp:List Value} (hj:h[j]?=some (q,cN e ns sp)) (hq:q=none→ns.length=0):FA w (q.map (fun b=>⟨b,0,none⟩)) ns:=by
 cases q with
 |none=>rw [List.eq_nil_of_length_eq_zero (hq rfl)];exact ⟨Sl.nil _ _⟩
 |some b=>exact ⟨Sl.db (s.get hj)⟩
def av (e:TypeId) (w w':World) (v:Value) (ns:List NV):Prop:=
 ∃q cap sp,v=br q ns.length cap∧(q=none→ns.length=0∧cap=0)∧(ns.flatMap NV.cells++sp).length=cap*6∧∀b,q=some b→w.heap.size≤b∧w'.heap[b]?=some (cN e ns sp)
theorem ai {t:TypeId} {w0 w w':World} {S:List Nat} {h:Hl} {Y:List (Nat×Obj)} (s:St w0 S w h Y) (e:Ex [] w w') {v:Value} {ns:List NV} (ho:av t w w' v ns):
  ∃q cap sp,v=br q ns.length cap∧(q=none→ns.length=0∧cap=0)∧(ns.flatMap NV.cells++sp).length=cap*6∧St w0 S w' ((q,cN t ns sp)::h) Y:=by
 obtain ⟨q,cap,sp,h1,h2,h3,h4⟩:=ho;refine ⟨q,cap,sp,h1,h2,h3,?_⟩;cases q with
 |none=>exact (s.later e).none _
 |some b=>exact s.Br e (h4 b rfl).2 rfl (h4 b rfl).1
theorem av.mk {t:TypeId} {w0 w:World} {h:Hl} {Y:List (Nat×Obj)} (s:St w0 [] w h Y) (j:Nat) {q:Option Nat} {ns:List NV} {sp:List Value} {cap m:Nat} (hj:h[j]?=some (q,cN t ns sp)) (hm:m=ns.length)
  (hq:q=none→ns.length=0∧cap=0) (aj:(ns.flatMap NV.cells++sp).length=cap*6):av t w0 w (br q m cap) ns:=by
 subst hm;refine ⟨q,cap,sp,rfl,hq,aj,fun b hb=>?_⟩;subst hb;exact ⟨s.fresh hj,s.get hj⟩
theorem av.jX {t:TypeId} {w w':World}:av t w w' (.slice none 0 0) []:=⟨none,0,[],rfl,fun _=>⟨rfl,rfl⟩,rfl,fun _ e=>by cases e⟩
section
variable {P:Program} {r:Option Nat} {f:FuncId} {R:Value→World→Prop} {w0:World} {S:List Nat} {Y:List (Nat×Obj)} {n:Nat} {k:List Item} {l:Fl} {h:Hl}
variable {ops:Array Oper} {i d:Nat} {rest:List Nat} {ty:TypeId} {pos:String} {aft:Array Edge} {g:Option (Nat×Bool)}
theorem af.lP {x:Operand} {a:Addr} (ho:ops[i]?=some ⟨some d,.nilCheck x,ty,pos,aft,g⟩) (hw:aq ops l g=true) (hx:aM l x=some (.pointer (some a))) (hd:Nat.blt d n=true):af P w0 S n h ops i l d (.pointer (some a)):=
 .of ho hw rfl rfl hd (fun t' w Ds _ hF hS=>⟨.value (.pointer (some a)),by simp only [execOp,hF.aM hx];rfl,rfl⟩)
end
def pk (fs:Array Field) (it:TypeId):Prop:=∃f0 f1 f2 f3 f4 f5:Field,fs=#[f0,f1,f2,f3,f4,f5]∧
 (f0.name ≠ "_" ∧ f0.type = it ∧ f0.offset = 0) ∧ (f1.name ≠ "_" ∧ f1.type = it ∧ f1.offset = 1) ∧ (f2.name ≠ "_" ∧ f2.type = it ∧ f2.offset = 2) ∧
 (f3.name ≠ "_" ∧ f3.type = it ∧ f3.offset = 3) ∧ (f4.name ≠ "_" ∧ f4.type = it ∧ f4.offset = 4) ∧ (f5.name ≠ "_" ∧ f5.type = it ∧ f5.offset = 5)
theorem pB {P:Program} {t it:TypeId} {fs:Array Field} (hu:P.underlying t=some (.struct fs)) (hfs:pk fs it) (hi:P.underlying it=some (.int .i64)) (ha:∀w,(isAgg it).run P w=.ok false w) (mT:P.stoodInHeld t=false) (m:Nat) (a b:NV) (w:World):
  (Op.equalIn (m+2) t a.v b.v).run P w=.ok (a==b) w:=by
 obtain ⟨f0,f1,f2,f3,f4,f5,rfl,⟨n0,t0,o0⟩,⟨n1,t1,o1⟩,⟨n2,t2,o2⟩,⟨n3,t3,o3⟩,⟨n4,t4,o4⟩,⟨n5,t5,o5⟩⟩:=hfs;have hp:∀(c:NV) (w:World),(part it c.v.cells 0).run P w=.ok (aQ c.op) w∧(part it c.v.cells 1).run P w=.ok (aQ c.i) w∧(part it c.v.cells 2).run P w=.ok (aQ c.e) w∧(part it c.v.cells 3).run P w=.ok (aQ c.g) w∧(part it c.v.cells 4).run P w=.ok (aQ c.x) w∧(part it c.v.cells 5).run P w=.ok (aQ c.y) w:=fun c w=>
  ⟨kO ha rfl w,kO ha rfl w,kO ha rfl w,kO ha rfl w,kO ha rfl w,kO ha rfl w⟩;obtain ⟨a0,a1,a2,a3,a4,a5⟩:=hp a w;obtain ⟨b0,b1,b2,b3,b4,b5⟩:=hp b w;have hq:∀p q:Int,(Op.equalIn (m+1) it (.int .i64 p) (.int .i64 q)).run P w=.ok (p==q) w:=fun p q=>BP m hi w;have hv:∀c:NV,c.v=.agg c.v.cells:=fun c=>rfl;rw [hv a,hv b,show m+2=(m+1)+1 from rfl,Op.equalIn];have hprog:(program:Sem Program).run P w=.ok P w:=rfl;simp only [Sem.run_bind,run_underlying hu,Result.andThen_ok,hprog,mT,←Array.forIn_toList];have hab:(a==b)=(a.op==b.op && (a.i==b.i && (a.e==b.e && (a.g==b.g && (a.x==b.x && a.y==b.y))))):=by
  rw [Bool.eq_iff_iff];simp only [beq_iff_eq,Bool.and_eq_true];obtain ⟨_,_,_,_,_,_⟩:=a;obtain ⟨_,_,_,_,_,_⟩:=b;simp [NV.mk.injEq]
 rw [hab];cases h0:a.op==b.op;simp [n0,t0,o0,a0,b0,hq,h0];cases h1:a.i==b.i;simp [n0,t0,o0,a0,b0,hq,h0,n1,t1,o1,a1,b1,h1];cases h2:a.e==b.e;simp [n0,t0,o0,a0,b0,hq,h0,n1,t1,o1,a1,b1,h1,n2,t2,o2,a2,b2,h2];cases h3:a.g==b.g;simp [n0,t0,o0,a0,b0,hq,h0,n1,t1,o1,a1,b1,h1,n2,t2,o2,a2,b2,h2,n3,t3,o3,a3,b3,h3];cases h4:a.x==b.x;simp [n0,t0,o0,a0,b0,hq,h0,n1,t1,o1,a1,b1,h1,n2,t2,o2,a2,b2,h2,n3,t3,o3,a3,b3,h3,n4,t4,o4,a4,b4,h4];cases h5:a.y==b.y;simp [n0,t0,o0,a0,b0,hq,h0,n1,t1,o1,a1,b1,h1,n2,t2,o2,a2,b2,h2,n3,t3,o3,a3,b3,h3,n4,t4,o4,a4,b4,h4,n5,t5,o5,a5,b5,h5];simp [n0,t0,o0,a0,b0,hq,h0,n1,t1,o1,a1,b1,h1,n2,t2,o2,a2,b2,h2,n3,t3,o3,a3,b3,h3,n4,t4,o4,a4,b4,h4,n5,t5,o5,a5,b5,h5]
theorem B1 {P:Program} {t it:TypeId} {fs:Array Field} (hu:P.underlying t=some (.struct fs)) (hfs:pk fs it) (hi:P.underlying it=some (.int .i64)) (ha:∀w,(isAgg it).run P w=.ok false w) (e:Bool) (m:Nat) (a:NV) (w:World):
  (Instr.checkKey e (m+2) t a.v).run P w=.ok () w:=by
 obtain ⟨f0,f1,f2,f3,f4,f5,rfl,⟨n0,t0,o0⟩,⟨n1,t1,o1⟩,⟨n2,t2,o2⟩,⟨n3,t3,o3⟩,⟨n4,t4,o4⟩,⟨n5,t5,o5⟩⟩:=hfs;have a0:(part it a.v.cells 0).run P w=.ok (aQ a.op) w:=kO ha rfl w;have a1:(part it a.v.cells 1).run P w=.ok (aQ a.i) w:=kO ha rfl w;have a2:(part it a.v.cells 2).run P w=.ok (aQ a.e) w:=kO ha rfl w;have a3:(part it a.v.cells 3).run P w=.ok (aQ a.g) w:=kO ha rfl w;have a4:(part it a.v.cells 4).run P w=.ok (aQ a.x) w:=kO ha rfl w;have a5:(part it a.v.cells 5).run P w=.ok (aQ a.y) w:=kO ha rfl w;have hk:∀p:Int,(Instr.checkKey e (m+1) it (.int .i64 p)).run P w=.ok () w:=fun p=>Go.MapKept.run_checkKey hi (by simp [Go.MapKept.IsKey]) e m;rw [show a.v=.agg a.v.cells from rfl,show m+2=(m+1)+1 from rfl,Instr.checkKey];simp only [Sem.run_bind,run_underlying hu,Result.andThen_ok,←Array.forIn_toList];simp [n0,t0,o0,a0,hk,n1,t1,o1,a1,n2,t2,o2,a2,n3,t3,o3,a3,n4,t4,o4,a4,n5,t5,o5,a5]
theorem kl.node {P:Program} {t it:TypeId} {fs:Array Field} (hu:P.underlying t=some (.struct fs)) (hfs:pk fs it) (hi:P.underlying it=some (.int .i64)) (ha:∀w,(isAgg it).run P w=.ok false w) (mT:P.stoodInHeld t=false):kl P t NV.v (fun a b=>a==b):=by
 refine ⟨fun e a w=>B1 hu hfs hi ha e 9998 a w,fun ev L k w=>?_⟩;have hq:∀a b:NV,(Op.equal t a.v b.v).run P w=.ok (a==b) w:=fun a b=>pB hu hfs hi ha mT 9998 a b w;simp only [Instr.findKey,Sem.run_bind,run_underlying hu,Result.andThen_ok];cases L with
 |nil=>rfl
 |cons p L=>
  have h0:Instr.findNow (.struct fs) k.v (oJ NV.v ev (p::L) 0) 0=none:=rfl;rw [h0];exact rQ (q:=fun a b:NV=>a==b) hq
theorem EG {P:Program} {t it:TypeId} {fs:Array Field} (hu:P.underlying t=some (.struct fs)) (hfs:pk fs it) (hi:P.underlying it=some (.int .i64)) (ha:∀w,(isAgg it).run P w=.ok false w) (mT:P.stoodInHeld t=false) (hg:P.eqGuardType P.depth t=false) {a b:NV}:
  ly P .eql t a.v b.v (.bool (a==b)):=by
 intro x y w;have h1:(Op.equal t a.v b.v).run P w=.ok (a==b) w:=pB hu hfs hi ha mT 9998 a b w;have hprog:(program:Sem Program).run P w=.ok P w:=rfl;have h2:(eqGuard .eql t x y a.v b.v).run P w=.ok () w:=by
  unfold eqGuard;simp only [NV.v];simp [hg]
 have h3:(binOp .eql t a.v b.v).run P w=.ok (.bool (a==b)) w:=by
  show (do pure (Value.bool (←Op.equal t a.v b.v)):Sem Value).run P w=_;simp only [Sem.run_bind,h1,Result.andThen_ok];rfl
 simp only [Sem.run_bind,h2,Result.andThen_ok,h3]
def iJ (ops:Array Oper) (i:Nat):Bool:=match ops[i]? with
 |none=>false
 |some o=>fH o.op && match o.dst with
  |none=>false
  |some d=>(List.range ops.size).all (fun j=>Nat.beq j i||(!(bK ops j==some d) && (match ops[j]? with
   |none=>true
   |some p=>(!(gG ops p).contains d||(cG ops j).contains i||(cG ops i).contains j)) && (match bK ops j with
   |none=>true
   |some e=>(!(gG ops o).contains e||(cG ops i).contains j||(cG ops j).contains i))))
structure yU (ops:Array Oper) (i d:Nat):Prop where
  Ay:∀o,ops[i]?=some o→fH o.op=true
  dst:bK ops i=some d
  one:∀j,j<ops.size→j≠i→bK ops j≠some d
  seen:∀j p,j<ops.size→j≠i→ops[j]?=some p→d∈gG ops p→i∈cG ops j∨j∈cG ops i
  FX:∀j e o,j<ops.size→j≠i→bK ops j=some e→ops[i]?=some o→e∈gG ops o→j∈cG ops i∨i∈cG ops j
theorem re {ops:Array Oper} {i:Nat} (h:iJ ops i=true):∃d,yU ops i d:=by
 unfold iJ at h;split at h;cases h;rename_i o ho;rw [Bool.and_eq_true] at h;obtain ⟨h1,h2⟩:=h;split at h2;cases h2;rename_i d hd;simp only [List.all_eq_true,List.mem_range,Bool.or_eq_true,Nat.beq_eq,Bool.and_eq_true,Bool.not_eq_true'] at h2;refine ⟨d,fun p hp=>by rw [ho] at hp;cases hp;exact h1,by simp [bK,ho,hd],fun j hj hne=>?_,fun j p hj hne hp hm=>?_,fun j e p hj hne he hp hm=>?_⟩;rcases h2 j hj with h|h;exact absurd h hne;simpa using h.1.1;rcases h2 j hj with h|h;exact absurd h hne;have:=h.1.2;rw [hp] at this;simp only [Bool.or_eq_true,Bool.not_eq_true'] at this;rcases this with (h3|h3)|h3;rw [List.contains_eq_mem,decide_eq_false_iff_not] at h3;exact absurd hm h3;exact .inl (by simpa using h3);exact .inr (by simpa using h3);rcases h2 j hj with h|h;exact absurd h hne;have:=h.2;rw [he] at this;simp only [Bool.or_eq_true,Bool.not_eq_true'] at this;rw [ho] at hp;cases hp;rcases this with (h3|h3)|h3;rw [List.contains_eq_mem,decide_eq_false_iff_not] at h3;exact absurd hm h3;exact .inl (by simpa using h3);exact .inr (by simpa using h3)
section
variable {P:Program} {r:Option Nat} {f:FuncId} {R:Value→World→Prop} {w0:World} {S:List Nat} {Y:List (Nat×Obj)} {n:Nat} {k:List Item} {l:Fl} {h:Hl} {ops:Array Oper}
def eH (P:Program) (w0:World) (S:List Nat) (n:Nat) (ops:Array Oper) (i:Nat) (t:Array Value) (h:Hl) (K:Array Value→Hl→Prop):Prop:=
 ∃o d,ops[i]?=some o∧o.dst=some d∧fO o.op=false∧fH o.op=true∧d<n∧
  ((Region.wanted o (yielded ops t)=true∧∀(w:World) (Ds:List Nat) (Y':List (Nat×Obj)),St w0 S w h Y'→
   (∃v w' h',(execOp (Act.eval ⟨t,Ds.map mark⟩) o).run P w=.ok (.value v) w'∧St w0 S w' h' Y'∧K (t.setIfInBounds d v) h')∨
   (∃gf args,∃Rc:Value→World→Prop,(execOp (Act.eval ⟨t,Ds.map mark⟩) o).run P w=.ok (.enter gf args) w∧(Calls P gf args w fun e w'=>∃v,e=.returned v∧Rc v w')∧∀v w',Rc v w'→∃h',St w0 S w' h' Y'∧K (t.setIfInBounds d v) h'))∨
  (Region.wanted o (yielded ops t)=false∧K (t.setIfInBounds d undef) h))
theorem eH.of {i d:Nat} {K:Value→Hl→Prop} {K':Array Value→Hl→Prop} {t:Array Value} (hm:cR P w0 S n h ops i l d K) (hF:iW n t l) (hK:∀v h',K v h'→K' (t.setIfInBounds d v) h'):eH P w0 S n ops i t h K':=by
 obtain ⟨o,ho,hdst,hnd,hsel,hd,hr⟩:=hm;refine ⟨o,d,ho,hdst,hnd,hsel,by simpa [Nat.blt_eq] using hd,?_⟩;rcases hr with ⟨hw,hr⟩|⟨hs,hk⟩;refine .inl ⟨eJ hF hw,fun w Ds Y' hS=>?_⟩;rcases hr t w Ds Y' hF hS with ⟨v,w',h',h1,h2,h3⟩|⟨gf,args,Rc,h1,h2,h3⟩;exact .inl ⟨v,w',h',h1,h2,hK v h' h3⟩;refine .inr ⟨gf,args,Rc,h1,h2,fun v w' hR=>?_⟩;obtain ⟨h',h4,h5⟩:=h3 v w' hR;exact ⟨h',h4,hK v h' h5⟩;exact .inr ⟨oe hF hs,hK undef h hk⟩
theorem eH.congr {i:Nat} {t t':Array Value} {K K':Array Value→Hl→Prop} (hm:eH P w0 S n ops i t h K) (hs:t'.size=t.size) (he:∀o,ops[i]?=some o→∀s∈gG ops o,t'.getD s undef=t.getD s undef)
  (hK:∀d v h',bK ops i=some d→K (t.setIfInBounds d v) h'→K' (t'.setIfInBounds d v) h'):eH P w0 S n ops i t' h K':=by
 obtain ⟨o,d,ho,hdst,hnd,hsel,hd,hr⟩:=hm;have hdo:bK ops i=some d:=by simp [bK,ho,hdst]
 have hw:=lA (ops:=ops) (o:=o) hs (he o ho);refine ⟨o,d,ho,hdst,hnd,hsel,hd,?_⟩;rcases hr with ⟨hwant,hr⟩|⟨hskip,hk⟩;refine .inl ⟨hw.trans hwant,fun w Ds Y' hS=>?_⟩;have hexec:execOp (Act.eval ⟨t',Ds.map mark⟩) o=execOp (Act.eval ⟨t,Ds.map mark⟩) o:=execOp_congr (ρ':=Act.eval ⟨t,Ds.map mark⟩) o (fun cs bb e=>by rw [e] at hsel;cases hsel) (fun x hx=>by
  cases x with
  |tmp s=>exact he o ho s (by
    simp only [gG,List.mem_append];exact .inr (List.mem_filterMap.2 ⟨.tmp s,by simpa using hx,rfl⟩))
  |const v=>rfl
  |global g=>rfl
  |func g=>rfl);rw [hexec];rcases hr w Ds Y' hS with ⟨v,w',h',h1,h2,h3⟩|⟨gf,args,Rc,h1,h2,h3⟩;exact .inl ⟨v,w',h',h1,h2,hK d v h' hdo h3⟩;refine .inr ⟨gf,args,Rc,h1,h2,fun v w' hR=>?_⟩;obtain ⟨h',h4,h5⟩:=h3 v w' hR;exact ⟨h',h4,hK d v h' hdo h5⟩;exact .inr ⟨hw.trans hskip,hK d undef h hdo hk⟩
theorem eH.pure {i d:Nat} {v:Value} {t:Array Value} {hb:Hl} {K:Array Value→Hl→Prop} (ho:jB P w0 S n hb ops i t d v) (hsel:∀o,ops[i]?=some o→fH o.op=true) (hs:hb.Sublist h) (hK:K (t.setIfInBounds d v) h):eH P w0 S n ops i t h K:=by
 obtain ⟨o,h1,h2,h3,h4,h5⟩:=ho;refine ⟨o,d,h1,h2,h4,hsel o h1,h3,?_⟩;rcases h5 with ⟨a,b⟩|⟨a,rfl⟩;refine .inl ⟨a,fun w Ds Y' hS=>?_⟩;rcases b w Ds Y' (hS.cn hs) with hb2|⟨gf,args,hb2,hcall⟩;exact .inl ⟨v,w,h,hb2,hS,hK⟩;exact .inr ⟨gf,args,_,hb2,hcall,fun u w' ⟨he,hu⟩=>⟨h,hS.later he,by rw [hu];exact hK⟩⟩;exact .inr ⟨a,hK⟩
def Dt (P:Program) (r:Option Nat) (f:FuncId) (R:Value→World→Prop) (w0:World) (S:List Nat) (Y:List (Nat×Obj)) (n:Nat) (k:List Item) (ops:Array Oper) (hb:Hl):Nat→List Nat→Array Value→Hl→Prop
 |0,_,_,_=>False
 |q+1,D,t,h=>
  (aw ops D=[]∧∀w Ds,St w0 S w h (ou Ds++Y)→dR P r f R (.inRegion ops []::k) t (Ds.map mark) w)∨
  (aw ops D≠[]∧∀i∈aw ops D,eH P w0 S n ops i t h (fun t' h'=>hb.Sublist h'∧Dt P r f R w0 S Y n k ops hb q (i::D) t' h'))
theorem eH.mono {i:Nat} {t:Array Value} {K K':Array Value→Hl→Prop} (hm:eH P w0 S n ops i t h K) (hK:∀t' h',K t' h'→K' t' h'):eH P w0 S n ops i t h K':=hm.congr rfl (fun _ _ _ _=>rfl) (fun _ _ _ _ h=>hK _ _ h)
theorem Dt.perm {hb:Hl}:∀{q:Nat} {D D':List Nat} {t:Array Value} {h:Hl},(∀j,j∈D↔j∈D')→Dt P r f R w0 S Y n k ops hb q D t h→Dt P r f R w0 S Y n k ops hb q D' t h
 |0,_,_,_,_,_,hd=>hd
 |q+1,D,D',t,h,hp,hd=>by
  rw [Dt] at hd⊢;rw [←lD hp];rcases hd with hd|⟨h1,h2⟩;exact .inl hd;exact .inr ⟨h1,fun i hi=>(h2 i hi).mono (fun t' h' ⟨e1,e2⟩=>⟨e1,e2.perm (fun j=>by rw [List.mem_cons,List.mem_cons,hp j])⟩)⟩
theorem set_comm {t:Array Value} {d e:Nat} {u v:Value} (hne:d≠e):(t.setIfInBounds d u).setIfInBounds e v=(t.setIfInBounds e v).setIfInBounds d u:=by
 apply Array.ext_getElem?;intro j;simp only [Array.getElem?_setIfInBounds,Array.size_setIfInBounds];by_cases h1:e=j;by_cases h2:d=j;exact absurd (h2.trans h1.symm) hne;simp [h1,h2];by_cases h2:d=j<;>simp [h1,h2]
theorem Dt.pure {hb:Hl} {i d:Nat} (hf:yU ops i d) (hd:d<n):∀{q:Nat} {D:List Nat} {t:Array Value} {h:Hl} {v:Value},t.size=n→i∈aw ops D→jB P w0 S n hb ops i t d v→hb.Sublist h→Dt P r f R w0 S Y n k ops hb q (i::D) (t.setIfInBounds d v) h→Dt P r f R w0 S Y n k ops hb (q+1) D t h
 |0,_,_,_,_,_,_,_,_,hd=>hd.elim
 |q+1,D,t,h,v,hts,hi,ho,hs,hdt=>by
  have hme:eH P w0 S n ops i t h (fun t' h'=>hb.Sublist h'∧Dt P r f R w0 S Y n k ops hb (q+1) (i::D) t' h'):=eH.pure ho hf.Ay hs ⟨hs,hdt⟩;have hne:aw ops D≠[]:=fun e=>by rw [e] at hi;cases hi
  obtain ⟨hiS,hiD,hid⟩:=cy.1 hi;rw [Dt];refine .inr ⟨hne,fun j hj=>?_⟩;by_cases hji:j=i;rw [hji];exact hme;obtain ⟨hjS,hjD,hjd⟩:=cy.1 hj;have hj2:j∈aw ops (i::D):=cy.2 ⟨hjS,by simp [hji,hjD],fun e he=>List.mem_cons_of_mem _ (hjd e he)⟩;rw [Dt] at hdt;rcases hdt with ⟨h1,_⟩|⟨_,h2⟩;rw [h1] at hj2;cases hj2;have hjo:∀o,ops[j]?=some o→d∉gG ops o:=fun o hoo hm=>(hf.seen j o hjS hji hoo hm).elim (fun h5=>hiD (hjd i h5)) (fun h5=>hjD (hid j h5));refine (h2 j hj2).congr (by simp) (fun o hoo s hse=>?_) (fun e u h' hde hk=>?_);have hds:d≠s:=fun e1=>hjo o hoo (by rw [e1];exact hse);rw [cQ (by rw [hts];exact hd),if_neg hds];obtain ⟨hk1,hk2⟩:=hk;refine ⟨hk1,?_⟩;have hde2:d≠e:=fun e1=>hf.one j hjS hji (by rw [hde,e1]);rw [set_comm hde2] at hk2;have hi2:i∈aw ops (j::D):=cy.2 ⟨hiS,by simp [Ne.symm hji,hiD],fun e he=>List.mem_cons_of_mem _ (hid e he)⟩;refine Dt.pure hf hd (by simpa using hts) hi2 (ho.congr hf.Ay (by simp) (fun o hoo s hse=>?_)) hk1 (hk2.perm (fun x=>by simp only [List.mem_cons];exact or_left_comm));have hes:e≠s:=fun e1=>by
   subst e1;rcases hf.FX j e o hjS hji hde hoo hse with h5|h5;exact hjD (hid j h5);exact hiD (hjd i h5)
  by_cases hlt:e<t.size;rw [cQ hlt,if_neg hes];rw [show t.setIfInBounds e u=t from Array.setIfInBounds_eq_of_size_le (Nat.le_of_not_lt hlt)]
theorem Dt.go {hb:Hl}:∀(fuel τ:Nat) (arr:Array Bool) (D:List Nat) (q:Nat) (t:Array Value) (h:Hl) (w:World) (Ds:List Nat),arr.size=ops.size→(∀j,arr.getD j false=D.contains j)→Dt P r f R w0 S Y n k ops hb q D t h→St w0 S w h (ou Ds++Y)→(List.range ops.size).countP (fun j=>!D.contains j)≤fuel→
  dR P r f R (.inRegion ops (Region.linearise.go .any ops fuel τ arr [])::k) t (Ds.map mark) w
 |_,_,_,_,0,_,_,_,_,_,_,hd,_,_=>hd.elim
 |fuel,τ,arr,D,q+1,t,h,w,Ds,hs,ha,hd,hS,hfu=>by
  rw [Dt] at hd;rcases hd with ⟨h0,hg⟩|⟨h1,h2⟩;have:Region.linearise.go .any ops fuel τ arr []=[]:=by
   cases fuel with
   |zero=>rfl
   |succ fuel=>
    simp only [Region.linearise.go];change (match (Region.ready .any ops arr)[_%(Region.ready .any ops arr).length]? with
     |some i=>_
     |none=>[].reverse)=[];rw [kK hs ha,h0];rfl
  rw [this];exact hg w Ds hS;cases fuel with
  |zero=>
   exfalso;obtain ⟨x,hx⟩:=List.exists_mem_of_ne_nil _ h1;obtain ⟨e1,e2,_⟩:=cy.1 hx;have:0<(List.range ops.size).countP (fun j=>!D.contains j):=List.countP_pos_iff.2 ⟨x,by simpa using e1,by simpa using e2⟩;omega
  |succ fuel=>
   have hpos:0<(aw ops D).length:=List.length_pos_iff.2 h1;simp only [Region.linearise.go];change dR P r f R (.inRegion ops (match (Region.ready .any ops arr)[τ%(Region.ready .any ops arr).length]? with
    |some i=>Region.linearise.go .any ops fuel (τ / (Region.ready .any ops arr).length) (arr.setIfInBounds i true) [i]
    |none=>[].reverse)::k) t (Ds.map mark) w;rw [kK hs ha];have hlt:τ%(aw ops D).length<(aw ops D).length:=Nat.mod_lt _ hpos;rw [List.getElem?_eq_getElem hlt];obtain ⟨x,hx⟩:∃x,x=(aw ops D)[τ%(aw ops D).length]:=⟨_,rfl⟩;rw [←hx];have hxm:x∈aw ops D:=by rw [hx];exact List.getElem_mem hlt
   obtain ⟨e1,e2,_⟩:=cy.1 hxm;dsimp only;rw [linearise_go_acc,List.reverse_singleton,List.singleton_append];have hnext:∀(t':Array Value) (h':Hl) (w':World),hb.Sublist h'∧Dt P r f R w0 S Y n k ops hb q (x::D) t' h'→St w0 S w' h' (ou Ds++Y)→dR P r f R (.inRegion ops (Region.linearise.go .any ops fuel (τ / (aw ops D).length) (arr.setIfInBounds x true) [])::k) t' (Ds.map mark) w':=fun t' h' w' hK hS'=>by
    refine Dt.go fuel _ _ (x::D) q t' h' w' Ds (by simpa using hs) (fun j=>?_) hK.2 hS' ?_;rw [aJ (by omega),ha j,List.contains_cons];split;rename_i e;subst e;simp;rename_i e;rw [beq_false_of_ne (Ne.symm e)];rfl;have:=mV (l:=List.range ops.size) (p:=fun j=>!(x::D).contains j) (q:=fun j=>!D.contains j) (fun y _ hy=>by simp at hy⊢;exact hy.2) ⟨x,by simpa using e1,by simpa using e2,by simp⟩;omega
   obtain ⟨o,d,ho,hdst,hnd,hsel,hdn,hr⟩:=h2 x hxm;rcases hr with ⟨hw,hr⟩|⟨hw,hk⟩;rcases hr w Ds _ hS with ⟨v,w',h',h3,h4,h5⟩|⟨gf,args,Rc,h3,h4,h5⟩;refine dR.op ho hw (du hnd) h3 (.inl rfl) ?_;rw [hdst];exact hnext _ _ _ h5 h4;refine dR.call ho hw (du hnd) h3 h4 (fun u w2 hu=>?_);obtain ⟨h',h6,h7⟩:=h5 u w2 hu;rw [hdst];exact hnext _ _ _ h7 h6;refine dR.pj ho hw ?_;rw [hdst];exact hnext _ _ _ hk hS
def ax (P:Program) (r:Option Nat) (f:FuncId) (R:Value→World→Prop) (w0:World) (S:List Nat) (Y:List (Nat×Obj)) (n:Nat) (k:List Item) (ops:Array Oper) (hb:Hl) (q:Nat) (D:List Nat) (l:Fl) (h:Hl):Prop:=
 ∀t,iW n t l→Dt P r f R w0 S Y n k ops hb q D t h
variable {hb:Hl} {q:Nat} {D:List Nat}
theorem ab.jO {id:Nat} (q:Nat) (hb:Hl) (hmix:P.follows .mixedOrders=true) (hg:ax P r f R w0 S Y n k ops hb q [] l h):ab P r f R w0 S Y n (.code (.region id ops true)::k) l h:=by
 intro t w Ds hF hS;refine .jJ (fun τ=>?_);simp only [Region.schedule,hmix,Bool.true_or,if_true,Region.linearise];refine Dt.go ops.size τ _ [] q t h _ Ds (by simp) (fun j=>?_) (hg t hF) hS.drew ?_;simp [Array.getD_eq_getD_getElem?,Array.getElem?_replicate];split<;>simp
 exact Nat.le_trans List.countP_le_length (by simp)
theorem ab.dU {id:Nat} (q:Nat) (hmix:P.follows .mixedOrders=true) (hg:ax P r f R w0 S Y n k ops h q [] l h):ab P r f R w0 S Y n (.code (.region id ops true)::k) l h:=ab.jO q h hmix hg
theorem ab.gl {id:Nat} {p:Option Nat×Obj} (q:Nat) (hmix:P.follows .mixedOrders=true) (hg:ax P r f R w0 S Y n k ops [p] q [] l (p::h)):ab P r f R w0 S Y n (.code (.region id ops true)::k) l (p::h):=ab.jO q [p] hmix hg
theorem ax.done (h0:aw ops D=[]) (hg:ab P r f R w0 S Y n (.inRegion ops []::k) l h):ax P r f R w0 S Y n k ops hb (q+1) D l h:=fun t hF=>.inl ⟨h0,fun w Ds hS=>hg t w Ds hF hS⟩
theorem ax.AO {i d:Nat} {v:Value} (hi:(aw ops D).contains i=true) (hp:iJ ops i=true) (ho:∀t,iW n t l→jB P w0 S n hb ops i t d v) (hs:hb.Sublist h) (hg:ax P r f R w0 S Y n k ops hb q (i::D) ((d,v)::l) h):ax P r f R w0 S Y n k ops hb (q+1) D l h:=by
 intro t hF;obtain ⟨d',hf⟩:=re hp;have hO:=ho t hF;obtain ⟨o,h1,h2,h3,_⟩:=hO;have e:d'=d:=by
  have:=hf.dst;simp [bK,h1,h2] at this;exact this.symm
 subst e;exact Dt.pure hf h3 hF.1 (by simpa using hi) (ho t hF) hs (hg _ (hF.put v (by simpa [Nat.blt_eq] using h3)))
theorem ax.v {i d:Nat} {v:Value} (hv:af P w0 S n hb ops i l d v) (hi:(aw ops D).contains i=true) (hp:iJ ops i=true) (hs:hb.Sublist h) (hg:ax P r f R w0 S Y n k ops hb q (i::D) ((d,v)::l) h):ax P r f R w0 S Y n k ops hb (q+1) D l h:=by
 refine ax.AO hi hp (fun t hF=>?_) hs hg;obtain ⟨o,ho,hw,hdst,hnd,hd,hr⟩:=hv
 exact ⟨o,ho,hdst,by simpa [Nat.blt_eq] using hd,hnd,.inl ⟨eJ hF hw,fun w Ds Y' hS=>by
  obtain ⟨nx,h1,rfl⟩:=hr t w Ds Y' hF hS;exact .inl h1⟩⟩
theorem ax.no {i d:Nat} {o:Oper} (ho:ops[i]?=some o) (hw:nh ops l o.guard=true) (hdst:o.dst=some d) (hnd:fO o.op=false) (hd:Nat.blt d n=true) (hi:(aw ops D).contains i=true) (hp:iJ ops i=true) (hs:hb.Sublist h) (hg:ax P r f R w0 S Y n k ops hb q (i::D) ((d,undef)::l) h):ax P r f R w0 S Y n k ops hb (q+1) D l h:=
 ax.AO hi hp (fun _ hF=>⟨o,ho,hdst,by simpa [Nat.blt_eq] using hd,hnd,.inr ⟨oe hF hw,rfl⟩⟩) hs hg
theorem ax.cases {d:Nat} {b:Bool} (hv:look l d=some (.bool b)) (ht:b=true→ax P r f R w0 S Y n k ops hb q D ((d,.bool true)::l) h) (hf:b=false→ax P r f R w0 S Y n k ops hb q D ((d,.bool false)::l) h):ax P r f R w0 S Y n k ops hb q D l h:=by
 intro t hF;cases hb2:b with
 |true=>exact ht hb2 t (oD hF hv hb2)
 |false=>exact hf hb2 t (oD hF hv hb2)
theorem ax.one {i d:Nat} (h1:aw ops D=[i]) (hm:cR P w0 S n h ops i l d (fun v h'=>hb.Sublist h'∧ax P r f R w0 S Y n k ops hb q (i::D) ((d,v)::l) h')) (hd:Nat.blt d n=true):ax P r f R w0 S Y n k ops hb (q+1) D l h:=by
 intro t hF;rw [Dt];refine .inr ⟨by rw [h1];simp,fun j hj=>?_⟩;rw [h1] at hj;obtain rfl:=List.mem_singleton.1 hj;exact eH.of hm hF (fun v h' ⟨e1,e2⟩=>⟨e1,e2 _ (hF.put v hd)⟩)
theorem ax.call {i d:Nat} {ty:TypeId} {pos:String} {aft:Array Edge} {g:Option (Nat×Bool)} {az:Array Operand} {ts:Array TypeId} {cal:Operand} {gf:FuncId} {vs:List Value} (Rc:World→Value→World→Prop) (h1:aw ops D=[i]) (ho:ops[i]?=some ⟨some d,.call ⟨.value cal,az,ts⟩,ty,pos,aft,g⟩) (hw:aq ops l g=true)
  (hc:aM l cal=some (.func (.func gf) #[] #[])) (hx:cP l az.toList=some vs) (hd:Nat.blt d n=true) (hcf:∀args w,(callFunc gf args).run P w=.ok (.enter gf args) w)
  (hcall:∀w Y',St w0 S w h Y'→Cn P gf vs w (Rc w))
  (hk:∀v w w' Y',St w0 S w h Y'→Ex [] w w'→Rc w v w'→∃h',St w0 S w' h' Y'∧hb.Sublist h'∧ax P r f R w0 S Y n k ops hb q (i::D) ((d,v)::l) h'):ax P r f R w0 S Y n k ops hb (q+1) D l h:=
 ax.one h1 (cR.call Rc ho hw hc hx hd hcf hcall (fun v w w' Y' hS he hr=>by
  obtain ⟨h',e1,e2,e3⟩:=hk v w w' Y' hS he hr;exact ⟨h',e1,e2,e3⟩)) hd
theorem ax.dy {i d:Nat} {ty:TypeId} {pos:String} {aft:Array Edge} {g:Option (Nat×Bool)} {az:Array Operand} {ts:Array TypeId} {cal:Operand} {gf:FuncId} {vs:List Value} (Rc:World→Value→World→Prop) (hcf:∀args w,(callFunc gf args).run P w=.ok (.enter gf args) w) (hcall:∀w Y',St w0 S w h Y'→Cn P gf vs w (Rc w)) (hk:∀v w w' Y',St w0 S w h Y'→Ex [] w w'→Rc w v w'→∃h',St w0 S w' h' Y'∧hb.Sublist h'∧ax P r f R w0 S Y n k ops hb q (i::D) ((d,v)::l) h') (h1:aw ops D=[i]:=by exact rfl) (ho:ops[i]?=some ⟨some d,.call ⟨.value cal,az,ts⟩,ty,pos,aft,g⟩:=by exact rfl) (hw:aq ops l g=true:=by exact rfl) (hc:aM l cal=some (.func (.func gf) #[] #[]):=by exact rfl) (hx:cP l az.toList=some vs:=by exact rfl) (hd:Nat.blt d n=true:=by exact rfl):ax P r f R w0 S Y n k ops hb (q+1) D l h:=ax.call (Rc:=Rc) (h1:=h1) (ho:=ho) (hw:=hw) (hc:=hc) (hx:=hx) (hd:=hd) (hcf:=hcf) (hcall:=hcall) (hk:=hk)
theorem ax.mx {i d:Nat} {v:Value} {ty:TypeId} {pos:String} {aft:Array Edge} {g:Option (Nat×Bool)} {az:Array Operand} {ts:Array TypeId} {cal:Operand} {gf:FuncId} {vs:List Value} (h1:aw ops D=[i]) (ho:ops[i]?=some ⟨some d,.call ⟨.value cal,az,ts⟩,ty,pos,aft,g⟩) (hw:aq ops l g=true)
  (hc:aM l cal=some (.func (.func gf) #[] #[])) (hx:cP l az.toList=some vs) (hd:Nat.blt d n=true) (hcf:∀args w,(callFunc gf args).run P w=.ok (.enter gf args) w)
  (hcall:∀w Y',St w0 S w h Y'→Cn P gf vs w (fun u _=>u=v)) (hs:hb.Sublist h) (hg:ax P r f R w0 S Y n k ops hb q (i::D) ((d,v)::l) h):ax P r f R w0 S Y n k ops hb (q+1) D l h:=
 ax.call (fun _ u _=>u=v) h1 ho hw hc hx hd hcf hcall (fun _u _ _ _ hS he e=>⟨h,hS.later he,hs,e ▸ hg⟩)
theorem ax.da {i d:Nat} {v:Value} {ty:TypeId} {pos:String} {aft:Array Edge} {g:Option (Nat×Bool)} {az:Array Operand} {ts:Array TypeId} {cal:Operand} {gf:FuncId} {vs:List Value} (hcf:∀args w,(callFunc gf args).run P w=.ok (.enter gf args) w) (hcall:∀w Y',St w0 S w h Y'→Cn P gf vs w (fun u _=>u=v)) (hs:hb.Sublist h) (hg:ax P r f R w0 S Y n k ops hb q (i::D) ((d,v)::l) h) (h1:aw ops D=[i]:=by exact rfl) (ho:ops[i]?=some ⟨some d,.call ⟨.value cal,az,ts⟩,ty,pos,aft,g⟩:=by exact rfl) (hw:aq ops l g=true:=by exact rfl) (hc:aM l cal=some (.func (.func gf) #[] #[]):=by exact rfl) (hx:cP l az.toList=some vs:=by exact rfl) (hd:Nat.blt d n=true:=by exact rfl):ax P r f R w0 S Y n k ops hb (q+1) D l h:=ax.mx (h1:=h1) (ho:=ho) (hw:=hw) (hc:=hc) (hx:=hx) (hd:=hd) (hcf:=hcf) (hcall:=hcall) (hs:=hs) (hg:=hg)
end
section
variable {P:Program} {r:Option Nat} {f:FuncId} {R:Value→World→Prop} {w0:World} {S:List Nat} {Y:List (Nat×Obj)} {n:Nat} {k:List Item} {l:Fl} {h:Hl} {ops:Array Oper} {i d m:Nat} {rest:List Nat} {ty:TypeId} {pos:String} {aft:Array Edge} {g:Option (Nat×Bool)}
theorem gE (hk:ab P r f R w0 S Y n k l h):ab P r f R w0 S Y n (.inRegion ops []::k) l h:=.mM hk
theorem gS {x y:Code} (hk:ab P r f R w0 S Y n (.code x::.code y::k) l h):ab P r f R w0 S Y n (.code (.seq x y)::k) l h:=.seq hk
theorem gR {id:Nat} (hk:ab P r f R w0 S Y n (.inRegion ops (List.range' 0 ops.size)::k) l h):ab P r f R w0 S Y n (.code (.region id ops false)::k) l h:=.region hk
theorem gK (hk:ab P r f R w0 S Y n k l h):ab P r f R w0 S Y n (.code .skip::k) l h:=.skip hk
theorem gB {id:Nat} {c:Code} (hk:ab P r f R w0 S Y n (.code c::.inBlock id::k) l h):ab P r f R w0 S Y n (.code (.block id c)::k) l h:=.block hk
theorem Bs {id:Nat} (hk:ab P r f R w0 S Y n k l h):ab P r f R w0 S Y n (.inBlock id::k) l h:=.inBlock hk
theorem MA {c:Code} (hk:ab P r f R w0 S Y n k l h):ab P r f R w0 S Y n (.inScope c::k) l h:=.inScope hk
theorem pz {x:Operand} {v:Value} (hk:ab P r f R w0 S Y n (.inRegion ops rest::k) ((d,v)::l) h) (ho:ops[i]?=some ⟨some d,.move x,ty,pos,aft,g⟩:=by exact rfl) (hw:aq ops l g=true:=by exact rfl) (hx:aM l x=some v:=by exact rfl) (hd:Nat.blt d n=true:=by exact rfl):ab P r f R w0 S Y n (.inRegion ops (i::rest)::k) l h:=ab.v (.mv ho hw hx hd) hk
theorem jq {x:Operand} {v:Value} (hk:ab P r f R w0 S Y n (.inRegion ops rest::k) ((d,v)::l) h) (ho:ops[i]?=some ⟨some d,.assign x,ty,pos,aft,g⟩:=by exact rfl) (hw:aq ops l g=true:=by exact rfl) (hx:aM l x=some v:=by exact rfl) (hd:Nat.blt d n=true:=by exact rfl):ab P r f R w0 S Y n (.inRegion ops (i::rest)::k) l h:=ab.v (.zQ ho hw hx hd) hk
theorem iT {c x y:Operand} {u:Value} (hk:ab P r f R w0 S Y n (.inRegion ops rest::k) ((d,u)::l) h) (ho:ops[i]?=some ⟨some d,.pick c x y,ty,pos,aft,g⟩:=by exact rfl) (hw:aq ops l g=true:=by exact rfl) (hc:aM l c=some (.bool true):=by exact rfl) (hx:aM l x=some u:=by exact rfl) (hd:Nat.blt d n=true:=by exact rfl):ab P r f R w0 S Y n (.inRegion ops (i::rest)::k) l h:=ab.v (.eD ho hw hc hx hd) hk
theorem lV {c x y:Operand} {u:Value} (hk:ab P r f R w0 S Y n (.inRegion ops rest::k) ((d,u)::l) h) (ho:ops[i]?=some ⟨some d,.pick c x y,ty,pos,aft,g⟩:=by exact rfl) (hw:aq ops l g=true:=by exact rfl) (hc:aM l c=some (.bool false):=by exact rfl) (hx:aM l y=some u:=by exact rfl) (hd:Nat.blt d n=true:=by exact rfl):ab P r f R w0 S Y n (.inRegion ops (i::rest)::k) l h:=ab.v (.E1 ho hw hc hx hd) hk
theorem LN {x:Operand} {j:Nat} {vs:Array Value} {v:Value} (hk:ab P r f R w0 S Y n (.inRegion ops rest::k) ((d,v)::l) h) (ho:ops[i]?=some ⟨some d,.extract x j,ty,pos,aft,g⟩:=by exact rfl) (hw:aq ops l g=true:=by exact rfl) (hx:aM l x=some (.tuple vs):=by exact rfl) (hb:vs[j]?=some v:=by exact rfl) (hd:Nat.blt d n=true:=by exact rfl):ab P r f R w0 S Y n (.inRegion ops (i::rest)::k) l h:=ab.v (.ext ho hw hx hb hd) hk
theorem JT {o:UnOp} {tx:TypeId} {x:Operand} {a v:Value} (hb:JV P o a v) (hk:ab P r f R w0 S Y n (.inRegion ops rest::k) ((d,v)::l) h) (ho:ops[i]?=some ⟨some d,.unOp o tx x,ty,pos,aft,g⟩:=by exact rfl) (hw:aq ops l g=true:=by exact rfl) (hx:aM l x=some a:=by exact rfl) (hd:Nat.blt d n=true:=by exact rfl):ab P r f R w0 S Y n (.inRegion ops (i::rest)::k) l h:=ab.v (.un ho hw hx hb hd) hk
theorem kV {o:BinOp} {tx tyy:TypeId} {x y:Operand} {a b v:Value} (hb:ly P o tx a b v) (hk:ab P r f R w0 S Y n (.inRegion ops rest::k) ((d,v)::l) h) (ho:ops[i]?=some ⟨some d,.binOp o tx x y tyy,ty,pos,aft,g⟩:=by exact rfl) (hw:aq ops l g=true:=by exact rfl) (hx:aM l x=some a:=by exact rfl) (hy:aM l y=some b:=by exact rfl) (hd:Nat.blt d n=true:=by exact rfl):ab P r f R w0 S Y n (.inRegion ops (i::rest)::k) l h:=ab.v (.bin ho hw hx hy hb hd) hk
theorem tv {t:TypeId} {x:Operand} {b off:Nat} {cs:Array Value} {e:TypeId} {fr:Nat×Nat} {v:Value} (ha:∀w,(isAgg t).run P w=.ok false w) (j:Nat) (hk:ab P r f R w0 S Y n (.inRegion ops rest::k) ((d,v)::l) h) (ho:ops[i]?=some ⟨some d,.load t x,ty,pos,aft,g⟩:=by exact rfl) (hw:aq ops l g=true:=by exact rfl) (hx:aM l x=some (.pointer (some ⟨b,off,none⟩)):=by exact rfl) (hd:Nat.blt d n=true:=by exact rfl) (hj:h[j]?=some (some b,.cells cs e fr):=by exact rfl) (hv:cs[off]?=some v:=by exact rfl):ab P r f R w0 S Y n (.inRegion ops (i::rest)::k) l h:=ab.v (.te ho hw hx hd ha j hj hv) hk
theorem tz {s tt:TypeId} {x:Operand} {b o q:Nat} {fs:Array Field} {fd:Field} {sz:Nat} (hu:P.underlying s=some (.struct fs)) (he:∀w,(sizeOf tt).run P w=.ok (sz+1) w) (o':Nat) (hk:ab P r f R w0 S Y n (.inRegion ops rest::k) ((d,.pointer (some ⟨b,o',none⟩))::l) h) (ho:ops[i]?=some ⟨some d,.fieldAddr s x q,ty,pos,aft,g⟩:=by exact rfl) (hw:aq ops l g=true:=by exact rfl) (hx:aM l x=some (.pointer (some ⟨b,o,none⟩)):=by exact rfl) (hd:Nat.blt d n=true:=by exact rfl) (hq:fs[q]?=some fd:=by exact rfl) (ht:fd.type=tt:=by exact rfl) (hO:o+fd.offset=o':=by exact rfl):ab P r f R w0 S Y n (.inRegion ops (i::rest)::k) l h:=ab.v (.ji ho hw hx hd hu hq (ht ▸ he) o' hO) hk
theorem iU {o:Oper} (hk:ab P r f R w0 S Y n (.inRegion ops rest::k) ((d,undef)::l) h) (ho:ops[i]?=some o:=by exact rfl) (hw:nh ops l o.guard=true:=by exact rfl) (hdst:o.dst=some d:=by exact rfl) (hd:Nat.blt d n=true:=by exact rfl):ab P r f R w0 S Y n (.inRegion ops (i::rest)::k) l h:=ab.no ho hw hdst hd hk
theorem gP {az:Array Operand} {ts:Array TypeId} {cal:Operand} {gf:FuncId} {vs:List Value} {v:Value} (ho:ops[i]?=some ⟨some d,.call ⟨.value cal,az,ts⟩,ty,pos,aft,g⟩) (hw:aq ops l g=true) (hc:aM l cal=some (.func (.func gf) #[] #[])) (hx:cP l az.toList=some vs) (hd:Nat.blt d n=true) (hcf:∀args w,(callFunc gf args).run P w=.ok (.enter gf args) w) (hcall:∀w Y',St w0 S w h Y'→Cn P gf vs w (fun u _=>u=v)) (hk:ab P r f R w0 S Y n (.inRegion ops rest::k) ((d,v)::l) h):ab P r f R w0 S Y n (.inRegion ops (i::rest)::k) l h:=.mx ho hw hc hx hd hcf hcall hk
theorem cX {az:Array Operand} {ts:Array TypeId} {cal:Operand} {gf:FuncId} {vs:List Value} {v:Value} (hcf:∀args w,(callFunc gf args).run P w=.ok (.enter gf args) w) (hcall:∀w Y',St w0 S w h Y'→Cn P gf vs w (fun u _=>u=v)) (hk:ab P r f R w0 S Y n (.inRegion ops rest::k) ((d,v)::l) h) (ho:ops[i]?=some ⟨some d,.call ⟨.value cal,az,ts⟩,ty,pos,aft,g⟩:=by exact rfl) (hw:aq ops l g=true:=by exact rfl) (hc:aM l cal=some (.func (.func gf) #[] #[]):=by exact rfl) (hx:cP l az.toList=some vs:=by exact rfl) (hd:Nat.blt d n=true:=by exact rfl):ab P r f R w0 S Y n (.inRegion ops (i::rest)::k) l h:=gP (ho:=ho) (hw:=hw) (hc:=hc) (hx:=hx) (hd:=hd) (hcf:=hcf) (hcall:=hcall) (hk:=hk)
theorem gM {az:Array Operand} {ts:Array TypeId} {cal:Operand} {gf:FuncId} {vs:List Value} {Rc:World→Value→World→Prop} (ho:ops[i]?=some ⟨some d,.call ⟨.value cal,az,ts⟩,ty,pos,aft,g⟩) (hw:aq ops l g=true) (hc:aM l cal=some (.func (.func gf) #[] #[])) (hx:cP l az.toList=some vs) (hd:Nat.blt d n=true) (hcf:∀args w,(callFunc gf args).run P w=.ok (.enter gf args) w) (hcall:∀w Y',St w0 S w h Y'→Cn P gf vs w (Rc w)) (hk:∀v w w' Y',St w0 S w h Y'→Ex [] w w'→Rc w v w'→∃h',St w0 S w' h' Y'∧ab P r f R w0 S Y n (.inRegion ops rest::k) ((d,v)::l) h'):ab P r f R w0 S Y n (.inRegion ops (i::rest)::k) l h:=.nq Rc ho hw hc hx hd hcf hcall hk
theorem aY {az:Array Operand} {ts:Array TypeId} {cal:Operand} {gf:FuncId} {vs:List Value} {Rc:World→Value→World→Prop} (hcf:∀args w,(callFunc gf args).run P w=.ok (.enter gf args) w) (hcall:∀w Y',St w0 S w h Y'→Cn P gf vs w (Rc w)) (hk:∀v w w' Y',St w0 S w h Y'→Ex [] w w'→Rc w v w'→∃h',St w0 S w' h' Y'∧ab P r f R w0 S Y n (.inRegion ops rest::k) ((d,v)::l) h') (ho:ops[i]?=some ⟨some d,.call ⟨.value cal,az,ts⟩,ty,pos,aft,g⟩:=by exact rfl) (hw:aq ops l g=true:=by exact rfl) (hc:aM l cal=some (.func (.func gf) #[] #[]):=by exact rfl) (hx:cP l az.toList=some vs:=by exact rfl) (hd:Nat.blt d n=true:=by exact rfl):ab P r f R w0 S Y n (.inRegion ops (i::rest)::k) l h:=gM (ho:=ho) (hw:=hw) (hc:=hc) (hx:=hx) (hd:=hd) (hcf:=hcf) (hcall:=hcall) (hk:=hk)
theorem gT {fn:Func} {vs:List Value} (hf:P.funcs[f]?=some fn) (hR:∀w,St w0 S w h Y→R (gX vs) w) (hres:zg l fn.results.toList=some vs:=by exact rfl):ab P none f R w0 S Y n (.code .ret::k) l h:=.ret fn hf hres hR
theorem gC {c:Operand} {x y:Code} {b:Bool} (ht:b=true→ab P r f R w0 S Y n (.code x::k) l h) (hf:b=false→ab P r f R w0 S Y n (.code y::k) l h) (hc:aM l c=some (.bool b):=by exact rfl):ab P r f R w0 S Y n (.code (.cond c x y)::k) l h:=.cond hc ht hf
theorem p6 (d:Nat) {b:Bool} (ht:b=true→ab P r f R w0 S Y n k ((d,.bool true)::l) h) (hf:b=false→ab P r f R w0 S Y n k ((d,.bool false)::l) h) (hv:look l d=some (.bool b):=by exact rfl):ab P r f R w0 S Y n k l h:=.cases hv ht hf
theorem fe {o:BinOp} {tx tyy:TypeId} {x y:Operand} {a b v:Value} (ho:ops[i]?=some ⟨some d,.binOp o tx x y tyy,ty,pos,aft,g⟩) (hw:aq ops l g=true) (hx:aM l x=some a) (hy:aM l y=some b) (hb:ly P o tx a b v) (hk:ab P r f R w0 S Y n (.inRegion ops rest::k) ((d,v)::l) h) (hd:Nat.blt d n=true:=by exact rfl):ab P r f R w0 S Y n (.inRegion ops (i::rest)::k) l h:=.v (.bin ho hw hx hy hb hd) hk
theorem cV {q:Nat} {D:List Nat} {hb:Hl} {d:Nat} {v:Value} (i:Nat) (hv:af P w0 S n hb ops i l d v) (hg:ax P r f R w0 S Y n k ops hb q (i::D) ((d,v)::l) h) (hi:(aw ops D).contains i=true:=by exact rfl) (hp:iJ ops i=true:=by exact rfl) (hs:hb.Sublist h:=by repeat (first|exact List.Sublist.refl _|exact List.nil_sublist _|refine List.Sublist.cons_cons _ ?_|refine List.Sublist.cons _ ?_)):ax P r f R w0 S Y n k ops hb (q+1) D l h:=.v hv hi hp hs hg
theorem sL {a b:Hl} (hs:a.Sublist b:=by repeat (first|exact List.Sublist.refl _|exact List.nil_sublist _|refine List.Sublist.cons_cons _ ?_|refine List.Sublist.cons _ ?_)):a.Sublist b:=hs
theorem sM {a b:Hl} (hs:a.Sublist b:=by repeat (first|exact List.Sublist.refl _|refine List.Sublist.cons _ ?_)):a.Sublist b:=hs
theorem sF {a b:Fl} (hs:bh a b:=by repeat (first|exact bh.nil|refine bh.cons rfl ?_)):bh a b:=hs
end
end Go.Proofs.Wit
