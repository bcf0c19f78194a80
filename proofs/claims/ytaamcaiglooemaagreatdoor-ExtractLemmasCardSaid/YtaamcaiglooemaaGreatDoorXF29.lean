/- Laws of walks, for any program, under the conditions that each theorem states. -/
import Derived.Test.YtaamcaiglooemaaGreatDoorXF18
set_option maxRecDepth 100000
set_option maxHeartbeats 4000000
namespace Go.Proofs.Wit
open Go Go.RowKit
section
variable {P:Program} {r:Option Nat} {f:FuncId} {R:Value→World→Prop} {w0:World} {S:List Nat} {Y:List (Nat×Obj)} {n:Nat} {k:List Item} {l:Fl} {h hb:Hl} {ops:Array Oper} {q:Nat} {Dn:List Nat}
theorem ax.eF {i d:Nat} {ty:TypeId} {pos:String} {aft:Array Edge} {g:Option (Nat×Bool)} {az:Array Operand} {ts:Array TypeId} {cal:Operand} {gf:FuncId} {fs cs vs:List Value} {hC hF:Hl} (hp:h.Perm (hC++hF)) (Rc:World→Value→Hl→Prop) (h1:aw ops Dn=[i]) (ho:ops[i]?=some ⟨some d,.call ⟨.value cal,az,ts⟩,ty,pos,aft,g⟩) (hw:aq ops l g=true)
  (hc:aM l cal=some (.func (.func gf) fs.toArray cs.toArray)) (hx:cP l az.toList=some vs) (hd:Nat.blt d n=true) (hcf:∀args w,(callFunc gf args).run P w=.ok (.enter gf args) w)
  (hcall:∀w Y',St w0 S w (hC++hF) Y'→kC P gf (fs++vs++cs) w hC (Rc w))
  (hk:∀w v h',Rc w v h'→∃H,(h'++hF).Perm H∧hb.Sublist H∧ax P r f R w0 S Y n k ops hb q (i::Dn) ((d,v)::l) H):ax P r f R w0 S Y n k ops hb (q+1) Dn l h:=by
 refine ax.one h1 ⟨_,ho,rfl,rfl,rfl,hd,.inl ⟨hw,fun t w Ds Y' hF' hS=>.inr ⟨gf,(fs++vs++cs).toArray,fun v w'=>∃h',Rc w v h'∧St w (cm hC) w' h' [],?_,?_,fun v w' ⟨h',h1,h2⟩=>?_⟩⟩⟩ hd;have e1:=gI (P:=P) (ty:=ty) (ts:=ts) (Ds:=Ds) (w:=w) hF' hc hx;simp only [execOp,Sem.run_bind,e1,Result.andThen_ok,invoke,hcf];simp;exact Calls.mono (hcall w Y' (hS.perm hp)) (fun e w' ⟨v,h',e1,e2,e3⟩=>⟨v,e1,h',e2,e3⟩);obtain ⟨H,hp2,hs,hg⟩:=hk w v h' h1;exact ⟨H,((hS.perm hp).frame h2).perm hp2,hs,hg⟩
end
section
variable {P:Program} {r:Option Nat} {f:FuncId} {R:Value→World→Prop} {w0:World} {Y:List (Nat×Obj)} {n:Nat} {k:List Item} {l:Fl} {hb:Option Nat×Obj} {ops:Array Oper} {i d:Nat} {ty:TypeId} {pos:String} {aft:Array Edge} {g:Option (Nat×Bool)}
variable {az:Array Operand} {ts:Array TypeId} {cal:Operand} {gf:FuncId} {vs:List Value} {t tn:TypeId} {c:List NV} {na:Option Addr} {nc bk m0 m1 D D':Nat} {L0 L1 La Lb:Nm} {F:Hl} {u:Tr} {q:Nat} {Dn:List Nat}
theorem ax.ot (hp:nU t tn c na nc bk m0 m1 w0 L0 L1) (gr:dg t c D L0 L1 La Lb F) (hj:D'≤D) (h1:aw ops Dn=[i]) (ho:ops[i]?=some ⟨some d,.call ⟨.value cal,az,ts⟩,ty,pos,aft,g⟩) (hw:aq ops l g=true)
  (hc:aM l cal=some (.func (.func gf) #[] #[])) (hx:cP l az.toList=some vs) (hd:Nat.blt d n=true) (hcf:∀args w,(callFunc gf args).run P w=.ok (.enter gf args) w)
  (hof:∀w L0 L1,nU t tn c na nc bk m0 m1 w L0 L1→kC P gf vs w (lz m0 L0 m1 L1) (kA t c m0 m1 D' u L0 L1))
  (hk:∀fv La' Lb' F',dg t c D L0 L1 La' Lb' F'→(∀x,cM t La Lb F x→cM t La' Lb' F' x)→fv.f=bT u→cM t La' Lb' F' fv→ax P r f R w0 [m0,m1] Y n k ops [hb] q (i::Dn) ((d,fv.v)::l) (hb::(lz m0 La' m1 Lb'++F'))):
  ax P r f R w0 [m0,m1] Y n k ops [hb] (q+1) Dn l (hb::(lz m0 La m1 Lb++F)):=by
 refine ax.eF (hC:=lz m0 La m1 Lb) (hF:=hb::F) (fs:=[]) (cs:=[]) j7 (fun _=>kA t c m0 m1 D' u La Lb) h1 ho hw hc hx hd hcf (fun w Y' hS=>?_) (fun w v h' hR=>?_);rw [List.nil_append,List.append_nil];exact hof w _ _ (hp.step hS (List.sublist_append_left _ _) (fun _ h=>List.mem_append_right _ (List.mem_cons_of_mem _ h)) gr);obtain ⟨fv,La',Lb',F2,rfl,rfl,g2,hf,hh⟩:=hR;exact ⟨hb::(lz m0 La' m1 Lb'++(F2++F)),qy,.cons_cons _ (List.nil_sublist _),hk fv La' Lb' (F2++F) (gr.seq g2 hj (List.subset_append_right _ _) (List.subset_append_left _ _)) (fun x hx=>hx.mono g2.s0 g2.s1 (List.subset_append_right _ _)) hf (hh.mono (fun _ h=>h) (fun _ h=>h) (List.subset_append_left _ _))⟩
theorem ax.fJ (hp:nU t tn c na nc bk m0 m1 w0 L0 L1) (gr:dg t c D L0 L1 La Lb F) (hj:D'≤D) (hcf:∀args w,(callFunc gf args).run P w=.ok (.enter gf args) w) (hof:∀w L0 L1,nU t tn c na nc bk m0 m1 w L0 L1→kC P gf vs w (lz m0 L0 m1 L1) (kA t c m0 m1 D' u L0 L1)) (hk:∀fv La' Lb' F',dg t c D L0 L1 La' Lb' F'→(∀x,cM t La Lb F x→cM t La' Lb' F' x)→fv.f=bT u→cM t La' Lb' F' fv→ax P r f R w0 [m0,m1] Y n k ops [hb] q (i::Dn) ((d,fv.v)::l) (hb::(lz m0 La' m1 Lb'++F'))) (h1:aw ops Dn=[i]:=by exact rfl) (ho:ops[i]?=some ⟨some d,.call ⟨.value cal,az,ts⟩,ty,pos,aft,g⟩:=by exact rfl) (hw:aq ops l g=true:=by exact rfl) (hc:aM l cal=some (.func (.func gf) #[] #[]):=by exact rfl) (hx:cP l az.toList=some vs:=by exact rfl) (hd:Nat.blt d n=true:=by exact rfl):ax P r f R w0 [m0,m1] Y n k ops [hb] (q+1) Dn l (hb::(lz m0 La m1 Lb++F)):=ax.ot (hp:=hp) (gr:=gr) (hj:=hj) (h1:=h1) (ho:=ho) (hw:=hw) (hc:=hc) (hx:=hx) (hd:=hd) (hcf:=hcf) (hof:=hof) (hk:=hk)
theorem ax.uh (gr:dg t c D L0 L1 La Lb F) (h1:aw ops Dn=[i]) (ho:ops[i]?=some ⟨some d,.call ⟨.value cal,az,ts⟩,ty,pos,aft,g⟩) (hw:aq ops l g=true)
  (hc:aM l cal=some (.func (.func gf) #[] #[])) (hx:cP l az.toList=some vs) (hd:Nat.blt d n=true) (hcf:∀args w,(callFunc gf args).run P w=.ok (.enter gf args) w)
  (hcall:∀w Y',St w0 [m0,m1] w (hb::(lz m0 La m1 Lb++F)) Y'→Cn P gf vs w (fun v w'=>av t w w' v (bT u)))
  (hk:∀fv F',dg t c D L0 L1 La Lb F'→(∀x,cM t La Lb F x→cM t La Lb F' x)→fv.f=bT u→cM t La Lb F' fv→ax P r f R w0 [m0,m1] Y n k ops [hb] q (i::Dn) ((d,fv.v)::l) (hb::(lz m0 La m1 Lb++F'))):
  ax P r f R w0 [m0,m1] Y n k ops [hb] (q+1) Dn l (hb::(lz m0 La m1 Lb++F)):=by
 refine ax.call (fun w v w'=>av t w w' v (bT u)) h1 ho hw hc hx hd hcf hcall (fun v w w' Y' hS he hO=>?_);obtain ⟨qq,cap,sp,rfl,hq,aj,hS'⟩:=ai hS he hO;have hpm:((qq,cN t (bT u) sp)::hb::(lz m0 La m1 Lb++F)).Perm (hb::(lz m0 La m1 Lb++((qq,cN t (bT u) sp)::F))):=
  (List.Perm.swap _ _ _).trans (List.Perm.cons _ j7);refine ⟨_,hS'.perm hpm,.cons_cons _ (List.nil_sublist _),?_⟩;have e1:br qq (bT u).length cap=FV.v ⟨qq.map (fun b=>⟨b,0,none⟩),cap,bT u⟩:=by cases qq<;>rfl
 rw [e1];exact hk _ _ (gr.mono (Nat.le_refl _) (List.subset_cons_self _ _)) (fun x hx=>hx.mono (fun _ h=>h) (fun _ h=>h) (List.subset_cons_self _ _)) rfl (.inl ⟨qq,sp,List.mem_cons_self ..,rfl,hq,aj⟩)
end
end Go.Proofs.Wit
