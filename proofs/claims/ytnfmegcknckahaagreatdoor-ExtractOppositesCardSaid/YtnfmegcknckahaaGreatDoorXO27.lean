/- Laws of walks, for any program, under the conditions that each theorem states. -/
import Derived.Test.YtnfmegcknckahaaGreatDoorXO17
import Derived.Test.YtnfmegcknckahaaGreatDoorXO03
namespace Go.Proofs.Wit
open Go Go.RowKit
section
variable {P:Program} {r:Option Nat} {f:FuncId} {R:Value→World→Prop} {w0:World} {S:List Nat} {Y:List (Nat×Obj)} {n:Nat} {k:List Item} {l:Fl} {h hb:Hl} {ops:Array Oper} {q:Nat} {Dn:List Nat}
theorem aG.iG {i d:Nat} {ty:TypeId} {pos:String} {aft:Array Edge} {g:Option (Nat×Bool)} {az:Array Operand} {ts:Array TypeId} {cal:Operand} {gf:FuncId} {fs cs vs:List Value} {hC hF:Hl} (hp:h.Perm (hC++hF)) (Rc:World→Value→Hl→Prop) (h1:aB ops Dn=[i]) (ho:ops[i]?=some ⟨some d,.call ⟨.value cal,az,ts⟩,ty,pos,aft,g⟩) (hw:au ops l g=true)
  (hc:aU l cal=some (.func (.func gf) fs.toArray cs.toArray)) (hx:dq l az.toList=some vs) (hd:Nat.blt d n=true) (hcf:∀args w,(callFunc gf args).run P w=.ok (.enter gf args) w)
  (hcall:∀w Y',St w0 S w (hC++hF) Y'→qv P gf (fs++vs++cs) w hC (Rc w))
  (hk:∀w v h',Rc w v h'→∃H,(h'++hF).Perm H∧hb.Sublist H∧aG P r f R w0 S Y n k ops hb q (i::Dn) ((d,v)::l) H):aG P r f R w0 S Y n k ops hb (q+1) Dn l h:=by
 refine aG.one h1 ⟨_,ho,rfl,rfl,rfl,hd,.inl ⟨hw,fun t w Ds Y' hF' hS=>.inr ⟨gf,(fs++vs++cs).toArray,fun v w'=>∃h',Rc w v h'∧St w (cI hC) w' h' [],?_,?_,fun v w' ⟨h',h1,h2⟩=>?_⟩⟩⟩ hd
 ·have e1:=gh (P:=P) (ty:=ty) (ts:=ts) (Ds:=Ds) (w:=w) hF' hc hx
  simp only [execOp,Sem.run_bind,e1,Result.andThen_ok,invoke,hcf]
  simp
 ·exact Calls.mono (hcall w Y' (hS.perm hp)) (fun e w' ⟨v,h',e1,e2,e3⟩=>⟨v,e1,h',e2,e3⟩)
 obtain ⟨H,hp2,hs,hg⟩:=hk w v h' h1
 exact ⟨H,((hS.perm hp).frame h2).perm hp2,hs,hg⟩
end
section
variable {P:Program} {r:Option Nat} {f:FuncId} {R:Value→World→Prop} {w0:World} {Y:List (Nat×Obj)} {n:Nat} {k:List Item} {l:Fl} {hb:Option Nat×Obj} {ops:Array Oper} {i d:Nat} {ty:TypeId} {pos:String} {aft:Array Edge} {g:Option (Nat×Bool)}
variable {az:Array Operand} {ts:Array TypeId} {cal:Operand} {gf:FuncId} {vs:List Value} {t tn:TypeId} {c:List NV} {na:Option Addr} {nc bk m0 m1 D D':Nat} {L0 L1 La Lb:Nm} {F:Hl} {u:Tr} {q:Nat} {Dn:List Nat}
theorem aG.ey (hp:mq t tn c na nc bk m0 m1 w0 L0 L1) (gr:cM t c D L0 L1 La Lb F) (hj:D'≤D) (h1:aB ops Dn=[i]) (ho:ops[i]?=some ⟨some d,.call ⟨.value cal,az,ts⟩,ty,pos,aft,g⟩) (hw:au ops l g=true)
  (hc:aU l cal=some (.func (.func gf) #[] #[])) (hx:dq l az.toList=some vs) (hd:Nat.blt d n=true) (hcf:∀args w,(callFunc gf args).run P w=.ok (.enter gf args) w)
  (hof:∀w L0 L1,mq t tn c na nc bk m0 m1 w L0 L1→qv P gf vs w (jS m0 L0 m1 L1) (jr t c m0 m1 D' u L0 L1))
  (hk:∀fv La' Lb' F',cM t c D L0 L1 La' Lb' F'→(∀x,fK t La Lb F x→fK t La' Lb' F' x)→fv.f=bT u→fK t La' Lb' F' fv→aG P r f R w0 [m0,m1] Y n k ops [hb] q (i::Dn) ((d,fv.v)::l) (hb::(jS m0 La' m1 Lb'++F'))):
  aG P r f R w0 [m0,m1] Y n k ops [hb] (q+1) Dn l (hb::(jS m0 La m1 Lb++F)):=by
 refine aG.iG (hC:=jS m0 La m1 Lb) (hF:=hb::F) (fs:=[]) (cs:=[]) mJ (fun _=>jr t c m0 m1 D' u La Lb) h1 ho hw hc hx hd hcf (fun w Y' hS=>?_) (fun w v h' hR=>?_)
 ·rw [List.nil_append,List.append_nil]
  exact hof w _ _ (hp.step hS (List.sublist_append_left _ _) (fun _ h=>List.mem_append_right _ (List.mem_cons_of_mem _ h)) gr)
 obtain ⟨fv,La',Lb',F2,rfl,rfl,g2,hf,hh⟩:=hR
 exact ⟨hb::(jS m0 La' m1 Lb'++(F2++F)),rI,.cons_cons _ (List.nil_sublist _),hk fv La' Lb' (F2++F) (gr.seq g2 hj (List.subset_append_right _ _) (List.subset_append_left _ _)) (fun x hx=>hx.mono g2.s0 g2.s1 (List.subset_append_right _ _)) hf (hh.mono (fun _ h=>h) (fun _ h=>h) (List.subset_append_left _ _))⟩
theorem aG.rM (gr:cM t c D L0 L1 La Lb F) (h1:aB ops Dn=[i]) (ho:ops[i]?=some ⟨some d,.call ⟨.value cal,az,ts⟩,ty,pos,aft,g⟩) (hw:au ops l g=true)
  (hc:aU l cal=some (.func (.func gf) #[] #[])) (hx:dq l az.toList=some vs) (hd:Nat.blt d n=true) (hcf:∀args w,(callFunc gf args).run P w=.ok (.enter gf args) w)
  (hcall:∀w Y',St w0 [m0,m1] w (hb::(jS m0 La m1 Lb++F)) Y'→Cn P gf vs w (fun v w'=>aI t w w' v (bT u)))
  (hk:∀fv F',cM t c D L0 L1 La Lb F'→(∀x,fK t La Lb F x→fK t La Lb F' x)→fv.f=bT u→fK t La Lb F' fv→aG P r f R w0 [m0,m1] Y n k ops [hb] q (i::Dn) ((d,fv.v)::l) (hb::(jS m0 La m1 Lb++F'))):
  aG P r f R w0 [m0,m1] Y n k ops [hb] (q+1) Dn l (hb::(jS m0 La m1 Lb++F)):=by
 refine aG.call (fun w v w'=>aI t w w' v (bT u)) h1 ho hw hc hx hd hcf hcall (fun v w w' Y' hS he hO=>?_)
 obtain ⟨qq,cap,sp,rfl,hq,ao,hS'⟩:=ak hS he hO
 have hpm:((qq,eO t (bT u) sp)::hb::(jS m0 La m1 Lb++F)).Perm (hb::(jS m0 La m1 Lb++((qq,eO t (bT u) sp)::F))):=
  (List.Perm.swap _ _ _).trans (List.Perm.cons _ mJ)
 refine ⟨_,hS'.perm hpm,.cons_cons _ (List.nil_sublist _),?_⟩
 have e1:cK qq (bT u).length cap=FV.v ⟨qq.map (fun b=>⟨b,0,none⟩),cap,bT u⟩:=by cases qq<;>rfl
 rw [e1]
 exact hk _ _ (gr.mono (Nat.le_refl _) (List.subset_cons_self _ _)) (fun x hx=>hx.mono (fun _ h=>h) (fun _ h=>h) (List.subset_cons_self _ _)) rfl (.inl ⟨qq,sp,List.mem_cons_self ..,rfl,hq,ao⟩)
end
end Go.Proofs.Wit
