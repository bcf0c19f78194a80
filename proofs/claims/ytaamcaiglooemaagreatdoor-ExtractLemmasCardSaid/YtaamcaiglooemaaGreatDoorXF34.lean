/- Laws of walks, for any program, under the conditions that each theorem states. -/
import Derived.Test.YtaamcaiglooemaaGreatDoorXF29
import Derived.Test.YtaamcaiglooemaaGreatDoorXF04
set_option maxRecDepth 100000
set_option maxHeartbeats 4000000
namespace Go.Proofs.Wit
open Go Go.RowKit
def JY (w:World) (S:List Nat):Prop:=∀b∈S,∀o k j,w.cell? ⟨b,o,none⟩≠some (.int k j)
theorem FA.Kr {w w':World} {S:List Nat} {a:Option Addr} {f:List NV} (hm:JY w S) (h:FA w a f) (e:Ex S w w'):FA w' a f:=by
 rcases f with _|⟨n,f⟩;exact ⟨Sl.nil _ _⟩;refine ⟨h.at_.ex e (fun b o ea hb=>?_)⟩;have:=h.at_.cell 0 (by simp [NV.cells]);subst ea;exact hm b hb _ _ _ this
structure MH (HH:Nm→Nm→Hl) (S:List Nat):Prop where
  bl:∀L0 L1,cm (HH L0 L1)=S
  Lu:∀w L0 L1,fZ w (HH L0 L1)→JY w S
structure Gr (t:TypeId) (c:List NV) (d0 d1:Nat) (L0 L1 L0' L1':Nm) (F:Hl):Prop where
  fy:tL c L0' L1'
  s0:L0⊆L0'
  s1:L1⊆L1'
  n0:∀e∈L0',e∈L0∨(e.1<(d0:Int)∧cM t L0 L1 F e.2)
  n1:∀e∈L1',e∈L1∨(e.1<(d1:Int)∧cM t L0 L1 F e.2)
section
variable {t:TypeId} {c:List NV}
theorem cM.vS {d0 d1:Nat} {L0 L1 L0' L1':Nm} {F:Hl} {x:FV} (h:Gr t c d0 d1 L0 L1 L0' L1' F) (g:cM t L0' L1' F x):cM t L0 L1 F x:=by
 rcases g with g|⟨k,g⟩|⟨k,g⟩;exact .inl g;rcases h.n0 _ g with h1|h1;exact .inr (.inl ⟨k,h1⟩);exact h1.2;rcases h.n1 _ g with h1|h1;exact .inr (.inr ⟨k,h1⟩);exact h1.2
theorem Gr.refl {d0 d1:Nat} {L0 L1:Nm} (h:tL c L0 L1):Gr t c d0 d1 L0 L1 L0 L1 []:=⟨h,fun _ h=>h,fun _ h=>h,fun _ h=>.inl h,fun _ h=>.inl h⟩
theorem Gr.mono {d0 d1 e0 e1:Nat} {L0 L1 L0' L1':Nm} {F F':Hl} (h:Gr t c d0 d1 L0 L1 L0' L1' F) (h0:d0≤e0) (h1:d1≤e1) (hs:F⊆F'):Gr t c e0 e1 L0 L1 L0' L1' F':=
 ⟨h.fy,h.s0,h.s1,fun e he=>(h.n0 e he).imp id (fun h=>⟨by omega,h.2.mono (fun _ h=>h) (fun _ h=>h) hs⟩),fun e he=>(h.n1 e he).imp id (fun h=>⟨by omega,h.2.mono (fun _ h=>h) (fun _ h=>h) hs⟩)⟩
theorem Gr.seq {d0 d1 e0 e1:Nat} {L0 L1 L0' L1' L0'' L1'':Nm} {F F' H:Hl} (h:Gr t c d0 d1 L0 L1 L0' L1' F) (g:Gr t c e0 e1 L0' L1' L0'' L1'' F') (hd:e0≤d0) (hd1:e1≤d1) (h1:F⊆H) (h2:F'⊆H):Gr t c d0 d1 L0 L1 L0'' L1'' H:=by
 have hh:=h.mono (Nat.le_refl _) (Nat.le_refl _) h1;have hb:∀{x:FV},cM t L0' L1' F' x→cM t L0 L1 H x:=fun hx=>(hx.mono (fun _ h=>h) (fun _ h=>h) h2).vS hh;refine ⟨g.fy,fun _ hx=>g.s0 (h.s0 hx),fun _ hx=>g.s1 (h.s1 hx),fun e he=>?_,fun e he=>?_⟩;rcases g.n0 e he with h3|⟨h3,h4⟩;exact hh.n0 e h3;exact .inr ⟨by omega,hb h4⟩;rcases g.n1 e he with h3|⟨h3,h4⟩;exact hh.n1 e h3;exact .inr ⟨by omega,hb h4⟩
theorem Gr.HG {i d0 d1:Nat} {L0 L1 La Lb:Nm} {F:Hl} {fv:FV} (g:Gr t c d0 d1 L0 L1 La Lb F) (h0:d0≤i+1) (hf:fv.f=bT (ay (aa c i)).1) (hh:cM t La Lb F fv):Gr t c (i+1) d1 L0 L1 (La++[((i:Int),fv)]) Lb F:=
 ⟨⟨fun e he=>by
  rcases List.mem_append.1 he with he|he;exact g.fy.e0 e he;rw [List.mem_singleton.1 he];exact ⟨i,rfl,hf⟩,g.fy.e1⟩,fun _ h=>List.mem_append_left _ (g.s0 h),g.s1,fun e he=>by
  rcases List.mem_append.1 he with he|he;exact (g.n0 e he).imp id (fun h=>⟨by omega,h.2⟩);rw [List.mem_singleton.1 he];exact .inr ⟨by simp only [];omega,hh.vS g⟩,g.n1⟩
theorem Gr.HF {i d0 d1:Nat} {L0 L1 La Lb:Nm} {F:Hl} {fv:FV} (g:Gr t c d0 d1 L0 L1 La Lb F) (h0:d1≤i+1) (hf:fv.f=bT (ay (aa c i)).2) (hh:cM t La Lb F fv):Gr t c d0 (i+1) L0 L1 La (Lb++[((i:Int),fv)]) F:=
 ⟨⟨g.fy.e0,fun e he=>by
  rcases List.mem_append.1 he with he|he;exact g.fy.e1 e he;rw [List.mem_singleton.1 he];exact ⟨i,rfl,hf⟩⟩,g.s0,fun _ h=>List.mem_append_left _ (g.s1 h),g.n0,fun e he=>by
  rcases List.mem_append.1 he with he|he;exact (g.n1 e he).imp id (fun h=>⟨by omega,h.2⟩);rw [List.mem_singleton.1 he];exact .inr ⟨by simp only [];omega,hh.vS g⟩⟩
structure nT (tn:TypeId) (c:List NV) (na:Option Addr) (bk:Nat) (BK:Array Value) (HH:Nm→Nm→Hl) (S:List Nat) (w:World) (L0 L1:Nm):Prop where
  mh:MH HH S
  has:fZ w (HH L0 L1)
  ne:bk∉S
  db:w.heap[bk]?=some (.cells BK tn (0,0))
  fa:FA w na c
  f0:∀e∈L0,FA w e.2.a e.2.f
  f1:∀e∈L1,FA w e.2.a e.2.f
  fy:tL c L0 L1
variable {tn:TypeId} {na:Option Addr} {bk:Nat} {BK:Array Value} {HH:Nm→Nm→Hl} {S:List Nat} {w:World} {L0 L1:Nm}
theorem nT.od (h:nT tn c na bk BK HH S w L0 L1):JY w S:=h.mh.Lu _ _ _ h.has
theorem cM.oZ {w' w0:World} {S2:List Nat} {h:Hl} {Y:List (Nat×Obj)} {d0 d1:Nat} {L0' L1':Nm} {F:Hl} {x:FV} (g:cM t L0' L1' F x) (hp:nT tn c na bk BK HH S w L0 L1) (gr:Gr t c d0 d1 L0 L1 L0' L1' F) (e:Ex S w w') (s:St w0 S2 w' h Y) (hs:F⊆h):FA w' x.a x.f:=by
 rcases g.vS gr with g|⟨k,g⟩|⟨k,g⟩;exact (g.mono hs).at s;exact (hp.f0 _ g).Kr hp.od e;exact (hp.f1 _ g).Kr hp.od e
theorem nT.step {w':World} {h:Hl} {Y:List (Nat×Obj)} {L0' L1':Nm} {F:Hl} {d0 d1:Nat} (g:nT tn c na bk BK HH S w L0 L1) (s:St w S w' h Y) (hs:(HH L0' L1').Sublist h) (hF:F⊆h) (gr:Gr t c d0 d1 L0 L1 L0' L1' F):nT tn c na bk BK HH S w' L0' L1':=
  ⟨g.mh,(s.cn hs).has,g.ne,by rw [s.ext.block bk (Array.getElem?_eq_some_iff.1 g.db).1 g.ne];exact g.db,g.fa.Kr g.od s.ext,
   fun e he=>cM.oZ (x:=e.2) (.inr (.inl ⟨e.1,he⟩)) g gr s.ext s hF,fun e he=>cM.oZ (x:=e.2) (.inr (.inr ⟨e.1,he⟩)) g gr s.ext s hF,gr.fy⟩
def jm (t:TypeId) (c:List NV) (HH:Nm→Nm→Hl) (d0 d1:Nat) (u:Tr) (L0 L1:Nm) (v:Value) (h':Hl):Prop:=
 ∃fv L0' L1' F,v=FV.v fv∧h'=HH L0' L1'++F∧Gr t c d0 d1 L0 L1 L0' L1' F∧fv.f=bT u∧cM t L0' L1' F fv
end
section
variable {P:Program} {r:Option Nat} {f:FuncId} {R:Value→World→Prop} {w0:World} {Y:List (Nat×Obj)} {n:Nat} {k:List Item} {l:Fl} {hb:Option Nat×Obj} {ops:Array Oper} {i d:Nat} {rest:List Nat} {ty:TypeId} {pos:String} {aft:Array Edge} {g:Option (Nat×Bool)}
variable {az:Array Operand} {ts:Array TypeId} {cal:Operand} {gf:FuncId} {vs:List Value} {t tn:TypeId} {c:List NV} {na:Option Addr} {bk D0 D1 e0 e1:Nat} {BK:Array Value} {HH:Nm→Nm→Hl} {S:List Nat} {L0 L1 La Lb:Nm} {F:Hl} {u:Tr} {q:Nat} {Dn:List Nat}
theorem ab.ni (hp:nT tn c na bk BK HH S w0 L0 L1) (gr:Gr t c D0 D1 L0 L1 La Lb F) (hj:e0≤D0∧e1≤D1) (ho:ops[i]?=some ⟨some d,.call ⟨.value cal,az,ts⟩,ty,pos,aft,g⟩) (hw:aq ops l g=true)
  (hc:aM l cal=some (.func (.func gf) #[] #[])) (hx:cP l az.toList=some vs) (hd:Nat.blt d n=true) (hcf:∀args w,(callFunc gf args).run P w=.ok (.enter gf args) w)
  (hof:∀w L0 L1,nT tn c na bk BK HH S w L0 L1→kC P gf vs w (HH L0 L1) (jm t c HH e0 e1 u L0 L1))
  (hk:∀fv La' Lb' F',Gr t c D0 D1 L0 L1 La' Lb' F'→(∀x,cM t La Lb F x→cM t La' Lb' F' x)→fv.f=bT u→cM t La' Lb' F' fv→ab P r f R w0 S Y n (.inRegion ops rest::k) ((d,fv.v)::l) (hb::(HH La' Lb'++F'))):
  ab P r f R w0 S Y n (.inRegion ops (i::rest)::k) l (hb::(HH La Lb++F)):=by
 refine ab.hJ (h':=HH La Lb++(hb::F)) j7 ?_;refine ab.eF (h:=HH La Lb) (hF:=hb::F) (fs:=[]) (cs:=[]) (fun _=>jm t c HH e0 e1 u La Lb) ho hw hc hx hd hcf (fun w Y' hS=>?_) (fun w v h' hR=>?_);rw [List.nil_append,List.append_nil];exact hof w _ _ (hp.step hS (List.sublist_append_left _ _) (fun _ h=>List.mem_append_right _ (List.mem_cons_of_mem _ h)) gr);obtain ⟨fv,La',Lb',F2,rfl,rfl,g2,hf,hh⟩:=hR;refine ab.hJ (h':=hb::(HH La' Lb'++(F2++F))) qy ?_;exact hk fv La' Lb' (F2++F) (gr.seq g2 hj.1 hj.2 (List.subset_append_right _ _) (List.subset_append_left _ _)) (fun x hx=>hx.mono g2.s0 g2.s1 (List.subset_append_right _ _)) hf (hh.mono (fun _ h=>h) (fun _ h=>h) (List.subset_append_left _ _))
theorem ax.ni (hp:nT tn c na bk BK HH S w0 L0 L1) (gr:Gr t c D0 D1 L0 L1 La Lb F) (hj:e0≤D0∧e1≤D1) (h1:aw ops Dn=[i]) (ho:ops[i]?=some ⟨some d,.call ⟨.value cal,az,ts⟩,ty,pos,aft,g⟩) (hw:aq ops l g=true)
  (hc:aM l cal=some (.func (.func gf) #[] #[])) (hx:cP l az.toList=some vs) (hd:Nat.blt d n=true) (hcf:∀args w,(callFunc gf args).run P w=.ok (.enter gf args) w)
  (hof:∀w L0 L1,nT tn c na bk BK HH S w L0 L1→kC P gf vs w (HH L0 L1) (jm t c HH e0 e1 u L0 L1))
  (hk:∀fv La' Lb' F',Gr t c D0 D1 L0 L1 La' Lb' F'→(∀x,cM t La Lb F x→cM t La' Lb' F' x)→fv.f=bT u→cM t La' Lb' F' fv→ax P r f R w0 S Y n k ops [hb] q (i::Dn) ((d,fv.v)::l) (hb::(HH La' Lb'++F'))):
  ax P r f R w0 S Y n k ops [hb] (q+1) Dn l (hb::(HH La Lb++F)):=by
 refine ax.eF (hC:=HH La Lb) (hF:=hb::F) (fs:=[]) (cs:=[]) j7 (fun _=>jm t c HH e0 e1 u La Lb) h1 ho hw hc hx hd hcf (fun w Y' hS=>?_) (fun w v h' hR=>?_);rw [List.nil_append,List.append_nil];exact hof w _ _ (hp.step hS (List.sublist_append_left _ _) (fun _ h=>List.mem_append_right _ (List.mem_cons_of_mem _ h)) gr);obtain ⟨fv,La',Lb',F2,rfl,rfl,g2,hf,hh⟩:=hR;exact ⟨hb::(HH La' Lb'++(F2++F)),qy,.cons_cons _ (List.nil_sublist _),hk fv La' Lb' (F2++F) (gr.seq g2 hj.1 hj.2 (List.subset_append_right _ _) (List.subset_append_left _ _)) (fun x hx=>hx.mono g2.s0 g2.s1 (List.subset_append_right _ _)) hf (hh.mono (fun _ h=>h) (fun _ h=>h) (List.subset_append_left _ _))⟩
theorem ax.fF (hp:nT tn c na bk BK HH S w0 L0 L1) (gr:Gr t c D0 D1 L0 L1 La Lb F) (hj:e0≤D0∧e1≤D1) (hcf:∀args w,(callFunc gf args).run P w=.ok (.enter gf args) w) (hof:∀w L0 L1,nT tn c na bk BK HH S w L0 L1→kC P gf vs w (HH L0 L1) (jm t c HH e0 e1 u L0 L1)) (hk:∀fv La' Lb' F',Gr t c D0 D1 L0 L1 La' Lb' F'→(∀x,cM t La Lb F x→cM t La' Lb' F' x)→fv.f=bT u→cM t La' Lb' F' fv→ax P r f R w0 S Y n k ops [hb] q (i::Dn) ((d,fv.v)::l) (hb::(HH La' Lb'++F'))) (h1:aw ops Dn=[i]:=by exact rfl) (ho:ops[i]?=some ⟨some d,.call ⟨.value cal,az,ts⟩,ty,pos,aft,g⟩:=by exact rfl) (hw:aq ops l g=true:=by exact rfl) (hc:aM l cal=some (.func (.func gf) #[] #[]):=by exact rfl) (hx:cP l az.toList=some vs:=by exact rfl) (hd:Nat.blt d n=true:=by exact rfl):ax P r f R w0 S Y n k ops [hb] (q+1) Dn l (hb::(HH La Lb++F)):=ax.ni (hp:=hp) (gr:=gr) (hj:=hj) (h1:=h1) (ho:=ho) (hw:=hw) (hc:=hc) (hx:=hx) (hd:=hd) (hcf:=hcf) (hof:=hof) (hk:=hk)
theorem bH.ni {h0:Hl} (hp:nT tn c na bk BK HH S w0 L0 L1) (gr:Gr t c D0 D1 L0 L1 La Lb F) (hj:e0≤D0∧e1≤D1) (h1:aw ops Dn=[i]) (ho:ops[i]?=some ⟨some d,.call ⟨.value cal,az,ts⟩,ty,pos,aft,g⟩) (hw:aq ops l g=true)
  (hc:aM l cal=some (.func (.func gf) #[] #[])) (hx:cP l az.toList=some vs) (hd:Nat.blt d n=true) (hcf:∀args w,(callFunc gf args).run P w=.ok (.enter gf args) w)
  (hof:∀w L0 L1,nT tn c na bk BK HH S w L0 L1→kC P gf vs w (HH L0 L1) (jm t c HH e0 e1 u L0 L1))
  (hk:∀fv La' Lb' F',Gr t c D0 D1 L0 L1 La' Lb' F'→fv.f=bT u→cM t La' Lb' F' fv→bH P r f R w0 S Y n k ops i h0 [] q (i::Dn) ((d,fv.v)::l) (HH La' Lb'++F')):
  bH P r f R w0 S Y n k ops i h0 [] (q+1) Dn l (HH La Lb++F):=by
 refine bH.one h1 (cR.eF (h:=HH La Lb) (hF:=F) (fs:=[]) (cs:=[]) ho hw hc hx hd hcf (fun w Y' hS=>?_)) hd;rw [List.nil_append,List.append_nil];refine (hof w _ _ (hp.step hS (List.sublist_append_left _ _) (List.subset_append_right _ _) gr)).mono ?_;rintro v h' ⟨fv,La',Lb',F2,rfl,rfl,g2,hf,hh⟩;rw [List.append_assoc];exact ⟨by rw [bV (by simp)];exact List.nil_sublist _,hk fv La' Lb' (F2++F) (gr.seq g2 hj.1 hj.2 (List.subset_append_right _ _) (List.subset_append_left _ _)) hf (hh.mono (fun _ h=>h) (fun _ h=>h) (List.subset_append_left _ _))⟩
theorem ab.tY (gr:Gr t c D0 D1 L0 L1 La Lb F) (ho:ops[i]?=some ⟨some d,.call ⟨.value cal,az,ts⟩,ty,pos,aft,g⟩) (hw:aq ops l g=true)
  (hc:aM l cal=some (.func (.func gf) #[] #[])) (hx:cP l az.toList=some vs) (hd:Nat.blt d n=true) (hcf:∀args w,(callFunc gf args).run P w=.ok (.enter gf args) w)
  (hcall:∀w Y',St w0 S w (hb::(HH La Lb++F)) Y'→Cn P gf vs w (fun v w'=>av t w w' v (bT u)))
  (hk:∀fv F',Gr t c D0 D1 L0 L1 La Lb F'→(∀x,cM t La Lb F x→cM t La Lb F' x)→fv.f=bT u→cM t La Lb F' fv→ab P r f R w0 S Y n (.inRegion ops rest::k) ((d,fv.v)::l) (hb::(HH La Lb++F'))):
  ab P r f R w0 S Y n (.inRegion ops (i::rest)::k) l (hb::(HH La Lb++F)):=by
 refine ab.nq (fun w v w'=>av t w w' v (bT u)) ho hw hc hx hd hcf hcall (fun v w w' Y' hS he hO=>?_);obtain ⟨q,cap,sp,rfl,hq,aj,hS'⟩:=ai hS he hO;have hpm:((q,cN t (bT u) sp)::hb::(HH La Lb++F)).Perm (hb::(HH La Lb++((q,cN t (bT u) sp)::F))):=
  (List.Perm.swap _ _ _).trans (List.Perm.cons _ j7);refine ⟨_,hS'.perm hpm,?_⟩;have e1:br q (bT u).length cap=FV.v ⟨q.map (fun b=>⟨b,0,none⟩),cap,bT u⟩:=by cases q<;>rfl
 rw [e1];exact hk _ _ (gr.mono (Nat.le_refl _) (Nat.le_refl _) (List.subset_cons_self _ _)) (fun x hx=>hx.mono (fun _ h=>h) (fun _ h=>h) (List.subset_cons_self _ _)) rfl (.inl ⟨q,sp,List.mem_cons_self ..,rfl,hq,aj⟩)
theorem ax.tY (gr:Gr t c D0 D1 L0 L1 La Lb F) (h1:aw ops Dn=[i]) (ho:ops[i]?=some ⟨some d,.call ⟨.value cal,az,ts⟩,ty,pos,aft,g⟩) (hw:aq ops l g=true)
  (hc:aM l cal=some (.func (.func gf) #[] #[])) (hx:cP l az.toList=some vs) (hd:Nat.blt d n=true) (hcf:∀args w,(callFunc gf args).run P w=.ok (.enter gf args) w)
  (hcall:∀w Y',St w0 S w (hb::(HH La Lb++F)) Y'→Cn P gf vs w (fun v w'=>av t w w' v (bT u)))
  (hk:∀fv F',Gr t c D0 D1 L0 L1 La Lb F'→(∀x,cM t La Lb F x→cM t La Lb F' x)→fv.f=bT u→cM t La Lb F' fv→ax P r f R w0 S Y n k ops [hb] q (i::Dn) ((d,fv.v)::l) (hb::(HH La Lb++F'))):
  ax P r f R w0 S Y n k ops [hb] (q+1) Dn l (hb::(HH La Lb++F)):=by
 refine ax.call (fun w v w'=>av t w w' v (bT u)) h1 ho hw hc hx hd hcf hcall (fun v w w' Y' hS he hO=>?_);obtain ⟨qq,cap,sp,rfl,hq,aj,hS'⟩:=ai hS he hO;have hpm:((qq,cN t (bT u) sp)::hb::(HH La Lb++F)).Perm (hb::(HH La Lb++((qq,cN t (bT u) sp)::F))):=
  (List.Perm.swap _ _ _).trans (List.Perm.cons _ j7);refine ⟨_,hS'.perm hpm,.cons_cons _ (List.nil_sublist _),?_⟩;have e1:br qq (bT u).length cap=FV.v ⟨qq.map (fun b=>⟨b,0,none⟩),cap,bT u⟩:=by cases qq<;>rfl
 rw [e1];exact hk _ _ (gr.mono (Nat.le_refl _) (Nat.le_refl _) (List.subset_cons_self _ _)) (fun x hx=>hx.mono (fun _ h=>h) (fun _ h=>h) (List.subset_cons_self _ _)) rfl (.inl ⟨qq,sp,List.mem_cons_self ..,rfl,hq,aj⟩)
end
def zZ (n:Nat) (L:Nm):List FV:=(List.range n).map (fun k:Nat=>(bL iq L (k:Int)).getD ⟨none,0,[]⟩)
def jN (n:Nat) (L:Nm):List Bool:=(List.range n).map (fun k:Nat=>(bL iq L (k:Int)).isSome)
abbrev rH (tS tB:TypeId) (n by' bo hy ho:Nat) (L0 L1:Nm):Hl:=[(some by',ob FV.v tS (zZ n L0) []),(some bo,ob FV.v tS (zZ n L1) []),(some hy,ob Value.bool tB (jN n L0) []),(some ho,ob Value.bool tB (jN n L1) [])]
abbrev CD (na:Option Addr) (nl nc by' bo hy ho:Nat):Array Value:=#[.slice na nl nc,.slice (some ⟨by',0,none⟩) nl nl,.slice (some ⟨bo,0,none⟩) nl nl,.slice (some ⟨hy,0,none⟩) nl nl,.slice (some ⟨ho,0,none⟩) nl nl]
theorem uy {n:Nat} {L:Nm}:(zZ n L).length=n:=by simp [zZ]
theorem uv {n:Nat} {L:Nm}:(jN n L).length=n:=by simp [jN]
theorem qF {n i:Nat} {L:Nm} {d x:FV} (hi:i<n) (h:bL iq L (i:Int)=some x):(zZ n L).getD i d=x:=by
 simp [zZ,List.getD_eq_getElem?_getD,hi,h]
theorem qE {n i:Nat} {L:Nm} {d:Bool} (hi:i<n):(jN n L).getD i d=(bL iq L (i:Int)).isSome:=by
 simp [jN,List.getD_eq_getElem?_getD,hi]
theorem ow {L:Nm} {i k:Nat} {x:FV} (h:bL iq L (i:Int)=none):bL iq (L++[((i:Int),x)]) (k:Int)=if k=i then some x else bL iq L (k:Int):=by
 induction L with
 |nil=>
  rw [List.nil_append,bL,bL];by_cases hk:k=i;subst hk;simp [iq];rw [if_neg hk,if_neg (by simp [iq];omega)];rfl
 |cons e L ih=>
  obtain ⟨a,b⟩:=e;rw [bL] at h;rw [List.cons_append,bL,bL];split at h;cases h;rename_i hq;rw [ih h];split;rename_i hk;rw [if_neg];rintro rfl;exact hq hk;rfl
theorem yx {n i:Nat} {L:Nm} {x:FV} (h:bL iq L (i:Int)=none):(zZ n L).set i x=zZ n (L++[((i:Int),x)]):=by
 apply List.ext_getElem?;intro k;simp only [zZ,List.getElem?_set,List.length_map,List.length_range,List.getElem?_map,ow h];by_cases hk:k<n;rw [List.getElem?_range hk];by_cases e:i=k;subst e;simp [hk];simp [e,Ne.symm e];rw [List.getElem?_eq_none (by simpa using hk)];by_cases e:i=k;subst e;simp [hk];simp [e]
theorem yu {n i:Nat} {L:Nm} {x:FV} (h:bL iq L (i:Int)=none):(jN n L).set i true=jN n (L++[((i:Int),x)]):=by
 apply List.ext_getElem?;intro k;simp only [jN,List.getElem?_set,List.length_map,List.length_range,List.getElem?_map,ow h];by_cases hk:k<n;rw [List.getElem?_range hk];by_cases e:i=k;subst e;simp [hk];simp [e,Ne.symm e];rw [List.getElem?_eq_none (by simpa using hk)];by_cases e:i=k;subst e;simp [hk];simp [e]
theorem IA {tS tB:TypeId} {n by' bo hy ho:Nat}:MH (rH tS tB n by' bo hy ho) [by',bo,hy,ho]:=by
 refine ⟨fun _ _=>rfl,fun w L0 L1 hh b hb o k j hc=>?_⟩;have h0:=(hh.own _ (List.mem_cons_self ..) by' rfl).1;have h1:=(hh.own _ (List.mem_cons_of_mem _ (List.mem_cons_self ..)) bo rfl).1;have h2:=(hh.own _ (List.mem_cons_of_mem _ (List.mem_cons_of_mem _ (List.mem_cons_self ..))) hy rfl).1;have h3:=(hh.own _ (List.mem_cons_of_mem _ (List.mem_cons_of_mem _ (List.mem_cons_of_mem _ (List.mem_cons_self ..)))) ho rfl).1;simp only [List.mem_cons,List.not_mem_nil,or_false] at hb;rcases hb with rfl|rfl|rfl|rfl;rw [World.cell?] at hc;simp only [h0] at hc;simp [FV.v] at hc;rw [World.cell?] at hc;simp only [h1] at hc;simp [FV.v] at hc;rw [World.cell?] at hc;simp only [h2] at hc;simp at hc;rw [World.cell?] at hc;simp only [h3] at hc;simp at hc
theorem D8 {n:Nat}:zZ n []=List.replicate n ⟨none,0,[]⟩:=by
 rw [List.eq_replicate_iff];exact ⟨uy,fun b hb=>by obtain ⟨k,_,rfl⟩:=List.mem_map.1 hb;rfl⟩
theorem D5 {n:Nat}:jN n []=List.replicate n false:=by
 rw [List.eq_replicate_iff];exact ⟨uv,fun b hb=>by obtain ⟨k,_,rfl⟩:=List.mem_map.1 hb;rfl⟩
theorem u4 {c:List NV} {i:Nat} (hi:i<c.length) (hO:aK c) (hX:cS c[i].op=true) (hY:cF c[i].op=false):∃kx:Nat,c[i].x=(kx:Int)∧kx<i∧aa c i=.un c[i].op c[i].i c[i].e c[i].g (aa c kx):=by
 have h:=(hO i hi).x hX;refine ⟨c[i].x.toNat,by omega,by omega,?_⟩;rcases cd hi hO with ⟨h1,_⟩|⟨_,_,h1⟩|⟨h1,_⟩;rw [hX] at h1;cases h1;exact h1;rw [hY] at h1;cases h1
theorem nP {c:List NV} {i:Nat} (hi:i<c.length) (hO:aK c) (hY:cF c[i].op=true):∃kx ky:Nat,c[i].x=(kx:Int)∧c[i].y=(ky:Int)∧kx<i∧ky<i∧aa c i=.bin c[i].op c[i].i c[i].e c[i].g (aa c kx) (aa c ky):=by
 have hX:=dI hY;have h:=(hO i hi).x hX;have h2:=(hO i hi).y hY;refine ⟨c[i].x.toNat,c[i].y.toNat,by omega,by omega,by omega,by omega,?_⟩;rcases cd hi hO with ⟨h1,_⟩|⟨_,h1,_⟩|⟨_,h1⟩;rw [hX] at h1;cases h1;rw [hY] at h1;cases h1;exact h1
theorem uo {c:List NV} {i:Nat} (hi:i<c.length) (hO:aK c) (hX:cS c[i].op=false):aa c i=.leaf c[i].op c[i].i c[i].e c[i].g:=by
 have hY:=l7 hX;rcases cd hi hO with ⟨_,h1⟩|⟨h1,_,_⟩|⟨h1,_⟩;exact h1;rw [hX] at h1;cases h1;rw [hY] at h1;cases h1
theorem m4 {t:TypeId} {c:List NV} {d0 d1:Nat} {HH:Nm→Nm→Hl} {S:List Nat} {w0 w':World} {L0 L1 La Lb:Nm} {F:Hl} {u:Tr} {fv:FV} {hb:Option Nat×Obj} (gr:Gr t c d0 d1 L0 L1 La Lb F) (hf:fv.f=bT u) (hh:cM t La Lb F fv) (hS:St w0 S w' (hb::(HH La Lb++F)) []):∃h',jm t c HH d0 d1 u L0 L1 fv.v h'∧St w0 S w' h' []:=
 ⟨_,⟨fv,La,Lb,F,rfl,rfl,gr,hf,hh⟩,hS.cn (List.sublist_cons_self _ _)⟩
theorem FA.Ir {w:World} {S:List Nat} {a:Option Addr} {f:List NV} (hm:JY w S) (h:FA w a f) (hp:0<f.length):yX S w a f:=by
 rcases f with _|⟨n,f⟩;simp at hp;refine ⟨h.at_,fun b o ea hb=>?_⟩;have:=h.at_.cell 0 (by simp [NV.cells]);subst ea;exact hm b hb _ _ _ this
theorem Gt {c:List NV} {i:Nat} (hi:i<c.length) (hO:aK c) (n1:¬c[i].op=1) (n2:¬c[i].op=2) (n4:¬c[i].op=4) (n5:¬c[i].op=5) (n6:¬c[i].op=6) (n7:¬c[i].op=7) (n8:¬c[i].op=8) (n9:¬c[i].op=9) (n10:¬c[i].op=10):(ay (aa c i)).2=aF (ay (aa c i)).1:=by
 rcases cd hi hO with ⟨_,h1⟩|⟨_,_,h1⟩|⟨_,h1⟩;rw [h1,ay];simp [n1,n2];rw [h1,ay];simp [n4,n9,n10];rw [h1,ay];simp [n5,n6,n7,n8]
end Go.Proofs.Wit
