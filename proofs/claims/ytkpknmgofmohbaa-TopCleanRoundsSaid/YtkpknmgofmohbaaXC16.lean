/- Laws of walks, for any program, under the conditions that each theorem states. -/
import Derived.Test.YtkpknmgofmohbaaXC14
import Derived.Test.YtkpknmgofmohbaaXC06
namespace Go.Proofs.Wit
open Go Go.RowKit
section
variable {κ ν:Type} {ek:κ→Value} {ev:ν→Value} {q:κ→κ→Bool}
def dn (q:κ→κ→Bool):List (κ×ν)→κ→ν→List (κ×ν)
 |[],a,v=>[(a,v)]
 |p::L,a,v=>if q a p.1=true then (p.1,v)::L else p::dn q L a v
theorem jK:∀{L:List (κ×ν)} {a:κ} {v:ν},aG q L a=none→dn q L a v=L++[(a,v)]
 |[],_,_,_=>rfl
 |p::L,a,v,h=>by
  rw [aG] at h
  rw [dn]
  split at h
  ·cases h
  rename_i hq;rw [if_neg hq,jK h];rfl
theorem g4:∀{L:List (κ×ν)} {a:κ} {v:ν} {i:Nat} {j:Nat} {u:Value},found q ev L a i=some (j,u)→i≤j∧j - i<L.length∧(bg ek ev L i).set (j - i) ⟨((bg ek ev L i)[j - i]?.getD ⟨ek a,ev v,0⟩).key,ev v,j⟩=bg ek ev (dn q L a v) i
 |[],_,_,_,_,_,h=>by cases h
 |p::L,a,v,i,j,u,h=>by
  rw [found] at h
  rw [dn]
  split at h
  ·rename_i hq
   rw [if_pos hq]
   simp only [Option.some.injEq,Prod.mk.injEq] at h
   obtain ⟨rfl,_⟩:=h
   refine ⟨Nat.le_refl _,by simp,?_⟩
   simp [bg]
  rename_i hq
  rw [if_neg hq]
  obtain ⟨h1,h2,h3⟩:=g4 (v:=v) h
  refine ⟨by omega,by simp;omega,?_⟩
  have e1:j - i=(j - (i+1))+1:=by omega
  rw [e1,bg,bg,List.set_cons_succ,List.getElem?_cons_succ,h3]
theorem jL:∀{L:List (κ×ν)} {a:κ} {v:ν} {i j:Nat} {u:Value},found q ev L a i=some (j,u)→(dn q L a v).length=L.length
 |[],_,_,_,_,_,h=>by cases h
 |p::L,a,v,i,j,u,h=>by
  rw [found] at h
  rw [dn]
  split at h
  ·rename_i hq;rw [if_pos hq];rfl
  rename_i hq;rw [if_neg hq,List.length_cons,jL h,List.length_cons]
end
abbrev qI (a b:Int):Bool:=a==b
theorem jW {ν:Type} {ev:ν→Value}:∀{L:List (Int×ν)} {a:Int} {i j:Nat} {u:Value},found qI ev L a i=some (j,u)→i≤j∧(bg (Value.int .i64) ev L i)[j - i]?.map (·.key)=some (.int .i64 a)∧(bg (Value.int .i64) ev L i)[j - i]?.map (·.born)=some j
 |[],_,_,_,_,h=>by cases h
 |p::L,a,i,j,u,h=>by
  rw [found] at h
  split at h
  ·rename_i hq
   simp only [Option.some.injEq,Prod.mk.injEq] at h
   obtain ⟨rfl,_⟩:=h
   have:a=p.1:=eq_of_beq hq
   refine ⟨Nat.le_refl _,?_,?_⟩<;>simp [bg,this]
  obtain ⟨h1,h2,h3⟩:=jW h
  refine ⟨by omega,?_⟩
  have e1:j - i=(j - (i+1))+1:=by omega
  rw [e1,bg,List.getElem?_cons_succ]
  exact ⟨h2,h3⟩
section
variable {P:Program} {ν:Type} {ev:ν→Value}
theorem kM {t kt el:TypeId} (hki:P.underlying kt=some (.int .i64)) {b:Nat} {a:Int} {v:ν} {L:List (Int×ν)} {w:World} (hu:P.underlying t=some (.map kt el)) (hb:w.heap[b]?=some (a9 (Value.int .i64) ev L)):
  (Instr.mapUpdate t (.map (some b)) (.int .i64 a) (ev v)).run P w=.ok () {w with heap:=w.heap.setIfInBounds b (a9 (Value.int .i64) ev (dn qI L a v))}:=by
 have hK:cP P kt (Value.int .i64) qI:=cP.int hki
 cases hg:aG qI L a with
 |none=>rw [jK hg];exact gU hK hu hb hg
 |some z=>
  have hgo:(getObj b).run P w=.ok (a9 (Value.int .i64) ev L) w:=by simp [getObj,Sem.run,hb]
  have hf:=hK.find ev L a w
  cases hfo:found qI ev L a 0 with
  |none=>
   have:=dL (q:=qI) (ev:=ev) (L:=L) (k:=a) (i:=0)
   rw [hfo,hg] at this;cases this
  |some ju=>
   obtain ⟨j,u⟩:=ju
   rw [hfo] at hf
   obtain ⟨_,h2,h3⟩:=g4 (ek:=Value.int .i64) (v:=v) hfo
   obtain ⟨_,h4,h5⟩:=jW hfo
   have hl:=jL (v:=v) hfo
   simp only [Instr.mapUpdate,Sem.run_bind,run_underlying hu,Result.andThen_ok,hgo,hK.pR,hf]
   rw [Nat.sub_zero] at h2 h3 h4 h5
   have hjl:j<(bg (Value.int .i64) ev L 0).length:=by rw [di];exact h2
   have hst:(Instr.keyThatStays (.int .i64 a) (.int .i64 a)).run P w=.ok (.int .i64 a) w:=Go.MapKept.run_keyThatStays (d:=.int .i64) (by simp [Go.MapKept.IsKey])
   have hkey:(((bg (Value.int .i64) ev L 0).toArray[j]?).map (·.key)).getD (.int .i64 a)=.int .i64 a:=by
    rw [List.getElem?_toArray,h4];rfl
   rw [hkey,hst]
   simp only [Result.andThen_ok]
   have hmod:((bg (Value.int .i64) ev L 0).toArray.modify j fun e=>{e with key:=.int .i64 a,val:=ev v})=(bg (Value.int .i64) ev (dn qI L a v) 0).toArray:=by
    rw [←h3]
    apply Array.ext_getElem?
    intro m
    rw [Array.getElem?_modify]
    simp only [List.getElem?_toArray]
    rw [List.getElem?_set]
    rw [List.getElem?_eq_getElem hjl] at h4 h5⊢
    simp only [Option.map_some,Option.some.injEq] at h4 h5
    by_cases e:j=m
    ·subst e
     simp [hjl,h4,h5]
    simp [e]
   rw [hmod]
   simp [setObj,Sem.run,hb,a9,hl]
end
section
variable {P:Program} {r:Option Nat} {f:FuncId} {R:Value→World→Prop} {w0:World} {S:List Nat} {Y:List (Nat×Obj)} {n:Nat} {k:List Item} {l:Fl} {h:Hl}
variable {ops:Array Oper} {i d:Nat} {rest:List Nat} {ty:TypeId} {pos:String} {aft:Array Edge} {g:Option (Nat×Bool)} {ν:Type} {ev:ν→Value}
theorem aa.nH {t kt el:TypeId} (hki:P.underlying kt=some (.int .i64)) {m x y:Operand} {b:Nat} {a:Int} {v:ν} {L:List (Int×ν)} {o:Oper} (ho:ops[i]?=some o) (hop:o.op=.mapUpdate t m x y) (hdst:o.dst=none) (hw:al ops l o.guard=true)
  (hm:aA l m=some (.map (some b))) (hx:aA l x=some (.int .i64 a)) (hy:aA l y=some (ev v)) (hu:P.underlying t=some (.map kt el)) (j:Nat) (hj:h[j]?=some (some b,a9 (Value.int .i64) ev L))
  (hk:aa P r f R w0 S Y n (.inRegion ops rest::k) l (h.set j (some b,a9 (Value.int .i64) ev (dn qI L a v)))):aa P r f R w0 S Y n (.inRegion ops (i::rest)::k) l h:=
 .tP ho hw hdst (by rw [hop];rfl) (fun t' w Ds _ hF hS=>by
  have hb:=hS.get hj
  refine ⟨{w with heap:=w.heap.setIfInBounds b (a9 (Value.int .i64) ev (dn qI L a v))},_,?_,hS.gk hj (o':=a9 (Value.int .i64) ev (dn qI L a v)) rfl rfl rfl rfl (by simp) ?_ ?_,hk⟩
  ·have hrun:=kM hki (a:=a) (v:=v) hu hb
   unfold execOp
   rw [hop];simp only [hF.aA hm,hF.aA hx,hF.aA hy,Sem.run_bind,hrun];rfl
  ·have hlt:=hS.lt hj
   simp [hlt]
  intro q _ hq
  simp [Ne.symm hq])
theorem ah.qm {t kt el:TypeId} (hki:P.underlying kt=some (.int .i64)) {z:Value} {x ix:Operand} {b:Nat} {a:Int} {L:List (Int×ν)} (ho:ops[i]?=some ⟨some d,.lookup t x ix false,ty,pos,aft,g⟩) (hw:al ops l g=true)
  (hx:aA l x=some (.map (some b))) (hy:aA l ix=some (.int .i64 a)) (hd:Nat.blt d n=true) (hu:P.underlying t=some (.map kt el)) (hz:∀w,(zeroValue el).run P w=.ok z w) (hm:∀w Y',St w0 S w h Y'→w.heap[b]?=some (a9 (Value.int .i64) ev L)) {v:Value} (hv:((aG qI L a).map ev).getD z=v):
  ah P w0 S n h ops i l d v:=
 .of ho hw rfl rfl hd (fun t' w Ds Y' hF hS=>⟨.value v,by
  have hK:cP P kt (Value.int .i64) qI:=cP.int hki
  have hg:(getObj b).run P w=.ok (a9 (Value.int .i64) ev L) w:=by simp [getObj,Sem.run,hm w Y' hS]
  have hf:=hK.find ev L a w
  have e1:(found qI ev L a 0).map (·.2)=(aG qI L a).map ev:=dL
  rw [←hv]
  simp only [execOp,hF.aA hx,hF.aA hy,Sem.run_bind,Instr.lookup,run_underlying hu,Result.andThen_ok,hg,hK.pR,Sem.run_pure,hf]
  cases hfo:found qI ev L a 0 with
  |none=>
   rw [hfo] at e1
   cases ha:aG qI L a with
   |none=>simp [hz]
   |some v=>rw [ha] at e1;cases e1
  |some y=>
   rw [hfo] at e1
   cases ha:aG qI L a with
   |none=>rw [ha] at e1;cases e1
   |some v=>rw [ha] at e1;simp at e1⊢;exact e1,rfl⟩)
end
end Go.Proofs.Wit
namespace Go.Proofs.Wit
open Go Go.RowKit
structure ME where
  key:Int
  b:Nat
  cap:Nat
  f:List CD
  sp:List Value
def ME.kv (e:ME):Int×CV:=(e.key,⟨some ⟨e.b,0,none⟩,e.cap,e.f⟩)
def ME.c5 (t:TypeId) (e:ME):Option Nat×Obj:=(some e.b,eP t e.f e.sp)
structure oR (E:List ME) (x:Int) (q:Option Nat) (cap:Nat) (f:List CD) (sp:List Value) (E1 E2:List ME):Prop where
  all:(E=E1++E2∧E2=[]∧q=none∧f=[]∧cap=0∧sp=[]∧∀e∈E1,e.key≠x)∨(∃b,E=E1++⟨x,b,cap,f,sp⟩::E2∧q=some b∧∀e∈E1,e.key≠x)
theorem qd (x:Int):∀E:List ME,∃q cap f sp E1 E2,oR E x q cap f sp E1 E2
 |[]=>⟨none,0,[],[],[],[],⟨.inl ⟨rfl,rfl,rfl,rfl,rfl,rfl,fun _ h=>by cases h⟩⟩⟩
 |e::E=>by
  by_cases h:e.key=x
  ·exact ⟨some e.b,e.cap,e.f,e.sp,[],E,⟨.inr ⟨e.b,by rw [←h];rfl,rfl,fun _ h=>by cases h⟩⟩⟩
  obtain ⟨q,cap,f,sp,E1,E2,⟨hT⟩⟩:=qd x E
  refine ⟨q,cap,f,sp,e::E1,E2,⟨?_⟩⟩
  have hne:(∀e'∈E1,e'.key≠x)→∀e'∈e::E1,e'.key≠x:=fun h1 e' he=>by
   rcases List.mem_cons.1 he with rfl|he
   ·exact h
   exact h1 e' he
  rcases hT with ⟨h1,h2,h3,h4,h5,h6,h7⟩|⟨b,h1,h2,h3⟩
  ·exact .inl ⟨by rw [h1];rfl,h2,h3,h4,h5,h6,hne h7⟩
  exact .inr ⟨b,by rw [h1];rfl,h2,hne h3⟩
theorem fL {ν:Type} {x:Int}:∀{L M:List (Int×ν)},(∀p∈L,p.1≠x)→aG qI (L++M) x=aG qI M x
 |[],_,_=>rfl
 |p::L,M,h=>by
  rw [List.cons_append,aG,if_neg (by
   intro e;exact h p (List.mem_cons_self ..) (eq_of_beq e).symm),fL (fun q hq=>h q (List.mem_cons_of_mem _ hq))]
theorem fJ {ν:Type} {x:Int} {v:ν}:∀{L M:List (Int×ν)},(∀p∈L,p.1≠x)→dn qI (L++M) x v=L++dn qI M x v
 |[],_,_=>rfl
 |p::L,M,h=>by
  rw [List.cons_append,dn,if_neg (by
   intro e;exact h p (List.mem_cons_self ..) (eq_of_beq e).symm),fJ (fun q hq=>h q (List.mem_cons_of_mem _ hq))];rfl
section
variable {E E1 E2:List ME} {x:Int} {q:Option Nat} {cap:Nat} {f:List CD} {sp:List Value} {t:TypeId}
theorem lI (h:∀e∈E1,e.key≠x):∀p∈E1.map ME.kv,p.1≠x:=fun p hp=>by
 obtain ⟨e,he,rfl⟩:=List.mem_map.1 hp
 exact h e he
theorem oR.get (h:oR E x q cap f sp E1 E2):((aG qI (E.map ME.kv) x).map CV.v).getD (.slice none 0 0)=aU q f.length cap:=by
 rcases h.all with ⟨h1,h2,h3,h4,h5,h6,h7⟩|⟨b,h1,h2,h3⟩
 ·subst h2 h3 h4 h5
  rw [h1,List.append_nil,←List.append_nil (E1.map ME.kv),fL (lI h7)];rfl
 subst h2
 rw [h1,List.map_append,fL (lI h3),List.map_cons,aG]
 show (Option.map CV.v (if qI x x=true then _ else _)).getD _=_
 rw [if_pos (show qI x x=true from beq_self_eq_true x)];rfl
theorem oR.put (h:oR E x q cap f sp E1 E2) (e:ME) (he:e.key=x):dn qI (E.map ME.kv) x e.kv.2=(E1++e::E2).map ME.kv:=by
 rcases h.all with ⟨h1,h2,h3,h4,h5,h6,h7⟩|⟨b,h1,h2,h3⟩
 ·subst h2
  rw [h1,List.append_nil,←List.append_nil (E1.map ME.kv),fJ (lI h7),List.map_append]
  show _++[(x,e.kv.2)]=_++[e.kv]
  rw [←he];rfl
 rw [h1,List.map_append,fJ (lI h3),List.map_cons,dn]
 show _++(if qI x x=true then _ else _)=_
 rw [if_pos (show qI x x=true from beq_self_eq_true x),List.map_append,List.map_cons]
 show _++(x,e.kv.2)::_=_
 rw [←he];rfl
theorem oR.st (h:oR E x q cap f sp E1 E2) {w0 w:World} {S:List Nat} {Y:List (Nat×Obj)} {pre H:Hl} (s:St w0 S w (pre++(E.map (ME.c5 t)++H)) Y):St w0 S w ((q,eP t f sp)::(pre++((E1++E2).map (ME.c5 t)++H))) Y:=by
 rcases h.all with ⟨h1,h2,h3,h4,h5,h6,h7⟩|⟨b,h1,h2,h3⟩
 ·subst h3
  rw [h1] at s
  exact s.none _
 subst h2
 rw [h1] at s
 refine s.perm ?_
 rw [List.map_append,List.map_append,List.map_cons]
 show (pre++((E1.map (ME.c5 t)++((some b,eP t f sp)::E2.map (ME.c5 t)))++H)).Perm _
 rw [List.append_assoc,List.cons_append,←List.append_assoc pre,List.append_assoc (E1.map (ME.c5 t)),←List.append_assoc pre]
 exact List.perm_middle
theorem p6 {e:ME} {w0 w:World} {S:List Nat} {Y:List (Nat×Obj)} {pre H:Hl} (s:St w0 S w (e.c5 t::(pre++((E1++E2).map (ME.c5 t)++H))) Y):St w0 S w (pre++((E1++e::E2).map (ME.c5 t)++H)) Y:=by
 refine s.perm ?_
 rw [List.map_append,List.map_append,List.map_cons,List.append_assoc,List.append_assoc,List.cons_append,←List.append_assoc pre,←List.append_assoc pre]
 exact List.perm_middle.symm
end
structure mS (lc:CD→Int) (E:List ME) (bK:List CD):Prop where
  nd:(E.map ME.key).Nodup
  cap:∀e∈E,(e.f.flatMap cG++e.sp).length=e.cap*2
  mem:∀e∈E,∀p,p∈e.f↔p∈bK∧lc p=e.key
  has:∀p∈bK,∃e∈E,e.key=lc p
  len:∀e∈E,e.f.length≤bK.length
theorem mS.nil {lc:CD→Int}:mS lc [] []:=⟨List.nodup_nil,fun _ h=>by (cases h),fun _ h=>by (cases h),fun _ h=>by (cases h),fun _ h=>by (cases h)⟩
theorem oR.cap_ {lc:CD→Int} {E E1 E2:List ME} {bK:List CD} {x:Int} {q:Option Nat} {cap:Nat} {f:List CD} {sp:List Value} (h:oR E x q cap f sp E1 E2) (g:mS lc E bK):(q=none→f.length=0∧cap=0)∧(f.flatMap cG++sp).length=cap*2∧f.length≤bK.length:=by
 rcases h.all with ⟨h1,h2,h3,h4,h5,h6,h7⟩|⟨b,h1,h2,h3⟩
 ·subst h3 h4 h5 h6;exact ⟨fun _=>⟨rfl,rfl⟩,rfl,Nat.zero_le _⟩
 subst h2
 have hm:(⟨x,b,cap,f,sp⟩:ME)∈E:=by rw [h1];simp
 exact ⟨fun e=>(by cases e),g.cap _ hm,g.len _ hm⟩
theorem mS.add {lc:CD→Int} {E E1 E2:List ME} {bK:List CD} {p:CD} {q:Option Nat} {cap b' cap':Nat} {f:List CD} {sp sp':List Value} (g:mS lc E bK) (h:oR E (lc p) q cap f sp E1 E2) (hc:((f++[p]).flatMap cG++sp').length=cap'*2):mS lc (E1++⟨lc p,b',cap',f++[p],sp'⟩::E2) (bK++[p]):=by
 have hlen:=(h.cap_ g).2.2
 have sub:∀e,e∈E1∨e∈E2→e∈E:=fun e he=>by
  rcases h.all with ⟨h1,h2,_⟩|⟨b,h1,_⟩
  ·rw [h1];exact List.mem_append.2 he
  rw [h1];simp;rcases he with he|he<;>simp [he]
 have ne:∀e,e∈E1∨e∈E2→e.key≠lc p:=fun e he=>by
  rcases h.all with ⟨h1,h2,_,_,_,_,h7⟩|⟨b,h1,h2,h3⟩
  ·rcases he with he|he
   ·exact h7 e he
   ·rw [h2] at he;cases he
  rcases he with he|he
  ·exact h3 e he
  have:=g.nd
  rw [h1,List.map_append,List.map_cons] at this
  have h4:=(List.nodup_append.1 this).2.1
  intro e2
  exact (List.nodup_cons.1 h4).1 (List.mem_map.2 ⟨e,he,e2⟩)
 have fm:∀y,y∈f↔y∈bK∧lc y=lc p:=fun y=>by
  rcases h.all with ⟨h1,h2,h3,h4,h5,h6,h7⟩|⟨b,h1,h2,h3⟩
  ·subst h4 h2
   rw [List.append_nil] at h1;subst h1
   refine ⟨fun hy=>by (cases hy),fun ⟨hy,e⟩=>?_⟩
   obtain ⟨e2,he2,e3⟩:=g.has y hy
   exact absurd (e3.trans e) (h7 e2 he2)
  exact g.mem ⟨lc p,b,cap,f,sp⟩ (by rw [h1];simp) y
 have mm:∀{e:ME},e∈E1++⟨lc p,b',cap',f++[p],sp'⟩::E2→e=⟨lc p,b',cap',f++[p],sp'⟩∨(e∈E1∨e∈E2):=fun he=>by
  rcases List.mem_append.1 he with he|he
  ·exact .inr (.inl he)
  rcases List.mem_cons.1 he with he|he
  ·exact .inl he
  exact .inr (.inr he)
 refine ⟨?_,fun e he=>?_,fun e he y=>?_,fun y hy=>?_,fun e he=>?_⟩
 ·rw [List.map_append,List.map_cons]
  have hnd:(E1.map ME.key++E2.map ME.key).Nodup:=by
   rw [←List.map_append]
   have:=g.nd
   rcases h.all with ⟨h1,_⟩|⟨b,h1,_⟩
   ·rw [h1] at this;exact this
   rw [h1] at this
   exact this.sublist ((List.Sublist.append_left (List.sublist_cons_self _ _) _).map _)
  refine (List.perm_middle.nodup_iff).2 (List.nodup_cons.2 ⟨fun hm=>?_,hnd⟩)
  rw [←List.map_append] at hm
  obtain ⟨e,he,e2⟩:=List.mem_map.1 hm
  exact ne e (List.mem_append.1 he) e2
 ·rcases mm he with rfl|he
  ·exact hc
  ·exact g.cap e (sub e he)
 ·rcases mm he with rfl|he2
  ·dsimp only
   rw [List.mem_append,List.mem_append,List.mem_singleton,fm]
   constructor
   ·rintro (⟨h1,h2⟩|rfl)
    ·exact ⟨.inl h1,h2⟩
    ·exact ⟨.inr rfl,rfl⟩
   rintro ⟨h1|h1,h2⟩
   ·exact .inl ⟨h1,h2⟩
   exact .inr h1
  ·rw [g.mem e (sub e he2),List.mem_append,List.mem_singleton]
   constructor
   ·rintro ⟨h1,h2⟩;exact ⟨.inl h1,h2⟩
   rintro ⟨h1|rfl,h2⟩
   ·exact ⟨h1,h2⟩
   exact absurd h2.symm (ne e he2)
 ·rcases List.mem_append.1 hy with hy|hy
  ·obtain ⟨e,he,e2⟩:=g.has y hy
   rcases h.all with ⟨h1,h2,_⟩|⟨b,h1,_⟩
   ·subst h2;rw [List.append_nil] at h1;subst h1
    exact ⟨e,List.mem_append_left _ he,e2⟩
   rw [h1] at he
   rcases List.mem_append.1 he with he|he
   ·exact ⟨e,List.mem_append_left _ he,e2⟩
   rcases List.mem_cons.1 he with rfl|he
   ·exact ⟨_,List.mem_append_right _ (List.mem_cons_self ..),e2⟩
   exact ⟨e,List.mem_append_right _ (List.mem_cons_of_mem _ he),e2⟩
  ·rw [List.mem_singleton.1 hy];exact ⟨_,List.mem_append_right _ (List.mem_cons_self ..),rfl⟩
 rw [List.length_append]
 rcases mm he with rfl|he
 ·simp;exact hlen
 have:=g.len e (sub e he);omega
def fy (rs:List RV) (a:Nat) (p:CD):Int:=eX (dz rs p.1) p.2 a
def mO (b:Nat):Value:=.map (some b)
def mH (n f l:Int) (A:Option Addr) (m c:Nat) (Q:Option Addr) (np cp:Nat) (G:Option Addr) (ng cg:Nat):Array Value:=#[.int .i64 n,.int .i64 f,.int .i64 l,.slice A m c,.slice Q np cp,.slice G ng cg]
def ia (t:TypeId) (H:Hl) (b:Nat) (lc:CD→Int) (bK:List CD):Prop:=∃E:List ME,(some b,a9 (Value.int .i64) CV.v (E.map ME.kv))∈H∧(∀e∈E,e.c5 t∈H)∧mS lc E bK
theorem ia.mono {t:TypeId} {H H':Hl} {b:Nat} {lc:CD→Int} {bK:List CD} (h:ia t H b lc bK) (hs:H⊆H'):ia t H' b lc bK:=by
 obtain ⟨E,h1,h2,h3⟩:=h
 exact ⟨E,hs h1,fun e he=>hs (h2 e he),h3⟩
structure oT (w:World) (tc:TypeId) (bc:Nat) (n f l:Nat) (A:Option Addr) (c:Nat) (rs:List RV):Prop where
  all:∃(Q:Option Addr) (cp:Nat) (G:Option Addr) (cg:Nat) (ms:List Nat) (bK:List CD),w.heap[bc]?=some (.cells (mH n f l A rs.length c Q bK.length cp G n cg) tc (0,0))∧gw w A rs∧CA w Q bK∧(∀p,p∈bK↔p.1<rs.length∧p.2<l)∧bK.length≤400∧ms.length=n∧Sl w G (ms.map mO)∧
    ∀a (ha:a<ms.length),∃E:List ME,w.heap[ms[a]]?=some (a9 (Value.int .i64) CV.v (E.map ME.kv))∧mS (fy rs a) E bK∧∀e∈E,CA w (some ⟨e.b,0,none⟩) e.f
theorem Ex.dR {w w':World} (e:Ex [] w w') {b:Nat} {o:Obj} (h:w.heap[b]?=some o):w'.heap[b]?=some o:=by
 rw [e.block b (Array.getElem?_eq_some_iff.1 h).1 (by simp)];exact h
theorem oT.a8 {w w':World} {tc:TypeId} {bc n f l:Nat} {A:Option Addr} {c:Nat} {rs:List RV} (h:oT w tc bc n f l A c rs) (e:Ex [] w w'):oT w' tc bc n f l A c rs:=by
 obtain ⟨Q,cp,G,cg,ms,bK,h1,h2,h3,h4,h5,h6,h7,h8⟩:=h.all
 exact ⟨Q,cp,G,cg,ms,bK,e.dR h1,h2.a8 e,h3.a8 e,h4,h5,h6,Sl.ex h7 e (by simp),fun a ha=>by
  obtain ⟨E,k1,k2,k3⟩:=h8 a ha
  exact ⟨E,e.dR k1,k2,fun x hx=>(k3 x hx).a8 e⟩⟩
theorem ia.at {t:TypeId} {w0 w:World} {S:List Nat} {h:Hl} {Y:List (Nat×Obj)} {b:Nat} {lc:CD→Int} {bK:List CD} (g:ia t h b lc bK) (s:St w0 S w h Y):∃E:List ME,w.heap[b]?=some (a9 (Value.int .i64) CV.v (E.map ME.kv))∧mS lc E bK∧∀e∈E,CA w (some ⟨e.b,0,none⟩) e.f:=by
 obtain ⟨E,h1,h2,h3⟩:=g
 obtain ⟨j,hj⟩:=List.getElem?_of_mem h1
 refine ⟨E,s.get hj,h3,fun e he=>?_⟩
 obtain ⟨j2,hj2⟩:=List.getElem?_of_mem (h2 e he)
 exact ⟨Sl.c5 (s.get hj2)⟩
def lp (tc tp tm:TypeId) (H:Hl) (bc:Nat) (n f l:Nat) (A:Option Addr) (c:Nat) (rs:List RV):Prop:=
 ∃(bp cp:Nat) (q:Option Nat) (cg:Nat) (ms:List Nat) (bK:List CD) (spp sps:List Value),(some bc,.cells (mH n f l A rs.length c (some ⟨bp,0,none⟩) bK.length cp (q.map (fun b=>⟨b,0,none⟩)) n cg) tc (0,0))∈H∧(some bp,eP tp bK spp)∈H∧(∀p,p∈bK↔p.1<rs.length∧p.2<l)∧bK.length≤400∧ms.length=n∧(q=none→ms=[])∧(q,ob mO tm ms sps)∈H∧∀a (ha:a<ms.length),ia tp H ms[a] (fy rs a) bK
theorem lp.mono {tc tp tm:TypeId} {H H':Hl} {bc n f l:Nat} {A:Option Addr} {c:Nat} {rs:List RV} (h:lp tc tp tm H bc n f l A c rs) (hs:H⊆H'):lp tc tp tm H' bc n f l A c rs:=by
 obtain ⟨bp,cp,q,cg,ms,bK,spp,sps,h1,h2,h3,h4,h5,h6,h7,h8⟩:=h
 exact ⟨bp,cp,q,cg,ms,bK,spp,sps,hs h1,hs h2,h3,h4,h5,h6,hs h7,fun a ha=>(h8 a ha).mono hs⟩
theorem lp.at {tc tp tm:TypeId} {w0 w:World} {S:List Nat} {h:Hl} {Y:List (Nat×Obj)} {bc n f l:Nat} {A:Option Addr} {c:Nat} {rs:List RV} (g:lp tc tp tm h bc n f l A c rs) (s:St w0 S w h Y) (hA:gw w A rs):oT w tc bc n f l A c rs:=by
 obtain ⟨bp,cp,q,cg,ms,bK,spp,sps,h1,h2,h3,h4,h5,h6,h7,h8⟩:=g
 obtain ⟨j1,hj1⟩:=List.getElem?_of_mem h1
 obtain ⟨j2,hj2⟩:=List.getElem?_of_mem h2
 obtain ⟨j7,hj7⟩:=List.getElem?_of_mem h7
 refine ⟨some ⟨bp,0,none⟩,cp,q.map (fun b=>⟨b,0,none⟩),cg,ms,bK,s.get hj1,hA,⟨Sl.c5 (s.get hj2)⟩,h3,h4,h5,?_,fun a ha=>(h8 a ha).at s⟩
 cases hq:q with
 |none=>rw [h6 hq];exact Sl.nil _ _
 |some b=>rw [hq] at hj7;exact Sl.c5 (s.get hj7)
end Go.Proofs.Wit
namespace Go.Proofs.Wit
open Go Go.RowKit
section
variable {l:Int} {b:List NV} {L:List SD}
end
section
variable {P:Program} {tn tw tl:TypeId} {ef:Bool→Value} {bw:Nat} {Γ:List FV} {σ:Sg} {s:Ws}
variable {r:Option Nat} {f:FuncId} {R:Value→World→Prop} {w0:World} {S:List Nat} {Y:List (Nat×Obj)} {n:Nat} {k:List Item} {l:Fl} {ops:Array Oper} {i d:Nat} {rest:List Nat} {ty:TypeId} {pos:String} {aft:Array Edge} {g:Option (Nat×Bool)}
variable {az:Array Operand} {ts:Array TypeId} {cal:Operand} {gf:FuncId} {vs:List Value}
theorem aa.rf {h h':Hl} (hm:∀w Y',St w0 S w h Y'→St w0 S w h' Y') (hg:aa P r f R w0 S Y n k l h'):aa P r f R w0 S Y n k l h:=fun t w Ds hF hS=>hg t w Ds hF (hm w _ hS)
end
end Go.Proofs.Wit
