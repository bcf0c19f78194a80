/- Laws of walks, for any program, under the conditions that each theorem states. -/
import Derived.Test.YtnfmegcknckahaaGreatDoorXO34
namespace Go.Proofs.Wit
open Go Go.RowKit
def uv (c:Bool) (s:List Bool) (fr:List Int):List Bool:=fr.foldl (fun s j=>s.set j.toNat (sB s j.toNat||c)) s
theorem Az {s:List Bool} {i j:Nat} {v:Bool} (hi:i<s.length):sB (s.set i v) j=if j=i then v else sB s j:=by
 unfold sB
 rw [List.getD_eq_getElem?_getD,List.getD_eq_getElem?_getD,List.getElem?_set]
 by_cases e:i=j
 ·subst e;simp [hi]
 rw [if_neg e,if_neg (fun h=>e h.symm)]
theorem rN {c:Bool}:∀{fr:List Int} {s:List Bool},(uv c s fr).length=s.length
 |[],_=>rfl
 |j::fr,s=>by
  show (uv c _ fr).length=_
  rw [rN,List.length_set]
theorem yx {c:Bool} {s:List Bool} {fr:List Int} {j:Int}:uv c s (fr++[j])=(uv c s fr).set j.toNat (sB (uv c s fr) j.toNat||c):=by
 unfold uv;rw [List.foldl_append];rfl
theorem ui {c:Bool} {k:Nat}:∀{fr:List Int} {s:List Bool},(∀j∈fr,0≤j∧j<s.length)→sB (uv c s fr) k=(sB s k||(c && decide ((k:Int)∈fr)))
 |[],s,_=>by simp [uv]
 |j::fr,s,h=>by
  obtain ⟨h1,h2⟩:=h j (List.mem_cons_self ..)
  have e:uv c s (j::fr)=uv c (s.set j.toNat (sB s j.toNat||c)) fr:=rfl
  rw [e,ui (fun i hi=>by rw [List.length_set];exact h i (List.mem_cons_of_mem _ hi)),Az (by omega)]
  by_cases ek:k=j.toNat
  ·have:(k:Int)=j:=by omega
   rw [if_pos ek,←ek]
   simp [this]
   cases sB s k<;>cases c<;>simp
  have:(k:Int)≠j:=by omega
  rw [if_neg ek]
  simp [this]
section
variable {l:Int} {b:List NV} {ss:List SD} {s:List Bool} {i k:Nat}
structure zI (ss:List SD) (i:Nat) (s:List Bool):Prop where
  len:s.length=ss.length
  Bd:∀j,j<ss.length→(sB s j=true↔(j+1=ss.length∨∃k,∃hk:k<ss.length,ss.length≤k+i∧zX ss k∧(j:Int)∈ss[k].fr))
theorem zI.init (h0:0<ss.length):zI ss 0 ((List.replicate ss.length false).set (ss.length - 1) true):=by
 refine ⟨by simp,fun j hj=>?_⟩
 rw [rE (by simp;omega)]
 constructor
 ·intro h
  by_cases e:j=ss.length - 1
  ·exact .inl (by omega)
  rw [if_neg e] at h
  simp [sB,List.getD_eq_getElem?_getD,hj] at h
 rintro (h|⟨k,hk,h1,_⟩)
 ·rw [if_pos (by omega)]
 omega
theorem zI.nd (h:zI ss i s) (hf:∀(k:Nat) (hk:k<ss.length),∀j∈ss[k].fr,0≤j∧j<k) (hk:k+1+i=ss.length):sB s k=true↔zX ss k:=by
 rw [h.Bd k (by omega)]
 constructor
 ·rintro (h1|⟨q,hq,_,h2,h3⟩)
  ·exact .last h1
  ·exact .fr hq h2 h3
 intro hn
 cases hn with
 |last e=>exact .inl e
 |@fr q _ hq hn hm=>exact .inr ⟨q,hq,by have:=hf q hq _ hm;omega,hn,hm⟩
theorem zI.step (h:zI ss i s) (hf:∀(k:Nat) (hk:k<ss.length),∀j∈ss[k].fr,0≤j∧j<k) (hk:k+1+i=ss.length):zI ss (i+1) (uv (sB s k) s (ss[k]'(by omega)).fr):=by
 have hkl:k<ss.length:=by omega
 have hnd:=h.nd hf hk
 refine ⟨by rw [rN];exact h.len,fun j hj=>?_⟩
 rw [ui (fun q hq=>by have:=hf k hkl q hq;rw [h.len];omega),Bool.or_eq_true,h.Bd j hj,Bool.and_eq_true,decide_eq_true_eq,hnd]
 constructor
 ·rintro ((h1|⟨q,hq,h1,h2⟩)|⟨h1,h2⟩)
  ·exact .inl h1
  ·exact .inr ⟨q,hq,by omega,h2⟩
  ·exact .inr ⟨k,hkl,by omega,h1,h2⟩
 rintro (h1|⟨q,hq,h1,h2,h3⟩)
 ·exact .inl (.inl h1)
 by_cases e:q=k
 ·subst e;exact .inr ⟨h2,h3⟩
 exact .inl (.inr ⟨q,hq,by omega,h2,h3⟩)
theorem zI.done (h:zI ss ss.length s) {j:Nat} (hj:j<ss.length):sB s j=dO ss j:=by
 have key:sB s j=true↔zX ss j:=by
  rw [h.Bd j hj]
  constructor
  ·rintro (h1|⟨q,hq,_,h2,h3⟩)
   ·exact .last h1
   ·exact .fr hq h2 h3
  intro hn
  cases hn with
  |last e=>exact .inl e
  |@fr q _ hq hn hm=>exact .inr ⟨q,hq,by omega,hn,hm⟩
 cases h1:dO ss j with
 |true=>exact key.2 (ic.1 h1)
 |false=>
  cases h2:sB s j with
  |false=>rfl
  |true=>rw [ic.2 (key.1 h2)] at h1;cases h1
noncomputable def iC (ss:List SD) (i:Nat):List Int:=(List.range ss.length).map (fun j=>if j<i∧dO ss j=true then (bJ (dO ss) j:Int) else 0)
theorem sT:(iC ss i).length=ss.length:=by simp [iC]
theorem wt:iC ss 0=List.replicate ss.length 0:=by
 apply List.ext_getElem (by simp [iC])
 intro j h1 h2
 simp [iC]
theorem wu (h:dO ss i=false):iC ss (i+1)=iC ss i:=by
 apply List.ext_getElem (by simp [iC])
 intro j h1 h2
 simp only [iC,List.getElem_map,List.getElem_range]
 by_cases e:j=i
 ·subst e;simp [h]
 have:j<i+1↔j<i:=by omega
 simp only [this]
theorem xX (h:dO ss i=true):(iC ss i).set i (bJ (dO ss) i:Int)=iC ss (i+1):=by
 apply List.ext_getElem (by simp [iC])
 intro j h1 h2
 rw [List.getElem_set]
 simp only [iC,List.getElem_map,List.getElem_range]
 by_cases e:i=j
 ·subst e;rw [if_pos rfl,if_pos ⟨by omega,h⟩]
 rw [if_neg e]
 have:j<i+1↔j<i:=by omega
 simp only [this]
theorem xY {y:Nat} (hy:y<i) (hi:i≤ss.length) (hn:zX ss y):(iC ss i).getD y 0=(bJ (dO ss) y:Int):=by
 unfold iC
 rw [List.getD_eq_getElem?_getD,List.getElem?_map,List.getElem?_range (by omega)]
 show (if _ then _ else _)=_
 rw [if_pos ⟨by omega,ic.2 hn⟩]
end
noncomputable def tW (ss:List SD) (fr:List Int) (q:Nat):List Int:=(fr.take q).map (fun j=>((bJ (dO ss) j.toNat:Nat):Int))++fr.drop q
theorem xT {ss:List SD} {fr:List Int}:tW ss fr 0=fr:=by simp [tW]
theorem AD {ss:List SD} {fr:List Int}:tW ss fr fr.length=fr.map (fun j=>((bJ (dO ss) j.toNat:Nat):Int)):=by simp [tW]
theorem AB {ss:List SD} {fr:List Int} {q:Nat}:(tW ss fr q).length=fr.length:=by simp [tW];omega
theorem CS {ss:List SD} {fr:List Int} {q:Nat} (hq:q<fr.length):(tW ss fr q).getD q 0=fr[q]:=by
 unfold tW
 rw [List.getD_eq_getElem?_getD,List.getElem?_append_right (by simp;omega)]
 have:q - ((fr.take q).map (fun j=>((bJ (dO ss) j.toNat:Nat):Int))).length=0:=by simp;omega
 rw [this];simp [hq]
theorem AA {ss:List SD} {fr:List Int} {q:Nat} (hq:q<fr.length):(tW ss fr q).set q ((bJ (dO ss) fr[q].toNat:Nat):Int)=tW ss fr (q+1):=by
 unfold tW
 have hl:((fr.take q).map (fun j=>((bJ (dO ss) j.toNat:Nat):Int))).length=q:=by simp;omega
 rw [List.set_append_right _ _ (by omega),hl,Nat.sub_self,List.drop_eq_getElem_cons hq,List.set_cons_zero,List.take_succ_eq_append_getElem hq,List.map_append]
 simp
def lX (e:TypeId) (ss:List SV) (sp:List Value):Obj:=.cells (ss.flatMap SV.cells++sp).toArray e (0,0)
theorem FC {ss:List SV}:(ss.flatMap SV.cells).length=ss.length*5:=aD (enc:=SV.cells) (sz:=5) (fun _=>rfl)
def SV.sy (t:TypeId) (H:Hl) (x:SV):Prop:=∃q sp,(q,ob bK t x.d.fr sp)∈H∧x.fa=q.map (fun b=>⟨b,0,none⟩)∧(q=none→x.d.fr.length=0)
theorem SV.sy.mono {t:TypeId} {H H':Hl} {x:SV} (h:x.sy t H) (hs:H⊆H'):x.sy t H':=by
 obtain ⟨q,sp,h1,h2,h3⟩:=h
 exact ⟨q,sp,hs h1,h2,h3⟩
theorem SV.sy.at {t:TypeId} {w0 w:World} {S:List Nat} {h:Hl} {Y:List (Nat×Obj)} {x:SV} (g:x.sy t h) (s:St w0 S w h Y):jU w x.fa x.d.fr:=by
 obtain ⟨q,sp,h1,h2,h3⟩:=g
 obtain ⟨j,hj⟩:=List.getElem?_of_mem h1
 rw [h2]
 cases q with
 |none=>rw [List.eq_nil_of_length_eq_zero (h3 rfl)];exact Sl.nil _ _
 |some b=>exact Sl.dg (s.get hj)
theorem B3 {w0 w:World} {S:List Nat} {h:Hl} {Y:List (Nat×Obj)} (s:St w0 S w h Y) (j:Nat) {q:Option Nat} {ss:List SV} {e:TypeId} {sp:List Value} (hj:h[j]?=some (q,lX e ss sp)) (hq:q=none→ss.length=0)
  {t:TypeId} (hin:∀x∈ss,x.sy t h∧x.d.fr.length≤maxLen):zJ w (q.map (fun b=>⟨b,0,none⟩)) ss:=by
 refine ⟨?_,fun x hx=>⟨(hin x hx).1.at s,(hin x hx).2⟩⟩
 cases q with
 |none=>rw [List.eq_nil_of_length_eq_zero (hq rfl)];exact Sl.nil _ _
 |some b=>exact Sl.dg (s.get hj)
theorem St.pick {w0 w:World} {S:List Nat} {pre pre':Hl} {Y:List (Nat×Obj)} (s:St w0 S w pre Y) (is:List Nat) (hn:is.Nodup) (e:is.map (fun i=>pre[i]?)=pre'.map some):St w0 S w pre' Y:=by
 have:=St.aT (pre:=pre) (pre':=pre') (HR:=[]) (by rw [List.append_nil];exact s) is hn e
 rwa [List.append_nil] at this
theorem Gt {w0 w:World} {S:List Nat} {h:Hl} {Y:List (Nat×Obj)} (s:St w0 S w h Y) (j:Nat) {q:Option Nat} {xs:List ax} {e:TypeId} {sp:List Value} (hj:h[j]?=some (q,ob U e xs sp)) (hq:q=none→xs.length=0):xg w (q.map (fun b=>⟨b,0,none⟩)) xs:=by
 cases q with
 |none=>rw [List.eq_nil_of_length_eq_zero (hq rfl)];exact Sl.nil _ _
 |some b=>exact Sl.dg (s.get hj)
section
variable {P:Program} {r:Option Nat} {f:FuncId} {R:Value→World→Prop} {w0:World} {S:List Nat} {Y:List (Nat×Obj)} {n:Nat} {k:List Item} {l:Fl} {h:Hl}
variable {ops:Array Oper} {i d:Nat} {rest:List Nat} {ty:TypeId} {pos:String} {aft:Array Edge} {g:Option (Nat×Bool)}
theorem pW {ss:List SV} {x:SV}:(ss++[x]).flatMap SV.cells=ss.flatMap SV.cells++SV.cells x:=by simp
theorem ab.Co {t e:TypeId} {x y:Operand} {inf:TypeInfo} {z:Value} {q:Option Nat} {ss:List SV} {sp:List Value} {cap:Nat} {bn:Nat} {nl:SV} {en:TypeId} {frn:Nat×Nat}
  (ho:ops[i]?=some ⟨some d,.call ⟨.builtin .append,#[x,y],#[t,t]⟩,ty,pos,aft,g⟩) (hw:au ops l g=true) (hx:aU l x=some (cK q ss.length cap)) (hy:aU l y=some (.slice (some ⟨bn,0,none⟩) 1 1)) (hd:Nat.blt d n=true)
  (hu:P.underlying t=some (.slice e)) (hi:P.info? e=some inf) (hz:inf.zero=some z) (hsz:inf.size=5) (hz1:z.cells.size=5)
  (hq:q=none→ss.length=0∧cap=0) (j:Nat) (hj:h[j]?=some (q,lX e ss sp)) (jn:Nat) (hjn:h[jn]?=some (some bn,.cells (SV.cells nl++[]).toArray en frn))
  (ao:(ss.flatMap SV.cells++sp).length=cap*5) (hmx:ss.length+1≤maxLen) (hbytes:(ss.length+1)*inf.bytes≤140737488355328)
  (hk:∀b' sp' cap',((ss++[nl]).flatMap SV.cells++sp').length=cap'*5→ab P r f R w0 S Y n (.inRegion ops rest::k) ((d,cK (some b') (ss++[nl]).length cap')::l) (h.set j (some b',lX e (ss++[nl]) sp'))):ab P r f R w0 S Y n (.inRegion ops (i::rest)::k) l h:=
 .app 5 (xs:=ss.flatMap SV.cells) (sp:=sp) (nx:=ss.length) (q:=q) (news:=SV.cells nl) (spn:=[]) ho hw hx hy hd hu hi hz hsz hz1 hq j hj jn hjn FC ao rfl (by decide) (fun u hu=>by
  simp only [SV.cells,List.mem_cons,List.not_mem_nil,or_false] at hu
  rcases hu with rfl|rfl|rfl|rfl|rfl<;>rfl) hmx hbytes (fun b' sp' cap' hlen=>by
  have:=hk b' sp' cap' (by rw [pW];exact hlen)
  rw [List.length_append,List.length_singleton,lX,pW] at this
  exact this)
end
def Gb (tn ts ti:TypeId) (w w':World) (l:Int) (b:List NV) (v u:Value) (os ws:List SV):Prop:=
 ∃(qa qo qw:Option Nat) (ca co cw:Nat) (spa spo spw:List Value) (H:Hl),v=.agg (cn l (qa.map (fun b=>⟨b,0,none⟩)) b.length ca (qo.map (fun b=>⟨b,0,none⟩)) os.length co)∧u=cK qw ws.length cw∧
  (qa=none→b.length=0)∧(qo=none→os.length=0)∧(qw=none→ws.length=0)∧gm w w' ((qa,eO tn b spa)::(qo,lX ts os spo)::(qw,lX ts ws spw)::H)∧∀x∈os,x.sy ti H∧x.d.fr.length≤maxLen
end Go.Proofs.Wit
