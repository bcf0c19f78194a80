/- Laws of walks, for any program, under the conditions that each theorem states. -/
import Derived.Test.YtaamcaiglooemaaGreatDoorXF32
import Derived.Test.YtaamcaiglooemaaGreatDoorXF29
set_option maxRecDepth 100000
set_option maxHeartbeats 4000000
namespace Go.Proofs.Wit
open Go Go.RowKit
section
variable {b:List NV} {s:aE} {ag:Int} {n:Nat}
theorem Dd {i:Nat} (hi:i<b.length) (h1:s.getLsbD i=true) (h2:(nd b i).op=9) (h3:(nd b i).i=ag) (h4:(nd b i).x=n) (hf:∀j,j<i→s.getLsbD j=true→(nd b j).op=9→(nd b j).i=ag→(nd b j).x≠n):fU b s ag n=i:=by
 rcases fT (b:=b) (s:=s) (ag:=ag) (n:=n) with ⟨j,g1,g2,g3,g4,g5,g6,g7⟩|⟨_,g2⟩;rw [g1];by_cases e:j=i;exact e;by_cases hlt:j<i;exact absurd g6 (hf j hlt g3 g4 g5);exact absurd h4 (g7 i (by omega) h1 h2 h3);exact absurd h4 (g2 i hi h1 h2 h3)
theorem Db (hf:∀j,j<b.length→s.getLsbD j=true→(nd b j).op=9→(nd b j).i=ag→(nd b j).x≠n):fU b s ag n=n:=by
 rcases fT (b:=b) (s:=s) (ag:=ag) (n:=n) with ⟨j,_,g2,g3,g4,g5,g6,_⟩|⟨g1,_⟩;exact absurd g6 (hf j g2 g3 g4 g5);exact g1
theorem Ga {k m:Nat} (hk:k<(ew s).length) (hm:m<(ew s).length) (h:k<m):(ew s)[k]<(ew s)[m]:=by
 have:(ew s).Pairwise (·<·):=List.Pairwise.filter _ List.pairwise_lt_range;exact List.pairwise_iff_getElem.1 this k m hk hm h
theorem wI {k j:Nat} (hk:k<(ew s).length) (hj:s.getLsbD j=true) (h:j<(ew s)[k]):∃(m:Nat) (hm:m<(ew s).length),m<k∧(ew s)[m]=j:=by
 obtain ⟨m,hm,e⟩:=List.mem_iff_getElem.1 (dz.2 hj);refine ⟨m,hm,?_,e⟩;rcases Nat.lt_trichotomy m k with h1|h1|h1;exact h1;subst h1;omega;have:=Ga hk hm h1;omega
def yV (b:List NV) (ag:Int) (n:Nat) (j:Nat):Prop:=(nd b j).op=9→(nd b j).i=ag→(nd b j).x≠n
end
def wO (c:Bool) (s:List Bool) (fr:List Int):List Bool:=fr.foldl (fun s j=>s.set j.toNat (sB s j.toNat||c)) s
theorem Dh {s:List Bool} {i j:Nat} {v:Bool} (hi:i<s.length):sB (s.set i v) j=if j=i then v else sB s j:=by
 unfold sB;rw [List.getD_eq_getElem?_getD,List.getD_eq_getElem?_getD,List.getElem?_set];by_cases e:i=j;subst e;simp [hi];rw [if_neg e,if_neg (fun h=>e h.symm)]
theorem ui {c:Bool}:∀{fr:List Int} {s:List Bool},(wO c s fr).length=s.length
 |[],_=>rfl
 |j::fr,s=>by
  show (wO c _ fr).length=_;rw [ui,List.length_set]
theorem A6 {c:Bool} {s:List Bool} {fr:List Int} {j:Int}:wO c s (fr++[j])=(wO c s fr).set j.toNat (sB (wO c s fr) j.toNat||c):=by
 unfold wO;rw [List.foldl_append];rfl
theorem wF {c:Bool} {k:Nat}:∀{fr:List Int} {s:List Bool},(∀j∈fr,0≤j∧j<s.length)→sB (wO c s fr) k=(sB s k||(c && decide ((k:Int)∈fr)))
 |[],s,_=>by simp [wO]
 |j::fr,s,h=>by
  obtain ⟨h1,h2⟩:=h j (List.mem_cons_self ..);have e:wO c s (j::fr)=wO c (s.set j.toNat (sB s j.toNat||c)) fr:=rfl;rw [e,wF (fun i hi=>by rw [List.length_set];exact h i (List.mem_cons_of_mem _ hi)),Dh (by omega)];by_cases ek:k=j.toNat;have:(k:Int)=j:=by omega
  rw [if_pos ek,←ek];simp [this];cases sB s k<;>cases c<;>simp
  have:(k:Int)≠j:=by omega
  rw [if_neg ek];simp [this]
section
variable {l:Int} {b:List NV} {ss:List SD} {s:List Bool} {i k:Nat}
structure Cv (ss:List SD) (i:Nat) (s:List Bool):Prop where
  len:s.length=ss.length
  DZ:∀j,j<ss.length→(sB s j=true↔(j+1=ss.length∨∃k,∃hk:k<ss.length,ss.length≤k+i∧CM ss k∧(j:Int)∈ss[k].fr))
theorem Cv.init (h0:0<ss.length):Cv ss 0 ((List.replicate ss.length false).set (ss.length - 1) true):=by
 refine ⟨by simp,fun j hj=>?_⟩;rw [qV (by simp;omega)];constructor;intro h;by_cases e:j=ss.length - 1;exact .inl (by omega);rw [if_neg e] at h;simp [sB,List.getD_eq_getElem?_getD,hj] at h;rintro (h|⟨k,hk,h1,_⟩);rw [if_pos (by omega)];omega
theorem Cv.nd (h:Cv ss i s) (hf:∀(k:Nat) (hk:k<ss.length),∀j∈ss[k].fr,0≤j∧j<k) (hk:k+1+i=ss.length):sB s k=true↔CM ss k:=by
 rw [h.DZ k (by omega)];constructor;rintro (h1|⟨q,hq,_,h2,h3⟩);exact .last h1;exact .fr hq h2 h3;intro hn;cases hn with
 |last e=>exact .inl e
 |@fr q _ hq hn hm=>exact .inr ⟨q,hq,by have:=hf q hq _ hm;omega,hn,hm⟩
theorem Cv.step (h:Cv ss i s) (hf:∀(k:Nat) (hk:k<ss.length),∀j∈ss[k].fr,0≤j∧j<k) (hk:k+1+i=ss.length):Cv ss (i+1) (wO (sB s k) s (ss[k]'(by omega)).fr):=by
 have hkl:k<ss.length:=by omega
 have hnd:=h.nd hf hk;refine ⟨by rw [ui];exact h.len,fun j hj=>?_⟩;rw [wF (fun q hq=>by have:=hf k hkl q hq;rw [h.len];omega),Bool.or_eq_true,h.DZ j hj,Bool.and_eq_true,decide_eq_true_eq,hnd];constructor;rintro ((h1|⟨q,hq,h1,h2⟩)|⟨h1,h2⟩);exact .inl h1;exact .inr ⟨q,hq,by omega,h2⟩;exact .inr ⟨k,hkl,by omega,h1,h2⟩;rintro (h1|⟨q,hq,h1,h2,h3⟩);exact .inl (.inl h1);by_cases e:q=k;subst e;exact .inr ⟨h2,h3⟩;exact .inl (.inr ⟨q,hq,by omega,h2,h3⟩)
theorem Cv.done (h:Cv ss ss.length s) {j:Nat} (hj:j<ss.length):sB s j=dW ss j:=by
 have key:sB s j=true↔CM ss j:=by
  rw [h.DZ j hj];constructor;rintro (h1|⟨q,hq,_,h2,h3⟩);exact .last h1;exact .fr hq h2 h3;intro hn;cases hn with
  |last e=>exact .inl e
  |@fr q _ hq hn hm=>exact .inr ⟨q,hq,by omega,hn,hm⟩
 cases h1:dW ss j with
 |true=>exact key.2 (iR.1 h1)
 |false=>
  cases h2:sB s j with
  |false=>rfl
  |true=>rw [iR.2 (key.1 h2)] at h1;cases h1
noncomputable def jg (ss:List SD) (i:Nat):List Int:=(List.range ss.length).map (fun j=>if j<i∧dW ss j=true then (cu (dW ss) j:Int) else 0)
theorem vq:(jg ss i).length=ss.length:=by simp [jg]
theorem zj:jg ss 0=List.replicate ss.length 0:=by
 apply List.ext_getElem (by simp [jg]);intro j h1 h2;simp [jg]
theorem zk (h:dW ss i=false):jg ss (i+1)=jg ss i:=by
 apply List.ext_getElem (by simp [jg]);intro j h1 h2;simp only [jg,List.getElem_map,List.getElem_range];by_cases e:j=i;subst e;simp [h];have:j<i+1↔j<i:=by omega
 simp only [this]
theorem AJ (h:dW ss i=true):(jg ss i).set i (cu (dW ss) i:Int)=jg ss (i+1):=by
 apply List.ext_getElem (by simp [jg]);intro j h1 h2;rw [List.getElem_set];simp only [jg,List.getElem_map,List.getElem_range];by_cases e:i=j;subst e;rw [if_pos rfl,if_pos ⟨by omega,h⟩];rw [if_neg e];have:j<i+1↔j<i:=by omega
 simp only [this]
theorem AK {y:Nat} (hy:y<i) (hi:i≤ss.length) (hn:CM ss y):(jg ss i).getD y 0=(cu (dW ss) y:Int):=by
 unfold jg;rw [List.getD_eq_getElem?_getD,List.getElem?_map,List.getElem?_range (by omega)];show (if _ then _ else _)=_;rw [if_pos ⟨by omega,iR.2 hn⟩]
end
noncomputable def wk (ss:List SD) (fr:List Int) (q:Nat):List Int:=(fr.take q).map (fun j=>((cu (dW ss) j.toNat:Nat):Int))++fr.drop q
theorem AB {ss:List SD} {fr:List Int}:wk ss fr 0=fr:=by simp [wk]
theorem Dl {ss:List SD} {fr:List Int}:wk ss fr fr.length=fr.map (fun j=>((cu (dW ss) j.toNat:Nat):Int)):=by simp [wk]
theorem Dk {ss:List SD} {fr:List Int} {q:Nat}:(wk ss fr q).length=fr.length:=by simp [wk];omega
theorem F9 {ss:List SD} {fr:List Int} {q:Nat} (hq:q<fr.length):(wk ss fr q).getD q 0=fr[q]:=by
 unfold wk;rw [List.getD_eq_getElem?_getD,List.getElem?_append_right (by simp;omega)];have:q - ((fr.take q).map (fun j=>((cu (dW ss) j.toNat:Nat):Int))).length=0:=by simp;omega
 rw [this];simp [hq]
theorem Dj {ss:List SD} {fr:List Int} {q:Nat} (hq:q<fr.length):(wk ss fr q).set q ((cu (dW ss) fr[q].toNat:Nat):Int)=wk ss fr (q+1):=by
 unfold wk;have hl:((fr.take q).map (fun j=>((cu (dW ss) j.toNat:Nat):Int))).length=q:=by simp;omega
 rw [List.set_append_right _ _ (by omega),hl,Nat.sub_self,List.drop_eq_getElem_cons hq,List.set_cons_zero,List.take_succ_eq_append_getElem hq,List.map_append];simp
def np (e:TypeId) (ss:List SV) (sp:List Value):Obj:=.cells (ss.flatMap SV.cells++sp).toArray e (0,0)
theorem Jf {ss:List SV}:(ss.flatMap SV.cells).length=ss.length*5:=al (enc:=SV.cells) (sz:=5) (fun _=>rfl)
def SV.se (t:TypeId) (H:Hl) (x:SV):Prop:=∃q sp,(q,ob aQ t x.d.fr sp)∈H∧x.fa=q.map (fun b=>⟨b,0,none⟩)∧(q=none→x.d.fr.length=0)
theorem SV.se.mono {t:TypeId} {H H':Hl} {x:SV} (h:x.se t H) (hs:H⊆H'):x.se t H':=by
 obtain ⟨q,sp,h1,h2,h3⟩:=h;exact ⟨q,sp,hs h1,h2,h3⟩
theorem SV.se.at {t:TypeId} {w0 w:World} {S:List Nat} {h:Hl} {Y:List (Nat×Obj)} {x:SV} (g:x.se t h) (s:St w0 S w h Y):kD w x.fa x.d.fr:=by
 obtain ⟨q,sp,h1,h2,h3⟩:=g;obtain ⟨j,hj⟩:=List.getElem?_of_mem h1;rw [h2];cases q with
 |none=>rw [List.eq_nil_of_length_eq_zero (h3 rfl)];exact Sl.nil _ _
 |some b=>exact Sl.db (s.get hj)
theorem EZ {w0 w:World} {S:List Nat} {h:Hl} {Y:List (Nat×Obj)} (s:St w0 S w h Y) (j:Nat) {q:Option Nat} {ss:List SV} {e:TypeId} {sp:List Value} (hj:h[j]?=some (q,np e ss sp)) (hq:q=none→ss.length=0)
  {t:TypeId} (hin:∀x∈ss,x.se t h∧x.d.fr.length≤maxLen):Cw w (q.map (fun b=>⟨b,0,none⟩)) ss:=by
 refine ⟨?_,fun x hx=>⟨(hin x hx).1.at s,(hin x hx).2⟩⟩;cases q with
 |none=>rw [List.eq_nil_of_length_eq_zero (hq rfl)];exact Sl.nil _ _
 |some b=>exact Sl.db (s.get hj)
theorem St.pick {w0 w:World} {S:List Nat} {pre pre':Hl} {Y:List (Nat×Obj)} (s:St w0 S w pre Y) (is:List Nat) (hn:is.Nodup) (e:is.map (fun i=>pre[i]?)=pre'.map some):St w0 S w pre' Y:=by
 have:=St.eD (pre:=pre) (pre':=pre') (HR:=[]) (by rw [List.append_nil];exact s) is hn e;rwa [List.append_nil] at this
theorem J3 {w0 w:World} {S:List Nat} {h:Hl} {Y:List (Nat×Obj)} (s:St w0 S w h Y) (j:Nat) {q:Option Nat} {xs:List aE} {e:TypeId} {sp:List Value} (hj:h[j]?=some (q,ob U e xs sp)) (hq:q=none→xs.length=0):zU w (q.map (fun b=>⟨b,0,none⟩)) xs:=by
 cases q with
 |none=>rw [List.eq_nil_of_length_eq_zero (hq rfl)];exact Sl.nil _ _
 |some b=>exact Sl.db (s.get hj)
section
variable {P:Program} {r:Option Nat} {f:FuncId} {R:Value→World→Prop} {w0:World} {S:List Nat} {Y:List (Nat×Obj)} {n:Nat} {k:List Item} {l:Fl} {h:Hl}
variable {ops:Array Oper} {i d:Nat} {rest:List Nat} {ty:TypeId} {pos:String} {aft:Array Edge} {g:Option (Nat×Bool)}
theorem rM {ss:List SV} {x:SV}:(ss++[x]).flatMap SV.cells=ss.flatMap SV.cells++SV.cells x:=by simp
theorem ab.Ft {t e:TypeId} {x y:Operand} {inf:TypeInfo} {z:Value} {q:Option Nat} {ss:List SV} {sp:List Value} {cap:Nat} {bn:Nat} {nl:SV} {en:TypeId} {frn:Nat×Nat}
  (ho:ops[i]?=some ⟨some d,.call ⟨.builtin .append,#[x,y],#[t,t]⟩,ty,pos,aft,g⟩) (hw:aq ops l g=true) (hx:aM l x=some (br q ss.length cap)) (hy:aM l y=some (.slice (some ⟨bn,0,none⟩) 1 1)) (hd:Nat.blt d n=true)
  (hu:P.underlying t=some (.slice e)) (hi:P.info? e=some inf) (hz:inf.zero=some z) (hsz:inf.size=5) (hz1:z.cells.size=5)
  (hq:q=none→ss.length=0∧cap=0) (j:Nat) (hj:h[j]?=some (q,np e ss sp)) (jn:Nat) (hjn:h[jn]?=some (some bn,.cells (SV.cells nl++[]).toArray en frn))
  (aj:(ss.flatMap SV.cells++sp).length=cap*5) (hmx:ss.length+1≤maxLen) (hbytes:(ss.length+1)*inf.bytes≤140737488355328)
  (hk:∀b' sp' cap',((ss++[nl]).flatMap SV.cells++sp').length=cap'*5→ab P r f R w0 S Y n (.inRegion ops rest::k) ((d,br (some b') (ss++[nl]).length cap')::l) (h.set j (some b',np e (ss++[nl]) sp'))):ab P r f R w0 S Y n (.inRegion ops (i::rest)::k) l h:=
 .app 5 (xs:=ss.flatMap SV.cells) (sp:=sp) (nx:=ss.length) (q:=q) (news:=SV.cells nl) (spn:=[]) ho hw hx hy hd hu hi hz hsz hz1 hq j hj jn hjn Jf aj rfl (by decide) (fun u hu=>by
  simp only [SV.cells,List.mem_cons,List.not_mem_nil,or_false] at hu;rcases hu with rfl|rfl|rfl|rfl|rfl<;>rfl) hmx hbytes (fun b' sp' cap' hlen=>by
  have:=hk b' sp' cap' (by rw [rM];exact hlen);rw [List.length_append,List.length_singleton,np,rM] at this;exact this)
end
def JH (tn ts ti:TypeId) (w w':World) (l:Int) (b:List NV) (v u:Value) (os ws:List SV):Prop:=
 ∃(qa qo qw:Option Nat) (ca co cw:Nat) (spa spo spw:List Value) (H:Hl),v=.agg (cK l (qa.map (fun b=>⟨b,0,none⟩)) b.length ca (qo.map (fun b=>⟨b,0,none⟩)) os.length co)∧u=br qw ws.length cw∧
  (qa=none→b.length=0)∧(qo=none→os.length=0)∧(qw=none→ws.length=0)∧fR w w' ((qa,cN tn b spa)::(qo,np ts os spo)::(qw,np ts ws spw)::H)∧∀x∈os,x.se ti H∧x.d.fr.length≤maxLen
structure Ws where
  q:Option Nat
  cap:Nat
  ls:List LV
  sp:List Value
  H:Hl
def Ia (tw tl:TypeId) (er:Value) (bw:Nat) (s:Ws):Hl:=[(some bw,.cells #[br s.q s.ls.length s.cap,er] tw (0,0)),(s.q,xY tl s.ls s.sp)]
def bX (tw tl:TypeId) (er:Value) (bw:Nat) (s:Ws):Hl:=(some bw,.cells #[br s.q s.ls.length s.cap,er] tw (0,0))::(s.q,xY tl s.ls s.sp)::s.H
theorem CQ {tw tl:TypeId} {er:Value} {bw:Nat} {s:Ws}:(Ia tw tl er bw s).Sublist (bX tw tl er bw s):=.cons_cons _ (.cons_cons _ (List.nil_sublist _))
def Ws.uS (s:Ws) (p:Option Nat×Obj):Ws:={s with H:=p::s.H}
structure eB (tn:TypeId) (Γ:List FV) (σ:Sg) (s:Ws):Prop where
  nil:s.q=none→s.ls.length=0∧s.cap=0
  cap:(s.ls.flatMap LV.cells++s.sp).length=s.cap*5
  BU:s.ls.map LV.d=σ.ls.map (fun x=>x.v.d)
  G9:s.ls.length≤400
  ctx:∀x∈Γ,x.se tn s.H∧x.f.length≤maxLen
  CH:∀x∈s.ls,x.f∈Γ
  Gk:∀x∈σ.ls,x.t.ok
section
variable {tn tw tl:TypeId} {er:Value} {bw:Nat} {Γ:List FV} {σ:Sg} {s:Ws}
theorem eB.len (h:eB tn Γ σ s):s.ls.length=σ.ls.length:=by have:=congrArg List.length h.BU;simpa using this
theorem eB.at (h:eB tn Γ σ s) {k:Nat} (hk:k<s.ls.length):s.ls[k].f.f=bT (gi σ k)∧(gi σ k).ok∧s.ls[k].f∈Γ:=by
 have hk2:k<σ.ls.length:=by rw [←h.len];exact hk
 have h1:s.ls[k].d=(σ.ls[k]).v.d:=by
  have:=congrArg (fun l=>l[k]?) h.BU;simpa [hk,hk2] using this
 have ht:gi σ k=(σ.ls[k]).t:=by simp [gi,List.getD_eq_getElem?_getD,hk2]
 refine ⟨?_,by rw [ht];exact h.Gk _ (List.getElem_mem hk2),h.CH _ (List.getElem_mem hk)⟩;rw [ht];exact congrArg LD.f h1
theorem eB.fa (h:eB tn Γ σ s) {x:FV} (hx:x∈Γ) {w0 w:World} {S:List Nat} {pre:Hl} {Y:List (Nat×Obj)} (hS:St w0 S w (pre++bX tw tl er bw s) Y):FA w x.a x.f:=
 ((h.ctx x hx).1.mono (fun _ hp=>List.mem_append_right _ (List.mem_cons_of_mem _ (List.mem_cons_of_mem _ hp)))).at hS
theorem eB.add (h:eB tn Γ σ s) {q:Option Nat} {f:List NV} {cap:Nat} {sp:List Value} (hq:q=none→f.length=0∧cap=0) (hl:f.length≤maxLen):eB tn (⟨q.map (fun b=>⟨b,0,none⟩),cap,f⟩::Γ) σ (s.uS (q,cN tn f sp)):=
 ⟨h.nil,h.cap,h.BU,h.G9,fun x hx=>by
  rcases List.mem_cons.1 hx with rfl|hx;exact ⟨⟨q,sp,List.mem_cons_self ..,rfl,fun e=>(hq e).1⟩,hl⟩;exact ⟨(h.ctx x hx).1.mono (List.subset_cons_self _ _),(h.ctx x hx).2⟩,fun x hx=>List.mem_cons_of_mem _ (h.CH x hx),h.Gk⟩
def FV.Z (x:FV):Prop:=x.f=[]→x.a=none
theorem eB.Kf (h:eB tn Γ σ s) {x:FV} (hx:x∈Γ) (hz:x.Z):x.a=none↔x.f=[]:=by
 refine ⟨fun e=>?_,hz⟩;obtain ⟨q,sp,_,h2,h3⟩:=(h.ctx x hx).1;cases q with
 |none=>exact List.eq_nil_of_length_eq_zero (h3 rfl)
 |some b=>rw [h2] at e;cases e
end
theorem fZ.stay {w0 w1:World} {h0 hR pre h1:Hl} {Y:List (Nat×Obj)} (g:fZ w0 (h0++hR)) (s:St w0 (cm h0) w1 (pre++h1) Y):fZ w1 (h1++(pre++hR)):=by
 have hap:=List.pairwise_append.1 g.apart;have hkeep:∀p∈hR,∀b,p.1=some b→w1.heap[b]?=some p.2∧b<w0.heap.size∧b∉cm h0:=fun p hp b hb=>by
  have h2:=(g.own p (List.mem_append_right _ hp) b hb).1;have hlt:=(Array.getElem?_eq_some_iff.1 h2).1;have hn:b∉cm h0:=fun hm=>by
   obtain ⟨o,ho⟩:=gu.1 hm;exact hap.2.2 _ ho p hp b rfl hb
  exact ⟨by rw [s.ext.block b hlt hn];exact h2,hlt,hn⟩
 have hs:=List.pairwise_append.1 s.apart;have hcross:∀p∈pre++h1,∀q∈hR,nR p q:=fun p hp q hq b hb hqb=>by
  obtain ⟨_,hlt,hn⟩:=hkeep q hq b hqb;rcases (s.own p hp b hb).2.2 with h|h;omega;exact hn h
 refine ⟨fun p hp b hb=>?_,?_⟩;rcases List.mem_append.1 hp with hp|hp;exact ⟨(s.own p (List.mem_append_right _ hp) b hb).1,(s.own p (List.mem_append_right _ hp) b hb).2.1⟩;rcases List.mem_append.1 hp with hp|hp;exact ⟨(s.own p (List.mem_append_left _ hp) b hb).1,(s.own p (List.mem_append_left _ hp) b hb).2.1⟩;exact ⟨(hkeep p hp b hb).1,(g.own p (List.mem_append_right _ hp) b hb).2⟩;refine List.pairwise_append.2 ⟨hs.2.1,List.pairwise_append.2 ⟨hs.1,hap.2.1,fun p hp q hq=>hcross p (List.mem_append_left _ hp) q hq⟩,fun p hp q hq=>?_⟩;rcases List.mem_append.1 hq with hq|hq;exact fun b hb hqb=>hs.2.2 q hq p hp b hqb hb;exact hcross p (List.mem_append_right _ hp) q hq
def oS (P:Program) (tn tw tl:TypeId) (ef:Bool→Value) (bw:Nat) (Γ:List FV) (σ:Sg) (gf:FuncId) (args:List Value) (w:World) (hR:Hl) (r:Nat×Sg):Prop:=
 ∀s,eB tn Γ σ s→fZ w (bX tw tl (ef σ.bad) bw s++hR)→kC P gf args w (bX tw tl (ef σ.bad) bw s) (fun v h'=>∃s' Γ',v=.int .i64 (r.1:Int)∧h'=bX tw tl (ef r.2.bad) bw s'∧eB tn Γ' r.2 s'∧Γ⊆Γ')
section
variable {P:Program} {tn tw tl:TypeId} {er:Value} {ef:Bool→Value} {bw:Nat} {Γ:List FV} {σ:Sg} {s:Ws}
variable {r:Option Nat} {f:FuncId} {R:Value→World→Prop} {w0:World} {S:List Nat} {Y:List (Nat×Obj)} {n:Nat} {k:List Item} {l:Fl} {ops:Array Oper} {i d:Nat} {rest:List Nat} {ty:TypeId} {pos:String} {aft:Array Edge} {g:Option (Nat×Bool)}
variable {az:Array Operand} {ts:Array TypeId} {cal:Operand} {gf:FuncId} {vs:List Value} {u:Tr}
theorem ig {q:Option Nat} {f:List NV} {cap:Nat}:br q f.length cap=FV.v ⟨q.map (fun b=>⟨b,0,none⟩),cap,f⟩:=by cases q<;>rfl
theorem ik {t:Tr}:(bT t).length≤maxLen:=aD rfl
theorem oi {p:Option Nat×Obj} {pre:Hl}:(p::(pre++bX tw tl er bw s)).Perm (pre++bX tw tl er bw (s.uS p)):=by
 refine (List.perm_middle (l₁:=pre) (a:=p)).symm.trans (List.Perm.append_left pre ?_);unfold bX Ws.uS;exact (List.Perm.swap _ _ _).trans (List.Perm.cons _ (List.Perm.swap _ _ _))
theorem ab.qC {pre:Hl} (hW:eB tn Γ σ s) (ho:ops[i]?=some ⟨some d,.call ⟨.value cal,az,ts⟩,ty,pos,aft,g⟩) (hw:aq ops l g=true)
  (hc:aM l cal=some (.func (.func gf) #[] #[])) (hx:cP l az.toList=some vs) (hd:Nat.blt d n=true) (hcf:∀args w,(callFunc gf args).run P w=.ok (.enter gf args) w)
  (hcall:∀w Y',St w0 S w (pre++bX tw tl er bw s) Y'→Cn P gf vs w (fun v w'=>gA tn w w' v (bT u)))
  (hk:∀x s',x.f=bT u→x.Z→eB tn (x::Γ) σ s'→ab P r f R w0 S Y n (.inRegion ops rest::k) ((d,x.v)::l) (pre++bX tw tl er bw s')):
  ab P r f R w0 S Y n (.inRegion ops (i::rest)::k) l (pre++bX tw tl er bw s):=by
 refine ab.nq (fun w v w'=>gA tn w w' v (bT u)) ho hw hc hx hd hcf hcall (fun v w w' Y' hS he hO=>?_);obtain ⟨ho,hz⟩:=hO;obtain ⟨q,cap,sp,rfl,hq,aj,hS'⟩:=ai hS he ho;refine ⟨_,hS'.perm oi,?_⟩;rw [ig];refine hk _ _ rfl (fun e=>?_) (hW.add hq ik);have:=hz e;cases q with
 |none=>rfl
 |some b=>cases this
theorem ab.iy {pre:Hl} (hW:eB tn Γ σ s) (hcf:∀args w,(callFunc gf args).run P w=.ok (.enter gf args) w) (hcall:∀w Y',St w0 S w (pre++bX tw tl er bw s) Y'→Cn P gf vs w (fun v w'=>gA tn w w' v (bT u))) (hk:∀x s',x.f=bT u→x.Z→eB tn (x::Γ) σ s'→ab P r f R w0 S Y n (.inRegion ops rest::k) ((d,x.v)::l) (pre++bX tw tl er bw s')) (ho:ops[i]?=some ⟨some d,.call ⟨.value cal,az,ts⟩,ty,pos,aft,g⟩:=by exact rfl) (hw:aq ops l g=true:=by exact rfl) (hc:aM l cal=some (.func (.func gf) #[] #[]):=by exact rfl) (hx:cP l az.toList=some vs:=by exact rfl) (hd:Nat.blt d n=true:=by exact rfl):ab P r f R w0 S Y n (.inRegion ops (i::rest)::k) l (pre++bX tw tl er bw s):=ab.qC (hW:=hW) (ho:=ho) (hw:=hw) (hc:=hc) (hx:=hx) (hd:=hd) (hcf:=hcf) (hcall:=hcall) (hk:=hk)
theorem ab.zW {pre:Hl} (hW:eB tn Γ σ s) (ho:ops[i]?=some ⟨some d,.call ⟨.value cal,az,ts⟩,ty,pos,aft,g⟩) (hw:aq ops l g=true)
  (hc:aM l cal=some (.func (.func gf) #[] #[])) (hx:cP l az.toList=some vs) (hd:Nat.blt d n=true) (hcf:∀args w,(callFunc gf args).run P w=.ok (.enter gf args) w)
  (hcall:∀w Y',St w0 S w (pre++bX tw tl er bw s) Y'→Cn P gf vs w (fun v w'=>av tn w w' v (bT u)))
  (hk:∀x s',x.f=bT u→eB tn (x::Γ) σ s'→ab P r f R w0 S Y n (.inRegion ops rest::k) ((d,x.v)::l) (pre++bX tw tl er bw s')):
  ab P r f R w0 S Y n (.inRegion ops (i::rest)::k) l (pre++bX tw tl er bw s):=by
 refine ab.nq (fun w v w'=>av tn w w' v (bT u)) ho hw hc hx hd hcf hcall (fun v w w' Y' hS he hO=>?_);obtain ⟨q,cap,sp,rfl,hq,aj,hS'⟩:=ai hS he hO;refine ⟨_,hS'.perm oi,?_⟩;rw [ig];exact hk _ _ rfl (hW.add hq ik)
theorem ab.jd {pre:Hl} (hW:eB tn Γ σ s) (hcf:∀args w,(callFunc gf args).run P w=.ok (.enter gf args) w) (hcall:∀w Y',St w0 S w (pre++bX tw tl er bw s) Y'→Cn P gf vs w (fun v w'=>av tn w w' v (bT u))) (hk:∀x s',x.f=bT u→eB tn (x::Γ) σ s'→ab P r f R w0 S Y n (.inRegion ops rest::k) ((d,x.v)::l) (pre++bX tw tl er bw s')) (ho:ops[i]?=some ⟨some d,.call ⟨.value cal,az,ts⟩,ty,pos,aft,g⟩:=by exact rfl) (hw:aq ops l g=true:=by exact rfl) (hc:aM l cal=some (.func (.func gf) #[] #[]):=by exact rfl) (hx:cP l az.toList=some vs:=by exact rfl) (hd:Nat.blt d n=true:=by exact rfl):ab P r f R w0 S Y n (.inRegion ops (i::rest)::k) l (pre++bX tw tl er bw s):=ab.zW (hW:=hW) (ho:=ho) (hw:=hw) (hc:=hc) (hx:=hx) (hd:=hd) (hcf:=hcf) (hcall:=hcall) (hk:=hk)
theorem ab.dK {pre hR hR':Hl} {s0:Ws} {er0:Value} {res:Nat×Sg} (h0:fZ w0 (bX tw tl er0 bw s0++hR)) (hW:eB tn Γ σ s) (hsub:hR'.Sublist (pre++hR)) (ho:ops[i]?=some ⟨some d,.call ⟨.value cal,az,ts⟩,ty,pos,aft,g⟩) (hw:aq ops l g=true)
  (hc:aM l cal=some (.func (.func gf) #[] #[])) (hx:cP l az.toList=some vs) (hd:Nat.blt d n=true) (hcf:∀args w,(callFunc gf args).run P w=.ok (.enter gf args) w)
  (hcall:∀w Y',St w0 (cm (bX tw tl er0 bw s0)) w (pre++bX tw tl (ef σ.bad) bw s) Y'→oS P tn tw tl ef bw Γ σ gf vs w hR' res)
  (hk:∀s' Γ',eB tn Γ' res.2 s'→Γ⊆Γ'→ab P r f R w0 (cm (bX tw tl er0 bw s0)) Y n (.inRegion ops rest::k) ((d,.int .i64 (res.1:Int))::l) (pre++bX tw tl (ef res.2.bad) bw s')):
  ab P r f R w0 (cm (bX tw tl er0 bw s0)) Y n (.inRegion ops (i::rest)::k) l (pre++bX tw tl (ef σ.bad) bw s):=by
 refine ab.hJ (h':=bX tw tl (ef σ.bad) bw s++pre) List.perm_append_comm ?_;refine ab.eF (h:=bX tw tl (ef σ.bad) bw s) (hF:=pre) (fs:=[]) (cs:=[]) (fun _ v h'=>∃s' Γ',v=.int .i64 (res.1:Int)∧h'=bX tw tl (ef res.2.bad) bw s'∧eB tn Γ' res.2 s'∧Γ⊆Γ') ho hw hc hx hd hcf (fun w Y' hS=>?_) (fun w v h' hR2=>?_);rw [List.nil_append,List.append_nil];have hS2:=hS.perm (List.perm_append_comm (l₁:=bX tw tl (ef σ.bad) bw s) (l₂:=pre));exact hcall w _ hS2 s hW ((h0.stay hS2).sub (List.Sublist.append (List.Sublist.refl _) hsub));obtain ⟨s',Γ',rfl,rfl,hW',hs⟩:=hR2;exact ab.hJ List.perm_append_comm (hk s' Γ' hW' hs)
theorem ab.bQ {pre hR hR':Hl} {s0:Ws} {er0:Value} {res:Nat×Sg} (h0:fZ w0 (bX tw tl er0 bw s0++hR)) (hW:eB tn Γ σ s) (hsub:hR'.Sublist (pre++hR)) (hcf:∀args w,(callFunc gf args).run P w=.ok (.enter gf args) w) (hcall:∀w Y',St w0 (cm (bX tw tl er0 bw s0)) w (pre++bX tw tl (ef σ.bad) bw s) Y'→oS P tn tw tl ef bw Γ σ gf vs w hR' res) (hk:∀s' Γ',eB tn Γ' res.2 s'→Γ⊆Γ'→ab P r f R w0 (cm (bX tw tl er0 bw s0)) Y n (.inRegion ops rest::k) ((d,.int .i64 (res.1:Int))::l) (pre++bX tw tl (ef res.2.bad) bw s')) (ho:ops[i]?=some ⟨some d,.call ⟨.value cal,az,ts⟩,ty,pos,aft,g⟩:=by exact rfl) (hw:aq ops l g=true:=by exact rfl) (hc:aM l cal=some (.func (.func gf) #[] #[]):=by exact rfl) (hx:cP l az.toList=some vs:=by exact rfl) (hd:Nat.blt d n=true:=by exact rfl):ab P r f R w0 (cm (bX tw tl er0 bw s0)) Y n (.inRegion ops (i::rest)::k) l (pre++bX tw tl (ef σ.bad) bw s):=ab.dK (h0:=h0) (hW:=hW) (hsub:=hsub) (ho:=ho) (hw:=hw) (hc:=hc) (hx:=hx) (hd:=hd) (hcf:=hcf) (hcall:=hcall) (hk:=hk)
end
section
variable {P:Program} {tn tw tl:TypeId} {er:Value} {ef:Bool→Value} {bw:Nat} {Γ:List FV} {σ:Sg} {s:Ws}
variable {r:Option Nat} {f:FuncId} {R:Value→World→Prop} {w0:World} {S:List Nat} {Y:List (Nat×Obj)} {n:Nat} {k:List Item} {l:Fl} {ops:Array Oper} {i d:Nat} {ty:TypeId} {pos:String} {aft:Array Edge} {g:Option (Nat×Bool)}
variable {az:Array Operand} {ts:Array TypeId} {cal:Operand} {gf:FuncId} {vs:List Value} {u:Tr} {hb:Hl} {q:Nat} {Dn:List Nat}
theorem FQ {pre:Hl} (hs:hb.Sublist (pre++Ia tw tl er bw s)) {s':Ws} (e:Ia tw tl er bw s'=Ia tw tl er bw s):hb.Sublist (pre++bX tw tl er bw s'):=hs.trans (List.Sublist.append (List.Sublist.refl _) (by rw [←e];exact CQ))
theorem ax.qC {pre:Hl} (hW:eB tn Γ σ s) (hs:hb.Sublist (pre++Ia tw tl er bw s)) (h1:aw ops Dn=[i]) (ho:ops[i]?=some ⟨some d,.call ⟨.value cal,az,ts⟩,ty,pos,aft,g⟩) (hw:aq ops l g=true)
  (hc:aM l cal=some (.func (.func gf) #[] #[])) (hx:cP l az.toList=some vs) (hd:Nat.blt d n=true) (hcf:∀args w,(callFunc gf args).run P w=.ok (.enter gf args) w)
  (hcall:∀w Y',St w0 S w (pre++bX tw tl er bw s) Y'→Cn P gf vs w (fun v w'=>gA tn w w' v (bT u)))
  (hk:∀x p,x.f=bT u→x.Z→eB tn (x::Γ) σ (s.uS p)→ax P r f R w0 S Y n k ops hb q (i::Dn) ((d,x.v)::l) (pre++bX tw tl er bw (s.uS p))):
  ax P r f R w0 S Y n k ops hb (q+1) Dn l (pre++bX tw tl er bw s):=by
 refine ax.call (fun w v w'=>gA tn w w' v (bT u)) h1 ho hw hc hx hd hcf hcall (fun v w w' Y' hS he hO=>?_);obtain ⟨ho,hz⟩:=hO;obtain ⟨q,cap,sp,rfl,hq,aj,hS'⟩:=ai hS he ho;refine ⟨_,hS'.perm oi,FQ hs rfl,?_⟩;rw [ig];refine hk _ _ rfl (fun e=>?_) (hW.add hq ik);have:=hz e;cases q with
 |none=>rfl
 |some b=>cases this
theorem ax.dK {pre hR hR':Hl} {s0:Ws} {er0:Value} {res:Nat×Sg} (h0:fZ w0 (bX tw tl er0 bw s0++hR)) (hW:eB tn Γ σ s) (hsub:hR'.Sublist (pre++hR)) (hs:hb.Sublist pre) (h1:aw ops Dn=[i]) (ho:ops[i]?=some ⟨some d,.call ⟨.value cal,az,ts⟩,ty,pos,aft,g⟩) (hw:aq ops l g=true)
  (hc:aM l cal=some (.func (.func gf) #[] #[])) (hx:cP l az.toList=some vs) (hd:Nat.blt d n=true) (hcf:∀args w,(callFunc gf args).run P w=.ok (.enter gf args) w)
  (hcall:∀w Y',St w0 (cm (bX tw tl er0 bw s0)) w (pre++bX tw tl (ef σ.bad) bw s) Y'→oS P tn tw tl ef bw Γ σ gf vs w hR' res)
  (hk:∀s' Γ',eB tn Γ' res.2 s'→Γ⊆Γ'→ax P r f R w0 (cm (bX tw tl er0 bw s0)) Y n k ops hb q (i::Dn) ((d,.int .i64 (res.1:Int))::l) (pre++bX tw tl (ef res.2.bad) bw s')):
  ax P r f R w0 (cm (bX tw tl er0 bw s0)) Y n k ops hb (q+1) Dn l (pre++bX tw tl (ef σ.bad) bw s):=by
 refine ax.eF (hC:=bX tw tl (ef σ.bad) bw s) (hF:=pre) (fs:=[]) (cs:=[]) List.perm_append_comm (fun _ v h'=>∃s' Γ',v=.int .i64 (res.1:Int)∧h'=bX tw tl (ef res.2.bad) bw s'∧eB tn Γ' res.2 s'∧Γ⊆Γ') h1 ho hw hc hx hd hcf (fun w Y' hS=>?_) (fun w v h' hR2=>?_);rw [List.nil_append,List.append_nil];have hS2:=hS.perm (List.perm_append_comm (l₁:=bX tw tl (ef σ.bad) bw s) (l₂:=pre));exact hcall w _ hS2 s hW ((h0.stay hS2).sub (List.Sublist.append (List.Sublist.refl _) hsub));obtain ⟨s',Γ',rfl,rfl,hW',hs'⟩:=hR2;exact ⟨_,List.perm_append_comm,hs.trans (List.sublist_append_left _ _),hk s' Γ' hW' hs'⟩
theorem oS.of {gf:FuncId} {fn:Func} {c:Code} {args:List Value} {w:World} {hR:Hl} {res:Nat×Sg} (hf:P.funcs[gf]?=some fn) (hb:fn.body=some c) (hn:Nat.ble args.length fn.ntmps=true)
  (hgo:∀s,eB tn Γ σ s→fZ w (bX tw tl (ef σ.bad) bw s++hR)→ab P none gf (fun v w'=>∃h',(∃s' Γ',v=.int .i64 (res.1:Int)∧h'=bX tw tl (ef res.2.bad) bw s'∧eB tn Γ' res.2 s'∧Γ⊆Γ')∧St w (cm (bX tw tl (ef σ.bad) bw s)) w' h' []) w (cm (bX tw tl (ef σ.bad) bw s)) [] fn.ntmps [.code c] (vr 0 args) (bX tw tl (ef σ.bad) bw s)):
  oS P tn tw tl ef bw Γ σ gf args w hR res:=fun s hW hH=>kC.of (hH.sub (List.sublist_append_left _ _)) hf hb hn (hgo s hW hH)
end
theorem J1 {tn tw tl:TypeId} {ef:Bool→Value} {bw:Nat} {Γ Γ':List FV} {res:Nat×Sg} {s':Ws} {w w':World} {S:List Nat} {pre:Hl} {v:Value} (hv:v=.int .i64 (res.1:Int)) (hW:eB tn Γ' res.2 s') (hg:Γ⊆Γ') (hS:St w S w' (pre++bX tw tl (ef res.2.bad) bw s') []):
  ∃h',(∃s' Γ',v=.int .i64 (res.1:Int)∧h'=bX tw tl (ef res.2.bad) bw s'∧eB tn Γ' res.2 s'∧Γ⊆Γ')∧St w S w' h' []:=⟨_,⟨s',Γ',hv,rfl,hW,hg⟩,hS.cn (List.sublist_append_right _ _)⟩
theorem eB.bad {tn:TypeId} {Γ:List FV} {σ:Sg} {s:Ws} {b:Bool} (h:eB tn Γ σ s):eB tn Γ ⟨σ.ls,b⟩ s:=⟨h.nil,h.cap,h.BU,h.G9,h.ctx,h.CH,h.Gk⟩
theorem cI {tn tw tl:TypeId} {ef:Bool→Value} {bw:Nat} {Γ Γ':List FV} {res res':Nat×Sg} {s':Ws} {w w':World} {S:List Nat} {pre:Hl} {v:Value} (he:res=res') (hv:v=.int .i64 (res'.1:Int)) (hW:eB tn Γ' res'.2 s') (hg:Γ⊆Γ') (hS:St w S w' (pre++bX tw tl (ef res'.2.bad) bw s') []):
  ∃h',(∃s' Γ',v=.int .i64 (res.1:Int)∧h'=bX tw tl (ef res.2.bad) bw s'∧eB tn Γ' res.2 s'∧Γ⊆Γ')∧St w S w' h' []:=by subst he;exact J1 hv hW hg hS
structure JF (S:List Nat) (w:World) (a:Option Addr) (xs:List Int):Prop where
  at_:kD w a xs
  sep:∀b o,a=some ⟨b,o,none⟩→b∉S
theorem JF.au {S:List Nat} {w0 w:World} {a:Option Addr} {xs:List Int} (h:JF S w0 a xs) (e:Ex S w0 w):kD w a xs:=kD.au h.at_ e h.sep
theorem fZ.read {w:World} {h0 hR:Hl} (g:fZ w (h0++hR)) {b:Nat} {o:Obj} (hm:(some b,o)∈hR):w.heap[b]?=some o∧b∉cm h0:=by
 refine ⟨(g.own _ (List.mem_append_right _ hm) b rfl).1,fun hb=>?_⟩;obtain ⟨o',ho⟩:=gu.1 hb;exact (List.pairwise_append.1 g.apart).2.2 _ ho _ hm b rfl rfl
theorem fZ.J7 {w:World} {h0 hR:Hl} (g:fZ w (h0++hR)) {q:Option Nat} {xs:List Int} {e:TypeId} {sp:List Value} (hm:(q,ob aQ e xs sp)∈hR) (hq:q=none→xs=[]):JF (cm h0) w (q.map (fun b=>⟨b,0,none⟩)) xs:=by
 cases q with
 |none=>rw [hq rfl];exact ⟨Sl.nil _ _,fun b o e=>by cases e⟩
 |some b=>exact ⟨Sl.db (g.read hm).1,fun b' o e=>by cases e;exact (g.read hm).2⟩
theorem eB.put {tn:TypeId} {Γ:List FV} {σ:Sg} {s:Ws} (h:eB tn Γ σ s) {x:FV} (h1:x.se tn s.H) (h2:x.f.length≤maxLen):eB tn (x::Γ) σ s:=⟨h.nil,h.cap,h.BU,h.G9,fun y hy=>by
  rcases List.mem_cons.1 hy with rfl|hy;exact ⟨h1,h2⟩;exact h.ctx y hy,fun y hy=>List.mem_cons_of_mem _ (h.CH y hy),h.Gk⟩
theorem fZ.bB {w:World} {h:Hl} (g:fZ w h) (o:Obj):fZ w (h++[(none,o)]):=by
 constructor;intro p hp b hb;rcases List.mem_append.1 hp with hp|hp;exact g.own p hp b hb;rw [List.mem_singleton.1 hp] at hb;cases hb;refine List.pairwise_append.2 ⟨g.apart,List.pairwise_singleton _ _,fun p _ q hq b _ hqb=>?_⟩;rw [List.mem_singleton.1 hq] at hqb;cases hqb
section
variable {P:Program} {tn tw tl:TypeId} {ef:Bool→Value} {bw:Nat} {Γ:List FV} {σ:Sg} {s:Ws}
variable {r:Option Nat} {f:FuncId} {R:Value→World→Prop} {w0:World} {S:List Nat} {Y:List (Nat×Obj)} {n:Nat} {k:List Item} {l:Fl} {ops:Array Oper} {i d:Nat} {rest:List Nat} {ty:TypeId} {pos:String} {aft:Array Edge} {g:Option (Nat×Bool)}
variable {az:Array Operand} {ts:Array TypeId} {cal:Operand} {gf:FuncId} {vs:List Value}
theorem ab.pG {pre hR':Hl} {res:Nat×Sg} (hW:eB tn Γ σ s) (hsub:hR'.Sublist pre) (ho:ops[i]?=some ⟨some d,.call ⟨.value cal,az,ts⟩,ty,pos,aft,g⟩) (hw:aq ops l g=true)
  (hc:aM l cal=some (.func (.func gf) #[] #[])) (hx:cP l az.toList=some vs) (hd:Nat.blt d n=true) (hcf:∀args w,(callFunc gf args).run P w=.ok (.enter gf args) w)
  (hcall:∀w Y',St w0 S w (pre++bX tw tl (ef σ.bad) bw s) Y'→oS P tn tw tl ef bw Γ σ gf vs w hR' res)
  (hk:∀s' Γ',eB tn Γ' res.2 s'→Γ⊆Γ'→ab P r f R w0 S Y n (.inRegion ops rest::k) ((d,.int .i64 (res.1:Int))::l) (pre++bX tw tl (ef res.2.bad) bw s')):
  ab P r f R w0 S Y n (.inRegion ops (i::rest)::k) l (pre++bX tw tl (ef σ.bad) bw s):=by
 refine ab.hJ (h':=bX tw tl (ef σ.bad) bw s++pre) List.perm_append_comm ?_;refine ab.eF (h:=bX tw tl (ef σ.bad) bw s) (hF:=pre) (fs:=[]) (cs:=[]) (fun _ v h'=>∃s' Γ',v=.int .i64 (res.1:Int)∧h'=bX tw tl (ef res.2.bad) bw s'∧eB tn Γ' res.2 s'∧Γ⊆Γ') ho hw hc hx hd hcf (fun w Y' hS=>?_) (fun w v h' hR2=>?_);rw [List.nil_append,List.append_nil];have hS2:=hS.perm (List.perm_append_comm (l₁:=bX tw tl (ef σ.bad) bw s) (l₂:=pre));exact hcall w _ hS2 s hW (hS.has.sub (List.Sublist.append (List.Sublist.refl _) hsub));obtain ⟨s',Γ',rfl,rfl,hW',hs⟩:=hR2;exact ab.hJ List.perm_append_comm (hk s' Γ' hW' hs)
end
theorem eB.own {tn tw tl:TypeId} {Γ:List FV} {σ:Sg} {s:Ws} {er:Value} {bw:Nat} {w0 w:World} {pre:Hl} {Y:List (Nat×Obj)} (h:eB tn Γ σ s) (hS:St w0 [] w (pre++bX tw tl er bw s) Y):fh tn tl w0 w (br s.q s.ls.length s.cap) s.ls:=
 ⟨s.q,s.cap,s.sp,s.H,rfl,h.nil,h.cap,(fR.of hS).sub ((List.sublist_cons_self _ _).trans (List.sublist_append_right pre _)),fun x hx=>h.ctx _ (h.CH x hx)⟩
theorem eB.start {tn:TypeId}:eB tn [] ⟨[],false⟩ ⟨none,0,[],[],[]⟩:=by
 refine ⟨fun _=>⟨rfl,rfl⟩,rfl,rfl,Nat.zero_le _,?_,?_,?_⟩<;>(intro _ h;cases h)
structure pK (b:List NV):Prop where
  jk:aN b=0
  E6:∀n∈b,dk b n
section
variable {b:List NV}
theorem pK.x (h:pK b) {i:Nat} (hi:i<b.length) (hX:4≤(nd b i).op):0≤(nd b i).x∧(nd b i).x<i:=by
 rw [dN hi] at*;have ho:=(aB.1 h.jk).nodes i hi;have h1:=h.E6 _ (List.getElem_mem hi);have hu:cS b[i].op=true:=by unfold cS;unfold dk at h1;simp;omega
 have:=ho.x hu;omega
theorem pK.y (h:pK b) {i:Nat} (hi:i<b.length) (hX:(nd b i).op=5∨(nd b i).op=6):0≤(nd b i).y∧(nd b i).y<i:=by
 rw [dN hi] at*;have ho:=(aB.1 h.jk).nodes i hi;have hu:cF b[i].op=true:=by unfold cF;rcases hX with e|e<;>rw [e]<;>rfl
 have:=ho.y hu;omega
theorem pK.node (h:pK b) {i:Nat} (hi:i<b.length):((nd b i).op≤3∧aa b i=.leaf (nd b i).op (nd b i).i (nd b i).e (nd b i).g)∨(((nd b i).op=4∨(nd b i).op=9∨(nd b i).op=10)∧aa b i=.un (nd b i).op (nd b i).i (nd b i).e (nd b i).g (aa b (nd b i).x.toNat))∨(((nd b i).op=5∨(nd b i).op=6)∧aa b i=.bin (nd b i).op (nd b i).i (nd b i).e (nd b i).g (aa b (nd b i).x.toNat) (aa b (nd b i).y.toNat)):=by
 rw [dN hi];have hO:=(aB.1 h.jk).nodes;have hn:=h.E6 _ (List.getElem_mem hi);unfold dk at hn;have hX:cS b[i].op=true↔4≤b[i].op:=by
  unfold cS;simp;omega
 have hY:cF b[i].op=true↔b[i].op=5∨b[i].op=6:=by
  unfold cF;simp;omega
 rcases cd hi hO with ⟨h1,h2⟩|⟨h1,h2,h3⟩|⟨h1,h2⟩;refine .inl ⟨?_,h2⟩;have:¬4≤b[i].op:=fun e=>by rw [hX.2 e] at h1;cases h1
 omega;refine .inr (.inl ⟨?_,h3⟩);have:=hX.1 h1;have:¬(b[i].op=5∨b[i].op=6):=fun e=>by rw [hY.2 e] at h2;cases h2
 omega;exact .inr (.inr ⟨hY.1 h1,h2⟩)
theorem pK.nf (h:pK b):∀(i:Nat),i<b.length→nC (aa b i):=by
 intro i
 induction i using Nat.strongRecOn with
 |_ i ih=>
 intro hi;rcases h.node hi with ⟨h1,h2⟩|⟨h1,h2⟩|⟨h1,h2⟩;rw [h2];exact h1;have hx:=h.x hi (by omega);rw [h2];by_cases h4:(nd b i).op=4;have hn:=h.E6 _ (List.getElem_mem hi);unfold dk at hn;rw [←dN hi] at hn;have h3:(nd b (nd b i).x).op=3:=by omega
 obtain ⟨k,hk⟩:∃k:Nat,(nd b i).x=k:=⟨(nd b i).x.toNat,by omega⟩;rw [hk] at h3⊢;have hkl:k<b.length:=by omega
 rcases h.node hkl with ⟨g1,g2⟩|⟨g1,g2⟩|⟨g1,g2⟩;rw [Int.toNat_natCast,g2,h3];exact .inl ⟨h4,_,_,_,rfl⟩;omega;omega;exact .inr ⟨by omega,ih _ (by omega) (by omega)⟩;have hx:=h.x hi (by omega);have hy:=h.y hi h1;rw [h2];exact ⟨h1,ih _ (by omega) (by omega),ih _ (by omega) (by omega)⟩
theorem pK.top (h:pK b):nC (aS b):=by
 have hp:=(aB.1 h.jk).pos;rw [de];exact h.nf _ (by omega)
end
open Classical in
noncomputable def j8 (ei:Bool) (f:List NV):Int:=if aN f≠0 then aN f else if ¬∀n∈ah f,dk (ah f) n then 10 else if (aA ae ei (aS f) ⟨[],false⟩).2.bad=true then 8 else 0
noncomputable def yo (ei:Bool) (f:List NV):List LD:=(aA ae ei (aS f) ⟨[],false⟩).2.ls.map (fun x=>x.v.d)
structure SP where
  bw:Nat
  bs:Nat
  l:Int
  A:Option Addr
  cA:Nat
  b:List NV
  B:Option Addr
  cB:Nat
  tl:List SV
  x:SV
  full:aE
  Z:Option Addr
  cZ:Nat
  last:List Nat
def SP.cs (p:SP):Array Value:=#[.pointer (some ⟨p.bw,0,none⟩),.int .i64 p.l,.slice p.A p.b.length p.cA,.slice p.B p.tl.length p.cB,U p.x.d.set,.int .i64 p.x.d.aC,.int .i64 p.x.d.on,.int .i64 p.x.d.e,.slice p.x.fa p.x.d.fr.length p.x.fc,U p.full,.slice p.Z p.last.length p.cZ]
structure SP.At (p:SP) (t:TypeId) (w:World):Prop where
  db:w.heap[p.bs]?=some (.cells p.cs t (0,0))
  fa:FA w p.A p.b
  sa:Sl w p.B (p.tl.flatMap SV.cells)
  HW:kD w p.x.fa p.x.d.fr
  JQ:kD w p.Z (p.last.map (fun j:Nat=>(j:Int)))
structure SP.R (p:SP) (t:TypeId) (S:List Nat) (w:World):Prop where
  at_:p.At t w
  s1:p.bs∉S
  s2:∀b o,p.A=some ⟨b,o,none⟩→b∉S
  s3:∀b o,p.B=some ⟨b,o,none⟩→b∉S
  s4:∀b o,p.x.fa=some ⟨b,o,none⟩→b∉S
  s5:∀b o,p.Z=some ⟨b,o,none⟩→b∉S
theorem SP.R.ex {p:SP} {t:TypeId} {S:List Nat} {w w':World} (h:p.R t S w) (e:Ex S w w'):p.At t w':=by
 refine ⟨?_,h.at_.fa.au e h.s2,Sl.ex h.at_.sa e h.s3,kD.au h.at_.HW e h.s4,kD.au h.at_.JQ e h.s5⟩;have h1:=h.at_.db;rw [e.block p.bs (Array.getElem?_eq_some_iff.1 h1).1 h.s1];exact h1
theorem SP.At.au {p:SP} {t:TypeId} {w w':World} (h:p.At t w) (e:Ex [] w w'):p.At t w':=⟨e.iA h.db,h.fa.au e,Sl.ex h.sa e (by simp),h.HW.au e,h.JQ.au e⟩
structure SP.In (p:SP) (t tn ts ti:TypeId) (hR:Hl):Prop where
  db:(some p.bs,.cells p.cs t (0,0))∈hR
  fa:∃q sp,(q,cN tn p.b sp)∈hR∧p.A=q.map (fun b=>⟨b,0,none⟩)∧(q=none→p.b.length=0)
  sa:∃q sp,(q,np ts p.tl sp)∈hR∧p.B=q.map (fun b=>⟨b,0,none⟩)∧(q=none→p.tl.length=0)
  HW:∃q sp,(q,ob aQ ti p.x.d.fr sp)∈hR∧p.x.fa=q.map (fun b=>⟨b,0,none⟩)∧(q=none→p.x.d.fr.length=0)
  JQ:∃q sp,(q,ob aQ ti (p.last.map (fun j:Nat=>(j:Int))) sp)∈hR∧p.Z=q.map (fun b=>⟨b,0,none⟩)∧(q=none→p.last.length=0)
theorem SP.In.mono {p:SP} {t tn ts ti:TypeId} {hR hR':Hl} (h:p.In t tn ts ti hR) (hs:hR⊆hR'):p.In t tn ts ti hR':=by
 obtain ⟨h1,⟨q2,s2,a2,b2⟩,⟨q3,s3,a3,b3⟩,⟨q4,s4,a4,b4⟩,⟨q5,s5,a5,b5⟩⟩:=h;exact ⟨hs h1,⟨q2,s2,hs a2,b2⟩,⟨q3,s3,hs a3,b3⟩,⟨q4,s4,hs a4,b4⟩,⟨q5,s5,hs a5,b5⟩⟩
theorem SP.In.r {p:SP} {t tn ts ti:TypeId} {hR h0:Hl} {w:World} (h:p.In t tn ts ti hR) (g:fZ w (h0++hR)):p.R t (cm h0) w:=by
 obtain ⟨h1,⟨q2,s2,a2,b2,c2⟩,⟨q3,s3,a3,b3,c3⟩,⟨q4,s4,a4,b4,c4⟩,⟨q5,s5,a5,b5,c5⟩⟩:=h;obtain ⟨k1,k2⟩:=g.read h1;have hsep:∀{a:Option Addr} {q:Option Nat} {o':Obj},(q,o')∈hR→a=q.map (fun b=>(⟨b,0,none⟩:Addr))→∀b o,a=some ⟨b,o,none⟩→b∉cm h0:=fun hm e b o e2=>by
  rename_i a q o';subst e;cases q with
  |none=>cases e2
  |some b'=>cases e2;exact (g.read hm).2
 refine ⟨⟨k1,?_,?_,?_,?_⟩,k2,hsep a2 b2,hsep a3 b3,hsep a4 b4,hsep a5 b5⟩;rw [b2];cases q2 with
 |none=>rw [List.eq_nil_of_length_eq_zero (c2 rfl)];exact ⟨Sl.nil _ _⟩
 |some b=>exact ⟨Sl.db (g.read a2).1⟩
 rw [b3];cases q3 with
 |none=>rw [List.eq_nil_of_length_eq_zero (c3 rfl)];exact Sl.nil _ _
 |some b=>exact Sl.db (g.read a3).1
 rw [b4];cases q4 with
 |none=>rw [List.eq_nil_of_length_eq_zero (c4 rfl)];exact Sl.nil _ _
 |some b=>exact Sl.db (g.read a4).1
 rw [b5];cases q5 with
 |none=>rw [List.eq_nil_of_length_eq_zero (c5 rfl)];exact Sl.nil _ _
 |some b=>exact Sl.db (g.read a5).1
theorem SP.At.part {p:SP} {t:TypeId} {w:World} (h:p.At t w) {o:Nat} {cs:List Value} (hc:∀j,j<cs.length→p.cs[o+j]?=cs[j]?):∀j v,cs[j]?=some v→w.cell? ((⟨p.bs,o,none⟩:Addr).add j)=some v:=fun j v hv=>by
 have hj:=(List.getElem?_eq_some_iff.1 hv).1;have e1:(⟨p.bs,o,none⟩:Addr).add j=⟨p.bs,o+j,none⟩:=by
  unfold Addr.add;split;rename_i h0;rw [h0];rfl;rfl
 rw [e1];exact Ex.cell (Ex.refl _ _) h.db (by rw [hc j hj];exact hv)
structure JX (S:List Nat) (w:World) (a:Option Addr) (xs:List Value):Prop where
  at_:Sl w a xs
  sep:∀b o,a=some ⟨b,o,none⟩→b∉S
theorem JX.au {S:List Nat} {w0 w:World} {a:Option Addr} {xs:List Value} (h:JX S w0 a xs) (e:Ex S w0 w):JX S w a xs:=⟨Sl.ex h.at_ e h.sep,h.sep⟩
theorem SP.R.KY {p:SP} {t:TypeId} {S:List Nat} {w:World} (h:p.R t S w):JX S w p.B (p.tl.flatMap SV.cells):=⟨h.at_.sa,h.s3⟩
theorem SP.R.H0 {p:SP} {t:TypeId} {S:List Nat} {w:World} (h:p.R t S w):yX S w p.A p.b:=⟨h.at_.fa.at_,h.s2⟩
def SP.ag (p:SP):Int:=if p.x.d.aC=7 then p.x.d.on else (nd p.b p.x.d.on).i
def SP.S0 (p:SP):aE:=dE (fP p.tl) (p.x.d.fr.getD 0 0)
def SP.own (p:SP):List Nat:=if p.x.d.aC=6 then ew (p.S0 &&& ~~~ bW (nd p.b p.x.d.on).x) else ew p.S0
def SP.ns (p:SP):List Nat:=if p.x.d.aC=6 then p.own else p.own.dropLast
def SP.tg (p:SP):Nat:=if p.x.d.aC=6 then (nd p.b p.x.d.on).x.toNat else p.own.getLastD 0
def SP.line (p:SP):Nat:=p.last.getD (p.x.d.fr.getD 0 0).toNat 0
structure SP.Ok (p:SP) (k:Nat):Prop where
  base:aX p.b
  full:jV p.b p.full
  m6:eI p.l p.b (fP p.tl) k p.x.d
  LI:k<p.tl.length
  I3:p.last.length=k
  wD:∀j:Nat,j<p.tl.length→jV p.b (dE (fP p.tl) (j:Int))
  ne:∀j:Nat,j<p.tl.length→ew (dE (fP p.tl) (j:Int))≠[]
  LS:p.x.d.aC=6∨p.x.d.aC=7→∀n∈p.own,fU p.b p.full p.ag n=n→(nd p.b n).op=9∨(nd p.b n).op=10
  LY:p.x.d.aC=6∨p.x.d.aC=7→0≤p.ag∧p.ag<4
noncomputable def I1 (p:SP) (G:Tr) (σ:Sg):Nat×Sg:=wQ ae p.b G p.full p.ag p.ns p.tg p.own (decide (p.x.d.aC=6)) p.line σ
theorem Dw {s u:aE} {n:Nat} (h:n∈ew (s &&& u)):n∈ew s:=dz.2 (by
 have:=dz.1 h;rw [BitVec.getLsbD_and,Bool.and_eq_true] at this;exact this.1)
theorem SP.xU {p:SP} {n:Nat} (h:n∈p.own):n∈ew p.S0:=by
 unfold SP.own at h;split at h;exact Dw h;exact h
theorem SP.Gp {p:SP} {n:Nat} (h:n∈p.ns):n∈p.own:=by
 unfold SP.ns at h;split at h;exact h;exact (List.dropLast_sublist _).subset h
theorem Dx {s:aE}:(ew s).length≤64:=by
 have:=List.length_filter_le (fun i=>s.getLsbD i) (List.range 64);simpa [ew] using this
theorem SP.DB {p:SP}:p.own.length≤64:=by unfold SP.own;split<;>exact Dx
theorem SP.DG {p:SP}:p.own.take p.ns.length=p.ns:=by
 unfold SP.ns;split;exact List.take_length;rw [List.length_dropLast,List.dropLast_eq_take]
theorem SP.IN {p:SP}:p.ns.length≤p.own.length:=by
 unfold SP.ns;split;exact Nat.le_refl _;rw [List.length_dropLast];omega
section
variable {P:Program} {tn tw tl:TypeId} {er:Value} {bw:Nat} {Γ:List FV} {σ:Sg} {s:Ws}
variable {r:Option Nat} {f:FuncId} {R:Value→World→Prop} {w0:World} {S:List Nat} {Y:List (Nat×Obj)} {n:Nat} {k:List Item} {l:Fl} {ops:Array Oper} {i d:Nat} {rest:List Nat} {ty:TypeId} {pos:String} {aft:Array Edge} {g:Option (Nat×Bool)}
variable {az:Array Operand} {ts:Array TypeId} {cal:Operand} {gf:FuncId} {vs:List Value} {u:Tr}
theorem ab.CG {pre:Hl} {y:FV} (hW:eB tn Γ σ s) (hy:y∈Γ) (hyz:y.Z) (ho:ops[i]?=some ⟨some d,.call ⟨.value cal,az,ts⟩,ty,pos,aft,g⟩) (hw:aq ops l g=true)
  (hc:aM l cal=some (.func (.func gf) #[] #[])) (hx:cP l az.toList=some vs) (hd:Nat.blt d n=true) (hcf:∀args w,(callFunc gf args).run P w=.ok (.enter gf args) w)
  (hcall:∀w Y',St w0 S w (pre++bX tw tl er bw s) Y'→Cn P gf vs w (fun v w'=>(v=y.v∧y.f=bT u)∨gA tn w w' v (bT u)))
  (hk:∀x s' Γ',x∈Γ'→Γ⊆Γ'→x.f=bT u→x.Z→eB tn Γ' σ s'→ab P r f R w0 S Y n (.inRegion ops rest::k) ((d,x.v)::l) (pre++bX tw tl er bw s')):
  ab P r f R w0 S Y n (.inRegion ops (i::rest)::k) l (pre++bX tw tl er bw s):=by
 refine ab.nq (fun w v w'=>(v=y.v∧y.f=bT u)∨gA tn w w' v (bT u)) ho hw hc hx hd hcf hcall (fun v w w' Y' hS he hO=>?_);rcases hO with ⟨rfl,hf⟩|⟨ho,hz⟩;exact ⟨_,hS.later he,hk y s Γ hy (fun _ h=>h) hf hyz hW⟩;obtain ⟨q,cap,sp,rfl,hq,aj,hS'⟩:=ai hS he ho;refine ⟨_,hS'.perm oi,?_⟩;rw [ig];refine hk _ _ _ (List.mem_cons_self ..) (fun _ h=>List.mem_cons_of_mem _ h) rfl (fun e=>?_) (hW.add hq ik);have:=hz e;cases q with
 |none=>rfl
 |some b=>cases this
end
section
variable {P:Program} {tn tw tl:TypeId} {er:Value} {ef:Bool→Value} {bw:Nat} {Γ:List FV} {σ:Sg} {s:Ws}
variable {r:Option Nat} {f:FuncId} {R:Value→World→Prop} {w0:World} {S:List Nat} {Y:List (Nat×Obj)} {n:Nat} {k:List Item} {l:Fl} {ops:Array Oper} {i d:Nat} {ty:TypeId} {pos:String} {aft:Array Edge} {g:Option (Nat×Bool)}
variable {az:Array Operand} {ts:Array TypeId} {cal:Operand} {gf:FuncId} {vs:List Value} {u:Tr} {hb:Hl} {q:Nat} {Dn:List Nat} {h:Hl}
theorem ax.two {i j d e:Nat} (h1:aw ops Dn=[i,j]) (hi:cR P w0 S n h ops i l d (fun v h'=>hb.Sublist h'∧ax P r f R w0 S Y n k ops hb q (i::Dn) ((d,v)::l) h')) (hd:Nat.blt d n=true) (hj:cR P w0 S n h ops j l e (fun v h'=>hb.Sublist h'∧ax P r f R w0 S Y n k ops hb q (j::Dn) ((e,v)::l) h')) (he:Nat.blt e n=true):ax P r f R w0 S Y n k ops hb (q+1) Dn l h:=by
 intro t hF;rw [Dt];refine .inr ⟨by rw [h1];simp,fun m hm=>?_⟩;rw [h1] at hm;simp only [List.mem_cons,List.not_mem_nil,or_false] at hm;rcases hm with rfl|rfl;exact eH.of hi hF (fun v h' ⟨e1,e2⟩=>⟨e1,e2 _ (hF.put v hd)⟩);exact eH.of hj hF (fun v h' ⟨e1,e2⟩=>⟨e1,e2 _ (hF.put v he)⟩)
theorem cR.CG {K:Value→Hl→Prop} {pre:Hl} {y:FV} (hW:eB tn Γ σ s) (hy:y∈Γ) (hyz:y.Z) (ho:ops[i]?=some ⟨some d,.call ⟨.value cal,az,ts⟩,ty,pos,aft,g⟩) (hw:aq ops l g=true)
  (hc:aM l cal=some (.func (.func gf) #[] #[])) (hx:cP l az.toList=some vs) (hd:Nat.blt d n=true) (hcf:∀args w,(callFunc gf args).run P w=.ok (.enter gf args) w)
  (hcall:∀w Y',St w0 S w (pre++bX tw tl er bw s) Y'→Cn P gf vs w (fun v w'=>(v=y.v∧y.f=bT u)∨gA tn w w' v (bT u)))
  (hk:∀x s' Γ',x∈Γ'→Γ⊆Γ'→x.f=bT u→x.Z→eB tn Γ' σ s'→K x.v (pre++bX tw tl er bw s')):cR P w0 S n (pre++bX tw tl er bw s) ops i l d K:=by
 refine cR.call (fun w v w'=>(v=y.v∧y.f=bT u)∨gA tn w w' v (bT u)) ho hw hc hx hd hcf hcall (fun v w w' Y' hS he hO=>?_);rcases hO with ⟨rfl,hf⟩|⟨ho,hz⟩;exact ⟨_,hS.later he,hk y s Γ hy (fun _ h=>h) hf hyz hW⟩;obtain ⟨q,cap,sp,rfl,hq,aj,hS'⟩:=ai hS he ho;refine ⟨_,hS'.perm oi,?_⟩;rw [ig];refine hk _ _ _ (List.mem_cons_self ..) (fun _ h=>List.mem_cons_of_mem _ h) rfl (fun e=>?_) (hW.add hq ik);have:=hz e;cases q with
 |none=>rfl
 |some b=>cases this
theorem cR.qC {K:Value→Hl→Prop} {pre:Hl} (hW:eB tn Γ σ s) (ho:ops[i]?=some ⟨some d,.call ⟨.value cal,az,ts⟩,ty,pos,aft,g⟩) (hw:aq ops l g=true)
  (hc:aM l cal=some (.func (.func gf) #[] #[])) (hx:cP l az.toList=some vs) (hd:Nat.blt d n=true) (hcf:∀args w,(callFunc gf args).run P w=.ok (.enter gf args) w)
  (hcall:∀w Y',St w0 S w (pre++bX tw tl er bw s) Y'→Cn P gf vs w (fun v w'=>gA tn w w' v (bT u)))
  (hk:∀x s',x.f=bT u→x.Z→eB tn (x::Γ) σ s'→K x.v (pre++bX tw tl er bw s')):cR P w0 S n (pre++bX tw tl er bw s) ops i l d K:=by
 refine cR.call (fun w v w'=>gA tn w w' v (bT u)) ho hw hc hx hd hcf hcall (fun v w w' Y' hS he hO=>?_);obtain ⟨ho,hz⟩:=hO;obtain ⟨q,cap,sp,rfl,hq,aj,hS'⟩:=ai hS he ho;refine ⟨_,hS'.perm oi,?_⟩;rw [ig];refine hk _ _ rfl (fun e=>?_) (hW.add hq ik);have:=hz e;cases q with
 |none=>rfl
 |some b=>cases this
theorem cR.zW {K:Value→Hl→Prop} {pre:Hl} (hW:eB tn Γ σ s) (ho:ops[i]?=some ⟨some d,.call ⟨.value cal,az,ts⟩,ty,pos,aft,g⟩) (hw:aq ops l g=true)
  (hc:aM l cal=some (.func (.func gf) #[] #[])) (hx:cP l az.toList=some vs) (hd:Nat.blt d n=true) (hcf:∀args w,(callFunc gf args).run P w=.ok (.enter gf args) w)
  (hcall:∀w Y',St w0 S w (pre++bX tw tl er bw s) Y'→Cn P gf vs w (fun v w'=>av tn w w' v (bT u)))
  (hk:∀x s',x.f=bT u→eB tn (x::Γ) σ s'→K x.v (pre++bX tw tl er bw s')):cR P w0 S n (pre++bX tw tl er bw s) ops i l d K:=by
 refine cR.call (fun w v w'=>av tn w w' v (bT u)) ho hw hc hx hd hcf hcall (fun v w w' Y' hS he hO=>?_);obtain ⟨q,cap,sp,rfl,hq,aj,hS'⟩:=ai hS he hO;refine ⟨_,hS'.perm oi,?_⟩;rw [ig];exact hk _ _ rfl (hW.add hq ik)
theorem cR.dK {K:Value→Hl→Prop} {pre hR hR':Hl} {s0:Ws} {er0:Value} {res:Nat×Sg} (h0:fZ w0 (bX tw tl er0 bw s0++hR)) (hW:eB tn Γ σ s) (hsub:hR'.Sublist (pre++hR)) (ho:ops[i]?=some ⟨some d,.call ⟨.value cal,az,ts⟩,ty,pos,aft,g⟩) (hw:aq ops l g=true)
  (hc:aM l cal=some (.func (.func gf) #[] #[])) (hx:cP l az.toList=some vs) (hd:Nat.blt d n=true) (hcf:∀args w,(callFunc gf args).run P w=.ok (.enter gf args) w)
  (hcall:∀w Y',St w0 (cm (bX tw tl er0 bw s0)) w (pre++bX tw tl (ef σ.bad) bw s) Y'→oS P tn tw tl ef bw Γ σ gf vs w hR' res)
  (hk:∀s' Γ',eB tn Γ' res.2 s'→Γ⊆Γ'→K (.int .i64 (res.1:Int)) (pre++bX tw tl (ef res.2.bad) bw s')):cR P w0 (cm (bX tw tl er0 bw s0)) n (pre++bX tw tl (ef σ.bad) bw s) ops i l d K:=by
 have hp:(pre++bX tw tl (ef σ.bad) bw s).Perm (bX tw tl (ef σ.bad) bw s++pre):=List.perm_append_comm;refine ⟨_,ho,rfl,rfl,rfl,hd,.inl ⟨hw,fun t w Ds Y' hF' hS=>.inr ⟨gf,vs.toArray,fun v w'=>∃h',(∃s' Γ',v=.int .i64 (res.1:Int)∧h'=bX tw tl (ef res.2.bad) bw s'∧eB tn Γ' res.2 s'∧Γ⊆Γ')∧St w (cm (bX tw tl (ef σ.bad) bw s)) w' h' [],?_,?_,fun v w' ⟨h',h1,h2⟩=>?_⟩⟩⟩;have e1:=gI (P:=P) (ty:=ty) (ts:=ts) (Ds:=Ds) (w:=w) (first:=#[]) (captured:=#[]) hF' hc hx;simp only [execOp,Sem.run_bind,e1,Result.andThen_ok,invoke,hcf];simp;have:=hcall w Y' hS s hW ((h0.stay hS).sub (List.Sublist.append (List.Sublist.refl _) hsub));exact Calls.mono this (fun e w' ⟨v,h',e1,e2,e3⟩=>⟨v,e1,h',e2,e3⟩);obtain ⟨s',Γ',rfl,rfl,hW',hs'⟩:=h1;exact ⟨_,((hS.perm hp).frame h2).perm List.perm_append_comm,hk s' Γ' hW' hs'⟩
end
theorem xM {w:World} {a:Option Addr} {xs:List Value} (h:Sl w a xs) (n:Nat):Sl w a (xs.take n):=by
 refine ⟨fun hp=>h.isSome (by rw [List.length_take] at hp;omega),fun j hj=>?_⟩;rw [List.length_take] at hj;rw [h.cell j (by omega)];simp [List.getD_eq_getElem?_getD,show j<n by omega]
end Go.Proofs.Wit
