/- Laws of walks, for any program, under the conditions that each theorem states. -/
import Derived.Test.YtchhieaagchhhaaGreatDoorXT31
set_option maxRecDepth 100000
set_option maxHeartbeats 4000000
namespace Go.Proofs.Wit
open Go Go.RowKit
section
variable {b:List NV} {s:aC} {ag:Int} {n:Nat}
theorem xB {i:Nat} (hi:i<b.length) (h1:s.getLsbD i=true) (h2:(nd b i).op=9) (h3:(nd b i).i=ag) (h4:(nd b i).x=n) (hf:∀j,j<i→s.getLsbD j=true→(nd b j).op=9→(nd b j).i=ag→(nd b j).x≠n):eY b s ag n=i:=by
 rcases fQ (b:=b) (s:=s) (ag:=ag) (n:=n) with ⟨j,g1,g2,g3,g4,g5,g6,g7⟩|⟨_,g2⟩;rw [g1];by_cases e:j=i;exact e;by_cases hlt:j<i;exact absurd g6 (hf j hlt g3 g4 g5);exact absurd h4 (g7 i (by omega) h1 h2 h3);exact absurd h4 (g2 i hi h1 h2 h3)
theorem xA (hf:∀j,j<b.length→s.getLsbD j=true→(nd b j).op=9→(nd b j).i=ag→(nd b j).x≠n):eY b s ag n=n:=by
 rcases fQ (b:=b) (s:=s) (ag:=ag) (n:=n) with ⟨j,_,g2,g3,g4,g5,g6,_⟩|⟨g1,_⟩;exact absurd g6 (hf j g2 g3 g4 g5);exact g1
theorem FU {k m:Nat} (hk:k<(eC s).length) (hm:m<(eC s).length) (h:k<m):(eC s)[k]<(eC s)[m]:=by
 have:(eC s).Pairwise (·<·):=List.Pairwise.filter _ List.pairwise_lt_range;exact List.pairwise_iff_getElem.1 this k m hk hm h
theorem wE {k j:Nat} (hk:k<(eC s).length) (hj:s.getLsbD j=true) (h:j<(eC s)[k]):∃(m:Nat) (hm:m<(eC s).length),m<k∧(eC s)[m]=j:=by
 obtain ⟨m,hm,e⟩:=List.mem_iff_getElem.1 (dz.2 hj);refine ⟨m,hm,?_,e⟩;rcases Nat.lt_trichotomy m k with h1|h1|h1;exact h1;subst h1;omega;have:=FU hk hm h1;omega
def rU (b:List NV) (ag:Int) (n:Nat) (j:Nat):Prop:=(nd b j).op=9→(nd b j).i=ag→(nd b j).x≠n
end
def rm (c:Bool) (s:List Bool) (fr:List Int):List Bool:=fr.foldl (fun s j=>s.set j.toNat (sB s j.toNat||c)) s
theorem Dd {s:List Bool} {i j:Nat} {v:Bool} (hi:i<s.length):sB (s.set i v) j=if j=i then v else sB s j:=by
 unfold sB;rw [List.getD_eq_getElem?_getD,List.getD_eq_getElem?_getD,List.getElem?_set];by_cases e:i=j;subst e;simp [hi];rw [if_neg e,if_neg (fun h=>e h.symm)]
theorem qu {c:Bool}:∀{fr:List Int} {s:List Bool},(rm c s fr).length=s.length
 |[],_=>rfl
 |j::fr,s=>by
  show (rm c _ fr).length=_;rw [qu,List.length_set]
theorem vn {c:Bool} {s:List Bool} {fr:List Int} {j:Int}:rm c s (fr++[j])=(rm c s fr).set j.toNat (sB (rm c s fr) j.toNat||c):=by
 unfold rm;rw [List.foldl_append];rfl
theorem tV {c:Bool} {k:Nat}:∀{fr:List Int} {s:List Bool},(∀j∈fr,0≤j∧j<s.length)→sB (rm c s fr) k=(sB s k||(c && decide ((k:Int)∈fr)))
 |[],s,_=>by simp [rm]
 |j::fr,s,h=>by
  obtain ⟨h1,h2⟩:=h j (List.mem_cons_self ..);have e:rm c s (j::fr)=rm c (s.set j.toNat (sB s j.toNat||c)) fr:=rfl;rw [e,tV (fun i hi=>by rw [List.length_set];exact h i (List.mem_cons_of_mem _ hi)),Dd (by omega)];by_cases ek:k=j.toNat;have:(k:Int)=j:=by omega
  rw [if_pos ek,←ek];simp [this];cases sB s k<;>cases c<;>simp
  have:(k:Int)≠j:=by omega
  rw [if_neg ek];simp [this]
section
variable {l:Int} {b:List NV} {ss:List SD} {s:List Bool} {i k:Nat}
structure zK (ss:List SD) (i:Nat) (s:List Bool):Prop where
  len:s.length=ss.length
  DZ:∀j,j<ss.length→(sB s j=true↔(j+1=ss.length∨∃k,∃hk:k<ss.length,ss.length≤k+i∧CI ss k∧(j:Int)∈ss[k].fr))
theorem zK.init (h0:0<ss.length):zK ss 0 ((List.replicate ss.length false).set (ss.length - 1) true):=by
 refine ⟨by simp,fun j hj=>?_⟩;rw [tU (by simp;omega)];constructor;intro h;by_cases e:j=ss.length - 1;exact .inl (by omega);rw [if_neg e] at h;simp [sB,List.getD_eq_getElem?_getD,hj] at h;rintro (h|⟨k,hk,h1,_⟩);rw [if_pos (by omega)];omega
theorem zK.nd (h:zK ss i s) (hf:∀(k:Nat) (hk:k<ss.length),∀j∈ss[k].fr,0≤j∧j<k) (hk:k+1+i=ss.length):sB s k=true↔CI ss k:=by
 rw [h.DZ k (by omega)];constructor;rintro (h1|⟨q,hq,_,h2,h3⟩);exact .last h1;exact .fr hq h2 h3;intro hn;cases hn with
 |last e=>exact .inl e
 |@fr q _ hq hn hm=>exact .inr ⟨q,hq,by have:=hf q hq _ hm;omega,hn,hm⟩
theorem zK.step (h:zK ss i s) (hf:∀(k:Nat) (hk:k<ss.length),∀j∈ss[k].fr,0≤j∧j<k) (hk:k+1+i=ss.length):zK ss (i+1) (rm (sB s k) s (ss[k]'(by omega)).fr):=by
 have hkl:k<ss.length:=by omega
 have hnd:=h.nd hf hk;refine ⟨by rw [qu];exact h.len,fun j hj=>?_⟩;rw [tV (fun q hq=>by have:=hf k hkl q hq;rw [h.len];omega),Bool.or_eq_true,h.DZ j hj,Bool.and_eq_true,decide_eq_true_eq,hnd];constructor;rintro ((h1|⟨q,hq,h1,h2⟩)|⟨h1,h2⟩);exact .inl h1;exact .inr ⟨q,hq,by omega,h2⟩;exact .inr ⟨k,hkl,by omega,h1,h2⟩;rintro (h1|⟨q,hq,h1,h2,h3⟩);exact .inl (.inl h1);by_cases e:q=k;subst e;exact .inr ⟨h2,h3⟩;exact .inl (.inr ⟨q,hq,by omega,h2,h3⟩)
theorem zK.done (h:zK ss ss.length s) {j:Nat} (hj:j<ss.length):sB s j=dn ss j:=by
 have key:sB s j=true↔CI ss j:=by
  rw [h.DZ j hj];constructor;rintro (h1|⟨q,hq,_,h2,h3⟩);exact .last h1;exact .fr hq h2 h3;intro hn;cases hn with
  |last e=>exact .inl e
  |@fr q _ hq hn hm=>exact .inr ⟨q,hq,by omega,hn,hm⟩
 cases h1:dn ss j with
 |true=>exact key.2 (ib.1 h1)
 |false=>
  cases h2:sB s j with
  |false=>rfl
  |true=>rw [ib.2 (key.1 h2)] at h1;cases h1
noncomputable def jm (ss:List SD) (i:Nat):List Int:=(List.range ss.length).map (fun j=>if j<i∧dn ss j=true then (br (dn ss) j:Int) else 0)
theorem vi:(jm ss i).length=ss.length:=by simp [jm]
theorem y9:jm ss 0=List.replicate ss.length 0:=by
 apply List.ext_getElem (by simp [jm]);intro j h1 h2;simp [jm]
theorem za (h:dn ss i=false):jm ss (i+1)=jm ss i:=by
 apply List.ext_getElem (by simp [jm]);intro j h1 h2;simp only [jm,List.getElem_map,List.getElem_range];by_cases e:j=i;subst e;simp [h];have:j<i+1↔j<i:=by omega
 simp only [this]
theorem AJ (h:dn ss i=true):(jm ss i).set i (br (dn ss) i:Int)=jm ss (i+1):=by
 apply List.ext_getElem (by simp [jm]);intro j h1 h2;rw [List.getElem_set];simp only [jm,List.getElem_map,List.getElem_range];by_cases e:i=j;subst e;rw [if_pos rfl,if_pos ⟨by omega,h⟩];rw [if_neg e];have:j<i+1↔j<i:=by omega
 simp only [this]
theorem AK {y:Nat} (hy:y<i) (hi:i≤ss.length) (hn:CI ss y):(jm ss i).getD y 0=(br (dn ss) y:Int):=by
 unfold jm;rw [List.getD_eq_getElem?_getD,List.getElem?_map,List.getElem?_range (by omega)];show (if _ then _ else _)=_;rw [if_pos ⟨by omega,ib.2 hn⟩]
end
noncomputable def wc (ss:List SD) (fr:List Int) (q:Nat):List Int:=(fr.take q).map (fun j=>((br (dn ss) j.toNat:Nat):Int))++fr.drop q
theorem Ax {ss:List SD} {fr:List Int}:wc ss fr 0=fr:=by simp [wc]
theorem Dj {ss:List SD} {fr:List Int}:wc ss fr fr.length=fr.map (fun j=>((br (dn ss) j.toNat:Nat):Int)):=by simp [wc]
theorem Di {ss:List SD} {fr:List Int} {q:Nat}:(wc ss fr q).length=fr.length:=by simp [wc];omega
theorem FT {ss:List SD} {fr:List Int} {q:Nat} (hq:q<fr.length):(wc ss fr q).getD q 0=fr[q]:=by
 unfold wc;rw [List.getD_eq_getElem?_getD,List.getElem?_append_right (by simp;omega)];have:q - ((fr.take q).map (fun j=>((br (dn ss) j.toNat:Nat):Int))).length=0:=by simp;omega
 rw [this];simp [hq]
theorem Dh {ss:List SD} {fr:List Int} {q:Nat} (hq:q<fr.length):(wc ss fr q).set q ((br (dn ss) fr[q].toNat:Nat):Int)=wc ss fr (q+1):=by
 unfold wc;have hl:((fr.take q).map (fun j=>((br (dn ss) j.toNat:Nat):Int))).length=q:=by simp;omega
 rw [List.set_append_right _ _ (by omega),hl,Nat.sub_self,List.drop_eq_getElem_cons hq,List.set_cons_zero,List.take_succ_eq_append_getElem hq,List.map_append];simp
def kO (e:TypeId) (ss:List SV) (sp:List Value):Obj:=.cells (ss.flatMap SV.cells++sp).toArray e (0,0)
theorem I2 {ss:List SV}:(ss.flatMap SV.cells).length=ss.length*5:=ai (enc:=SV.cells) (sz:=5) (fun _=>rfl)
def SV.tH (t:TypeId) (H:Hl) (x:SV):Prop:=∃q sp,(q,ob aV t x.d.fr sp)∈H∧x.fa=q.map (fun b=>⟨b,0,none⟩)∧(q=none→x.d.fr.length=0)
theorem SV.tH.mono {t:TypeId} {H H':Hl} {x:SV} (h:x.tH t H) (hs:H⊆H'):x.tH t H':=by
 obtain ⟨q,sp,h1,h2,h3⟩:=h;exact ⟨q,sp,hs h1,h2,h3⟩
theorem SV.tH.at {t:TypeId} {w0 w:World} {S:List Nat} {h:Hl} {Y:List (Nat×Obj)} {x:SV} (g:x.tH t h) (s:St w0 S w h Y):jd w x.fa x.d.fr:=by
 obtain ⟨q,sp,h1,h2,h3⟩:=g;obtain ⟨j,hj⟩:=List.getElem?_of_mem h1;rw [h2];cases q with
 |none=>rw [List.eq_nil_of_length_eq_zero (h3 rfl)];exact Sl.nil _ _
 |some b=>exact Sl.dq (s.get hj)
theorem xz {w0 w:World} {S:List Nat} {h:Hl} {Y:List (Nat×Obj)} (s:St w0 S w h Y) (j:Nat) {q:Option Nat} {ss:List SV} {e:TypeId} {sp:List Value} (hj:h[j]?=some (q,kO e ss sp)) (hq:q=none→ss.length=0)
  {t:TypeId} (hin:∀x∈ss,x.tH t h∧x.d.fr.length≤maxLen):pE w (q.map (fun b=>⟨b,0,none⟩)) ss:=by
 refine ⟨?_,fun x hx=>⟨(hin x hx).1.at s,(hin x hx).2⟩⟩;cases q with
 |none=>rw [List.eq_nil_of_length_eq_zero (hq rfl)];exact Sl.nil _ _
 |some b=>exact Sl.dq (s.get hj)
theorem St.pick {w0 w:World} {S:List Nat} {pre pre':Hl} {Y:List (Nat×Obj)} (s:St w0 S w pre Y) (is:List Nat) (hn:is.Nodup) (e:is.map (fun i=>pre[i]?)=pre'.map some):St w0 S w pre' Y:=by
 have:=St.eO (pre:=pre) (pre':=pre') (HR:=[]) (by rw [List.append_nil];exact s) is hn e;rwa [List.append_nil] at this
theorem Ib {w0 w:World} {S:List Nat} {h:Hl} {Y:List (Nat×Obj)} (s:St w0 S w h Y) (j:Nat) {q:Option Nat} {xs:List aC} {e:TypeId} {sp:List Value} (hj:h[j]?=some (q,ob U e xs sp)) (hq:q=none→xs.length=0):wb w (q.map (fun b=>⟨b,0,none⟩)) xs:=by
 cases q with
 |none=>rw [List.eq_nil_of_length_eq_zero (hq rfl)];exact Sl.nil _ _
 |some b=>exact Sl.dq (s.get hj)
section
variable {P:Program} {r:Option Nat} {f:FuncId} {R:Value→World→Prop} {w0:World} {S:List Nat} {Y:List (Nat×Obj)} {n:Nat} {k:List Item} {l:Fl} {h:Hl}
variable {ops:Array Oper} {i d:Nat} {rest:List Nat} {ty:TypeId} {pos:String} {aft:Array Edge} {g:Option (Nat×Bool)}
theorem rE {ss:List SV} {x:SV}:(ss++[x]).flatMap SV.cells=ss.flatMap SV.cells++SV.cells x:=by simp
theorem ab.yG {t e:TypeId} {x y:Operand} {inf:TypeInfo} {z:Value} {q:Option Nat} {ss:List SV} {sp:List Value} {cap:Nat} {bn:Nat} {nl:SV} {en:TypeId} {frn:Nat×Nat}
  (ho:ops[i]?=some ⟨some d,.call ⟨.builtin .append,#[x,y],#[t,t]⟩,ty,pos,aft,g⟩) (hw:au ops l g=true) (hx:aO l x=some (bB q ss.length cap)) (hy:aO l y=some (.slice (some ⟨bn,0,none⟩) 1 1)) (hd:Nat.blt d n=true)
  (hu:P.underlying t=some (.slice e)) (hi:P.info? e=some inf) (hz:inf.zero=some z) (hsz:inf.size=5) (hz1:z.cells.size=5)
  (hq:q=none→ss.length=0∧cap=0) (j:Nat) (hj:h[j]?=some (q,kO e ss sp)) (jn:Nat) (hjn:h[jn]?=some (some bn,.cells (SV.cells nl++[]).toArray en frn))
  (ak:(ss.flatMap SV.cells++sp).length=cap*5) (hmx:ss.length+1≤maxLen) (hbytes:(ss.length+1)*inf.bytes≤140737488355328)
  (hk:∀b' sp' cap',((ss++[nl]).flatMap SV.cells++sp').length=cap'*5→ab P r f R w0 S Y n (.inRegion ops rest::k) ((d,bB (some b') (ss++[nl]).length cap')::l) (h.set j (some b',kO e (ss++[nl]) sp'))):ab P r f R w0 S Y n (.inRegion ops (i::rest)::k) l h:=
 .app 5 (xs:=ss.flatMap SV.cells) (sp:=sp) (nx:=ss.length) (q:=q) (news:=SV.cells nl) (spn:=[]) ho hw hx hy hd hu hi hz hsz hz1 hq j hj jn hjn I2 ak rfl (by decide) (fun u hu=>by
  simp only [SV.cells,List.mem_cons,List.not_mem_nil,or_false] at hu;rcases hu with rfl|rfl|rfl|rfl|rfl<;>rfl) hmx hbytes (fun b' sp' cap' hlen=>by
  have:=hk b' sp' cap' (by rw [rE];exact hlen);rw [List.length_append,List.length_singleton,kO,rE] at this;exact this)
end
def Jt (tn ts ti:TypeId) (w w':World) (l:Int) (b:List NV) (v u:Value) (os ws:List SV):Prop:=
 ∃(qa qo qw:Option Nat) (ca co cw:Nat) (spa spo spw:List Value) (H:Hl),v=.agg (aJ l (qa.map (fun b=>⟨b,0,none⟩)) b.length ca (qo.map (fun b=>⟨b,0,none⟩)) os.length co)∧u=bB qw ws.length cw∧
  (qa=none→b.length=0)∧(qo=none→os.length=0)∧(qw=none→ws.length=0)∧fO w w' ((qa,dk tn b spa)::(qo,kO ts os spo)::(qw,kO ts ws spw)::H)∧∀x∈os,x.tH ti H∧x.d.fr.length≤maxLen
end Go.Proofs.Wit
