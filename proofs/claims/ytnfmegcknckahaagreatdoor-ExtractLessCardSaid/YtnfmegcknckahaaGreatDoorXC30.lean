/- Laws of walks, for any program, under the conditions that each theorem states. -/
import Derived.Test.YtnfmegcknckahaaGreatDoorXC29
namespace Go.Proofs.Wit
open Go Go.RowKit
/-! the proof that is extracted -/
/-- not all of a set of nodes -/
def dC (b:List NV) (s:aB):Tr:=aF (kJ ((dY s).map (aa b)))
section
variable (T:Tr→Prop)
noncomputable def sr (a:Int) (h:Tr):List Tr→List Tr→Nat→Sg→Nat×Sg
 |_,[],r,σ=>(r,σ)
 |ds,t::ts,r,σ=>
  let k:=kW T a t (cz ts h) σ
  let d:=aU T (cz ((ds++[t]).map (ar a)) (ar a (cz ts h))) [r,k.1] k.2
  sr a h (ds++[t]) ts d.1 d.2
noncomputable def lZ (a:Int) (ts:List Tr) (h:Tr) (line:Nat) (σ:Sg):Nat×Sg:=
 let f:=aU T (cz ts h) [line] σ
 let r:=bS T (ar a (cz ts h)) 11 f.1 0 a f.2
 sr T a h [] ts r.1 r.2
noncomputable def eG (b:List NV) (full:aB) (a:Int):List Nat→Sg→List Nat×Sg
 |[],σ=>([],σ)
 |n::ns,σ=>if eS b full a n=n then ((kV T a (aa b n) σ).1::(eG b full a ns (kV T a (aa b n) σ).2).1,(eG b full a ns (kV T a (aa b n) σ).2).2) else eG b full a ns σ
noncomputable def uE (b:List NV) (goal:Tr) (full:aB) (a:Int) (ns:List Nat) (tg:Nat) (own:List Nat) (isK:Bool) (line:Nat) (σ:Sg):Nat×Sg:=
 let c:=lZ T a (ns.map (aa b)) (aF (aa b tg)) line σ
 let d:=eG T b full a own c.2
 let e:=if isK=true then dU T a (aa b tg) d.2 else bS T (aP (ar a (aa b tg)) (aF (ar a (aF (aa b tg))))) 6 0 0 0 d.2
 aU T goal (c.1::(d.1++[e.1])) e.2
noncomputable def bL (b:List NV) (tl:List SD) (full:aB) (x:SD) (last:List Nat) (σ:Sg):Nat×Sg:=
 let goal:=dC b x.set
 let p0:=last.getD (x.fr.getD 0 0).toNat 0
 let p1:=last.getD (x.fr.getD 1 0).toNat 0
 if x.av=1 then (if (nd b x.on).op=2 then aU T goal [] σ else aU T goal [(aJ T false (tA b x.on) σ).1] (aJ T false (tA b x.on) σ).2)
 else if x.av=2 then aU T goal [p0] σ
 else if x.av=3 then aU T goal [p0,p1] σ
 else if x.av=4 then aU T goal [(aJ T true (tA b x.on) σ).1,p0,p1] (aJ T true (tA b x.on) σ).2
 else if x.av=5 then aU T goal [(bS T (aP (tA b x.on) (tA b (nd b x.on).x)) 3 0 0 0 σ).1,p0] (bS T (aP (tA b x.on) (tA b (nd b x.on).x)) 3 0 0 0 σ).2
 else if x.av=6 then uE T b goal full (nd b x.on).i (dY (dh tl (x.fr.getD 0 0) &&& ~~~ bW (nd b x.on).x)) (nd b x.on).x.toNat (dY (dh tl (x.fr.getD 0 0) &&& ~~~ bW (nd b x.on).x)) true p0 σ
 else uE T b goal full x.on (dY (dh tl (x.fr.getD 0 0))).dropLast ((dY (dh tl (x.fr.getD 0 0))).getLastD 0) (dY (dh tl (x.fr.getD 0 0))) false p0 σ
noncomputable def aT (b:List NV) (tl:List SD) (fl:List aB):Nat→List Nat×Sg
 |0=>([],⟨[],false⟩)
 |q+1=>match tl[q]? with
  |some x=>((aT b tl fl q).1++[(bL T b tl (fl.getD q 0#64) x (aT b tl fl q).1 (aT b tl fl q).2).1],(bL T b tl (fl.getD q 0#64) x (aT b tl fl q).1 (aT b tl fl q).2).2)
  |none=>aT b tl fl q
end
noncomputable def cQ (ss:List SD):Nat→List aB
 |0=>[]
 |k+1=>match ss[k]? with
  |some x=>if cX ss k=true then cQ ss k++[x.set] else cQ ss k
  |none=>cQ ss k
noncomputable def gI (T:Tr→Prop) (b:List NV) (ss:List SD):Nat×Sg:=
 let tl:=cy b ss
 let p:=aT T b tl (cQ ss ss.length) tl.length
 let ln:=p.1.getD (tl.length - 1) 0
 if dh tl ((tl.length - 1:Nat):Int)=dh ss ((ss.length - 1:Nat):Int) then (ln,p.2) else aU T (dC b (dh ss ((ss.length - 1:Nat):Int))) [ln] p.2
section
variable {l:Int} {b:List NV} {ss:List SD} {σ:Sg} {T:Tr→Prop}
theorem zj {v:Tr→Bool}:∀{ts:List Tr},cg v (kJ ts)=true↔∀u∈ts,cg v u=true
 |[]=>⟨fun _ _ h=>(by cases h),fun _=>rfl⟩
 |t::ts=>by
  have key:∀(us:List Tr) (a:Tr),cg v (us.foldl (fun a c=>.bin 5 0 0 0 a c) a)=true↔cg v a=true∧∀u∈us,cg v u=true:=by
   intro us
   induction us with
   |nil=>intro a;simp
   |cons u us ih=>
    intro a
    rw [List.foldl_cons,ih,show cg v (.bin 5 0 0 0 a u)=(cg v a && cg v u) from rfl,Bool.and_eq_true]
    simp only [List.mem_cons,forall_eq_or_imp,and_assoc]
  rw [show kJ (t::ts)=ts.foldl (fun a c=>.bin 5 0 0 0 a c) t from rfl,key]
  simp
theorem ff {v:Tr→Bool} {s:aB}:cg v (dC b s)=true↔¬∀n,s.getLsbD n=true→cg v (aa b n)=true:=by
 unfold dC
 rw [qG,Bool.not_eq_true']
 constructor
 ·intro h hall
  have:cg v (kJ ((dY s).map (aa b)))=true:=zj.2 (fun u hu=>by
   obtain ⟨n,hn,rfl⟩:=List.mem_map.1 hu
   exact hall n (db.1 hn))
  rw [this] at h;cases h
 intro h
 cases e:cg v (kJ ((dY s).map (aa b))) with
 |false=>rfl
 |true=>exact absurd (fun n hn=>zj.1 e _ (List.mem_map_of_mem (db.2 hn))) h
theorem v3:∀{ts:List Tr},(∀u∈ts,eW u)→eW (kJ ts)
 |[],_=>⟨⟨by decide,rfl,by decide⟩,.inl (by decide)⟩
 |t::ts,h=>by
  have key:∀(us:List Tr) (a:Tr),eW a→(∀u∈us,eW u)→eW (us.foldl (fun a c=>.bin 5 0 0 0 a c) a):=by
   intro us
   induction us with
   |nil=>intro a ha _;exact ha
   |cons u us ih=>intro a ha hu;exact ih _ (ha.ad (hu u (List.mem_cons_self ..))) (fun w hw=>hu w (List.mem_cons_of_mem _ hw))
  exact key ts t (h t (List.mem_cons_self ..)) (fun u hu=>h u (List.mem_cons_of_mem _ hu))
theorem aW.fr (h:aW b) {n:Nat} (hn:n<b.length):eW (aa b n):=(h.nf n hn).fr (h.ok hn)
theorem oW (h:aW b) {s:aB} (hs:ju b s):eW (dC b s):=(v3 (fun u hu=>by
 obtain ⟨n,hn,rfl⟩:=List.mem_map.1 hu
 exact h.fr (hs n (db.1 hn)))).nt
/-! every part only adds lines, and its line says what it should -/
theorem v8 {a:Int} {h:Tr}:∀{ts ds:List Tr} {r:Nat} {σ:Sg},σ.Le (sr T a h ds ts r σ).2
 |[],_,_,σ=>Sg.Le.refl σ
 |_t::ts,_ds,_r,_σ=>tF.trans (dc.trans (v8 (ts:=ts)))
theorem BR {a:Int} {h:Tr} {ts:List Tr} {n:Nat}:σ.Le (lZ T a ts h n σ).2:=dc.trans (df.trans v8)
theorem tV {a:Int} {h:Tr}:∀{ts ds:List Tr} {r:Nat} {σ:Sg},dq σ r (cz (ds.map (ar a)) (ar a (cz ts h)))→dq (sr T a h ds ts r σ).2 (sr T a h ds ts r σ).1 (cz ((ds++ts).map (ar a)) (ar a h))
 |[],ds,r,σ,hr=>by rw [List.append_nil];exact hr
 |t::ts,ds,r,σ,_=>by
  rw [show ds++t::ts=(ds++[t])++ts by simp]
  exact tV eF
theorem tU {a:Int} {h:Tr} {ts:List Tr} {n:Nat}:dq (lZ T a ts h n σ).2 (lZ T a ts h n σ).1 (cz (ts.map (ar a)) (ar a h)):=tV (ds:=[]) bQ
theorem kf {full:aB} {a:Int}:∀{ns:List Nat} {σ:Sg},σ.Le (eG T b full a ns σ).2
 |[],σ=>Sg.Le.refl σ
 |n::ns,σ=>by
  rw [eG];split
  ·exact su.trans kf
  exact kf
theorem nX {full:aB} {a:Int}:∀{ns:List Nat} {σ:Sg} (m:Nat),m∈(eG T b full a ns σ).1→∃n∈ns,eS b full a n=n∧dq (eG T b full a ns σ).2 m (aP (aa b n) (ar a (aa b n)))
 |[],σ,m,h=>by cases h
 |n::ns,σ,m,h=>by
  rw [eG] at h⊢
  by_cases e:eS b full a n=n
  ·rw [if_pos e] at h⊢
   rcases List.mem_cons.1 h with rfl|h
   ·exact ⟨n,List.mem_cons_self ..,e,qh.le kf⟩
   obtain ⟨k,h1,h2,h3⟩:=nX m h
   exact ⟨k,List.mem_cons_of_mem _ h1,h2,h3⟩
  rw [if_neg e] at h⊢
  obtain ⟨k,h1,h2,h3⟩:=nX m h
  exact ⟨k,List.mem_cons_of_mem _ h1,h2,h3⟩
theorem nY {full:aB} {a:Int}:∀{ns:List Nat} {σ:Sg} {n:Nat},n∈ns→eS b full a n=n→∃m∈(eG T b full a ns σ).1,dq (eG T b full a ns σ).2 m (aP (aa b n) (ar a (aa b n)))
 |[],_,_,h,_=>by cases h
 |k::ns,σ,n,h,he=>by
  rw [eG]
  rcases List.mem_cons.1 h with rfl|h
  ·rw [if_pos he]
   exact ⟨_,List.mem_cons_self ..,qh.le kf⟩
  split
  ·obtain ⟨m,h1,h2⟩:=nY (σ:=(kV T a (aa b k) σ).2) h he
   exact ⟨m,List.mem_cons_of_mem _ h1,h2⟩
  exact nY h he
theorem vO {goal:Tr} {full:aB} {a:Int} {ns:List Nat} {tg:Nat} {own:List Nat} {isK:Bool} {line:Nat}:σ.Le (uE T b goal full a ns tg own isK line σ).2:=by
 have h1:=BR (T:=T) (σ:=σ) (a:=a) (h:=aF (aa b tg)) (ts:=ns.map (aa b)) (n:=line)
 have h2:=kf (T:=T) (b:=b) (full:=full) (a:=a) (ns:=own) (σ:=(lZ T a (ns.map (aa b)) (aF (aa b tg)) line σ).2)
 cases isK with
 |true=>exact (h1.trans h2).trans (jC.trans dc)
 |false=>exact (h1.trans h2).trans (df.trans dc)
theorem sQ {tl:List SD} {full:aB} {x:SD} {last:List Nat}:σ.Le (bL T b tl full x last σ).2:=by
 unfold bL
 dsimp only
 repeat' split
 ·exact dc
 ·exact ik.trans dc
 ·exact dc
 ·exact dc
 ·exact ik.trans dc
 ·exact df.trans dc
 ·exact vO
 exact vO
theorem wz {tl:List SD} {full:aB} {x:SD} {last:List Nat}:dq (bL T b tl full x last σ).2 (bL T b tl full x last σ).1 (dC b x.set):=by
 unfold bL
 dsimp only
 repeat' split
 all_goals exact eF
/-! the line that is returned is the last one -/
def oE (σ:Sg) (n:Nat):Prop:=σ.bad=false→n+1=σ.ls.length
theorem rA {t:Tr} {r g:Int} {a c:Nat}:oE (bS T t r a c g σ).2 (bS T t r a c g σ).1:=by
 unfold bS;split
 ·intro e;cases e
 intro _;simp
theorem qZ {g:Tr}:∀{ps:List (Nat×Tr)} {n:Nat} {σ:Sg},oE σ n→oE (lq T g ps n σ).2 (lq T g ps n σ).1
 |[],_,_,h=>h
 |_::ps,_,_,_=>qZ (ps:=ps) rA
theorem rv {g:Tr} {fr:List Nat}:oE (aU T g fr σ).2 (aU T g fr σ).1:=by
 unfold aU;split
 ·rename_i h;intro e;rw [h] at e;cases e
 exact qZ rA
theorem uk {tl:List SD} {full:aB} {x:SD} {last:List Nat}:oE (bL T b tl full x last σ).2 (bL T b tl full x last σ).1:=by
 unfold bL
 dsimp only
 repeat' split
 all_goals exact rv
end
end Go.Proofs.Wit
namespace Go.Proofs.Wit
open Go Go.RowKit
/-! the proof that is extracted is right -/
section
variable {l:Int} {b:List NV} {ss:List SD} {σ:Sg}
theorem v7 {a:Int} {h:Tr} (hi:0≤a∧a<4) (hh:eW h):∀{ts ds:List Tr} {r:Nat} {σ:Sg},(∀u∈ts,eW u)→(∀u∈ds,eW u)→Good l σ→dq σ r (cz (ds.map (ar a)) (ar a (cz ts h)))→sG l (fun T=>sr T a h ds ts r) σ
 |[],_,_,σ,_,_,hg,_=>⟨rfl,hg⟩
 |t::ts,ds,r,σ,hts,hds,hg,hr=>by
  have ht:=hts t (List.mem_cons_self ..)
  have hts':∀u∈ts,eW u:=fun u hu=>hts u (List.mem_cons_of_mem _ hu)
  have hc:=eW.ch hts' hh
  have h1:=Cr (i:=a) (p:=t) (q:=cz ts h) hi hg ht hc
  have k1:dq (kW af a t (cz ts h) σ).2 (kW af a t (cz ts h) σ).1 (aP (ar a (aP t (cz ts h))) (aP (ar a t) (ar a (cz ts h)))):=bQ
  have kr:=hr.le (tF (T:=af) (i:=a) (p:=t) (q:=cz ts h))
  have hds':∀u∈ds++[t],eW u:=fun u hu=>by
   rcases List.mem_append.1 hu with hu|hu
   ·exact hds u hu
   rw [List.mem_singleton.1 hu];exact ht
  have h2:=dX (g:=cz ((ds++[t]).map (ar a)) (ar a (cz ts h))) (from_:=[r,(kW af a t (cz ts h) σ).1]) h1.dL (eW.ch (fun u hu=>by
    obtain ⟨w,hw,rfl⟩:=List.mem_map.1 hu
    exact (hds' w hw).kw hi) (hc.kw hi)) (fun hb n hn=>by
   simp only [List.mem_cons,List.not_mem_nil,or_false] at hn
   rcases hn with rfl|rfl
   ·exact (kr hb).1
   ·exact (k1 hb).1) (fun hb _ v hv=>by
   have e1:=hv _ (List.mem_cons_self ..)
   have e2:=hv _ (List.mem_cons_of_mem _ (List.mem_cons_self ..))
   rw [(kr hb).2,uV] at e1
   rw [(k1 hb).2,oM,oM] at e2
   rw [uV]
   intro hall
   have e3:cg v (ar a (aP t (cz ts h)))=true:=e1 (fun u hu=>hall u (by rw [List.map_append];exact List.mem_append_left _ hu))
   have e4:cg v (ar a t)=true:=hall _ (by rw [List.map_append];exact List.mem_append_right _ (List.mem_singleton.2 rfl))
   rw [e3,e4] at e2
   simpa using e2)
  have h3:=v7 hi hh (ts:=ts) (ds:=ds++[t]) hts' hds' h2.dL eF
  have s1:=h1.same;have s2:=h2.same;have s3:=h3.same
  constructor
  ·simp only [sr]
   rw [←s1,←s2];exact s3
  exact h3.dL
theorem BQ {a:Int} {h t0:Tr} {ts:List Tr} {n:Nat} (hi:0≤a∧a<4) (hh:eW h) (hts:∀u∈ts,eW u) (hg:Good l σ) (hn:dq σ n t0) (he:∀v,cg v t0=true→cg v (cz ts h)=true):sG l (fun T=>lZ T a ts h n) σ:=by
 have hc:=eW.ch hts hh
 have h1:=dX (g:=cz ts h) (from_:=[n]) hg hc (fun hb m hm=>by rw [List.mem_singleton.1 hm];exact (hn hb).1) (fun hb _ v hv=>by
  have:=hv n (List.mem_singleton.2 rfl)
  rw [(hn hb).2] at this
  exact he v this)
 have h2:=gH (t:=ar a (cz ts h)) (r:=11) (a:=(aU af (cz ts h) [n] σ).1) (b:=0) (g:=a) h1.dL (fun _ _=>⟨hc.kw hi,D0 l (by omega),.inr (.inr (.inr ⟨rfl,rfl,hi,_,eF,rfl⟩))⟩)
 have h3:=v7 (ts:=ts) (ds:=[]) hi hh hts (fun u hu=>by cases hu) h2.dL bQ
 have s1:=h1.same;have s2:=h2.same;have s3:=h3.same
 constructor
 ·simp only [lZ]
  rw [←s1,←s2];exact s3
 exact h3.dL
structure IW (l:Int) (P:(Tr→Prop)→Sg→List Nat×Sg) (σ:Sg):Prop where
  same:P af σ=P lJ σ
  dL:Good l (P af σ).2
theorem qe {full:aB} {a:Int} (hi:0≤a∧a<4):∀{ns:List Nat} {σ:Sg},Good l σ→(∀n∈ns,eS b full a n=n→∃z,eW z∧((aa b n=ar a z∧ct l 4=true)∨(aa b n=gl a z∧ct l 5=true)))→IW l (fun T=>eG T b full a ns) σ
 |[],σ,hg,_=>⟨rfl,hg⟩
 |n::ns,σ,hg,h=>by
  have hns:=fun k hk=>h k (List.mem_cons_of_mem _ hk)
  by_cases e:eS b full a n=n
  ·obtain ⟨z,hz,hf⟩:=h n (List.mem_cons_self ..) e
   have h1:=BU (i:=a) (f:=aa b n) (z:=z) hi hz hf hg
   have h2:=qe hi (ns:=ns) h1.dL hns
   have s1:=h1.same;have s2:=h2.same
   constructor
   ·simp only [eG]
    rw [if_pos e,if_pos e,←s1,s2]
   simp only [eG]
   rw [if_pos e];exact h2.dL
  have h2:=qe hi (ns:=ns) hg hns
  constructor
  ·simp only [eG]
   rw [if_neg e,if_neg e];exact h2.same
  simp only [eG]
  rw [if_neg e];exact h2.dL
theorem vN {goal t0:Tr} {full:aB} {a:Int} {ns own:List Nat} {tg line:Nat} {isK:Bool} (hb:aW b) (hi:0≤a∧a<4) (hgl:eW goal) (hns:∀n∈ns,n<b.length) (htg:tg<b.length) (h6:isK=false→ct l 6=true) (hg:Good l σ) (hn:dq σ line t0)
  (he:∀v,cg v t0=true→cg v (cz (ns.map (aa b)) (aF (aa b tg)))=true)
  (hc:∀n∈own,eS b full a n=n→∃z,eW z∧((aa b n=ar a z∧ct l 4=true)∨(aa b n=gl a z∧ct l 5=true)))
  (hlast:∀v,((∀n∈ns,cg v (ar a (aa b n))=true)→cg v (ar a (aF (aa b tg)))=true)→(∀n∈own,eS b full a n=n→cg v (aa b n)=true→cg v (ar a (aa b n))=true)→(if isK=true then cg v (gl a (aa b tg))=true→¬cg v (ar a (aF (aa b tg)))=true else cg v (ar a (aa b tg))=true→¬cg v (ar a (aF (aa b tg)))=true)→cg v goal=true):
  sG l (fun T=>uE T b goal full a ns tg own isK line) σ:=by
 have ft:=hb.fr htg
 have h1:=BQ (ts:=ns.map (aa b)) (h:=aF (aa b tg)) hi ft.nt (fun u hu=>by
  obtain ⟨n,hn,rfl⟩:=List.mem_map.1 hu
  exact hb.fr (hns n hn)) hg hn he
 have k1:dq _ _ _:=tU (T:=af) (a:=a) (h:=aF (aa b tg)) (ts:=ns.map (aa b)) (n:=line) (σ:=σ)
 obtain ⟨σ1,e1⟩:∃s,s=lZ af a (ns.map (aa b)) (aF (aa b tg)) line σ:=⟨_,rfl⟩
 have g1:Good l σ1.2:=by rw [e1];exact h1.dL
 rw [←e1] at k1
 have h2:=qe (b:=b) (full:=full) hi (ns:=own) g1 hc
 obtain ⟨σ2,e2⟩:∃s,s=eG af b full a own σ1.2:=⟨_,rfl⟩
 have g2:Good l σ2.2:=by rw [e2];exact h2.dL
 have le2:σ1.2.Le σ2.2:=by rw [e2];exact kf
 obtain ⟨P3,hP3⟩:∃P3:(Tr→Prop)→Sg→Nat×Sg,P3=fun T s=>if isK=true then dU T a (aa b tg) s else bS T (aP (ar a (aa b tg)) (aF (ar a (aF (aa b tg))))) 6 0 0 0 s:=⟨_,rfl⟩
 obtain ⟨t3,ht3⟩:∃t3,t3=if isK=true then nI (gl a (aa b tg)) (aF (ar a (aF (aa b tg)))) else aP (ar a (aa b tg)) (aF (ar a (aF (aa b tg)))):=⟨_,rfl⟩
 have h3:sG l P3 σ2.2:=by
  rw [hP3]
  cases hk:isK with
  |true=>exact rO hi g2 ft
  |false=>exact gH g2 (fun _ _=>⟨(ft.kw hi).im (ft.nt.kw hi).nt,h6 hk,.inr (.inl ⟨by decide,by decide,rfl,rfl,rfl,⟨a,_,rfl⟩⟩)⟩)
 obtain ⟨σ3,e3⟩:∃s,s=P3 af σ2.2:=⟨_,rfl⟩
 have g3:Good l σ3.2:=by rw [e3];exact h3.dL
 have le3:σ2.2.Le σ3.2:=by
  rw [e3,hP3]
  cases isK with
  |true=>exact jC
  |false=>exact df
 have k3:dq σ3.2 σ3.1 t3:=by
  rw [e3,hP3,ht3]
  cases isK with
  |true=>exact bQ
  |false=>exact bQ
 have k1':=k1.le (le2.trans le3)
 have h4:=dX (g:=goal) (from_:=σ1.1::(σ2.1++[σ3.1])) g3 hgl (fun hbd n hn=>by
  simp only [List.mem_cons,List.mem_append,List.not_mem_nil,or_false] at hn
  rcases hn with rfl|hn|rfl
  ·exact (k1' hbd).1
  ·rw [e2] at hn
   obtain ⟨m,_,_,hm⟩:=nX n hn
   rw [←e2] at hm
   exact (hm.le le3 hbd).1
  exact (k3 hbd).1) (fun hbd _ v hv=>by
  have q1:=hv _ (List.mem_cons_self ..)
  have q3:=hv σ3.1 (List.mem_cons_of_mem _ (List.mem_append_right _ (List.mem_singleton.2 rfl)))
  rw [(k1' hbd).2,uV] at q1
  rw [(k3 hbd).2,ht3] at q3
  refine hlast v (fun hall=>q1 (fun u hu=>?_)) (fun n hno hsn hvn=>?_) ?_
  ·rw [List.map_map] at hu
   obtain ⟨n,hn,rfl⟩:=List.mem_map.1 hu
   exact hall n hn
  ·obtain ⟨m,hm,hh⟩:=nY (T:=af) (b:=b) (full:=full) (a:=a) (ns:=own) (σ:=σ1.2) hno hsn
   rw [←e2] at hm hh
   have q2:=hv m (List.mem_cons_of_mem _ (List.mem_append_left _ hm))
   rw [(hh.le le3 hbd).2,oM,hvn] at q2
   simpa using q2
  cases isK with
  |true=>
   rw [if_pos rfl] at q3⊢
   rw [BE,qG] at q3
   intro hp hk
   rw [hp,hk] at q3;cases q3
  |false=>
   rw [if_neg (by decide)] at q3⊢
   rw [oM,qG] at q3
   intro hp hk
   rw [hp,hk] at q3;cases q3)
 have s1:=h1.same;have s2:=h2.same;have s3:=h3.same;have s4:=h4.same
 rw [←e1] at s1
 rw [←e2] at s2
 rw [←e3] at s3
 have hsp:∀T s,uE T b goal full a ns tg own isK line s=aU T goal ((lZ T a (ns.map (aa b)) (aF (aa b tg)) line s).1::((eG T b full a own (lZ T a (ns.map (aa b)) (aF (aa b tg)) line s).2).1++[(P3 T (eG T b full a own (lZ T a (ns.map (aa b)) (aF (aa b tg)) line s).2).2).1])) (P3 T (eG T b full a own (lZ T a (ns.map (aa b)) (aF (aa b tg)) line s).2).2).2:=fun T s=>by rw [hP3];rfl
 constructor
 ·rw [hsp,hsp,←s1,←e1,←s2,←e2,←s3,←e3];exact s4
 rw [hsp,←e1,←e2,←e3];exact h4.dL
end
end Go.Proofs.Wit
namespace Go.Proofs.Wit
open Go Go.RowKit
/-! the proof that is extracted: its steps, the whole -/
section
variable {l:Int} {b:List NV} {ss:List SD} {σ:Sg}
theorem G8 {l:Int} (h:tD l):ct l 4=true:=by unfold tD at h;unfold ct;rw [if_neg (by decide),if_pos rfl];exact decide_eq_true (by omega)
theorem Hg {l:Int} (h:uW l):ct l 5=true:=by unfold uW at h;unfold ct;rw [if_neg (by decide),if_neg (by decide),if_pos rfl];exact decide_eq_true (by omega)
theorem qg (hb:aW b) {s:aB} {a:Int} {n:Nat} (hn:(lF l b s a).getLsbD n=true) (he:eS b s a n=n):∃z,eW z∧((aa b n=ar a z∧ct l 4=true)∨(aa b n=gl a z∧ct l 5=true)):=by
 obtain ⟨i,h1,h2,h3,h4⟩:=(kh hb).1 hn
 have hno:¬((nd b i).op=9∧(nd b i).x=n):=fun ⟨g1,g2⟩=>by
  rcases dH (b:=b) (s:=s) (ag:=a) (n:=n) with ⟨j,k1,k2,k3,k4,k5,k6,_⟩|⟨k1,k2⟩
  ·have hj:j=n:=by omega
   subst hj
   have:=hb.x k2 (by omega)
   omega
  exact k2 i h1 h2 g1 h3 g2
 rcases h4 with h4|⟨h4,h5⟩
 ·exact absurd h4 hno
 subst h4
 have hok:=hb.ok h1
 rcases hb.node h1 with ⟨g1,g2⟩|⟨g1,g2⟩|⟨g1,g2⟩
 ·omega
 ·have hx:=hb.x h1 (by omega)
  rw [g2] at hok
  obtain ⟨_,e1,e2⟩:=m4 hok (by omega)
  refine ⟨aa b (nd b n).x.toNat,hb.fr (by omega),?_⟩
  rw [g2,e1,e2,h3]
  rcases h5 with ⟨h5,h6⟩|⟨h5,h6⟩
  ·exact .inl ⟨by rw [h5],G8 h6⟩
  exact .inr ⟨by rw [h5],Hg h6⟩
 omega
theorem xX (hb:aW b) {s u:aB} {a:Int} {v:Tr→Bool} {n:Nat} (_hi:0≤a∧a<4) (hall:∀n,u.getLsbD n=true→cg v (aa b n)=true) (hu:u.getLsbD (eS b s a n)=true) (hc:eS b s a n=n→cg v (aa b n)=true→cg v (ar a (aa b n))=true):cg v (ar a (aa b n))=true:=by
 rcases dH (b:=b) (s:=s) (ag:=a) (n:=n) with ⟨i,h1,h2,h3,h4,h5,h6,_⟩|⟨h1,_⟩
 ·rw [h1] at hu
  have:=hall i hu
  have hok:=hb.ok h2
  rcases hb.node h2 with ⟨g1,g2⟩|⟨g1,g2⟩|⟨g1,g2⟩
  ·omega
  ·rw [g2] at hok this
   obtain ⟨_,e1,e2⟩:=m4 hok (by omega)
   rw [e1,e2,h4,h5,h6] at this;exact this
  omega
 rw [h1] at hu
 exact hc h1 (hall n hu)
def qv (b:List NV) (tl:List SD) (σ:Sg) (last:List Nat) (q:Nat):Prop:=∀j,j<q→dq σ (last.getD j 0) (dC b (dh tl (j:Int)))
theorem sg {n:Nat}:∀{xs:List Nat},n∈xs→n∈xs.dropLast∨n=xs.getLastD 0:=fun {xs} h=>by
 have hne:xs≠[]:=fun e=>by rw [e] at h;cases h
 have e:xs.dropLast++[xs.getLast hne]=xs:=List.dropLast_concat_getLast hne
 rw [←e] at h
 rcases List.mem_append.1 h with h|h
 ·exact .inl h
 refine .inr ?_
 rw [List.mem_singleton.1 h,List.getLastD_eq_getLast?,List.getLast?_eq_some_getLast hne];rfl
theorem kE {xs:List Nat} (h:xs≠[]):xs.getLastD 0∈xs:=by
 rw [List.getLastD_eq_getLast?,List.getLast?_eq_some_getLast h]
 exact List.getLast_mem h
theorem fH.AE (h:fH l b ss) {k:Nat} (hk:k<ss.length) (hn:cX ss k=true) {last:List Nat} (hl:qv b (cy b ss) σ last (bd (cX ss) k)) (hg:Good l σ):
  sG l (fun T=>bL T b (cy b ss) ss[k].set (fW b ss k ss[k]) last) σ:=by
 have hb:=h.base
 have hus:=h.sub k hk
 have hin:ju b (mJ b ss k):=fun n hn=>(h.lX k hk).1 n (hus n hn)
 have hgl:eW (dC b (mJ b ss k)):=oW hb hin
 have hsub:∀(j:Nat),(j:Int)∈ss[k].fr→∀m,Us b ss j m→(dh ss j).getLsbD m=true:=fun j hj m hm=>by
  have:=(h.pre hk hn hj).2.1
  rw [eN (by omega)];exact h.sub j (by omega) m hm
 have hinj:∀(j:Nat),(j:Int)∈ss[k].fr→∀m,Us b ss j m→m<b.length:=fun j hj m hm=>by
  have:=(h.pre hk hn hj).2.1
  exact (h.lX j (by omega)).1 m (h.sub j (by omega) m hm)
 have hset:∀(j:Nat),(j:Int)∈ss[k].fr→dh (cy b ss) (bd (cX ss) j:Nat)=mJ b ss j:=fun j hj=>
  rK (by have:=(h.pre hk hn hj).2.1;omega) (h.pre hk hn hj).1
 have hline:∀(j:Nat),(j:Int)∈ss[k].fr→dq σ (last.getD (bd (cX ss) j) 0) (dC b (mJ b ss j)):=fun j hj=>by
  rw [←hset j hj];exact hl _ (h.pre hk hn hj).2.2
 have hru:(fW b ss k ss[k]).av=ss[k].av:=rfl
 have hon:(fW b ss k ss[k]).on=ss[k].on:=rfl
 have hse:(fW b ss k ss[k]).set=mJ b ss k:=rfl
 have hfr:(fW b ss k ss[k]).fr=ss[k].fr.map (fun j=>((bd (cX ss) j.toNat:Nat):Int)):=rfl
 have ev2:∀{v:Tr→Bool} {o:Nat},o<b.length→(nd b o).op=2→cg v (aa b o)=false:=fun {v o} ho h2=>by
  rcases hb.node ho with ⟨g1,g2⟩|⟨g1,g2⟩|⟨g1,g2⟩
  ·rw [g2,h2];rfl
  ·omega
  omega
 have ev5:∀{v:Tr→Bool} {o:Nat},o<b.length→(nd b o).op=5→cg v (aa b o)=(cg v (aa b (nd b o).x.toNat) && cg v (aa b (nd b o).y.toNat)):=fun {v o} ho h2=>by
  rcases hb.node ho with ⟨g1,g2⟩|⟨g1,g2⟩|⟨g1,g2⟩
  ·omega
  ·omega
  rw [g2,h2];rfl
 have ev6:∀{v:Tr→Bool} {o:Nat},o<b.length→(nd b o).op=6→cg v (aa b o)=(cg v (aa b (nd b o).x.toNat)||cg v (aa b (nd b o).y.toNat)):=fun {v o} ho h2=>by
  rcases hb.node ho with ⟨g1,g2⟩|⟨g1,g2⟩|⟨g1,g2⟩
  ·omega
  ·omega
  rw [g2,h2];rfl
 have evk:∀{o:Nat} {op:Int},op=9∨op=10→o<b.length→(nd b o).op=op→(0≤(nd b o).i∧(nd b o).i<4)∧aa b o=.un op (nd b o).i 0 0 (aa b (nd b o).x.toNat):=fun {o op} h9 ho h2=>by
  have hok:=hb.ok ho
  rcases hb.node ho with ⟨g1,g2⟩|⟨g1,g2⟩|⟨g1,g2⟩
  ·omega
  ·rw [g2,h2] at hok
   obtain ⟨e0,e1,e2⟩:=m4 hok h9
   exact ⟨e0,by rw [g2,h2,e1,e2]⟩
  omega
 unfold bL
 simp only [hru,hon,hse]
 cases h.C3 hk with
 |tP o h1 h2 h3 h4 h5 h6 h7=>
  simp only [if_pos h1,h3,if_pos h6]
  exact dX hg hgl (fun _ n hn=>by cases hn) (fun _ _ v _=>ff.2 (fun hall=>by
   have:=hall o ((h7 o).2 rfl)
   rw [ev2 h4 h6] at this;cases this))
 |neg o e h1 h2 h3 h4 h5 h6 h7 h8 h9 h10 h11 h12=>
  simp only [if_pos h1,h3,if_neg h6]
  have htA:tA b (o:Int)=aa b o:=rfl
  have c1:=lS (ei:=false) (hb.nf o h4) (hb.ok h4) hg
  have c2:dq _ _ (lY false (aa b o)):=eD (T:=af) (ei:=false) (t:=aa b o) (σ:=σ)
  have c3:=dX (g:=dC b (mJ b ss k)) (from_:=[(aJ af false (aa b o) σ).1]) c1.dL hgl (fun hbd n hn=>by rw [List.mem_singleton.1 hn];exact (c2 hbd).1) (fun hbd _ v hv=>ff.2 (fun hall=>by
   have q:=hv _ (List.mem_singleton.2 rfl)
   rw [(c2 hbd).2,oB,if_neg (by decide),hall o ((h12 o).2 (.inl rfl)),←h11,hall e ((h12 e).2 (.inr rfl))] at q
   cases q))
  have s1:=c1.same
  exact ⟨by rw [htA,←s1];exact c3.same,by rw [htA];exact c3.dL⟩
 |and o j h1 h2 h3 h4 h5 h6 h7 h8 h9 h10=>
  have hm:(j:Int)∈ss[k].fr:=by rw [h3];simp
  have e0:(fW b ss k ss[k]).fr.getD 0 0=((bd (cX ss) j:Nat):Int):=by rw [hfr,h3];rfl
  have hx:=hb.x h6 (by omega)
  have hy:=hb.y h6 (by omega)
  simp only [h1,show ¬(2:Int)=1 by decide,if_false,if_true,e0,Int.toNat_natCast]
  exact dX hg hgl (fun hbd n hn=>by rw [List.mem_singleton.1 hn];exact (hline j hm hbd).1) (fun hbd _ v hv=>ff.2 (fun hall=>by
   have q:=hv _ (List.mem_singleton.2 rfl)
   rw [(hline j hm hbd).2,ff] at q
   have ho:=hall o ((h10 o).2 (.inr rfl))
   rw [ev5 h6 h8,Bool.and_eq_true] at ho
   refine q (fun n hn=>?_)
   by_cases c1:(n:Int)=(nd b o).x
   ·rw [←c1] at ho;exact ho.1
   by_cases c2:(n:Int)=(nd b o).y
   ·rw [←c2] at ho;exact ho.2
   exact hall n ((h10 n).2 (.inl ⟨hn,c1,c2⟩))))
 |or o j i h1 h2 h3 h4 h5 h6 h7 h8 h9 h10 h11 h12=>
  have hm:(j:Int)∈ss[k].fr:=by rw [h3];simp
  have hm2:(i:Int)∈ss[k].fr:=by rw [h3];simp
  have e0:(fW b ss k ss[k]).fr.getD 0 0=((bd (cX ss) j:Nat):Int):=by rw [hfr,h3];rfl
  have e1:(fW b ss k ss[k]).fr.getD 1 0=((bd (cX ss) i:Nat):Int):=by rw [hfr,h3];rfl
  simp only [h1,show ¬(3:Int)=1 by decide,show ¬(3:Int)=2 by decide,if_false,if_true,e0,e1,Int.toNat_natCast]
  exact dX hg hgl (fun hbd n hn=>by
   simp only [List.mem_cons,List.not_mem_nil,or_false] at hn
   rcases hn with rfl|rfl
   ·exact (hline j hm hbd).1
   ·exact (hline i hm2 hbd).1) (fun hbd _ v hv=>ff.2 (fun hall=>by
   have q1:=hv _ (List.mem_cons_self ..)
   have q2:=hv _ (List.mem_cons_of_mem _ (List.mem_cons_self ..))
   rw [(hline j hm hbd).2,ff] at q1
   rw [(hline i hm2 hbd).2,ff] at q2
   have ho:=hall o ((h12 o).2 (.inr (.inr rfl)))
   rw [ev6 h7 h9,Bool.or_eq_true] at ho
   rcases ho with ho|ho
   ·refine q1 (fun n hn=>?_)
    by_cases c1:(n:Int)=(nd b o).x
    ·rw [←c1] at ho;exact ho
    exact hall n ((h12 n).2 (.inl ⟨hn,c1⟩))
   refine q2 (fun n hn=>?_)
   by_cases c1:(n:Int)=(nd b o).y
   ·rw [←c1] at ho;exact ho
   exact hall n ((h12 n).2 (.inr (.inl ⟨hn,c1⟩)))))
 |cut o e j i h1 h2 h3 h4 h5 h6 h7 h8 h9 h10 h11 h12 h13=>
  have hm:(j:Int)∈ss[k].fr:=by rw [h2];simp
  have hm2:(i:Int)∈ss[k].fr:=by rw [h2];simp
  have e0:(fW b ss k ss[k]).fr.getD 0 0=((bd (cX ss) j:Nat):Int):=by rw [hfr,h2];rfl
  have e1:(fW b ss k ss[k]).fr.getD 1 0=((bd (cX ss) i:Nat):Int):=by rw [hfr,h2];rfl
  simp only [h1,h5,show ¬(4:Int)=1 by decide,show ¬(4:Int)=2 by decide,show ¬(4:Int)=3 by decide,if_false,if_true,e0,e1,Int.toNat_natCast]
  have htA:tA b (o:Int)=aa b o:=rfl
  have c1:=lS (ei:=true) (hb.nf o h6) (hb.ok h6) hg
  have c2:dq _ _ (lY true (aa b o)):=eD (T:=af) (ei:=true) (t:=aa b o) (σ:=σ)
  have lle:σ.Le (aJ af true (aa b o) σ).2:=ik
  have c3:=dX (g:=dC b (mJ b ss k)) (from_:=[(aJ af true (aa b o) σ).1,last.getD (bd (cX ss) j) 0,last.getD (bd (cX ss) i) 0]) c1.dL hgl (fun hbd n hn=>by
   simp only [List.mem_cons,List.not_mem_nil,or_false] at hn
   rcases hn with rfl|rfl|rfl
   ·exact (c2 hbd).1
   ·exact ((hline j hm).le lle hbd).1
   ·exact ((hline i hm2).le lle hbd).1) (fun hbd _ v hv=>ff.2 (fun hall=>by
   have q0:=hv _ (List.mem_cons_self ..)
   have q1:=hv _ (List.mem_cons_of_mem _ (List.mem_cons_self ..))
   have q2:=hv _ (List.mem_cons_of_mem _ (List.mem_cons_of_mem _ (List.mem_cons_self ..)))
   rw [(c2 hbd).2,oB,if_pos rfl,←h10,Bool.or_eq_true] at q0
   rw [((hline j hm).le lle hbd).2,ff] at q1
   rw [((hline i hm2).le lle hbd).2,ff] at q2
   rcases q0 with q0|q0
   ·refine q1 (fun n hn=>?_)
    by_cases c1:n=o
    ·rw [c1];exact q0
    exact hall n ((h13 n).2 (.inl ⟨hn,c1⟩))
   refine q2 (fun n hn=>?_)
   by_cases c1:n=e
   ·rw [c1];exact q0
   exact hall n ((h13 n).2 (.inr ⟨hn,c1⟩))))
  have s1:=c1.same
  exact ⟨by rw [htA,←s1];exact c3.same,by rw [htA];exact c3.dL⟩
 |t o j h1 h2 h3 h4 h5 h6 h7 h8 h9 h10 h11=>
  have hm:(j:Int)∈ss[k].fr:=by rw [h4];simp
  have e0:(fW b ss k ss[k]).fr.getD 0 0=((bd (cX ss) j:Nat):Int):=by rw [hfr,h4];rfl
  simp only [h1,h6,show ¬(5:Int)=1 by decide,show ¬(5:Int)=2 by decide,show ¬(5:Int)=3 by decide,show ¬(5:Int)=4 by decide,if_false,if_true,e0,Int.toNat_natCast]
  have hx:=hb.x h7 (by omega)
  obtain ⟨hi,ht⟩:=evk (.inl rfl) h7 h9
  have htA:tA b (o:Int)=aa b o:=rfl
  have htX:tA b (nd b o).x=aa b (nd b o).x.toNat:=rfl
  have fx:eW (aa b (nd b o).x.toNat):=hb.fr (by omega)
  have c1:sG l (fun T=>bS T (aP (tA b (o:Int)) (tA b (nd b o).x)) 3 0 0 0) σ:=gH hg (fun _ _=>⟨by rw [htA,htX];exact (hb.fr h7).im fx,by unfold ct;rw [if_pos rfl];exact decide_eq_true h3,.inr (.inl ⟨by decide,by decide,rfl,rfl,rfl,⟨(nd b o).i,aa b (nd b o).x.toNat,by rw [htA,htX,ht]⟩⟩)⟩)
  have c2:dq _ _ (aP (tA b (o:Int)) (tA b (nd b o).x)):=bQ (T:=af) (t:=aP (tA b (o:Int)) (tA b (nd b o).x)) (r:=3) (a:=0) (b:=0) (gg:=0) (σ:=σ)
  have lle:σ.Le (bS af (aP (tA b (o:Int)) (tA b (nd b o).x)) 3 0 0 0 σ).2:=df
  have c3:=dX (g:=dC b (mJ b ss k)) (from_:=[(bS af (aP (tA b (o:Int)) (tA b (nd b o).x)) 3 0 0 0 σ).1,last.getD (bd (cX ss) j) 0]) c1.dL hgl (fun hbd n hn=>by
   simp only [List.mem_cons,List.not_mem_nil,or_false] at hn
   rcases hn with rfl|rfl
   ·exact (c2 hbd).1
   ·exact ((hline j hm).le lle hbd).1) (fun hbd _ v hv=>ff.2 (fun hall=>by
   have q0:=hv _ (List.mem_cons_self ..)
   have q1:=hv _ (List.mem_cons_of_mem _ (List.mem_cons_self ..))
   rw [(c2 hbd).2,oM,htA,hall o ((h11 o).2 (.inr rfl)),htX] at q0
   rw [((hline j hm).le lle hbd).2,ff] at q1
   refine q1 (fun n hn=>?_)
   by_cases c1:(n:Int)=(nd b o).x
   ·rw [←c1] at q0;simpa using q0
   exact hall n ((h11 n).2 (.inl ⟨hn,c1⟩))))
  have s1:=c1.same
  exact ⟨by rw [←s1];exact c3.same,c3.dL⟩
 |k o j h1 h2 h3 h4 h5 h6 h7 h8 h9 h10=>
  have hm:(j:Int)∈ss[k].fr:=by rw [h3];simp
  have e0:(fW b ss k ss[k]).fr.getD 0 0=((bd (cX ss) j:Nat):Int):=by rw [hfr,h3];rfl
  simp only [h1,h5,show ¬(6:Int)=1 by decide,show ¬(6:Int)=2 by decide,show ¬(6:Int)=3 by decide,show ¬(6:Int)=4 by decide,show ¬(6:Int)=5 by decide,if_false,if_true,e0,Int.toNat_natCast]
  have hx:=hb.x h6 (by omega)
  have hlen:=hb.len
  obtain ⟨hi,ht⟩:=evk (.inr rfl) h6 h8
  have hmem:∀n,n∈dY (dh (cy b ss) ((bd (cX ss) j:Nat):Int) &&& ~~~ bW (nd b o).x)↔Us b ss j n∧(n:Int)≠(nd b o).x:=fun n=>by
   rw [db,gy,hset j hm,od (by omega)]
  have hcr:∀n,Us b ss j n→(n:Int)≠(nd b o).x→(lF l b ss[k].set (nd b o).i).getLsbD n=true:=fun n hn hne=>(h9 n (hsub j hm n hn)).resolve_right hne
  refine vN hb hi hgl (fun n hn=>hinj j hm n ((hmem n).1 hn).1) (by omega) (fun e=>by cases e) hg (hline j hm) (fun v hv=>?_) (fun n hn he=>?_) (fun v hv1 hv2 hv3=>?_)
  ·rw [ff] at hv
   rw [uV]
   intro hall
   rw [qG,Bool.not_eq_true']
   cases hX:cg v (aa b (nd b o).x.toNat) with
   |false=>rfl
   |true=>
    exact absurd (fun n hn=>by
     by_cases c1:(n:Int)=(nd b o).x
     ·rw [←c1] at hX;exact hX
     exact hall _ (List.mem_map_of_mem ((hmem n).2 ⟨hn,c1⟩))) hv
  ·have:=(hmem n).1 hn
   exact qg hb (hcr n this.1 this.2) he
  rw [if_pos rfl] at hv3
  refine ff.2 (fun hall=>?_)
  have ho:=hall o ((h10 o).2 (.inr rfl))
  rw [ht] at ho
  refine hv3 ho (hv1 (fun n hn=>?_))
  have hn':=(hmem n).1 hn
  exact xX hb hi hall ((h10 _).2 (.inl ⟨n,hn'.1,hn'.2,rfl⟩)) (fun e=>hv2 n hn e)
 |d j h1 h2 h3 h4 h5 h6 h7 h8=>
  have hm:(j:Int)∈ss[k].fr:=by rw [h4];simp
  have e0:(fW b ss k ss[k]).fr.getD 0 0=((bd (cX ss) j:Nat):Int):=by rw [hfr,h4];rfl
  simp only [h1,show ¬(7:Int)=1 by decide,show ¬(7:Int)=2 by decide,show ¬(7:Int)=3 by decide,show ¬(7:Int)=4 by decide,show ¬(7:Int)=5 by decide,show ¬(7:Int)=6 by decide,if_false,e0,Int.toNat_natCast]
  have hmem:∀n,n∈dY (dh (cy b ss) ((bd (cX ss) j:Nat):Int))↔Us b ss j n:=fun n=>by rw [db,hset j hm]
  obtain ⟨ps,hps⟩:∃ps,ps=dY (dh (cy b ss) ((bd (cX ss) j:Nat):Int)):=⟨_,rfl⟩
  rw [←hps] at hmem⊢
  have hne:ps≠[]:=fun e=>by
   obtain ⟨n,hn,_⟩:=h.ze j (by have:=(h.pre hk hn hm).2.1;omega)
   have:=(hmem n).2 hn
   rw [e] at this;cases this
  have hlm:=(hmem _).1 (kE hne)
  refine vN hb h6 hgl (fun n hn=>hinj j hm n ((hmem n).1 ((List.dropLast_sublist _).subset hn))) (hinj j hm _ hlm) (fun _=>by unfold ct;rw [if_neg (by decide),if_neg (by decide),if_neg (by decide),if_pos rfl];exact decide_eq_true h3) hg (hline j hm) (fun v hv=>?_) (fun n hn he=>?_) (fun v hv1 hv2 hv3=>?_)
  ·rw [ff] at hv
   rw [uV]
   intro hall
   rw [qG,Bool.not_eq_true']
   cases hX:cg v (aa b (ps.getLastD 0)) with
   |false=>rfl
   |true=>
    exact absurd (fun n hn=>by
     rcases sg ((hmem n).2 hn) with c1|c1
     ·exact hall _ (List.mem_map_of_mem c1)
     rw [c1];exact hX) hv
  ·exact qg hb (h7 n (hsub j hm n ((hmem n).1 hn))) he
  rw [if_neg (by decide)] at hv3
  refine ff.2 (fun hall=>?_)
  have hkw:∀n∈ps,cg v (ar ss[k].on (aa b n))=true:=fun n hn=>xX hb h6 hall ((h8 _).2 ⟨n,(hmem n).1 hn,rfl⟩) (fun e=>hv2 n hn e)
  exact hv3 (hkw _ (kE hne)) (hv1 (fun n hn=>hkw n ((List.dropLast_sublist _).subset hn)))
theorem lA:∀{k:Nat},k≤ss.length→(cQ ss k).length=bd (cX ss) k
 |0,_=>by simp [cQ,bd]
 |k+1,h=>by
  have h1:=lA (k:=k) (by omega)
  rw [cQ,List.getElem?_eq_getElem (by omega:k<ss.length),fF]
  dsimp only
  split<;>simp [h1]
theorem rZ {j:Nat} (hn:cX ss j=true):∀{k:Nat},k≤ss.length→j<k→∀hj:j<ss.length,(cQ ss k)[bd (cX ss) j]?=some ss[j].set
 |0,_,h,_=>by omega
 |k+1,h,h2,hj=>by
  rw [cQ,List.getElem?_eq_getElem (by omega:k<ss.length)]
  dsimp only
  by_cases e:j=k
  ·subst e
   rw [if_pos hn,List.getElem?_append_right (by rw [lA (by omega)];exact Nat.le_refl _),lA (by omega)]
   simp
  have h3:=rZ hn (k:=k) (by omega) (by omega) hj
  split
  ·rw [List.getElem?_append_left (List.getElem?_eq_some_iff.1 h3).1];exact h3
  exact h3
theorem eO {T:Tr→Prop} {tl:List SD} {fl:List aB} {q:Nat} (hq:q<tl.length):aT T b tl fl (q+1)=((aT T b tl fl q).1++[(bL T b tl (fl.getD q 0#64) tl[q] (aT T b tl fl q).1 (aT T b tl fl q).2).1],(bL T b tl (fl.getD q 0#64) tl[q] (aT T b tl fl q).1 (aT T b tl fl q).2).2):=by
 rw [aT,List.getElem?_eq_getElem hq]
theorem lO {T:Tr→Prop} {tl:List SD} {fl:List aB}:∀{q:Nat},q≤tl.length→(aT T b tl fl q).1.length=q
 |0,_=>rfl
 |q+1,h=>by rw [eO (by omega),List.length_append,lO (by omega)];rfl
theorem tc {T:Tr→Prop} {tl:List SD} {fl:List aB} {q:Nat} (hq:q+1≤tl.length):oE (aT T b tl fl (q+1)).2 ((aT T b tl fl (q+1)).1.getD q 0):=by
 have hl:=lO (T:=T) (b:=b) (fl:=fl) (show q≤tl.length by omega)
 rw [eO (by omega)]
 have:((aT T b tl fl q).1++[(bL T b tl (fl.getD q 0#64) tl[q] (aT T b tl fl q).1 (aT T b tl fl q).2).1]).getD q 0=(bL T b tl (fl.getD q 0#64) tl[q] (aT T b tl fl q).1 (aT T b tl fl q).2).1:=by
  simp [List.getD_eq_getElem?_getD,hl]
 dsimp only
 rw [this];exact uk
theorem kz {T:Tr→Prop} {tl:List SD} {fl:List aB}:∀{q:Nat},q≤tl.length→qv b tl (aT T b tl fl q).2 (aT T b tl fl q).1 q
 |0,_=>fun j hj=>by omega
 |q+1,h=>fun j hj=>by
  have hl:=lO (T:=T) (b:=b) (fl:=fl) (show q≤tl.length by omega)
  rw [eO (by omega)]
  dsimp only
  by_cases e:j=q
  ·subst e
   have:((aT T b tl fl j).1++[(bL T b tl (fl.getD j 0#64) tl[j] (aT T b tl fl j).1 (aT T b tl fl j).2).1]).getD j 0=(bL T b tl (fl.getD j 0#64) tl[j] (aT T b tl fl j).1 (aT T b tl fl j).2).1:=by
    simp [List.getD_eq_getElem?_getD,hl]
   rw [this,eN (by omega)];exact wz
  have h1:dq (aT T b tl fl q).2 ((aT T b tl fl q).1.getD j 0) (dC b (dh tl (j:Int))):=kz (tl:=tl) (fl:=fl) (q:=q) (by omega) j (by omega)
  have:((aT T b tl fl q).1++[(bL T b tl (fl.getD q 0#64) tl[q] (aT T b tl fl q).1 (aT T b tl fl q).2).1]).getD j 0=(aT T b tl fl q).1.getD j 0:=by
   simp only [List.getD_eq_getElem?_getD]
   rw [List.getElem?_append_left (show j<(aT T b tl fl q).1.length by omega)]
  rw [this]
  exact h1.le (sQ (T:=T) (b:=b) (tl:=tl) (full:=fl.getD q 0#64) (x:=tl[q]) (last:=(aT T b tl fl q).1) (σ:=(aT T b tl fl q).2))
theorem tM:Good l ⟨[],false⟩:=⟨by decide,fun k hk=>absurd hk (Nat.not_lt_zero k),fun k hk=>absurd hk (Nat.not_lt_zero k)⟩
theorem fH.Db (h:fH l b ss) (q:Nat):q≤(cy b ss).length→aT af b (cy b ss) (cQ ss ss.length) q=aT lJ b (cy b ss) (cQ ss ss.length) q∧Good l (aT af b (cy b ss) (cQ ss ss.length) q).2:=by
 induction q with
 |zero=>intro _;exact ⟨by simp only [aT],by simp only [aT];exact tM⟩
 |succ q ih=>
  intro hq
  obtain ⟨h1,h2⟩:=ih (by omega)
  have hql:q<(cy b ss).length:=by omega
  obtain ⟨k,hk,k1,k2,k3⟩:=pq (b:=b) hql
  have hf:(cQ ss ss.length).getD q 0#64=ss[k].set:=by
   rw [List.getD_eq_getElem?_getD,←k2,rZ k1 (Nat.le_refl _) hk hk];rfl
  have hl:=kz (T:=af) (b:=b) (tl:=cy b ss) (fl:=cQ ss ss.length) (q:=q) (by omega)
  obtain ⟨p,hp⟩:∃p,p=aT af b (cy b ss) (cQ ss ss.length) q:=⟨_,rfl⟩
  rw [←hp] at h1 h2 hl
  have h3:=h.AE hk k1 (last:=p.1) (by rw [k2];exact hl) h2
  have s3:=h3.same
  rw [eO hql,eO hql,hf,k3,←h1,←hp,←s3]
  exact ⟨rfl,h3.dL⟩
theorem fH.Ik (h:fH l b ss):gI af b ss=gI lJ b ss∧Good l (gI af b ss).2∧dq (gI af b ss).2 (gI af b ss).1 (dC b (dh ss ((ss.length - 1:Nat):Int)))∧oE (gI af b ss).2 (gI af b ss).1:=by
 obtain ⟨h1,h2⟩:=h.Db _ (Nat.le_refl _)
 obtain ⟨c1,c2,c3,c4⟩:=h.vn
 have hl:=kz (T:=af) (b:=b) (tl:=cy b ss) (fl:=cQ ss ss.length) (Nat.le_refl _) ((cy b ss).length - 1) c1
 have hll:oE (aT af b (cy b ss) (cQ ss ss.length) (cy b ss).length).2 ((aT af b (cy b ss) (cQ ss ss.length) (cy b ss).length).1.getD ((cy b ss).length - 1) 0):=by
  have:=tc (T:=af) (b:=b) (tl:=cy b ss) (fl:=cQ ss ss.length) (q:=(cy b ss).length - 1) (by omega)
  rwa [show (cy b ss).length - 1+1=(cy b ss).length by omega] at this
 have hsub:∀n,(dh (cy b ss) (((cy b ss).length - 1:Nat):Int)).getLsbD n=true→(dh ss ((ss.length - 1:Nat):Int)).getLsbD n=true:=fun n hn=>by
  rw [eN c1,c3] at hn
  rw [eN c2];exact h.sub _ c2 n hn
 unfold gI
 dsimp only
 by_cases e:dh (cy b ss) (((cy b ss).length - 1:Nat):Int)=dh ss ((ss.length - 1:Nat):Int)
 ·simp only [if_pos e]
  refine ⟨by rw [h1],h2,?_,hll⟩
  rw [←e];exact hl
 simp only [if_neg e]
 have hin:ju b (dh ss ((ss.length - 1:Nat):Int)):=by
  rw [eN c2];exact (h.lX _ c2).1
 have h3:=dX (g:=dC b (dh ss ((ss.length - 1:Nat):Int))) (from_:=[(aT af b (cy b ss) (cQ ss ss.length) (cy b ss).length).1.getD ((cy b ss).length - 1) 0]) h2 (oW h.base hin) (fun hb n hn=>by rw [List.mem_singleton.1 hn];exact (hl hb).1) (fun hb _ v hv=>by
  have q:=hv _ (List.mem_singleton.2 rfl)
  rw [(hl hb).2,ff] at q
  rw [ff]
  exact fun hall=>q (fun n hn=>hall n (hsub n hn)))
 exact ⟨by rw [←h1];exact h3.same,h3.dL,eF,rv⟩
end
end Go.Proofs.Wit
namespace Go.Proofs.Wit
open Go Go.RowKit
/-! how the needed lines are found -/
def IQ (ls:List LV) (k j:Nat):Prop:=∃hk:k<ls.length,(10≤ls[k].r∧j=ls[k].a.toNat)∨(ls[k].r=10∧j=ls[k].b.toNat)
structure Je (ls:List LV) (i:Nat) (s:List Bool):Prop where
  len:s.length=ls.length
  Bq:∀j,j<ls.length→(sB s j=true↔(j+1=ls.length∨∃k,ls.length≤k+i∧k<ls.length∧ET ls k∧IQ ls k j))
section
variable {l:Int} {ls:List LV} {i k:Nat} {s:List Bool}
end
end Go.Proofs.Wit
namespace Go.Proofs.Wit
open Go Go.RowKit
/-! a line more -/
def FV.sH (t:TypeId) (H:Hl) (x:FV):Prop:=∃q sp,(q,eX t x.f sp)∈H∧x.a=q.map (fun b=>⟨b,0,none⟩)∧(q=none→x.f.length=0)
theorem FV.sH.mono {t:TypeId} {H H':Hl} {x:FV} (h:x.sH t H) (hs:H⊆H'):x.sH t H':=by
 obtain ⟨q,sp,h1,h2,h3⟩:=h
 exact ⟨q,sp,hs h1,h2,h3⟩
theorem FV.sH.at {t:TypeId} {w0 w:World} {S:List Nat} {h:Hl} {Y:List (Nat×Obj)} {x:FV} (g:x.sH t h) (s:St w0 S w h Y):FA w x.a x.f:=by
 obtain ⟨q,sp,h1,h2,h3⟩:=g
 obtain ⟨j,hj⟩:=List.getElem?_of_mem h1
 rw [h2]
 exact aM s j hj h3
theorem Cp {w0 w:World} {S:List Nat} {h:Hl} {Y:List (Nat×Obj)} (s:St w0 S w h Y) (j:Nat) {q:Option Nat} {ls:List LV} {e:TypeId} {sp:List Value} (hj:h[j]?=some (q,xv e ls sp)) (hq:q=none→ls.length=0)
  {t:TypeId} (hin:∀x∈ls,x.f.sH t h∧x.f.f.length≤maxLen):LA w (q.map (fun b=>⟨b,0,none⟩)) ls:=by
 refine ⟨?_,fun x hx=>⟨(hin x hx).1.at s,(hin x hx).2⟩⟩
 cases q with
 |none=>rw [List.eq_nil_of_length_eq_zero (hq rfl)];exact Sl.nil _ _
 |some b=>exact Sl.di (s.get hj)
def ia (t tl:TypeId) (w w':World) (v:Value) (ls:List LV):Prop:=∃(q:Option Nat) (cap:Nat) (sp:List Value) (H:Hl),v=cR q ls.length cap∧(q=none→ls.length=0∧cap=0)∧(ls.flatMap LV.cells++sp).length=cap*5∧gi w w' ((q,xv tl ls sp)::H)∧∀x∈ls,x.f.sH t H∧x.f.f.length≤maxLen
theorem ia.nil {t tl:TypeId} {w w':World}:ia t tl w w' (.slice none 0 0) []:=⟨none,0,[],[],rfl,fun _=>⟨rfl,rfl⟩,rfl,gi.nil,fun _ h=>by cases h⟩
section
variable {P:Program} {r:Option Nat} {f:FuncId} {R:Value→World→Prop} {w0:World} {S:List Nat} {Y:List (Nat×Obj)} {n:Nat} {k:List Item} {l:Fl} {h:Hl}
variable {ops:Array Oper} {i d:Nat} {rest:List Nat} {ty:TypeId} {pos:String} {aft:Array Edge} {g:Option (Nat×Bool)}
theorem uR {ls:List LV} {x:LV}:(ls++[x]).flatMap LV.cells=ls.flatMap LV.cells++LV.cells x:=by simp
end
end Go.Proofs.Wit
namespace Go.Proofs.Wit
open Go Go.RowKit
/-! refutations in memory -/
def SV.cells (x:SV):List Value:=[U x.d.set,.int .i64 x.d.av,.int .i64 x.d.on,.int .i64 x.d.e,.slice x.fa x.d.fr.length x.fc]
structure sJ (w:World) (A:Option Addr) (ss:List SV):Prop where
  at_:Sl w A (ss.flatMap SV.cells)
  w5:∀s∈ss,jw w s.fa s.d.fr∧s.d.fr.length≤maxLen
theorem sJ.ay {w0 w:World} {A:Option Addr} {ss:List SV} (h:sJ w0 A ss) (e:Ex [] w0 w):sJ w A ss:=⟨Sl.ex h.at_ e (by simp),fun s hs=>⟨(h.w5 s hs).1.ay e,(h.w5 s hs).2⟩⟩
def bK (l:Int) (A:Option Addr) (n cA:Nat) (B:Option Addr) (m cB:Nat):Array Value:=#[.int .i64 l,.slice A n cA,.slice B m cB]
def oO (l:Int) (A:Option Addr) (n cA:Nat) (B:Option Addr) (m cB:Nat) (O:Option Addr) (k cO:Nat):Array Value:=#[.int .i64 l,.slice A n cA,.slice B m cB,.slice O k cO]
abbrev dE (ss:List SV):List SD:=ss.map SV.d
theorem cH {ss:List SV}:(dE ss).length=ss.length:=by simp
theorem my {ss:List SV} {k:Nat} (hk:k<ss.length):(dE ss)[k]'(by simpa using hk)=ss[k].d:=by simp
theorem rY {s:aB} {i:Nat}:(((s>>>i) &&& 1#64)==1#64)=s.getLsbD i:=by
 rw [Bool.eq_iff_iff,beq_iff_eq]
 constructor
 ·intro h
  have:=congrArg (fun x=>x.getLsbD 0) h
  simpa using this
 intro h
 apply BitVec.eq_of_getLsbD_eq
 intro k hk
 rw [BitVec.getLsbD_and,BitVec.getLsbD_ushiftRight,BitVec.getLsbD_one]
 by_cases e:k=0
 ·subst e;simp [h]
 simp [e]
theorem uL {b:List NV} {s:aB} (h0:0<b.length) (h64:b.length≤64):(s &&& ~~~ (18446744073709551615#64>>>(64 - b.length))=0#64)↔ju b s:=by
 rw [lL]
 have hb:∀k,(18446744073709551615#64>>>(64 - b.length)).getLsbD k=true↔k<b.length:=fun k=>by
  rw [BitVec.getLsbD_ushiftRight,show (18446744073709551615#64)=BitVec.allOnes 64 from by decide,BitVec.getLsbD_allOnes,decide_eq_true_eq];omega
 exact forall_congr' fun k=>imp_congr_right fun _=>hb k
def DN (b:List NV) (s:aB):Bool:=s &&& ~~~ (18446744073709551615#64>>>(64 - b.length))==0#64
theorem tH {b:List NV} {s:aB} (h0:0<b.length) (h64:b.length≤64):DN b s=true↔ju b s:=by
 unfold DN;rw [beq_iff_eq];exact uL h0 h64
theorem iy {ss:List SD} {k:Nat}:∀{fs:List Int} {us:List aB},eJ ss k fs us↔fs.length=us.length∧∀j,j<us.length→(0≤fs.getD j 0∧fs.getD j 0<k)∧dh ss (fs.getD j 0) &&& ~~~ us.getD j 0#64=0#64
 |[],[]=>by simp [eJ]
 |[],_::_=>by simp [eJ]
 |_::_,[]=>by simp [eJ]
 |f::fs,u::us=>by
  rw [eJ,iy]
  constructor
  ·rintro ⟨h1,h2,h3⟩
   refine ⟨by simp [h2],fun j hj=>?_⟩
   cases j with
   |zero=>exact h1
   |succ j=>exact h3 j (by simp at hj;omega)
  rintro ⟨h1,h2⟩
  refine ⟨h2 0 (by simp),by simpa using h1,fun j hj=>h2 (j+1) (by simp;omega)⟩
def kN (os:List Int) (node other:Int):Bool:=decide (0≤node∧node<os.length∧0≤other∧os.getD node.toNat 0=other)
def kI (b:List NV) (x:SD) (op:Int):Bool:=decide (x.on<b.length) && (eU x.set x.on && decide ((nd b x.on).op=op))
theorem iQ {b:List NV} {x:SD} {op:Int}:kI b x op=true↔Ag b x op:=by
 unfold kI Ag;simp only [Bool.and_eq_true,decide_eq_true_eq]
def EH:NV:=⟨0,0,0,0,0,0⟩
noncomputable def dn (b:List NV):List Int:=(List.range b.length).map (fun (i:Nat)=>jy b (i:Int))
theorem j8 {b:List NV}:(dn b).length=b.length:=by simp [dn]
theorem rR {b:List NV} {i:Nat} (hi:i<b.length):(dn b).getD i 0=jy b i:=by simp [dn,List.getD_eq_getElem?_getD,hi]
theorem oU {b:List NV} {node other:Int}:kN (dn b) node other=true↔(0≤node∧node<b.length)∧0≤other∧jy b node=other:=by
 unfold kN
 rw [decide_eq_true_eq,j8]
 constructor
 ·rintro ⟨h1,h2,h3,h4⟩
  obtain ⟨k,rfl⟩:∃k:Nat,node=k:=⟨node.toNat,by omega⟩
  rw [Int.toNat_natCast,rR (by omega)] at h4
  exact ⟨⟨h1,h2⟩,h3,h4⟩
 rintro ⟨⟨h1,h2⟩,h3,h4⟩
 obtain ⟨k,rfl⟩:∃k:Nat,node=k:=⟨node.toNat,by omega⟩
 exact ⟨h1,h2,h3,by rw [Int.toNat_natCast,rR (by omega)];exact h4⟩
structure Gy (w:World) (t:TypeId) (bc:Nat) (l:Int) (A:Option Addr) (cA:Nat) (b:List NV) (B:Option Addr) (cB:Nat) (ss:List SV) (O:Option Addr) (cO:Nat):Prop where
  di:w.heap[bc]?=some (.cells (oO l A b.length cA B ss.length cB O (dn b).length cO) t (0,0))
  fa:FA w A b
  sa:sJ w B ss
  oa:jw w O (dn b)
  base:aW b
theorem Gy.ex {w w':World} {t:TypeId} {bc:Nat} {l:Int} {A:Option Addr} {cA:Nat} {b:List NV} {B:Option Addr} {cB:Nat} {ss:List SV} {O:Option Addr} {cO:Nat} (h:Gy w t bc l A cA b B cB ss O cO) (e:Ex [] w w'):Gy w' t bc l A cA b B cB ss O cO:=⟨e.gL h.di,h.fa.ay e,h.sa.ay e,h.oa.ay e,h.base⟩
theorem pB {ss:List SD} {k:Nat} {fs:List Int}:eJ ss k fs []↔fs=[]:=by cases fs<;>simp [eJ]
def xt (b:List NV) (x:SD):Prop:=x.fr=[]∧((kI b x 2=true∧x.e=0)∨(eU x.set x.on=true∧eU x.set x.e=true∧kN (dn b) x.on x.e=true))
theorem u0 {b:List NV} {x:SD}:xt b x↔(x.fr=[]∧((Ag b x 2∧x.e=0)∨(eU x.set x.on=true∧x.on<b.length∧eU x.set x.e=true∧jy b x.on=x.e))):=by
 unfold xt
 rw [iQ,oU]
 refine and_congr_right fun _=>or_congr Iff.rfl ?_
 constructor
 ·rintro ⟨h1,h2,h3,h4,h5⟩;exact ⟨h1,h3.2,h2,h5⟩
 rintro ⟨h1,h2,h3,h4⟩
 obtain ⟨k,e1,_⟩:=fR.1 h1
 obtain ⟨j,e2,_⟩:=fR.1 h3
 exact ⟨h1,h3,⟨by omega,h2⟩,by omega,h4⟩
section
variable {l:Int} {b:List NV} {ss:List SD} {k:Nat} {x:SD}
theorem BL (h:¬ju b x.set):¬ey l b ss k x:=fun g=>h g.1
theorem uY (hi:ju b x.set) (h:x.av=1):ey l b ss k x↔xt b x:=by
 rw [u0];unfold ey;rw [h];simp [hi]
theorem np (hi:ju b x.set) (h:x.av=4):ey l b ss k x↔0≤x.e∧kN (dn b) x.on x.e=true∧eJ ss k x.fr [x.set|||bW x.on,x.set|||bW x.e]:=by
 rw [oU];unfold ey;rw [h];simp [hi]
 constructor
 ·rintro ⟨h1,h2,h3,h4⟩;exact ⟨h2,⟨h1,h2,h3⟩,h4⟩
 rintro ⟨h1,⟨h2,h3,h4⟩,h5⟩;exact ⟨h2,h3,h4,h5⟩
theorem F0 (h1:x.av≠1) (h4:x.av≠4) (he:x.e≠0):¬ey l b ss k x:=by
 rintro ⟨_,h⟩
 rcases h with h|h|h|h|h|h|h
 ·exact h1 h.1
 ·exact he h.2.1
 ·exact he h.2.1
 ·exact h4 h.1
 ·exact he h.2.1
 ·exact he h.2.1
 exact he h.2.1
theorem zw (hi:ju b x.set) (he:x.e=0) (h:x.av=2):ey l b ss k x↔kI b x 5=true∧eJ ss k x.fr [x.set|||bW (nd b x.on).x|||bW (nd b x.on).y]:=by
 rw [iQ];unfold ey;rw [h];simp [hi,he]
theorem zv (hi:ju b x.set) (he:x.e=0) (h:x.av=3):ey l b ss k x↔kI b x 6=true∧eJ ss k x.fr [x.set|||bW (nd b x.on).x,x.set|||bW (nd b x.on).y]:=by
 rw [iQ];unfold ey;rw [h];simp [hi,he]
theorem oz (hi:ju b x.set) (he:x.e=0) (h:x.av=5):ey l b ss k x↔kI b x 9=true∧(l=2∨l=4∨l=6)∧eJ ss k x.fr [x.set|||bW (nd b x.on).x]:=by
 rw [iQ];unfold ey;rw [h];simp [hi,he]
 exact ⟨fun ⟨h1,h2,h3⟩=>⟨h2,h1,h3⟩,fun ⟨h1,h2,h3⟩=>⟨h2,h1,h3⟩⟩
theorem zu (hi:ju b x.set) (he:x.e=0) (h:x.av=6):ey l b ss k x↔kI b x 10=true∧eJ ss k x.fr [bW (nd b x.on).x|||lF l b x.set (nd b x.on).i]:=by
 rw [iQ];unfold ey;rw [h];simp [hi,he]
theorem nq (hi:ju b x.set) (he:x.e=0) (h:x.av=7):ey l b ss k x↔(l=1∨l=5)∧0≤x.on∧x.on<4∧eJ ss k x.fr [lF l b x.set x.on]:=by
 unfold ey;rw [h];simp [hi,he,and_assoc]
theorem Ea (h1:x.av≠1) (h2:x.av≠2) (h3:x.av≠3) (h4:x.av≠4) (h5:x.av≠5) (h6:x.av≠6) (h7:x.av≠7):¬ey l b ss k x:=by
 unfold ey;simp [h1,h2,h3,h4,h5,h6,h7]
end
instance {b:List NV} {n:NV}:Decidable (eI b n):=by unfold eI;infer_instance
end Go.Proofs.Wit
