/- Laws of walks, for any program, under the conditions that each theorem states. -/
import Derived.Test.YtnfmegcknckahaaGreatDoorXO29
namespace Go.Proofs.Wit
open Go Go.RowKit
section
variable {l:Int} {b:List NV} {ss:List SD} {σ:Sg}
theorem vQ {a:Int} {h:Tr} (hi:0≤a∧a<4) (hh:eV h):∀{ts ds:List Tr} {r:Nat} {σ:Sg},(∀u∈ts,eV u)→(∀u∈ds,eV u)→Good l σ→di σ r (ct (ds.map (ar a)) (ar a (ct ts h)))→su l (fun T=>se T a h ds ts r) σ
 |[],_,_,σ,_,_,hg,_=>⟨rfl,hg⟩
 |t::ts,ds,r,σ,hts,hds,hg,hr=>by
  have ht:=hts t (List.mem_cons_self ..)
  have hts':∀u∈ts,eV u:=fun u hu=>hts u (List.mem_cons_of_mem _ hu)
  have hc:=eV.ch hts' hh
  have h1:=Ca (i:=a) (p:=t) (q:=ct ts h) hi hg ht hc
  have k1:di (kW af a t (ct ts h) σ).2 (kW af a t (ct ts h) σ).1 (aR (ar a (aR t (ct ts h))) (aR (ar a t) (ar a (ct ts h)))):=bM
  have kr:=hr.le (tv (T:=af) (i:=a) (p:=t) (q:=ct ts h))
  have hds':∀u∈ds++[t],eV u:=fun u hu=>by
   rcases List.mem_append.1 hu with hu|hu
   ·exact hds u hu
   rw [List.mem_singleton.1 hu];exact ht
  have h2:=dW (g:=ct ((ds++[t]).map (ar a)) (ar a (ct ts h))) (from_:=[r,(kW af a t (ct ts h) σ).1]) h1.dF (eV.ch (fun u hu=>by
    obtain ⟨w,hw,rfl⟩:=List.mem_map.1 hu
    exact (hds' w hw).kw hi) (hc.kw hi)) (fun hb n hn=>by
   simp only [List.mem_cons,List.not_mem_nil,or_false] at hn
   rcases hn with rfl|rfl
   ·exact (kr hb).1
   ·exact (k1 hb).1) (fun hb _ v hv=>by
   have e1:=hv _ (List.mem_cons_self ..)
   have e2:=hv _ (List.mem_cons_of_mem _ (List.mem_cons_self ..))
   rw [(kr hb).2,uO] at e1
   rw [(k1 hb).2,oK,oK] at e2
   rw [uO]
   intro hall
   have e3:bV v (ar a (aR t (ct ts h)))=true:=e1 (fun u hu=>hall u (by rw [List.map_append];exact List.mem_append_left _ hu))
   have e4:bV v (ar a t)=true:=hall _ (by rw [List.map_append];exact List.mem_append_right _ (List.mem_singleton.2 rfl))
   rw [e3,e4] at e2
   simpa using e2)
  have h3:=vQ hi hh (ts:=ts) (ds:=ds++[t]) hts' hds' h2.dF eB
  have s1:=h1.same;have s2:=h2.same;have s3:=h3.same
  constructor
  ·simp only [se]
   rw [←s1,←s2];exact s3
  exact h3.dF
theorem BD {a:Int} {h t0:Tr} {ts:List Tr} {n:Nat} (hi:0≤a∧a<4) (hh:eV h) (hts:∀u∈ts,eV u) (hg:Good l σ) (hn:di σ n t0) (he:∀v,bV v t0=true→bV v (ct ts h)=true):su l (fun T=>lR T a ts h n) σ:=by
 have hc:=eV.ch hts hh
 have h1:=dW (g:=ct ts h) (from_:=[n]) hg hc (fun hb m hm=>by rw [List.mem_singleton.1 hm];exact (hn hb).1) (fun hb _ v hv=>by
  have:=hv n (List.mem_singleton.2 rfl)
  rw [(hn hb).2] at this
  exact he v this)
 have h2:=gA (t:=ar a (ct ts h)) (r:=11) (a:=(aX af (ct ts h) [n] σ).1) (b:=0) (g:=a) h1.dF (fun _ _=>⟨hc.kw hi,DI l (by omega),.inr (.inr (.inr ⟨rfl,rfl,hi,_,eB,rfl⟩))⟩)
 have h3:=vQ (ts:=ts) (ds:=[]) hi hh hts (fun u hu=>by cases hu) h2.dF bM
 have s1:=h1.same;have s2:=h2.same;have s3:=h3.same
 constructor
 ·simp only [lR]
  rw [←s1,←s2];exact s3
 exact h3.dF
structure IF (l:Int) (P:(Tr→Prop)→Sg→List Nat×Sg) (σ:Sg):Prop where
  same:P af σ=P lD σ
  dF:Good l (P af σ).2
theorem p7 {full:ax} {a:Int} (hi:0≤a∧a<4):∀{ns:List Nat} {σ:Sg},Good l σ→(∀n∈ns,fz b full a n=n→∃z,eV z∧((aa b n=ar a z∧cg l 4=true)∨(aa b n=gi a z∧cg l 5=true)))→IF l (fun T=>eC T b full a ns) σ
 |[],σ,hg,_=>⟨rfl,hg⟩
 |n::ns,σ,hg,h=>by
  have hns:=fun k hk=>h k (List.mem_cons_of_mem _ hk)
  by_cases e:fz b full a n=n
  ·obtain ⟨z,hz,hf⟩:=h n (List.mem_cons_self ..) e
   have h1:=BG (i:=a) (f:=aa b n) (z:=z) hi hz hf hg
   have h2:=p7 hi (ns:=ns) h1.dF hns
   have s1:=h1.same;have s2:=h2.same
   constructor
   ·simp only [eC]
    rw [if_pos e,if_pos e,←s1,s2]
   simp only [eC]
   rw [if_pos e];exact h2.dF
  have h2:=p7 hi (ns:=ns) hg hns
  constructor
  ·simp only [eC]
   rw [if_neg e,if_neg e];exact h2.same
  simp only [eC]
  rw [if_neg e];exact h2.dF
theorem vC {goal t0:Tr} {full:ax} {a:Int} {ns own:List Nat} {tg line:Nat} {isK:Bool} (hb:aY b) (hi:0≤a∧a<4) (hgl:eV goal) (hns:∀n∈ns,n<b.length) (htg:tg<b.length) (h6:isK=false→cg l 6=true) (hg:Good l σ) (hn:di σ line t0)
  (he:∀v,bV v t0=true→bV v (ct (ns.map (aa b)) (aE (aa b tg)))=true)
  (hc:∀n∈own,fz b full a n=n→∃z,eV z∧((aa b n=ar a z∧cg l 4=true)∨(aa b n=gi a z∧cg l 5=true)))
  (hlast:∀v,((∀n∈ns,bV v (ar a (aa b n))=true)→bV v (ar a (aE (aa b tg)))=true)→(∀n∈own,fz b full a n=n→bV v (aa b n)=true→bV v (ar a (aa b n))=true)→(if isK=true then bV v (gi a (aa b tg))=true→¬bV v (ar a (aE (aa b tg)))=true else bV v (ar a (aa b tg))=true→¬bV v (ar a (aE (aa b tg)))=true)→bV v goal=true):
  su l (fun T=>uy T b goal full a ns tg own isK line) σ:=by
 have ft:=hb.fr htg
 have h1:=BD (ts:=ns.map (aa b)) (h:=aE (aa b tg)) hi ft.nt (fun u hu=>by
  obtain ⟨n,hn,rfl⟩:=List.mem_map.1 hu
  exact hb.fr (hns n hn)) hg hn he
 have k1:di _ _ _:=tM (T:=af) (a:=a) (h:=aE (aa b tg)) (ts:=ns.map (aa b)) (n:=line) (σ:=σ)
 obtain ⟨σ1,e1⟩:∃s,s=lR af a (ns.map (aa b)) (aE (aa b tg)) line σ:=⟨_,rfl⟩
 have g1:Good l σ1.2:=by rw [e1];exact h1.dF
 rw [←e1] at k1
 have h2:=p7 (b:=b) (full:=full) hi (ns:=own) g1 hc
 obtain ⟨σ2,e2⟩:∃s,s=eC af b full a own σ1.2:=⟨_,rfl⟩
 have g2:Good l σ2.2:=by rw [e2];exact h2.dF
 have le2:σ1.2.Le σ2.2:=by rw [e2];exact j8
 obtain ⟨P3,hP3⟩:∃P3:(Tr→Prop)→Sg→Nat×Sg,P3=fun T s=>if isK=true then dS T a (aa b tg) s else bQ T (aR (ar a (aa b tg)) (aE (ar a (aE (aa b tg))))) 6 0 0 0 s:=⟨_,rfl⟩
 obtain ⟨t3,ht3⟩:∃t3,t3=if isK=true then nF (gi a (aa b tg)) (aE (ar a (aE (aa b tg)))) else aR (ar a (aa b tg)) (aE (ar a (aE (aa b tg)))):=⟨_,rfl⟩
 have h3:su l P3 σ2.2:=by
  rw [hP3]
  cases hk:isK with
  |true=>exact rH hi g2 ft
  |false=>exact gA g2 (fun _ _=>⟨(ft.kw hi).im (ft.nt.kw hi).nt,h6 hk,.inr (.inl ⟨by decide,by decide,rfl,rfl,rfl,⟨a,_,rfl⟩⟩)⟩)
 obtain ⟨σ3,e3⟩:∃s,s=P3 af σ2.2:=⟨_,rfl⟩
 have g3:Good l σ3.2:=by rw [e3];exact h3.dF
 have le3:σ2.2.Le σ3.2:=by
  rw [e3,hP3]
  cases isK with
  |true=>exact jC
  |false=>exact da
 have k3:di σ3.2 σ3.1 t3:=by
  rw [e3,hP3,ht3]
  cases isK with
  |true=>exact bM
  |false=>exact bM
 have k1':=k1.le (le2.trans le3)
 have h4:=dW (g:=goal) (from_:=σ1.1::(σ2.1++[σ3.1])) g3 hgl (fun hbd n hn=>by
  simp only [List.mem_cons,List.mem_append,List.not_mem_nil,or_false] at hn
  rcases hn with rfl|hn|rfl
  ·exact (k1' hbd).1
  ·rw [e2] at hn
   obtain ⟨m,_,_,hm⟩:=nX n hn
   rw [←e2] at hm
   exact (hm.le le3 hbd).1
  exact (k3 hbd).1) (fun hbd _ v hv=>by
  have q1:=hv _ (List.mem_cons_self ..)
  have q3:=hv σ3.1 (List.mem_cons_of_mem _ (List.mem_append_right _ (List.mem_singleton.2 rfl)))
  rw [(k1' hbd).2,uO] at q1
  rw [(k3 hbd).2,ht3] at q3
  refine hlast v (fun hall=>q1 (fun u hu=>?_)) (fun n hno hsn hvn=>?_) ?_
  ·rw [List.map_map] at hu
   obtain ⟨n,hn,rfl⟩:=List.mem_map.1 hu
   exact hall n hn
  ·obtain ⟨m,hm,hh⟩:=nY (T:=af) (b:=b) (full:=full) (a:=a) (ns:=own) (σ:=σ1.2) hno hsn
   rw [←e2] at hm hh
   have q2:=hv m (List.mem_cons_of_mem _ (List.mem_append_left _ hm))
   rw [(hh.le le3 hbd).2,oK,hvn] at q2
   simpa using q2
  cases isK with
  |true=>
   rw [if_pos rfl] at q3⊢
   rw [Br,qC] at q3
   intro hp hk
   rw [hp,hk] at q3;cases q3
  |false=>
   rw [if_neg (by decide)] at q3⊢
   rw [oK,qC] at q3
   intro hp hk
   rw [hp,hk] at q3;cases q3)
 have s1:=h1.same;have s2:=h2.same;have s3:=h3.same;have s4:=h4.same
 rw [←e1] at s1
 rw [←e2] at s2
 rw [←e3] at s3
 have hsp:∀T s,uy T b goal full a ns tg own isK line s=aX T goal ((lR T a (ns.map (aa b)) (aE (aa b tg)) line s).1::((eC T b full a own (lR T a (ns.map (aa b)) (aE (aa b tg)) line s).2).1++[(P3 T (eC T b full a own (lR T a (ns.map (aa b)) (aE (aa b tg)) line s).2).2).1])) (P3 T (eC T b full a own (lR T a (ns.map (aa b)) (aE (aa b tg)) line s).2).2).2:=fun T s=>by rw [hP3];rfl
 constructor
 ·rw [hsp,hsp,←s1,←e1,←s2,←e2,←s3,←e3];exact s4
 rw [hsp,←e1,←e2,←e3];exact h4.dF
end
end Go.Proofs.Wit
namespace Go.Proofs.Wit
open Go Go.RowKit
section
variable {l:Int} {b:List NV} {ss:List SD} {σ:Sg}
theorem GP {l:Int} (h:tq l):cg l 4=true:=by unfold tq at h;unfold cg;rw [if_neg (by decide),if_pos rfl];exact decide_eq_true (by omega)
theorem GV {l:Int} (h:uP l):cg l 5=true:=by unfold uP at h;unfold cg;rw [if_neg (by decide),if_neg (by decide),if_pos rfl];exact decide_eq_true (by omega)
theorem p8 (hb:aY b) {s:ax} {a:Int} {n:Nat} (hn:(lz l b s a).getLsbD n=true) (he:fz b s a n=n):∃z,eV z∧((aa b n=ar a z∧cg l 4=true)∨(aa b n=gi a z∧cg l 5=true)):=by
 obtain ⟨i,h1,h2,h3,h4⟩:=(j9 hb).1 hn
 have hno:¬((nd b i).op=9∧(nd b i).x=n):=fun ⟨g1,g2⟩=>by
  rcases fy (b:=b) (s:=s) (ag:=a) (n:=n) with ⟨j,k1,k2,k3,k4,k5,k6,_⟩|⟨k1,k2⟩
  ·have hj:j=n:=by omega
   subst hj
   have:=hb.x k2 (by omega)
   omega
  exact k2 i h1 h2 g1 h3 g2
 rcases h4 with h4|⟨h4,h5⟩
 ·exact absurd h4 hno
 subst h4
 have hok:=hb.ok h1
 rcases hb.node h1 with ⟨g1,g2⟩|⟨g1,g2⟩|⟨g1,g2⟩
 ·omega
 ·have hx:=hb.x h1 (by omega)
  rw [g2] at hok
  obtain ⟨_,e1,e2⟩:=mQ hok (by omega)
  refine ⟨aa b (nd b n).x.toNat,hb.fr (by omega),?_⟩
  rw [g2,e1,e2,h3]
  rcases h5 with ⟨h5,h6⟩|⟨h5,h6⟩
  ·exact .inl ⟨by rw [h5],GP h6⟩
  exact .inr ⟨by rw [h5],GV h6⟩
 omega
theorem xL (hb:aY b) {s u:ax} {a:Int} {v:Tr→Bool} {n:Nat} (_hi:0≤a∧a<4) (hall:∀n,u.getLsbD n=true→bV v (aa b n)=true) (hu:u.getLsbD (fz b s a n)=true) (hc:fz b s a n=n→bV v (aa b n)=true→bV v (ar a (aa b n))=true):bV v (ar a (aa b n))=true:=by
 rcases fy (b:=b) (s:=s) (ag:=a) (n:=n) with ⟨i,h1,h2,h3,h4,h5,h6,_⟩|⟨h1,_⟩
 ·rw [h1] at hu
  have:=hall i hu
  have hok:=hb.ok h2
  rcases hb.node h2 with ⟨g1,g2⟩|⟨g1,g2⟩|⟨g1,g2⟩
  ·omega
  ·rw [g2] at hok this
   obtain ⟨_,e1,e2⟩:=mQ hok (by omega)
   rw [e1,e2,h4,h5,h6] at this;exact this
  omega
 rw [h1] at hu
 exact hc h1 (hall n hu)
def qm (b:List NV) (tl:List SD) (σ:Sg) (last:List Nat) (q:Nat):Prop:=∀j,j<q→di σ (last.getD j 0) (dA b (dc tl (j:Int)))
theorem r0 {n:Nat}:∀{xs:List Nat},n∈xs→n∈xs.dropLast∨n=xs.getLastD 0:=fun {xs} h=>by
 have hne:xs≠[]:=fun e=>by rw [e] at h;cases h
 have e:xs.dropLast++[xs.getLast hne]=xs:=List.dropLast_concat_getLast hne
 rw [←e] at h
 rcases List.mem_append.1 h with h|h
 ·exact .inl h
 refine .inr ?_
 rw [List.mem_singleton.1 h,List.getLastD_eq_getLast?,List.getLast?_eq_some_getLast hne];rfl
theorem kA {xs:List Nat} (h:xs≠[]):xs.getLastD 0∈xs:=by
 rw [List.getLastD_eq_getLast?,List.getLast?_eq_some_getLast h]
 exact List.getLast_mem h
theorem iA.Aq (h:iA l b ss) {k:Nat} (hk:k<ss.length) (hn:dO ss k=true) {last:List Nat} (hl:qm b (dz b ss) σ last (bJ (dO ss) k)) (hg:Good l σ):
  su l (fun T=>bH T b (dz b ss) ss[k].set (gD b ss k ss[k]) last) σ:=by
 have hb:=h.base
 have hus:=h.sub k hk
 have hin:js b (oQ b ss k):=fun n hn=>(h.lQ k hk).1 n (hus n hn)
 have hgl:eV (dA b (oQ b ss k)):=oW hb hin
 have hsub:∀(j:Nat),(j:Int)∈ss[k].fr→∀m,Us b ss j m→(dc ss j).getLsbD m=true:=fun j hj m hm=>by
  have:=(h.pre hk hn hj).2.1
  rw [eJ (by omega)];exact h.sub j (by omega) m hm
 have hinj:∀(j:Nat),(j:Int)∈ss[k].fr→∀m,Us b ss j m→m<b.length:=fun j hj m hm=>by
  have:=(h.pre hk hn hj).2.1
  exact (h.lQ j (by omega)).1 m (h.sub j (by omega) m hm)
 have hset:∀(j:Nat),(j:Int)∈ss[k].fr→dc (dz b ss) (bJ (dO ss) j:Nat)=oQ b ss j:=fun j hj=>
  rD (by have:=(h.pre hk hn hj).2.1;omega) (h.pre hk hn hj).1
 have hline:∀(j:Nat),(j:Int)∈ss[k].fr→di σ (last.getD (bJ (dO ss) j) 0) (dA b (oQ b ss j)):=fun j hj=>by
  rw [←hset j hj];exact hl _ (h.pre hk hn hj).2.2
 have hru:(gD b ss k ss[k]).av=ss[k].av:=rfl
 have hon:(gD b ss k ss[k]).on=ss[k].on:=rfl
 have hse:(gD b ss k ss[k]).set=oQ b ss k:=rfl
 have hfr:(gD b ss k ss[k]).fr=ss[k].fr.map (fun j=>((bJ (dO ss) j.toNat:Nat):Int)):=rfl
 have ev2:∀{v:Tr→Bool} {o:Nat},o<b.length→(nd b o).op=2→bV v (aa b o)=false:=fun {v o} ho h2=>by
  rcases hb.node ho with ⟨g1,g2⟩|⟨g1,g2⟩|⟨g1,g2⟩
  ·rw [g2,h2];rfl
  ·omega
  omega
 have ev5:∀{v:Tr→Bool} {o:Nat},o<b.length→(nd b o).op=5→bV v (aa b o)=(bV v (aa b (nd b o).x.toNat) && bV v (aa b (nd b o).y.toNat)):=fun {v o} ho h2=>by
  rcases hb.node ho with ⟨g1,g2⟩|⟨g1,g2⟩|⟨g1,g2⟩
  ·omega
  ·omega
  rw [g2,h2];rfl
 have ev6:∀{v:Tr→Bool} {o:Nat},o<b.length→(nd b o).op=6→bV v (aa b o)=(bV v (aa b (nd b o).x.toNat)||bV v (aa b (nd b o).y.toNat)):=fun {v o} ho h2=>by
  rcases hb.node ho with ⟨g1,g2⟩|⟨g1,g2⟩|⟨g1,g2⟩
  ·omega
  ·omega
  rw [g2,h2];rfl
 have evk:∀{o:Nat} {op:Int},op=9∨op=10→o<b.length→(nd b o).op=op→(0≤(nd b o).i∧(nd b o).i<4)∧aa b o=.un op (nd b o).i 0 0 (aa b (nd b o).x.toNat):=fun {o op} h9 ho h2=>by
  have hok:=hb.ok ho
  rcases hb.node ho with ⟨g1,g2⟩|⟨g1,g2⟩|⟨g1,g2⟩
  ·omega
  ·rw [g2,h2] at hok
   obtain ⟨e0,e1,e2⟩:=mQ hok h9
   exact ⟨e0,by rw [g2,h2,e1,e2]⟩
  omega
 unfold bH
 simp only [hru,hon,hse]
 cases h.ER hk with
 |Ch o h1 h2 h3 h4 h5 h6 h7=>
  simp only [if_pos h1,h3,if_pos h6]
  exact dW hg hgl (fun _ n hn=>by cases hn) (fun _ _ v _=>eY.2 (fun hall=>by
   have:=hall o ((h7 o).2 rfl)
   rw [ev2 h4 h6] at this;cases this))
 |neg o e h1 h2 h3 h4 h5 h6 h7 h8 h9 h10 h11 h12=>
  simp only [if_pos h1,h3,if_neg h6]
  have htA:tA b (o:Int)=aa b o:=rfl
  have c1:=kz (ei:=false) (hb.nf o h4) (hb.ok h4) hg
  have c2:di _ _ (jt false (aa b o)):=dU (T:=af) (ei:=false) (t:=aa b o) (σ:=σ)
  have c3:=dW (g:=dA b (oQ b ss k)) (from_:=[(aF af false (aa b o) σ).1]) c1.dF hgl (fun hbd n hn=>by rw [List.mem_singleton.1 hn];exact (c2 hbd).1) (fun hbd _ v hv=>eY.2 (fun hall=>by
   have q:=hv _ (List.mem_singleton.2 rfl)
   rw [(c2 hbd).2,oB,if_neg (by decide),hall o ((h12 o).2 (.inl rfl)),←h11,hall e ((h12 e).2 (.inr rfl))] at q
   cases q))
  have s1:=c1.same
  exact ⟨by rw [htA,←s1];exact c3.same,by rw [htA];exact c3.dF⟩
 |and o j h1 h2 h3 h4 h5 h6 h7 h8 h9 h10=>
  have hm:(j:Int)∈ss[k].fr:=by rw [h3];simp
  have e0:(gD b ss k ss[k]).fr.getD 0 0=((bJ (dO ss) j:Nat):Int):=by rw [hfr,h3];rfl
  have hx:=hb.x h6 (by omega)
  have hy:=hb.y h6 (by omega)
  simp only [h1,show ¬(2:Int)=1 by decide,if_false,if_true,e0,Int.toNat_natCast]
  exact dW hg hgl (fun hbd n hn=>by rw [List.mem_singleton.1 hn];exact (hline j hm hbd).1) (fun hbd _ v hv=>eY.2 (fun hall=>by
   have q:=hv _ (List.mem_singleton.2 rfl)
   rw [(hline j hm hbd).2,eY] at q
   have ho:=hall o ((h10 o).2 (.inr rfl))
   rw [ev5 h6 h8,Bool.and_eq_true] at ho
   refine q (fun n hn=>?_)
   by_cases c1:(n:Int)=(nd b o).x
   ·rw [←c1] at ho;exact ho.1
   by_cases c2:(n:Int)=(nd b o).y
   ·rw [←c2] at ho;exact ho.2
   exact hall n ((h10 n).2 (.inl ⟨hn,c1,c2⟩))))
 |or o j i h1 h2 h3 h4 h5 h6 h7 h8 h9 h10 h11 h12=>
  have hm:(j:Int)∈ss[k].fr:=by rw [h3];simp
  have hm2:(i:Int)∈ss[k].fr:=by rw [h3];simp
  have e0:(gD b ss k ss[k]).fr.getD 0 0=((bJ (dO ss) j:Nat):Int):=by rw [hfr,h3];rfl
  have e1:(gD b ss k ss[k]).fr.getD 1 0=((bJ (dO ss) i:Nat):Int):=by rw [hfr,h3];rfl
  simp only [h1,show ¬(3:Int)=1 by decide,show ¬(3:Int)=2 by decide,if_false,if_true,e0,e1,Int.toNat_natCast]
  exact dW hg hgl (fun hbd n hn=>by
   simp only [List.mem_cons,List.not_mem_nil,or_false] at hn
   rcases hn with rfl|rfl
   ·exact (hline j hm hbd).1
   ·exact (hline i hm2 hbd).1) (fun hbd _ v hv=>eY.2 (fun hall=>by
   have q1:=hv _ (List.mem_cons_self ..)
   have q2:=hv _ (List.mem_cons_of_mem _ (List.mem_cons_self ..))
   rw [(hline j hm hbd).2,eY] at q1
   rw [(hline i hm2 hbd).2,eY] at q2
   have ho:=hall o ((h12 o).2 (.inr (.inr rfl)))
   rw [ev6 h7 h9,Bool.or_eq_true] at ho
   rcases ho with ho|ho
   ·refine q1 (fun n hn=>?_)
    by_cases c1:(n:Int)=(nd b o).x
    ·rw [←c1] at ho;exact ho
    exact hall n ((h12 n).2 (.inl ⟨hn,c1⟩))
   refine q2 (fun n hn=>?_)
   by_cases c1:(n:Int)=(nd b o).y
   ·rw [←c1] at ho;exact ho
   exact hall n ((h12 n).2 (.inr (.inl ⟨hn,c1⟩)))))
 |cut o e j i h1 h2 h3 h4 h5 h6 h7 h8 h9 h10 h11 h12 h13=>
  have hm:(j:Int)∈ss[k].fr:=by rw [h2];simp
  have hm2:(i:Int)∈ss[k].fr:=by rw [h2];simp
  have e0:(gD b ss k ss[k]).fr.getD 0 0=((bJ (dO ss) j:Nat):Int):=by rw [hfr,h2];rfl
  have e1:(gD b ss k ss[k]).fr.getD 1 0=((bJ (dO ss) i:Nat):Int):=by rw [hfr,h2];rfl
  simp only [h1,h5,show ¬(4:Int)=1 by decide,show ¬(4:Int)=2 by decide,show ¬(4:Int)=3 by decide,if_false,if_true,e0,e1,Int.toNat_natCast]
  have htA:tA b (o:Int)=aa b o:=rfl
  have c1:=kz (ei:=true) (hb.nf o h6) (hb.ok h6) hg
  have c2:di _ _ (jt true (aa b o)):=dU (T:=af) (ei:=true) (t:=aa b o) (σ:=σ)
  have lle:σ.Le (aF af true (aa b o) σ).2:=ig
  have c3:=dW (g:=dA b (oQ b ss k)) (from_:=[(aF af true (aa b o) σ).1,last.getD (bJ (dO ss) j) 0,last.getD (bJ (dO ss) i) 0]) c1.dF hgl (fun hbd n hn=>by
   simp only [List.mem_cons,List.not_mem_nil,or_false] at hn
   rcases hn with rfl|rfl|rfl
   ·exact (c2 hbd).1
   ·exact ((hline j hm).le lle hbd).1
   ·exact ((hline i hm2).le lle hbd).1) (fun hbd _ v hv=>eY.2 (fun hall=>by
   have q0:=hv _ (List.mem_cons_self ..)
   have q1:=hv _ (List.mem_cons_of_mem _ (List.mem_cons_self ..))
   have q2:=hv _ (List.mem_cons_of_mem _ (List.mem_cons_of_mem _ (List.mem_cons_self ..)))
   rw [(c2 hbd).2,oB,if_pos rfl,←h10,Bool.or_eq_true] at q0
   rw [((hline j hm).le lle hbd).2,eY] at q1
   rw [((hline i hm2).le lle hbd).2,eY] at q2
   rcases q0 with q0|q0
   ·refine q1 (fun n hn=>?_)
    by_cases c1:n=o
    ·rw [c1];exact q0
    exact hall n ((h13 n).2 (.inl ⟨hn,c1⟩))
   refine q2 (fun n hn=>?_)
   by_cases c1:n=e
   ·rw [c1];exact q0
   exact hall n ((h13 n).2 (.inr ⟨hn,c1⟩))))
  have s1:=c1.same
  exact ⟨by rw [htA,←s1];exact c3.same,by rw [htA];exact c3.dF⟩
 |t o j h1 h2 h3 h4 h5 h6 h7 h8 h9 h10 h11=>
  have hm:(j:Int)∈ss[k].fr:=by rw [h4];simp
  have e0:(gD b ss k ss[k]).fr.getD 0 0=((bJ (dO ss) j:Nat):Int):=by rw [hfr,h4];rfl
  simp only [h1,h6,show ¬(5:Int)=1 by decide,show ¬(5:Int)=2 by decide,show ¬(5:Int)=3 by decide,show ¬(5:Int)=4 by decide,if_false,if_true,e0,Int.toNat_natCast]
  have hx:=hb.x h7 (by omega)
  obtain ⟨hi,ht⟩:=evk (.inl rfl) h7 h9
  have htA:tA b (o:Int)=aa b o:=rfl
  have htX:tA b (nd b o).x=aa b (nd b o).x.toNat:=rfl
  have fx:eV (aa b (nd b o).x.toNat):=hb.fr (by omega)
  have c1:su l (fun T=>bQ T (aR (tA b (o:Int)) (tA b (nd b o).x)) 3 0 0 0) σ:=gA hg (fun _ _=>⟨by rw [htA,htX];exact (hb.fr h7).im fx,by unfold cg;rw [if_pos rfl];exact decide_eq_true h3,.inr (.inl ⟨by decide,by decide,rfl,rfl,rfl,⟨(nd b o).i,aa b (nd b o).x.toNat,by rw [htA,htX,ht]⟩⟩)⟩)
  have c2:di _ _ (aR (tA b (o:Int)) (tA b (nd b o).x)):=bM (T:=af) (t:=aR (tA b (o:Int)) (tA b (nd b o).x)) (r:=3) (a:=0) (b:=0) (gg:=0) (σ:=σ)
  have lle:σ.Le (bQ af (aR (tA b (o:Int)) (tA b (nd b o).x)) 3 0 0 0 σ).2:=da
  have c3:=dW (g:=dA b (oQ b ss k)) (from_:=[(bQ af (aR (tA b (o:Int)) (tA b (nd b o).x)) 3 0 0 0 σ).1,last.getD (bJ (dO ss) j) 0]) c1.dF hgl (fun hbd n hn=>by
   simp only [List.mem_cons,List.not_mem_nil,or_false] at hn
   rcases hn with rfl|rfl
   ·exact (c2 hbd).1
   ·exact ((hline j hm).le lle hbd).1) (fun hbd _ v hv=>eY.2 (fun hall=>by
   have q0:=hv _ (List.mem_cons_self ..)
   have q1:=hv _ (List.mem_cons_of_mem _ (List.mem_cons_self ..))
   rw [(c2 hbd).2,oK,htA,hall o ((h11 o).2 (.inr rfl)),htX] at q0
   rw [((hline j hm).le lle hbd).2,eY] at q1
   refine q1 (fun n hn=>?_)
   by_cases c1:(n:Int)=(nd b o).x
   ·rw [←c1] at q0;simpa using q0
   exact hall n ((h11 n).2 (.inl ⟨hn,c1⟩))))
  have s1:=c1.same
  exact ⟨by rw [←s1];exact c3.same,c3.dF⟩
 |k o j h1 h2 h3 h4 h5 h6 h7 h8 h9 h10=>
  have hm:(j:Int)∈ss[k].fr:=by rw [h3];simp
  have e0:(gD b ss k ss[k]).fr.getD 0 0=((bJ (dO ss) j:Nat):Int):=by rw [hfr,h3];rfl
  simp only [h1,h5,show ¬(6:Int)=1 by decide,show ¬(6:Int)=2 by decide,show ¬(6:Int)=3 by decide,show ¬(6:Int)=4 by decide,show ¬(6:Int)=5 by decide,if_false,if_true,e0,Int.toNat_natCast]
  have hx:=hb.x h6 (by omega)
  have hlen:=hb.len
  obtain ⟨hi,ht⟩:=evk (.inr rfl) h6 h8
  have hmem:∀n,n∈dX (dc (dz b ss) ((bJ (dO ss) j:Nat):Int) &&& ~~~ bW (nd b o).x)↔Us b ss j n∧(n:Int)≠(nd b o).x:=fun n=>by
   rw [cW,gv,hset j hm,od (by omega)]
  have hcr:∀n,Us b ss j n→(n:Int)≠(nd b o).x→(lz l b ss[k].set (nd b o).i).getLsbD n=true:=fun n hn hne=>(h9 n (hsub j hm n hn)).resolve_right hne
  refine vC hb hi hgl (fun n hn=>hinj j hm n ((hmem n).1 hn).1) (by omega) (fun e=>by cases e) hg (hline j hm) (fun v hv=>?_) (fun n hn he=>?_) (fun v hv1 hv2 hv3=>?_)
  ·rw [eY] at hv
   rw [uO]
   intro hall
   rw [qC,Bool.not_eq_true']
   cases hX:bV v (aa b (nd b o).x.toNat) with
   |false=>rfl
   |true=>
    exact absurd (fun n hn=>by
     by_cases c1:(n:Int)=(nd b o).x
     ·rw [←c1] at hX;exact hX
     exact hall _ (List.mem_map_of_mem ((hmem n).2 ⟨hn,c1⟩))) hv
  ·have:=(hmem n).1 hn
   exact p8 hb (hcr n this.1 this.2) he
  rw [if_pos rfl] at hv3
  refine eY.2 (fun hall=>?_)
  have ho:=hall o ((h10 o).2 (.inr rfl))
  rw [ht] at ho
  refine hv3 ho (hv1 (fun n hn=>?_))
  have hn':=(hmem n).1 hn
  exact xL hb hi hall ((h10 _).2 (.inl ⟨n,hn'.1,hn'.2,rfl⟩)) (fun e=>hv2 n hn e)
 |d j h1 h2 h3 h4 h5 h6 h7 h8=>
  have hm:(j:Int)∈ss[k].fr:=by rw [h4];simp
  have e0:(gD b ss k ss[k]).fr.getD 0 0=((bJ (dO ss) j:Nat):Int):=by rw [hfr,h4];rfl
  simp only [h1,show ¬(7:Int)=1 by decide,show ¬(7:Int)=2 by decide,show ¬(7:Int)=3 by decide,show ¬(7:Int)=4 by decide,show ¬(7:Int)=5 by decide,show ¬(7:Int)=6 by decide,if_false,e0,Int.toNat_natCast]
  have hmem:∀n,n∈dX (dc (dz b ss) ((bJ (dO ss) j:Nat):Int))↔Us b ss j n:=fun n=>by rw [cW,hset j hm]
  obtain ⟨ps,hps⟩:∃ps,ps=dX (dc (dz b ss) ((bJ (dO ss) j:Nat):Int)):=⟨_,rfl⟩
  rw [←hps] at hmem⊢
  have hne:ps≠[]:=fun e=>by
   obtain ⟨n,hn,_⟩:=h.yW j (by have:=(h.pre hk hn hm).2.1;omega)
   have:=(hmem n).2 hn
   rw [e] at this;cases this
  have hlm:=(hmem _).1 (kA hne)
  refine vC hb h6 hgl (fun n hn=>hinj j hm n ((hmem n).1 ((List.dropLast_sublist _).subset hn))) (hinj j hm _ hlm) (fun _=>by unfold cg;rw [if_neg (by decide),if_neg (by decide),if_neg (by decide),if_pos rfl];exact decide_eq_true h3) hg (hline j hm) (fun v hv=>?_) (fun n hn he=>?_) (fun v hv1 hv2 hv3=>?_)
  ·rw [eY] at hv
   rw [uO]
   intro hall
   rw [qC,Bool.not_eq_true']
   cases hX:bV v (aa b (ps.getLastD 0)) with
   |false=>rfl
   |true=>
    exact absurd (fun n hn=>by
     rcases r0 ((hmem n).2 hn) with c1|c1
     ·exact hall _ (List.mem_map_of_mem c1)
     rw [c1];exact hX) hv
  ·exact p8 hb (h7 n (hsub j hm n ((hmem n).1 hn))) he
  rw [if_neg (by decide)] at hv3
  refine eY.2 (fun hall=>?_)
  have hkw:∀n∈ps,bV v (ar ss[k].on (aa b n))=true:=fun n hn=>xL hb h6 hall ((h8 _).2 ⟨n,(hmem n).1 hn,rfl⟩) (fun e=>hv2 n hn e)
  exact hv3 (hkw _ (kA hne)) (hv1 (fun n hn=>hkw n ((List.dropLast_sublist _).subset hn)))
theorem lp:∀{k:Nat},k≤ss.length→(cP ss k).length=bJ (dO ss) k
 |0,_=>by simp [cP,bJ]
 |k+1,h=>by
  have h1:=lp (k:=k) (by omega)
  rw [cP,List.getElem?_eq_getElem (by omega:k<ss.length),gY]
  dsimp only
  split<;>simp [h1]
theorem rS {j:Nat} (hn:dO ss j=true):∀{k:Nat},k≤ss.length→j<k→∀hj:j<ss.length,(cP ss k)[bJ (dO ss) j]?=some ss[j].set
 |0,_,h,_=>by omega
 |k+1,h,h2,hj=>by
  rw [cP,List.getElem?_eq_getElem (by omega:k<ss.length)]
  dsimp only
  by_cases e:j=k
  ·subst e
   rw [if_pos hn,List.getElem?_append_right (by rw [lp (by omega)];exact Nat.le_refl _),lp (by omega)]
   simp
  have h3:=rS hn (k:=k) (by omega) (by omega) hj
  split
  ·rw [List.getElem?_append_left (List.getElem?_eq_some_iff.1 h3).1];exact h3
  exact h3
theorem eK {T:Tr→Prop} {tl:List SD} {fl:List ax} {q:Nat} (hq:q<tl.length):aW T b tl fl (q+1)=((aW T b tl fl q).1++[(bH T b tl (fl.getD q 0#64) tl[q] (aW T b tl fl q).1 (aW T b tl fl q).2).1],(bH T b tl (fl.getD q 0#64) tl[q] (aW T b tl fl q).1 (aW T b tl fl q).2).2):=by
 rw [aW,List.getElem?_eq_getElem hq]
theorem lI {T:Tr→Prop} {tl:List SD} {fl:List ax}:∀{q:Nat},q≤tl.length→(aW T b tl fl q).1.length=q
 |0,_=>rfl
 |q+1,h=>by rw [eK (by omega),List.length_append,lI (by omega)];rfl
theorem sS {T:Tr→Prop} {tl:List SD} {fl:List ax} {q:Nat} (hq:q+1≤tl.length):nC (aW T b tl fl (q+1)).2 ((aW T b tl fl (q+1)).1.getD q 0):=by
 have hl:=lI (T:=T) (b:=b) (fl:=fl) (show q≤tl.length by omega)
 rw [eK (by omega)]
 have:((aW T b tl fl q).1++[(bH T b tl (fl.getD q 0#64) tl[q] (aW T b tl fl q).1 (aW T b tl fl q).2).1]).getD q 0=(bH T b tl (fl.getD q 0#64) tl[q] (aW T b tl fl q).1 (aW T b tl fl q).2).1:=by
  simp [List.getD_eq_getElem?_getD,hl]
 dsimp only
 rw [this];exact ue
theorem ko {T:Tr→Prop} {tl:List SD} {fl:List ax}:∀{q:Nat},q≤tl.length→qm b tl (aW T b tl fl q).2 (aW T b tl fl q).1 q
 |0,_=>fun j hj=>by omega
 |q+1,h=>fun j hj=>by
  have hl:=lI (T:=T) (b:=b) (fl:=fl) (show q≤tl.length by omega)
  rw [eK (by omega)]
  dsimp only
  by_cases e:j=q
  ·subst e
   have:((aW T b tl fl j).1++[(bH T b tl (fl.getD j 0#64) tl[j] (aW T b tl fl j).1 (aW T b tl fl j).2).1]).getD j 0=(bH T b tl (fl.getD j 0#64) tl[j] (aW T b tl fl j).1 (aW T b tl fl j).2).1:=by
    simp [List.getD_eq_getElem?_getD,hl]
   rw [this,eJ (by omega)];exact wg
  have h1:di (aW T b tl fl q).2 ((aW T b tl fl q).1.getD j 0) (dA b (dc tl (j:Int))):=ko (tl:=tl) (fl:=fl) (q:=q) (by omega) j (by omega)
  have:((aW T b tl fl q).1++[(bH T b tl (fl.getD q 0#64) tl[q] (aW T b tl fl q).1 (aW T b tl fl q).2).1]).getD j 0=(aW T b tl fl q).1.getD j 0:=by
   simp only [List.getD_eq_getElem?_getD]
   rw [List.getElem?_append_left (show j<(aW T b tl fl q).1.length by omega)]
  rw [this]
  exact h1.le (sH (T:=T) (b:=b) (tl:=tl) (full:=fl.getD q 0#64) (x:=tl[q]) (last:=(aW T b tl fl q).1) (σ:=(aW T b tl fl q).2))
theorem pR:Good l ⟨[],false⟩:=⟨by decide,fun k hk=>absurd hk (Nat.not_lt_zero k),fun k hk=>absurd hk (Nat.not_lt_zero k)⟩
theorem iA.CV (h:iA l b ss) (q:Nat):q≤(dz b ss).length→aW af b (dz b ss) (cP ss ss.length) q=aW lD b (dz b ss) (cP ss ss.length) q∧Good l (aW af b (dz b ss) (cP ss ss.length) q).2:=by
 induction q with
 |zero=>intro _;exact ⟨by simp only [aW],by simp only [aW];exact pR⟩
 |succ q ih=>
  intro hq
  obtain ⟨h1,h2⟩:=ih (by omega)
  have hql:q<(dz b ss).length:=by omega
  obtain ⟨k,hk,k1,k2,k3⟩:=ub (b:=b) hql
  have hf:(cP ss ss.length).getD q 0#64=ss[k].set:=by
   rw [List.getD_eq_getElem?_getD,←k2,rS k1 (Nat.le_refl _) hk hk];rfl
  have hl:=ko (T:=af) (b:=b) (tl:=dz b ss) (fl:=cP ss ss.length) (q:=q) (by omega)
  obtain ⟨p,hp⟩:∃p,p=aW af b (dz b ss) (cP ss ss.length) q:=⟨_,rfl⟩
  rw [←hp] at h1 h2 hl
  have h3:=h.Aq hk k1 (last:=p.1) (by rw [k2];exact hl) h2
  have s3:=h3.same
  rw [eK hql,eK hql,hf,k3,←h1,←hp,←s3]
  exact ⟨rfl,h3.dF⟩
theorem iA.H4 (h:iA l b ss):gF af b ss=gF lD b ss∧Good l (gF af b ss).2∧di (gF af b ss).2 (gF af b ss).1 (dA b (dc ss ((ss.length - 1:Nat):Int)))∧nC (gF af b ss).2 (gF af b ss).1:=by
 obtain ⟨h1,h2⟩:=h.CV _ (Nat.le_refl _)
 obtain ⟨c1,c2,c3,c4⟩:=h.Ad
 have hl:=ko (T:=af) (b:=b) (tl:=dz b ss) (fl:=cP ss ss.length) (Nat.le_refl _) ((dz b ss).length - 1) c1
 have hll:nC (aW af b (dz b ss) (cP ss ss.length) (dz b ss).length).2 ((aW af b (dz b ss) (cP ss ss.length) (dz b ss).length).1.getD ((dz b ss).length - 1) 0):=by
  have:=sS (T:=af) (b:=b) (tl:=dz b ss) (fl:=cP ss ss.length) (q:=(dz b ss).length - 1) (by omega)
  rwa [show (dz b ss).length - 1+1=(dz b ss).length by omega] at this
 have hsub:∀n,(dc (dz b ss) (((dz b ss).length - 1:Nat):Int)).getLsbD n=true→(dc ss ((ss.length - 1:Nat):Int)).getLsbD n=true:=fun n hn=>by
  rw [eJ c1,c3] at hn
  rw [eJ c2];exact h.sub _ c2 n hn
 unfold gF
 dsimp only
 by_cases e:dc (dz b ss) (((dz b ss).length - 1:Nat):Int)=dc ss ((ss.length - 1:Nat):Int)
 ·simp only [if_pos e]
  refine ⟨by rw [h1],h2,?_,hll⟩
  rw [←e];exact hl
 simp only [if_neg e]
 have hin:js b (dc ss ((ss.length - 1:Nat):Int)):=by
  rw [eJ c2];exact (h.lQ _ c2).1
 have h3:=dW (g:=dA b (dc ss ((ss.length - 1:Nat):Int))) (from_:=[(aW af b (dz b ss) (cP ss ss.length) (dz b ss).length).1.getD ((dz b ss).length - 1) 0]) h2 (oW h.base hin) (fun hb n hn=>by rw [List.mem_singleton.1 hn];exact (hl hb).1) (fun hb _ v hv=>by
  have q:=hv _ (List.mem_singleton.2 rfl)
  rw [(hl hb).2,eY] at q
  rw [eY]
  exact fun hall=>q (fun n hn=>hall n (hsub n hn)))
 exact ⟨by rw [←h1];exact h3.same,h3.dF,eB,iW⟩
end
end Go.Proofs.Wit
namespace Go.Proofs.Wit
open Go Go.RowKit
def IB (ls:List LV) (k j:Nat):Prop:=∃hk:k<ls.length,(10≤ls[k].r∧j=ls[k].a.toNat)∨(ls[k].r=10∧j=ls[k].b.toNat)
structure I1 (ls:List LV) (i:Nat) (s:List Bool):Prop where
  len:s.length=ls.length
  Bd:∀j,j<ls.length→(sB s j=true↔(j+1=ls.length∨∃k,ls.length≤k+i∧k<ls.length∧ED ls k∧IB ls k j))
section
variable {l:Int} {ls:List LV} {i k:Nat} {s:List Bool}
end
end Go.Proofs.Wit
namespace Go.Proofs.Wit
open Go Go.RowKit
def FV.sy (t:TypeId) (H:Hl) (x:FV):Prop:=∃q sp,(q,eO t x.f sp)∈H∧x.a=q.map (fun b=>⟨b,0,none⟩)∧(q=none→x.f.length=0)
theorem FV.sy.mono {t:TypeId} {H H':Hl} {x:FV} (h:x.sy t H) (hs:H⊆H'):x.sy t H':=by
 obtain ⟨q,sp,h1,h2,h3⟩:=h
 exact ⟨q,sp,hs h1,h2,h3⟩
theorem FV.sy.at {t:TypeId} {w0 w:World} {S:List Nat} {h:Hl} {Y:List (Nat×Obj)} {x:FV} (g:x.sy t h) (s:St w0 S w h Y):FA w x.a x.f:=by
 obtain ⟨q,sp,h1,h2,h3⟩:=g
 obtain ⟨j,hj⟩:=List.getElem?_of_mem h1
 rw [h2]
 exact aL s j hj h3
theorem vE {w0 w:World} {S:List Nat} {h:Hl} {Y:List (Nat×Obj)} (s:St w0 S w h Y) (j:Nat) {q:Option Nat} {ls:List LV} {e:TypeId} {sp:List Value} (hj:h[j]?=some (q,vt e ls sp)) (hq:q=none→ls.length=0)
  {t:TypeId} (hin:∀x∈ls,x.f.sy t h∧x.f.f.length≤maxLen):LA w (q.map (fun b=>⟨b,0,none⟩)) ls:=by
 refine ⟨?_,fun x hx=>⟨(hin x hx).1.at s,(hin x hx).2⟩⟩
 cases q with
 |none=>rw [List.eq_nil_of_length_eq_zero (hq rfl)];exact Sl.nil _ _
 |some b=>exact Sl.dg (s.get hj)
def gZ (t tl:TypeId) (w w':World) (v:Value) (ls:List LV):Prop:=∃(q:Option Nat) (cap:Nat) (sp:List Value) (H:Hl),v=cK q ls.length cap∧(q=none→ls.length=0∧cap=0)∧(ls.flatMap LV.cells++sp).length=cap*5∧gm w w' ((q,vt tl ls sp)::H)∧∀x∈ls,x.f.sy t H∧x.f.f.length≤maxLen
theorem gZ.nil {t tl:TypeId} {w w':World}:gZ t tl w w' (.slice none 0 0) []:=⟨none,0,[],[],rfl,fun _=>⟨rfl,rfl⟩,rfl,gm.nil,fun _ h=>by cases h⟩
section
variable {P:Program} {r:Option Nat} {f:FuncId} {R:Value→World→Prop} {w0:World} {S:List Nat} {Y:List (Nat×Obj)} {n:Nat} {k:List Item} {l:Fl} {h:Hl}
variable {ops:Array Oper} {i d:Nat} {rest:List Nat} {ty:TypeId} {pos:String} {aft:Array Edge} {g:Option (Nat×Bool)}
theorem uL {ls:List LV} {x:LV}:(ls++[x]).flatMap LV.cells=ls.flatMap LV.cells++LV.cells x:=by simp
end
end Go.Proofs.Wit
namespace Go.Proofs.Wit
open Go Go.RowKit
def SV.cells (x:SV):List Value:=[U x.d.set,.int .i64 x.d.av,.int .i64 x.d.on,.int .i64 x.d.e,.slice x.fa x.d.fr.length x.fc]
structure zJ (w:World) (A:Option Addr) (ss:List SV):Prop where
  at_:Sl w A (ss.flatMap SV.cells)
  yO:∀s∈ss,jU w s.fa s.d.fr∧s.d.fr.length≤maxLen
theorem zJ.ay {w0 w:World} {A:Option Addr} {ss:List SV} (h:zJ w0 A ss) (e:Ex [] w0 w):zJ w A ss:=⟨Sl.ex h.at_ e (by simp),fun s hs=>⟨(h.yO s hs).1.ay e,(h.yO s hs).2⟩⟩
def cn (l:Int) (A:Option Addr) (n cA:Nat) (B:Option Addr) (m cB:Nat):Array Value:=#[.int .i64 l,.slice A n cA,.slice B m cB]
def oM (l:Int) (A:Option Addr) (n cA:Nat) (B:Option Addr) (m cB:Nat) (O:Option Addr) (k cO:Nat):Array Value:=#[.int .i64 l,.slice A n cA,.slice B m cB,.slice O k cO]
abbrev fg (ss:List SV):List SD:=ss.map SV.d
theorem eL {ss:List SV}:(fg ss).length=ss.length:=by simp
theorem mj {ss:List SV} {k:Nat} (hk:k<ss.length):(fg ss)[k]'(by simpa using hk)=ss[k].d:=by simp
theorem rR {s:ax} {i:Nat}:(((s>>>i) &&& 1#64)==1#64)=s.getLsbD i:=by
 rw [Bool.eq_iff_iff,beq_iff_eq]
 constructor
 ·intro h
  have:=congrArg (fun x=>x.getLsbD 0) h
  simpa using this
 intro h
 apply BitVec.eq_of_getLsbD_eq
 intro k hk
 rw [BitVec.getLsbD_and,BitVec.getLsbD_ushiftRight,BitVec.getLsbD_one]
 by_cases e:k=0
 ·subst e;simp [h]
 simp [e]
theorem uF {b:List NV} {s:ax} (h0:0<b.length) (h64:b.length≤64):(s &&& ~~~ (18446744073709551615#64>>>(64 - b.length))=0#64)↔js b s:=by
 rw [my]
 have hb:∀k,(18446744073709551615#64>>>(64 - b.length)).getLsbD k=true↔k<b.length:=fun k=>by
  rw [BitVec.getLsbD_ushiftRight,show (18446744073709551615#64)=BitVec.allOnes 64 from by decide,BitVec.getLsbD_allOnes,decide_eq_true_eq];omega
 exact forall_congr' fun k=>imp_congr_right fun _=>hb k
def Dw (b:List NV) (s:ax):Bool:=s &&& ~~~ (18446744073709551615#64>>>(64 - b.length))==0#64
theorem tB {b:List NV} {s:ax} (h0:0<b.length) (h64:b.length≤64):Dw b s=true↔js b s:=by
 unfold Dw;rw [beq_iff_eq];exact uF h0 h64
theorem iv {ss:List SD} {k:Nat}:∀{fs:List Int} {us:List ax},eE ss k fs us↔fs.length=us.length∧∀j,j<us.length→(0≤fs.getD j 0∧fs.getD j 0<k)∧dc ss (fs.getD j 0) &&& ~~~ us.getD j 0#64=0#64
 |[],[]=>by simp [eE]
 |[],_::_=>by simp [eE]
 |_::_,[]=>by simp [eE]
 |f::fs,u::us=>by
  rw [eE,iv]
  constructor
  ·rintro ⟨h1,h2,h3⟩
   refine ⟨by simp [h2],fun j hj=>?_⟩
   cases j with
   |zero=>exact h1
   |succ j=>exact h3 j (by simp at hj;omega)
  rintro ⟨h1,h2⟩
  refine ⟨h2 0 (by simp),by simpa using h1,fun j hj=>h2 (j+1) (by simp;omega)⟩
def kJ (os:List Int) (node other:Int):Bool:=decide (0≤node∧node<os.length∧0≤other∧os.getD node.toNat 0=other)
def kE (b:List NV) (x:SD) (op:Int):Bool:=decide (x.on<b.length) && (eT x.set x.on && decide ((nd b x.on).op=op))
theorem iK {b:List NV} {x:SD} {op:Int}:kE b x op=true↔zV b x op:=by
 unfold kE zV;simp only [Bool.and_eq_true,decide_eq_true_eq]
def Ep:NV:=⟨0,0,0,0,0,0⟩
noncomputable def dh (b:List NV):List Int:=(List.range b.length).map (fun (i:Nat)=>jw b (i:Int))
theorem j5 {b:List NV}:(dh b).length=b.length:=by simp [dh]
theorem rL {b:List NV} {i:Nat} (hi:i<b.length):(dh b).getD i 0=jw b i:=by simp [dh,List.getD_eq_getElem?_getD,hi]
theorem oV {b:List NV} {node other:Int}:kJ (dh b) node other=true↔(0≤node∧node<b.length)∧0≤other∧jw b node=other:=by
 unfold kJ
 rw [decide_eq_true_eq,j5]
 constructor
 ·rintro ⟨h1,h2,h3,h4⟩
  obtain ⟨k,rfl⟩:∃k:Nat,node=k:=⟨node.toNat,by omega⟩
  rw [Int.toNat_natCast,rL (by omega)] at h4
  exact ⟨⟨h1,h2⟩,h3,h4⟩
 rintro ⟨⟨h1,h2⟩,h3,h4⟩
 obtain ⟨k,rfl⟩:∃k:Nat,node=k:=⟨node.toNat,by omega⟩
 exact ⟨h1,h2,h3,by rw [Int.toNat_natCast,rL (by omega)];exact h4⟩
structure Gf (w:World) (t:TypeId) (bc:Nat) (l:Int) (A:Option Addr) (cA:Nat) (b:List NV) (B:Option Addr) (cB:Nat) (ss:List SV) (O:Option Addr) (cO:Nat):Prop where
  dg:w.heap[bc]?=some (.cells (oM l A b.length cA B ss.length cB O (dh b).length cO) t (0,0))
  fa:FA w A b
  sa:zJ w B ss
  oa:jU w O (dh b)
  base:aY b
theorem Gf.ex {w w':World} {t:TypeId} {bc:Nat} {l:Int} {A:Option Addr} {cA:Nat} {b:List NV} {B:Option Addr} {cB:Nat} {ss:List SV} {O:Option Addr} {cO:Nat} (h:Gf w t bc l A cA b B cB ss O cO) (e:Ex [] w w'):Gf w' t bc l A cA b B cB ss O cO:=⟨e.gG h.dg,h.fa.ay e,h.sa.ay e,h.oa.ay e,h.base⟩
theorem pz {ss:List SD} {k:Nat} {fs:List Int}:eE ss k fs []↔fs=[]:=by cases fs<;>simp [eE]
def xh (b:List NV) (x:SD):Prop:=x.fr=[]∧((kE b x 2=true∧x.e=0)∨(eT x.set x.on=true∧eT x.set x.e=true∧kJ (dh b) x.on x.e=true))
theorem uU {b:List NV} {x:SD}:xh b x↔(x.fr=[]∧((zV b x 2∧x.e=0)∨(eT x.set x.on=true∧x.on<b.length∧eT x.set x.e=true∧jw b x.on=x.e))):=by
 unfold xh
 rw [iK,oV]
 refine and_congr_right fun _=>or_congr Iff.rfl ?_
 constructor
 ·rintro ⟨h1,h2,h3,h4,h5⟩;exact ⟨h1,h3.2,h2,h5⟩
 rintro ⟨h1,h2,h3,h4⟩
 obtain ⟨k,e1,_⟩:=fP.1 h1
 obtain ⟨j,e2,_⟩:=fP.1 h3
 exact ⟨h1,h3,⟨by omega,h2⟩,by omega,h4⟩
section
variable {l:Int} {b:List NV} {ss:List SD} {k:Nat} {x:SD}
theorem By (h:¬js b x.set):¬ej l b ss k x:=fun g=>h g.1
theorem uR (hi:js b x.set) (h:x.av=1):ej l b ss k x↔xh b x:=by
 rw [uU];unfold ej;rw [h];simp [hi]
theorem m9 (hi:js b x.set) (h:x.av=4):ej l b ss k x↔0≤x.e∧kJ (dh b) x.on x.e=true∧eE ss k x.fr [x.set|||bW x.on,x.set|||bW x.e]:=by
 rw [oV];unfold ej;rw [h];simp [hi]
 constructor
 ·rintro ⟨h1,h2,h3,h4⟩;exact ⟨h2,⟨h1,h2,h3⟩,h4⟩
 rintro ⟨h1,⟨h2,h3,h4⟩,h5⟩;exact ⟨h2,h3,h4,h5⟩
theorem FK (h1:x.av≠1) (h4:x.av≠4) (he:x.e≠0):¬ej l b ss k x:=by
 rintro ⟨_,h⟩
 rcases h with h|h|h|h|h|h|h
 ·exact h1 h.1
 ·exact he h.2.1
 ·exact he h.2.1
 ·exact h4 h.1
 ·exact he h.2.1
 ·exact he h.2.1
 exact he h.2.1
theorem zh (hi:js b x.set) (he:x.e=0) (h:x.av=2):ej l b ss k x↔kE b x 5=true∧eE ss k x.fr [x.set|||bW (nd b x.on).x|||bW (nd b x.on).y]:=by
 rw [iK];unfold ej;rw [h];simp [hi,he]
theorem zg (hi:js b x.set) (he:x.e=0) (h:x.av=3):ej l b ss k x↔kE b x 6=true∧eE ss k x.fr [x.set|||bW (nd b x.on).x,x.set|||bW (nd b x.on).y]:=by
 rw [iK];unfold ej;rw [h];simp [hi,he]
theorem oz (hi:js b x.set) (he:x.e=0) (h:x.av=5):ej l b ss k x↔kE b x 9=true∧(l=2∨l=4∨l=6)∧eE ss k x.fr [x.set|||bW (nd b x.on).x]:=by
 rw [iK];unfold ej;rw [h];simp [hi,he]
 exact ⟨fun ⟨h1,h2,h3⟩=>⟨h2,h1,h3⟩,fun ⟨h1,h2,h3⟩=>⟨h2,h1,h3⟩⟩
theorem zf (hi:js b x.set) (he:x.e=0) (h:x.av=6):ej l b ss k x↔kE b x 10=true∧eE ss k x.fr [bW (nd b x.on).x|||lz l b x.set (nd b x.on).i]:=by
 rw [iK];unfold ej;rw [h];simp [hi,he]
theorem ng (hi:js b x.set) (he:x.e=0) (h:x.av=7):ej l b ss k x↔(l=1∨l=5)∧0≤x.on∧x.on<4∧eE ss k x.fr [lz l b x.set x.on]:=by
 unfold ej;rw [h];simp [hi,he,and_assoc]
theorem DS (h1:x.av≠1) (h2:x.av≠2) (h3:x.av≠3) (h4:x.av≠4) (h5:x.av≠5) (h6:x.av≠6) (h7:x.av≠7):¬ej l b ss k x:=by
 unfold ej;simp [h1,h2,h3,h4,h5,h6,h7]
end
instance {b:List NV} {n:NV}:Decidable (ew b n):=by unfold ew;infer_instance
end Go.Proofs.Wit
