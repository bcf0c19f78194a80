/- Laws of walks, for any program, under the conditions that each theorem states. -/
import Derived.Test.YtaamcaiglooemaaGreatDoorXF31
set_option maxRecDepth 100000
set_option maxHeartbeats 4000000
namespace Go.Proofs.Wit
open Go Go.RowKit
section
variable {l:Int} {b:List NV} {ss:List SD} {σ:Sg}
theorem Kn {l:Int} (h:vH l):cJ l 4=true:=by unfold vH at h;unfold cJ;rw [if_neg (by decide),if_pos rfl];exact decide_eq_true (by omega)
theorem Kt {l:Int} (h:xi l):cJ l 5=true:=by unfold xi at h;unfold cJ;rw [if_neg (by decide),if_neg (by decide),if_pos rfl];exact decide_eq_true (by omega)
theorem r0 (hb:aX b) {s:aE} {a:Int} {n:Nat} (hn:(mw l b s a).getLsbD n=true) (he:fU b s a n=n):∃z,fD z∧((aa b n=ar a z∧cJ l 4=true)∨(aa b n=gp a z∧cJ l 5=true)):=by
 obtain ⟨i,h1,h2,h3,h4⟩:=(lh hb).1 hn;have hno:¬((nd b i).op=9∧(nd b i).x=n):=fun ⟨g1,g2⟩=>by
  rcases fT (b:=b) (s:=s) (ag:=a) (n:=n) with ⟨j,k1,k2,k3,k4,k5,k6,_⟩|⟨k1,k2⟩;have hj:j=n:=by omega
  subst hj;have:=hb.x k2 (by omega);omega;exact k2 i h1 h2 g1 h3 g2
 rcases h4 with h4|⟨h4,h5⟩;exact absurd h4 hno;subst h4;have hok:=hb.ok h1;rcases hb.node h1 with ⟨g1,g2⟩|⟨g1,g2⟩|⟨g1,g2⟩;omega;have hx:=hb.x h1 (by omega);rw [g2] at hok;obtain ⟨_,e1,e2⟩:=nj hok (by omega);refine ⟨aa b (nd b n).x.toNat,hb.fr (by omega),?_⟩;rw [g2,e1,e2,h3];rcases h5 with ⟨h5,h6⟩|⟨h5,h6⟩;exact .inl ⟨by rw [h5],Kn h6⟩;exact .inr ⟨by rw [h5],Kt h6⟩;omega
theorem Aq (hb:aX b) {s u:aE} {a:Int} {v:Tr→Bool} {n:Nat} (_hi:0≤a∧a<4) (hall:∀n,u.getLsbD n=true→cC v (aa b n)=true) (hu:u.getLsbD (fU b s a n)=true) (hc:fU b s a n=n→cC v (aa b n)=true→cC v (ar a (aa b n))=true):cC v (ar a (aa b n))=true:=by
 rcases fT (b:=b) (s:=s) (ag:=a) (n:=n) with ⟨i,h1,h2,h3,h4,h5,h6,_⟩|⟨h1,_⟩;rw [h1] at hu;have:=hall i hu;have hok:=hb.ok h2;rcases hb.node h2 with ⟨g1,g2⟩|⟨g1,g2⟩|⟨g1,g2⟩;omega;rw [g2] at hok this;obtain ⟨_,e1,e2⟩:=nj hok (by omega);rw [e1,e2,h4,h5,h6] at this;exact this;omega;rw [h1] at hu;exact hc h1 (hall n hu)
def sd (b:List NV) (tl:List SD) (σ:Sg) (last:List Nat) (q:Nat):Prop:=∀j,j<q→dx σ (last.getD j 0) (dM b (dE tl (j:Int)))
theorem uG {n:Nat}:∀{xs:List Nat},n∈xs→n∈xs.dropLast∨n=xs.getLastD 0:=fun {xs} h=>by
 have hne:xs≠[]:=fun e=>by rw [e] at h;cases h
 have e:xs.dropLast++[xs.getLast hne]=xs:=List.dropLast_concat_getLast hne;rw [←e] at h;rcases List.mem_append.1 h with h|h;exact .inl h;refine .inr ?_;rw [List.mem_singleton.1 h,List.getLastD_eq_getLast?,List.getLast?_eq_some_getLast hne];rfl
theorem lJ {xs:List Nat} (h:xs≠[]):xs.getLastD 0∈xs:=by
 rw [List.getLastD_eq_getLast?,List.getLast?_eq_some_getLast h];exact List.getLast_mem h
theorem jf.C8 (h:jf l b ss) {k:Nat} (hk:k<ss.length) (hn:dW ss k=true) {last:List Nat} (hl:sd b (dL b ss) σ last (cu (dW ss) k)) (hg:Good l σ):
  uW l (fun T=>ct T b (dL b ss) ss[k].set (iv b ss k ss[k]) last) σ:=by
 have hb:=h.base;have hus:=h.sub k hk;have hin:jV b (qg b ss k):=fun n hn=>(h.m6 k hk).1 n (hus n hn);have hgl:fD (dM b (qg b ss k)):=qB hb hin;have hsub:∀(j:Nat),(j:Int)∈ss[k].fr→∀m,Us b ss j m→(dE ss j).getLsbD m=true:=fun j hj m hm=>by
  have:=(h.pre hk hn hj).2.1;rw [eW (by omega)];exact h.sub j (by omega) m hm
 have hinj:∀(j:Nat),(j:Int)∈ss[k].fr→∀m,Us b ss j m→m<b.length:=fun j hj m hm=>by
  have:=(h.pre hk hn hj).2.1;exact (h.m6 j (by omega)).1 m (h.sub j (by omega) m hm)
 have hset:∀(j:Nat),(j:Int)∈ss[k].fr→dE (dL b ss) (cu (dW ss) j:Nat)=qg b ss j:=fun j hj=>
  tX (by have:=(h.pre hk hn hj).2.1;omega) (h.pre hk hn hj).1;have hline:∀(j:Nat),(j:Int)∈ss[k].fr→dx σ (last.getD (cu (dW ss) j) 0) (dM b (qg b ss j)):=fun j hj=>by
  rw [←hset j hj];exact hl _ (h.pre hk hn hj).2.2
 have hru:(iv b ss k ss[k]).aC=ss[k].aC:=rfl;have hon:(iv b ss k ss[k]).on=ss[k].on:=rfl;have hse:(iv b ss k ss[k]).set=qg b ss k:=rfl;have hfr:(iv b ss k ss[k]).fr=ss[k].fr.map (fun j=>((cu (dW ss) j.toNat:Nat):Int)):=rfl;have ev2:∀{v:Tr→Bool} {o:Nat},o<b.length→(nd b o).op=2→cC v (aa b o)=false:=fun {v o} ho h2=>by
  rcases hb.node ho with ⟨g1,g2⟩|⟨g1,g2⟩|⟨g1,g2⟩;rw [g2,h2];rfl;omega;omega
 have ev5:∀{v:Tr→Bool} {o:Nat},o<b.length→(nd b o).op=5→cC v (aa b o)=(cC v (aa b (nd b o).x.toNat) && cC v (aa b (nd b o).y.toNat)):=fun {v o} ho h2=>by
  rcases hb.node ho with ⟨g1,g2⟩|⟨g1,g2⟩|⟨g1,g2⟩;omega;omega;rw [g2,h2];rfl
 have ev6:∀{v:Tr→Bool} {o:Nat},o<b.length→(nd b o).op=6→cC v (aa b o)=(cC v (aa b (nd b o).x.toNat)||cC v (aa b (nd b o).y.toNat)):=fun {v o} ho h2=>by
  rcases hb.node ho with ⟨g1,g2⟩|⟨g1,g2⟩|⟨g1,g2⟩;omega;omega;rw [g2,h2];rfl
 have evk:∀{o:Nat} {op:Int},op=9∨op=10→o<b.length→(nd b o).op=op→(0≤(nd b o).i∧(nd b o).i<4)∧aa b o=.un op (nd b o).i 0 0 (aa b (nd b o).x.toNat):=fun {o op} h9 ho h2=>by
  have hok:=hb.ok ho;rcases hb.node ho with ⟨g1,g2⟩|⟨g1,g2⟩|⟨g1,g2⟩;omega;rw [g2,h2] at hok;obtain ⟨e0,e1,e2⟩:=nj hok h9;exact ⟨e0,by rw [g2,h2,e1,e2]⟩;omega
 unfold ct;simp only [hru,hon,hse];cases h.Io hk with
 |Fh o h1 h2 h3 h4 h5 h6 h7=>
  simp only [if_pos h1,h3,if_pos h6];exact ej hg hgl (fun _ n hn=>by cases hn) (fun _ _ v _=>fK.2 (fun hall=>by
   have:=hall o ((h7 o).2 rfl);rw [ev2 h4 h6] at this;cases this))
 |neg o e h1 h2 h3 h4 h5 h6 h7 h8 h9 h10 h11 h12=>
  simp only [if_pos h1,h3,if_neg h6];have htA:tA b (o:Int)=aa b o:=rfl;have c1:=j9 (ei:=false) (hb.nf o h4) (hb.ok h4) hg;have c2:dx _ _ (kq false (aa b o)):=dJ (T:=ae) (ei:=false) (t:=aa b o) (σ:=σ);have c3:=ej (g:=dM b (qg b ss k)) (from_:=[(aA ae false (aa b o) σ).1]) c1.dQ hgl (fun hbd n hn=>by rw [List.mem_singleton.1 hn];exact (c2 hbd).1) (fun hbd _ v hv=>fK.2 (fun hall=>by
   have q:=hv _ (List.mem_singleton.2 rfl);rw [(c2 hbd).2,pU,if_neg (by decide),hall o ((h12 o).2 (.inl rfl)),←h11,hall e ((h12 e).2 (.inr rfl))] at q;cases q));have s1:=c1.same;exact ⟨by rw [htA,←s1];exact c3.same,by rw [htA];exact c3.dQ⟩
 |and o j h1 h2 h3 h4 h5 h6 h7 h8 h9 h10=>
  have hm:(j:Int)∈ss[k].fr:=by rw [h3];simp
  have e0:(iv b ss k ss[k]).fr.getD 0 0=((cu (dW ss) j:Nat):Int):=by rw [hfr,h3];rfl
  have hx:=hb.x h6 (by omega);have hy:=hb.y h6 (by omega);simp only [h1,show ¬(2:Int)=1 by decide,if_false,if_true,e0,Int.toNat_natCast];exact ej hg hgl (fun hbd n hn=>by rw [List.mem_singleton.1 hn];exact (hline j hm hbd).1) (fun hbd _ v hv=>fK.2 (fun hall=>by
   have q:=hv _ (List.mem_singleton.2 rfl);rw [(hline j hm hbd).2,fK] at q;have ho:=hall o ((h10 o).2 (.inr rfl));rw [ev5 h6 h8,Bool.and_eq_true] at ho;refine q (fun n hn=>?_);by_cases c1:(n:Int)=(nd b o).x;rw [←c1] at ho;exact ho.1;by_cases c2:(n:Int)=(nd b o).y;rw [←c2] at ho;exact ho.2;exact hall n ((h10 n).2 (.inl ⟨hn,c1,c2⟩))))
 |or o j i h1 h2 h3 h4 h5 h6 h7 h8 h9 h10 h11 h12=>
  have hm:(j:Int)∈ss[k].fr:=by rw [h3];simp
  have hm2:(i:Int)∈ss[k].fr:=by rw [h3];simp
  have e0:(iv b ss k ss[k]).fr.getD 0 0=((cu (dW ss) j:Nat):Int):=by rw [hfr,h3];rfl
  have e1:(iv b ss k ss[k]).fr.getD 1 0=((cu (dW ss) i:Nat):Int):=by rw [hfr,h3];rfl
  simp only [h1,show ¬(3:Int)=1 by decide,show ¬(3:Int)=2 by decide,if_false,if_true,e0,e1,Int.toNat_natCast];exact ej hg hgl (fun hbd n hn=>by
   simp only [List.mem_cons,List.not_mem_nil,or_false] at hn;rcases hn with rfl|rfl;exact (hline j hm hbd).1;exact (hline i hm2 hbd).1) (fun hbd _ v hv=>fK.2 (fun hall=>by
   have q1:=hv _ (List.mem_cons_self ..);have q2:=hv _ (List.mem_cons_of_mem _ (List.mem_cons_self ..));rw [(hline j hm hbd).2,fK] at q1;rw [(hline i hm2 hbd).2,fK] at q2;have ho:=hall o ((h12 o).2 (.inr (.inr rfl)));rw [ev6 h7 h9,Bool.or_eq_true] at ho;rcases ho with ho|ho;refine q1 (fun n hn=>?_);by_cases c1:(n:Int)=(nd b o).x;rw [←c1] at ho;exact ho;exact hall n ((h12 n).2 (.inl ⟨hn,c1⟩));refine q2 (fun n hn=>?_);by_cases c1:(n:Int)=(nd b o).y;rw [←c1] at ho;exact ho;exact hall n ((h12 n).2 (.inr (.inl ⟨hn,c1⟩)))))
 |cut o e j i h1 h2 h3 h4 h5 h6 h7 h8 h9 h10 h11 h12 h13=>
  have hm:(j:Int)∈ss[k].fr:=by rw [h2];simp
  have hm2:(i:Int)∈ss[k].fr:=by rw [h2];simp
  have e0:(iv b ss k ss[k]).fr.getD 0 0=((cu (dW ss) j:Nat):Int):=by rw [hfr,h2];rfl
  have e1:(iv b ss k ss[k]).fr.getD 1 0=((cu (dW ss) i:Nat):Int):=by rw [hfr,h2];rfl
  simp only [h1,h5,show ¬(4:Int)=1 by decide,show ¬(4:Int)=2 by decide,show ¬(4:Int)=3 by decide,if_false,if_true,e0,e1,Int.toNat_natCast];have htA:tA b (o:Int)=aa b o:=rfl;have c1:=j9 (ei:=true) (hb.nf o h6) (hb.ok h6) hg;have c2:dx _ _ (kq true (aa b o)):=dJ (T:=ae) (ei:=true) (t:=aa b o) (σ:=σ);have lle:σ.Le (aA ae true (aa b o) σ).2:=ic;have c3:=ej (g:=dM b (qg b ss k)) (from_:=[(aA ae true (aa b o) σ).1,last.getD (cu (dW ss) j) 0,last.getD (cu (dW ss) i) 0]) c1.dQ hgl (fun hbd n hn=>by
   simp only [List.mem_cons,List.not_mem_nil,or_false] at hn;rcases hn with rfl|rfl|rfl;exact (c2 hbd).1;exact ((hline j hm).le lle hbd).1;exact ((hline i hm2).le lle hbd).1) (fun hbd _ v hv=>fK.2 (fun hall=>by
   have q0:=hv _ (List.mem_cons_self ..);have q1:=hv _ (List.mem_cons_of_mem _ (List.mem_cons_self ..));have q2:=hv _ (List.mem_cons_of_mem _ (List.mem_cons_of_mem _ (List.mem_cons_self ..)));rw [(c2 hbd).2,pU,if_pos rfl,←h10,Bool.or_eq_true] at q0;rw [((hline j hm).le lle hbd).2,fK] at q1;rw [((hline i hm2).le lle hbd).2,fK] at q2;rcases q0 with q0|q0;refine q1 (fun n hn=>?_);by_cases c1:n=o;rw [c1];exact q0;exact hall n ((h13 n).2 (.inl ⟨hn,c1⟩));refine q2 (fun n hn=>?_);by_cases c1:n=e;rw [c1];exact q0;exact hall n ((h13 n).2 (.inr ⟨hn,c1⟩))));have s1:=c1.same;exact ⟨by rw [htA,←s1];exact c3.same,by rw [htA];exact c3.dQ⟩
 |t o j h1 h2 h3 h4 h5 h6 h7 h8 h9 h10 h11=>
  have hm:(j:Int)∈ss[k].fr:=by rw [h4];simp
  have e0:(iv b ss k ss[k]).fr.getD 0 0=((cu (dW ss) j:Nat):Int):=by rw [hfr,h4];rfl
  simp only [h1,h6,show ¬(5:Int)=1 by decide,show ¬(5:Int)=2 by decide,show ¬(5:Int)=3 by decide,show ¬(5:Int)=4 by decide,if_false,if_true,e0,Int.toNat_natCast];have hx:=hb.x h7 (by omega);obtain ⟨hi,ht⟩:=evk (.inl rfl) h7 h9;have htA:tA b (o:Int)=aa b o:=rfl;have htX:tA b (nd b o).x=aa b (nd b o).x.toNat:=rfl;have fx:fD (aa b (nd b o).x.toNat):=hb.fr (by omega);have c1:uW l (fun T=>bP T (aL (tA b (o:Int)) (tA b (nd b o).x)) 3 0 0 0) σ:=ir hg (fun _ _=>⟨by rw [htA,htX];exact (hb.fr h7).im fx,by unfold cJ;rw [if_pos rfl];exact decide_eq_true h3,.inr (.inl ⟨by decide,by decide,rfl,rfl,rfl,⟨(nd b o).i,aa b (nd b o).x.toNat,by rw [htA,htX,ht]⟩⟩)⟩);have c2:dx _ _ (aL (tA b (o:Int)) (tA b (nd b o).x)):=cz (T:=ae) (t:=aL (tA b (o:Int)) (tA b (nd b o).x)) (r:=3) (a:=0) (b:=0) (gg:=0) (σ:=σ);have lle:σ.Le (bP ae (aL (tA b (o:Int)) (tA b (nd b o).x)) 3 0 0 0 σ).2:=dD;have c3:=ej (g:=dM b (qg b ss k)) (from_:=[(bP ae (aL (tA b (o:Int)) (tA b (nd b o).x)) 3 0 0 0 σ).1,last.getD (cu (dW ss) j) 0]) c1.dQ hgl (fun hbd n hn=>by
   simp only [List.mem_cons,List.not_mem_nil,or_false] at hn;rcases hn with rfl|rfl;exact (c2 hbd).1;exact ((hline j hm).le lle hbd).1) (fun hbd _ v hv=>fK.2 (fun hall=>by
   have q0:=hv _ (List.mem_cons_self ..);have q1:=hv _ (List.mem_cons_of_mem _ (List.mem_cons_self ..));rw [(c2 hbd).2,p8,htA,hall o ((h11 o).2 (.inr rfl)),htX] at q0;rw [((hline j hm).le lle hbd).2,fK] at q1;refine q1 (fun n hn=>?_);by_cases c1:(n:Int)=(nd b o).x;rw [←c1] at q0;simpa using q0;exact hall n ((h11 n).2 (.inl ⟨hn,c1⟩))));have s1:=c1.same;exact ⟨by rw [←s1];exact c3.same,c3.dQ⟩
 |k o j h1 h2 h3 h4 h5 h6 h7 h8 h9 h10=>
  have hm:(j:Int)∈ss[k].fr:=by rw [h3];simp
  have e0:(iv b ss k ss[k]).fr.getD 0 0=((cu (dW ss) j:Nat):Int):=by rw [hfr,h3];rfl
  simp only [h1,h5,show ¬(6:Int)=1 by decide,show ¬(6:Int)=2 by decide,show ¬(6:Int)=3 by decide,show ¬(6:Int)=4 by decide,show ¬(6:Int)=5 by decide,if_false,if_true,e0,Int.toNat_natCast];have hx:=hb.x h6 (by omega);have hlen:=hb.len;obtain ⟨hi,ht⟩:=evk (.inr rfl) h6 h8;have hmem:∀n,n∈ew (dE (dL b ss) ((cu (dW ss) j:Nat):Int) &&& ~~~ bW (nd b o).x)↔Us b ss j n∧(n:Int)≠(nd b o).x:=fun n=>by
   rw [dz,ib,hset j hm,pH (by omega)]
  have hcr:∀n,Us b ss j n→(n:Int)≠(nd b o).x→(mw l b ss[k].set (nd b o).i).getLsbD n=true:=fun n hn hne=>(h9 n (hsub j hm n hn)).resolve_right hne;refine ym hb hi hgl (fun n hn=>hinj j hm n ((hmem n).1 hn).1) (by omega) (fun e=>by cases e) hg (hline j hm) (fun v hv=>?_) (fun n hn he=>?_) (fun v hv1 hv2 hv3=>?_);rw [fK] at hv;rw [xh];intro hall;rw [sD,Bool.not_eq_true'];cases hX:cC v (aa b (nd b o).x.toNat) with
  |false=>rfl
  |true=>
   exact absurd (fun n hn=>by
    by_cases c1:(n:Int)=(nd b o).x;rw [←c1] at hX;exact hX;exact hall _ (List.mem_map_of_mem ((hmem n).2 ⟨hn,c1⟩))) hv
  have:=(hmem n).1 hn;exact r0 hb (hcr n this.1 this.2) he;rw [if_pos rfl] at hv3;refine fK.2 (fun hall=>?_);have ho:=hall o ((h10 o).2 (.inr rfl));rw [ht] at ho;refine hv3 ho (hv1 (fun n hn=>?_));have hn':=(hmem n).1 hn;exact Aq hb hi hall ((h10 _).2 (.inl ⟨n,hn'.1,hn'.2,rfl⟩)) (fun e=>hv2 n hn e)
 |d j h1 h2 h3 h4 h5 h6 h7 h8=>
  have hm:(j:Int)∈ss[k].fr:=by rw [h4];simp
  have e0:(iv b ss k ss[k]).fr.getD 0 0=((cu (dW ss) j:Nat):Int):=by rw [hfr,h4];rfl
  simp only [h1,show ¬(7:Int)=1 by decide,show ¬(7:Int)=2 by decide,show ¬(7:Int)=3 by decide,show ¬(7:Int)=4 by decide,show ¬(7:Int)=5 by decide,show ¬(7:Int)=6 by decide,if_false,e0,Int.toNat_natCast];have hmem:∀n,n∈ew (dE (dL b ss) ((cu (dW ss) j:Nat):Int))↔Us b ss j n:=fun n=>by rw [dz,hset j hm]
  obtain ⟨ps,hps⟩:∃ps,ps=ew (dE (dL b ss) ((cu (dW ss) j:Nat):Int)):=⟨_,rfl⟩;rw [←hps] at hmem⊢;have hne:ps≠[]:=fun e=>by
   obtain ⟨n,hn,_⟩:=h.BG j (by have:=(h.pre hk hn hm).2.1;omega);have:=(hmem n).2 hn;rw [e] at this;cases this
  have hlm:=(hmem _).1 (lJ hne);refine ym hb h6 hgl (fun n hn=>hinj j hm n ((hmem n).1 ((List.dropLast_sublist _).subset hn))) (hinj j hm _ hlm) (fun _=>by unfold cJ;rw [if_neg (by decide),if_neg (by decide),if_neg (by decide),if_pos rfl];exact decide_eq_true h3) hg (hline j hm) (fun v hv=>?_) (fun n hn he=>?_) (fun v hv1 hv2 hv3=>?_);rw [fK] at hv;rw [xh];intro hall;rw [sD,Bool.not_eq_true'];cases hX:cC v (aa b (ps.getLastD 0)) with
  |false=>rfl
  |true=>
   exact absurd (fun n hn=>by
    rcases uG ((hmem n).2 hn) with c1|c1;exact hall _ (List.mem_map_of_mem c1);rw [c1];exact hX) hv
  exact r0 hb (h7 n (hsub j hm n ((hmem n).1 hn))) he;rw [if_neg (by decide)] at hv3;refine fK.2 (fun hall=>?_);have hkw:∀n∈ps,cC v (ar ss[k].on (aa b n))=true:=fun n hn=>Aq hb h6 hall ((h8 _).2 ⟨n,(hmem n).1 hn,rfl⟩) (fun e=>hv2 n hn e);exact hv3 (hkw _ (lJ hne)) (hv1 (fun n hn=>hkw n ((List.dropLast_sublist _).subset hn)))
theorem ml:∀{k:Nat},k≤ss.length→(di ss k).length=cu (dW ss) k
 |0,_=>by simp [di,cu]
 |k+1,h=>by
  have h1:=ml (k:=k) (by omega);rw [di,List.getElem?_eq_getElem (by omega:k<ss.length),iK];dsimp only;split<;>simp [h1]
theorem uz {j:Nat} (hn:dW ss j=true):∀{k:Nat},k≤ss.length→j<k→∀hj:j<ss.length,(di ss k)[cu (dW ss) j]?=some ss[j].set
 |0,_,h,_=>by omega
 |k+1,h,h2,hj=>by
  rw [di,List.getElem?_eq_getElem (by omega:k<ss.length)];dsimp only;by_cases e:j=k;subst e;rw [if_pos hn,List.getElem?_append_right (by rw [ml (by omega)];exact Nat.le_refl _),ml (by omega)];simp;have h3:=uz hn (k:=k) (by omega) (by omega) hj;split;rw [List.getElem?_append_left (List.getElem?_eq_some_iff.1 h3).1];exact h3;exact h3
theorem eX {T:Tr→Prop} {tl:List SD} {fl:List aE} {q:Nat} (hq:q<tl.length):aV T b tl fl (q+1)=((aV T b tl fl q).1++[(ct T b tl (fl.getD q 0#64) tl[q] (aV T b tl fl q).1 (aV T b tl fl q).2).1],(ct T b tl (fl.getD q 0#64) tl[q] (aV T b tl fl q).1 (aV T b tl fl q).2).2):=by
 rw [aV,List.getElem?_eq_getElem hq]
theorem mQ {T:Tr→Prop} {tl:List SD} {fl:List aE}:∀{q:Nat},q≤tl.length→(aV T b tl fl q).1.length=q
 |0,_=>rfl
 |q+1,h=>by rw [eX (by omega),List.length_append,mQ (by omega)];rfl
theorem vp {T:Tr→Prop} {tl:List SD} {fl:List aE} {q:Nat} (hq:q+1≤tl.length):pX (aV T b tl fl (q+1)).2 ((aV T b tl fl (q+1)).1.getD q 0):=by
 have hl:=mQ (T:=T) (b:=b) (fl:=fl) (show q≤tl.length by omega);rw [eX (by omega)];have:((aV T b tl fl q).1++[(ct T b tl (fl.getD q 0#64) tl[q] (aV T b tl fl q).1 (aV T b tl fl q).2).1]).getD q 0=(ct T b tl (fl.getD q 0#64) tl[q] (aV T b tl fl q).1 (aV T b tl fl q).2).1:=by
  simp [List.getD_eq_getElem?_getD,hl]
 dsimp only;rw [this];exact wB
theorem lG {T:Tr→Prop} {tl:List SD} {fl:List aE}:∀{q:Nat},q≤tl.length→sd b tl (aV T b tl fl q).2 (aV T b tl fl q).1 q
 |0,_=>fun j hj=>by omega
 |q+1,h=>fun j hj=>by
  have hl:=mQ (T:=T) (b:=b) (fl:=fl) (show q≤tl.length by omega);rw [eX (by omega)];dsimp only;by_cases e:j=q;subst e;have:((aV T b tl fl j).1++[(ct T b tl (fl.getD j 0#64) tl[j] (aV T b tl fl j).1 (aV T b tl fl j).2).1]).getD j 0=(ct T b tl (fl.getD j 0#64) tl[j] (aV T b tl fl j).1 (aV T b tl fl j).2).1:=by
   simp [List.getD_eq_getElem?_getD,hl]
  rw [this,eW (by omega)];exact y9;have h1:dx (aV T b tl fl q).2 ((aV T b tl fl q).1.getD j 0) (dM b (dE tl (j:Int))):=lG (tl:=tl) (fl:=fl) (q:=q) (by omega) j (by omega);have:((aV T b tl fl q).1++[(ct T b tl (fl.getD q 0#64) tl[q] (aV T b tl fl q).1 (aV T b tl fl q).2).1]).getD j 0=(aV T b tl fl q).1.getD j 0:=by
   simp only [List.getD_eq_getElem?_getD];rw [List.getElem?_append_left (show j<(aV T b tl fl q).1.length by omega)]
  rw [this];exact h1.le (u7 (T:=T) (b:=b) (tl:=tl) (full:=fl.getD q 0#64) (x:=tl[q]) (last:=(aV T b tl fl q).1) (σ:=(aV T b tl fl q).2))
theorem oC:Good l ⟨[],false⟩:=⟨by decide,fun k hk=>absurd hk (Nat.not_lt_zero k),fun k hk=>absurd hk (Nat.not_lt_zero k)⟩
theorem jf.Gb (h:jf l b ss) (q:Nat):q≤(dL b ss).length→aV ae b (dL b ss) (di ss ss.length) q=aV bC b (dL b ss) (di ss ss.length) q∧Good l (aV ae b (dL b ss) (di ss ss.length) q).2:=by
 induction q with
 |zero=>intro _;exact ⟨by simp only [aV],by simp only [aV];exact oC⟩
 |succ q ih=>
  intro hq;obtain ⟨h1,h2⟩:=ih (by omega);have hql:q<(dL b ss).length:=by omega
  obtain ⟨k,hk,k1,k2,k3⟩:=wx (b:=b) hql;have hf:(di ss ss.length).getD q 0#64=ss[k].set:=by
   rw [List.getD_eq_getElem?_getD,←k2,uz k1 (Nat.le_refl _) hk hk];rfl
  have hl:=lG (T:=ae) (b:=b) (tl:=dL b ss) (fl:=di ss ss.length) (q:=q) (by omega);obtain ⟨p,hp⟩:∃p,p=aV ae b (dL b ss) (di ss ss.length) q:=⟨_,rfl⟩;rw [←hp] at h1 h2 hl;have h3:=h.C8 hk k1 (last:=p.1) (by rw [k2];exact hl) h2;have s3:=h3.same;rw [eX hql,eX hql,hf,k3,←h1,←hp,←s3];exact ⟨rfl,h3.dQ⟩
theorem jf.Lr (h:jf l b ss):iw ae b ss=iw bC b ss∧Good l (iw ae b ss).2∧dx (iw ae b ss).2 (iw ae b ss).1 (dM b (dE ss ((ss.length - 1:Nat):Int)))∧pX (iw ae b ss).2 (iw ae b ss).1:=by
 obtain ⟨h1,h2⟩:=h.Gb _ (Nat.le_refl _);obtain ⟨c1,c2,c3,c4⟩:=h.CX;have hl:=lG (T:=ae) (b:=b) (tl:=dL b ss) (fl:=di ss ss.length) (Nat.le_refl _) ((dL b ss).length - 1) c1;have hll:pX (aV ae b (dL b ss) (di ss ss.length) (dL b ss).length).2 ((aV ae b (dL b ss) (di ss ss.length) (dL b ss).length).1.getD ((dL b ss).length - 1) 0):=by
  have:=vp (T:=ae) (b:=b) (tl:=dL b ss) (fl:=di ss ss.length) (q:=(dL b ss).length - 1) (by omega);rwa [show (dL b ss).length - 1+1=(dL b ss).length by omega] at this
 have hsub:∀n,(dE (dL b ss) (((dL b ss).length - 1:Nat):Int)).getLsbD n=true→(dE ss ((ss.length - 1:Nat):Int)).getLsbD n=true:=fun n hn=>by
  rw [eW c1,c3] at hn;rw [eW c2];exact h.sub _ c2 n hn
 unfold iw;dsimp only;by_cases e:dE (dL b ss) (((dL b ss).length - 1:Nat):Int)=dE ss ((ss.length - 1:Nat):Int);simp only [if_pos e];refine ⟨by rw [h1],h2,?_,hll⟩;rw [←e];exact hl;simp only [if_neg e];have hin:jV b (dE ss ((ss.length - 1:Nat):Int)):=by
  rw [eW c2];exact (h.m6 _ c2).1
 have h3:=ej (g:=dM b (dE ss ((ss.length - 1:Nat):Int))) (from_:=[(aV ae b (dL b ss) (di ss ss.length) (dL b ss).length).1.getD ((dL b ss).length - 1) 0]) h2 (qB h.base hin) (fun hb n hn=>by rw [List.mem_singleton.1 hn];exact (hl hb).1) (fun hb _ v hv=>by
  have q:=hv _ (List.mem_singleton.2 rfl);rw [(hl hb).2,fK] at q;rw [fK];exact fun hall=>q (fun n hn=>hall n (hsub n hn)));exact ⟨by rw [←h1];exact h3.same,h3.dQ,ep,tG⟩
end
def Mb (ls:List LV) (k j:Nat):Prop:=∃hk:k<ls.length,(10≤ls[k].r∧j=ls[k].a.toNat)∨(ls[k].r=10∧j=ls[k].b.toNat)
structure MG (ls:List LV) (i:Nat) (s:List Bool):Prop where
  len:s.length=ls.length
  DZ:∀j,j<ls.length→(sB s j=true↔(j+1=ls.length∨∃k,ls.length≤k+i∧k<ls.length∧H8 ls k∧Mb ls k j))
section
variable {l:Int} {ls:List LV} {i k:Nat} {s:List Bool}
end
def FV.se (t:TypeId) (H:Hl) (x:FV):Prop:=∃q sp,(q,cN t x.f sp)∈H∧x.a=q.map (fun b=>⟨b,0,none⟩)∧(q=none→x.f.length=0)
theorem FV.se.mono {t:TypeId} {H H':Hl} {x:FV} (h:x.se t H) (hs:H⊆H'):x.se t H':=by
 obtain ⟨q,sp,h1,h2,h3⟩:=h;exact ⟨q,sp,hs h1,h2,h3⟩
theorem FV.se.at {t:TypeId} {w0 w:World} {S:List Nat} {h:Hl} {Y:List (Nat×Obj)} {x:FV} (g:x.se t h) (s:St w0 S w h Y):FA w x.a x.f:=by
 obtain ⟨q,sp,h1,h2,h3⟩:=g;obtain ⟨j,hj⟩:=List.getElem?_of_mem h1;rw [h2];exact aI s j hj h3
theorem tf {w0 w:World} {S:List Nat} {h:Hl} {Y:List (Nat×Obj)} (s:St w0 S w h Y) (j:Nat) {q:Option Nat} {ls:List LV} {e:TypeId} {sp:List Value} (hj:h[j]?=some (q,xY e ls sp)) (hq:q=none→ls.length=0)
  {t:TypeId} (hin:∀x∈ls,x.f.se t h∧x.f.f.length≤maxLen):LA w (q.map (fun b=>⟨b,0,none⟩)) ls:=by
 refine ⟨?_,fun x hx=>⟨(hin x hx).1.at s,(hin x hx).2⟩⟩;cases q with
 |none=>rw [List.eq_nil_of_length_eq_zero (hq rfl)];exact Sl.nil _ _
 |some b=>exact Sl.db (s.get hj)
def fh (t tl:TypeId) (w w':World) (v:Value) (ls:List LV):Prop:=∃(q:Option Nat) (cap:Nat) (sp:List Value) (H:Hl),v=br q ls.length cap∧(q=none→ls.length=0∧cap=0)∧(ls.flatMap LV.cells++sp).length=cap*5∧fR w w' ((q,xY tl ls sp)::H)∧∀x∈ls,x.f.se t H∧x.f.f.length≤maxLen
theorem fh.nil {t tl:TypeId} {w w':World}:fh t tl w w' (.slice none 0 0) []:=⟨none,0,[],[],rfl,fun _=>⟨rfl,rfl⟩,rfl,fR.nil,fun _ h=>by cases h⟩
section
variable {P:Program} {r:Option Nat} {f:FuncId} {R:Value→World→Prop} {w0:World} {S:List Nat} {Y:List (Nat×Obj)} {n:Nat} {k:List Item} {l:Fl} {h:Hl}
variable {ops:Array Oper} {i d:Nat} {rest:List Nat} {ty:TypeId} {pos:String} {aft:Array Edge} {g:Option (Nat×Bool)}
theorem rN {ls:List LV} {x:LV}:(ls++[x]).flatMap LV.cells=ls.flatMap LV.cells++LV.cells x:=by simp
end
def SV.cells (x:SV):List Value:=[U x.d.set,.int .i64 x.d.aC,.int .i64 x.d.on,.int .i64 x.d.e,.slice x.fa x.d.fr.length x.fc]
structure Cw (w:World) (A:Option Addr) (ss:List SV):Prop where
  at_:Sl w A (ss.flatMap SV.cells)
  Bu:∀s∈ss,kD w s.fa s.d.fr∧s.d.fr.length≤maxLen
theorem Cw.au {w0 w:World} {A:Option Addr} {ss:List SV} (h:Cw w0 A ss) (e:Ex [] w0 w):Cw w A ss:=⟨Sl.ex h.at_ e (by simp),fun s hs=>⟨(h.Bu s hs).1.au e,(h.Bu s hs).2⟩⟩
def cK (l:Int) (A:Option Addr) (n cA:Nat) (B:Option Addr) (m cB:Nat):Array Value:=#[.int .i64 l,.slice A n cA,.slice B m cB]
def qd (l:Int) (A:Option Addr) (n cA:Nat) (B:Option Addr) (m cB:Nat) (O:Option Addr) (k cO:Nat):Array Value:=#[.int .i64 l,.slice A n cA,.slice B m cB,.slice O k cO]
abbrev fP (ss:List SV):List SD:=ss.map SV.d
theorem fg {ss:List SV}:(fP ss).length=ss.length:=by simp
theorem nM {ss:List SV} {k:Nat} (hk:k<ss.length):(fP ss)[k]'(by simpa using hk)=ss[k].d:=by simp
theorem uw {s:aE} {i:Nat}:(((s>>>i) &&& 1#64)==1#64)=s.getLsbD i:=by
 rw [Bool.eq_iff_iff,beq_iff_eq];constructor;intro h;have:=congrArg (fun x=>x.getLsbD 0) h;simpa using this;intro h;apply BitVec.eq_of_getLsbD_eq;intro k hk;rw [BitVec.getLsbD_and,BitVec.getLsbD_ushiftRight,BitVec.getLsbD_one];by_cases e:k=0;subst e;simp [h];simp [e]
theorem w6 {b:List NV} {s:aE} (h0:0<b.length) (h64:b.length≤64):(s &&& ~~~ (18446744073709551615#64>>>(64 - b.length))=0#64)↔jV b s:=by
 rw [oc];have hb:∀k,(18446744073709551615#64>>>(64 - b.length)).getLsbD k=true↔k<b.length:=fun k=>by
  rw [BitVec.getLsbD_ushiftRight,show (18446744073709551615#64)=BitVec.allOnes 64 from by decide,BitVec.getLsbD_allOnes,decide_eq_true_eq];omega
 exact forall_congr' fun k=>imp_congr_right fun _=>hb k
def GN (b:List NV) (s:aE):Bool:=s &&& ~~~ (18446744073709551615#64>>>(64 - b.length))==0#64
theorem vM {b:List NV} {s:aE} (h0:0<b.length) (h64:b.length≤64):GN b s=true↔jV b s:=by
 unfold GN;rw [beq_iff_eq];exact w6 h0 h64
theorem iZ {ss:List SD} {k:Nat}:∀{fs:List Int} {us:List aE},eS ss k fs us↔fs.length=us.length∧∀j,j<us.length→(0≤fs.getD j 0∧fs.getD j 0<k)∧dE ss (fs.getD j 0) &&& ~~~ us.getD j 0#64=0#64
 |[],[]=>by simp [eS]
 |[],_::_=>by simp [eS]
 |_::_,[]=>by simp [eS]
 |f::fs,u::us=>by
  rw [eS,iZ];constructor;rintro ⟨h1,h2,h3⟩;refine ⟨by simp [h2],fun j hj=>?_⟩;cases j with
  |zero=>exact h1
  |succ j=>exact h3 j (by simp at hj;omega)
  rintro ⟨h1,h2⟩;refine ⟨h2 0 (by simp),by simpa using h1,fun j hj=>h2 (j+1) (by simp;omega)⟩
def lS (os:List Int) (node other:Int):Bool:=decide (0≤node∧node<os.length∧0≤other∧os.getD node.toNat 0=other)
def lO (b:List NV) (x:SD) (op:Int):Bool:=decide (x.on<b.length) && (fA x.set x.on && decide ((nd b x.on).op=op))
theorem ju {b:List NV} {x:SD} {op:Int}:lO b x op=true↔CK b x op:=by
 unfold lO CK;simp only [Bool.and_eq_true,decide_eq_true_eq]
def HV:NV:=⟨0,0,0,0,0,0⟩
noncomputable def dH (b:List NV):List Int:=(List.range b.length).map (fun (i:Nat)=>jY b (i:Int))
theorem kR {b:List NV}:(dH b).length=b.length:=by simp [dH]
theorem ug {b:List NV} {i:Nat} (hi:i<b.length):(dH b).getD i 0=jY b i:=by simp [dH,List.getD_eq_getElem?_getD,hi]
theorem qz {b:List NV} {node other:Int}:lS (dH b) node other=true↔(0≤node∧node<b.length)∧0≤other∧jY b node=other:=by
 unfold lS;rw [decide_eq_true_eq,kR];constructor;rintro ⟨h1,h2,h3,h4⟩;obtain ⟨k,rfl⟩:∃k:Nat,node=k:=⟨node.toNat,by omega⟩;rw [Int.toNat_natCast,ug (by omega)] at h4;exact ⟨⟨h1,h2⟩,h3,h4⟩;rintro ⟨⟨h1,h2⟩,h3,h4⟩;obtain ⟨k,rfl⟩:∃k:Nat,node=k:=⟨node.toNat,by omega⟩;exact ⟨h1,h2,h3,by rw [Int.toNat_natCast,ug (by omega)];exact h4⟩
structure JN (w:World) (t:TypeId) (bc:Nat) (l:Int) (A:Option Addr) (cA:Nat) (b:List NV) (B:Option Addr) (cB:Nat) (ss:List SV) (O:Option Addr) (cO:Nat):Prop where
  db:w.heap[bc]?=some (.cells (qd l A b.length cA B ss.length cB O (dH b).length cO) t (0,0))
  fa:FA w A b
  sa:Cw w B ss
  oa:kD w O (dH b)
  base:aX b
theorem JN.ex {w w':World} {t:TypeId} {bc:Nat} {l:Int} {A:Option Addr} {cA:Nat} {b:List NV} {B:Option Addr} {cB:Nat} {ss:List SV} {O:Option Addr} {cO:Nat} (h:JN w t bc l A cA b B cB ss O cO) (e:Ex [] w w'):JN w' t bc l A cA b B cB ss O cO:=⟨e.iA h.db,h.fa.au e,h.sa.au e,h.oa.au e,h.base⟩
theorem rh {ss:List SD} {k:Nat} {fs:List Int}:eS ss k fs []↔fs=[]:=by cases fs<;>simp [eS]
def zV (b:List NV) (x:SD):Prop:=x.fr=[]∧((lO b x 2=true∧x.e=0)∨(fA x.set x.on=true∧fA x.set x.e=true∧lS (dH b) x.on x.e=true))
theorem xl {b:List NV} {x:SD}:zV b x↔(x.fr=[]∧((CK b x 2∧x.e=0)∨(fA x.set x.on=true∧x.on<b.length∧fA x.set x.e=true∧jY b x.on=x.e))):=by
 unfold zV;rw [ju,qz];refine and_congr_right fun _=>or_congr Iff.rfl ?_;constructor;rintro ⟨h1,h2,h3,h4,h5⟩;exact ⟨h1,h3.2,h2,h5⟩;rintro ⟨h1,h2,h3,h4⟩;obtain ⟨k,e1,_⟩:=gv.1 h1;obtain ⟨j,e2,_⟩:=gv.1 h3;exact ⟨h1,h3,⟨by omega,h2⟩,by omega,h4⟩
section
variable {l:Int} {b:List NV} {ss:List SD} {k:Nat} {x:SD}
theorem El (h:¬jV b x.set):¬eI l b ss k x:=fun g=>h g.1
theorem xk (hi:jV b x.set) (h:x.aC=1):eI l b ss k x↔zV b x:=by
 rw [xl];unfold eI;rw [h];simp [hi]
theorem oM (hi:jV b x.set) (h:x.aC=4):eI l b ss k x↔0≤x.e∧lS (dH b) x.on x.e=true∧eS ss k x.fr [x.set|||bW x.on,x.set|||bW x.e]:=by
 rw [qz];unfold eI;rw [h];simp [hi];constructor;rintro ⟨h1,h2,h3,h4⟩;exact ⟨h2,⟨h1,h2,h3⟩,h4⟩;rintro ⟨h1,⟨h2,h3,h4⟩,h5⟩;exact ⟨h2,h3,h4,h5⟩
theorem Jl (h1:x.aC≠1) (h4:x.aC≠4) (he:x.e≠0):¬eI l b ss k x:=by
 rintro ⟨_,h⟩;rcases h with h|h|h|h|h|h|h;exact h1 h.1;exact he h.2.1;exact he h.2.1;exact h4 h.1;exact he h.2.1;exact he h.2.1;exact he h.2.1
theorem BX (hi:jV b x.set) (he:x.e=0) (h:x.aC=2):eI l b ss k x↔lO b x 5=true∧eS ss k x.fr [x.set|||bW (nd b x.on).x|||bW (nd b x.on).y]:=by
 rw [ju];unfold eI;rw [h];simp [hi,he]
theorem BW (hi:jV b x.set) (he:x.e=0) (h:x.aC=3):eI l b ss k x↔lO b x 6=true∧eS ss k x.fr [x.set|||bW (nd b x.on).x,x.set|||bW (nd b x.on).y]:=by
 rw [ju];unfold eI;rw [h];simp [hi,he]
theorem pS (hi:jV b x.set) (he:x.e=0) (h:x.aC=5):eI l b ss k x↔lO b x 9=true∧(l=2∨l=4∨l=6)∧eS ss k x.fr [x.set|||bW (nd b x.on).x]:=by
 rw [ju];unfold eI;rw [h];simp [hi,he];exact ⟨fun ⟨h1,h2,h3⟩=>⟨h2,h1,h3⟩,fun ⟨h1,h2,h3⟩=>⟨h2,h1,h3⟩⟩
theorem BV (hi:jV b x.set) (he:x.e=0) (h:x.aC=6):eI l b ss k x↔lO b x 10=true∧eS ss k x.fr [bW (nd b x.on).x|||mw l b x.set (nd b x.on).i]:=by
 rw [ju];unfold eI;rw [h];simp [hi,he]
theorem oN (hi:jV b x.set) (he:x.e=0) (h:x.aC=7):eI l b ss k x↔(l=1∨l=5)∧0≤x.on∧x.on<4∧eS ss k x.fr [mw l b x.set x.on]:=by
 unfold eI;rw [h];simp [hi,he,and_assoc]
theorem Hf (h1:x.aC≠1) (h2:x.aC≠2) (h3:x.aC≠3) (h4:x.aC≠4) (h5:x.aC≠5) (h6:x.aC≠6) (h7:x.aC≠7):¬eI l b ss k x:=by
 unfold eI;simp [h1,h2,h3,h4,h5,h6,h7]
end
instance {b:List NV} {n:NV}:Decidable (dk b n):=by unfold dk;infer_instance
end Go.Proofs.Wit
