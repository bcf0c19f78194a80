/- Laws of walks, for any program, under the conditions that each theorem states. -/
import Derived.Test.YtaamcaiglooemaaGreatDoorXF04
set_option maxRecDepth 100000
set_option maxHeartbeats 4000000
namespace Go.Proofs.Wit
open Go Go.RowKit
section
variable {P:Program} {r:Option Nat} {f:FuncId} {R:Value→World→Prop} {w0:World} {S:List Nat} {Y:List (Nat×Obj)} {n:Nat} {k:List Item} {l:Fl} {h hb hb2:Hl} {ops:Array Oper} {c q:Nat} {D:List Nat}
theorem bH.Da {i:Nat} {ty:TypeId} {pos:String} {aft:Array Edge} {g:Option (Nat×Bool)} {t:TypeId} {x y:Operand} {b:Nat} {cs:Array Value} {e:TypeId} {v:Value} {m:Nat} (h1:aw ops D=[i]) (ho:ops[i]?=some ⟨none,.store t x y,ty,pos,aft,g⟩) (hw:aq ops l g=true)
  (hx:aM l x=some (.pointer (some ⟨b,0,none⟩))) (hy:aM l y=some v) (hz:∀w,(sizeOf t).run P w=.ok m w) (j:Nat) (hj:h[j]?=some (some b,.cells cs e (0,0))) (hm:cs.size=m) (hv:v.cells.size=m) (h2:v.cells.toList.all Value.oneCell'=true)
  (hs:(cur c hb hb2 (i::D)).Sublist (h.set j (some b,.cells v.cells e (0,0))))
  (hk:bH P r f R w0 S Y n k ops c hb hb2 q (i::D) l (h.set j (some b,.cells v.cells e (0,0)))):bH P r f R w0 S Y n k ops c hb hb2 (q+1) D l h:=by
 intro t' hF;rw [Dq];refine .inr ⟨by rw [h1];simp,fun i' hi=>?_⟩;rw [h1] at hi;obtain rfl:=List.mem_singleton.1 hi;refine .inr ⟨_,ho,rfl,rfl,rfl,eJ hF hw,fun w Ds Y' hS=>?_⟩;have hbk:=hS.get hj;have hrun:=run_storeCells_at (P:=P) b 0 e v.cells.toList 0 cs w hbk (by simp;omega) (fun u hu=>List.all_eq_true.1 h2 u hu);have hrow:(cs.toList.take (0+0)++v.cells.toList++cs.toList.drop (0+0+v.cells.toList.length)).toArray=v.cells:=by
  rw [←Array.toList_inj];simp;omega
 rw [hrow] at hrun;refine ⟨w.setRow b v.cells,_,?_,hS.pZ hj (o':=.cells v.cells e (0,0)) rfl rfl rfl rfl (by simp [World.setRow]) (setRow_heap w b _ _ e _ hbk) (fun q _ hq=>setRow_other w b q _ hq),hs,hk t' hF⟩;simp only [execOp,hF.aM hx,hF.aM hy,Sem.run_bind,Instr.storeAt,Instr.sureAddr,storeVar,Sem.run_pure,Result.andThen_ok,hz,hv];simp only [ne_eq,not_true_eq_false,if_false,hrun];rfl
end
section
variable {P:Program} {r:Option Nat} {f:FuncId} {R:Value→World→Prop} {w0:World} {S:List Nat} {Y:List (Nat×Obj)} {n:Nat} {k:List Item} {l:Fl} {h:Hl} {ops:Array Oper} {c:Nat} {hb hb2:Hl}
theorem eH.hJ {i:Nat} {t:Array Value} {h2:Hl} {K:Array Value→Hl→Prop} (hp:h.Perm h2) (hm:eH P w0 S n ops i t h K) (hk:∀t',K t' h→K t' h2):eH P w0 S n ops i t h2 K:=by
 obtain ⟨o,d,ho,hdst,hnd,hsel,hd,hr⟩:=hm;refine ⟨o,d,ho,hdst,hnd,hsel,hd,?_⟩;rcases hr with ⟨hwant,hr⟩|⟨hskip,hk2⟩;exact .inl ⟨hwant,fun w Ds Y' hS=>hr w Ds Y' (hS.perm hp.symm)⟩;exact .inr ⟨hskip,hk _ hk2⟩
theorem Dq.hJ (h2:hb2.Sublist hb):∀{q:Nat} {D:List Nat} {t:Array Value} {h h':Hl},h.Perm h'→(cur c hb hb2 D).Sublist h'→Dq P r f R w0 S Y n k ops c hb hb2 q D t h→Dq P r f R w0 S Y n k ops c hb hb2 q D t h'
 |0,_,_,_,_,_,_,hd=>hd
 |q+1,D,t,h,h',hp,hs,hd=>by
  rw [Dq] at hd⊢;rcases hd with ⟨h0,hd⟩|⟨h0,hd⟩;exact .inl ⟨h0,fun w Ds hS=>hd w Ds (hS.perm hp.symm)⟩;refine .inr ⟨h0,fun i hi=>?_⟩;rcases hd i hi with hd|⟨o,ho,hdst,hnd,hsel,hwant,hr⟩;exact .inl (hd.hJ hp (fun t' ⟨e1,e2⟩=>⟨(rU h2).trans hs,e2.hJ h2 hp ((rU h2).trans hs)⟩));exact .inr ⟨o,ho,hdst,hnd,hsel,hwant,fun w Ds Y' hS=>hr w Ds Y' (hS.perm hp.symm)⟩
theorem Dq.IB (h2:hb2.Sublist hb) {i d:Nat} (hic:i≠c) (hf:yU ops i d) (hd:d<n) {q:Nat} {D:List Nat} {t:Array Value} {h:Hl} {v:Value} (ht:t.size=n) (hi:i∈aw ops D) (ho:jB P w0 S n [] ops i t d v) (hs:(cur c hb hb2 D).Sublist h)
  (hg:Dq P r f R w0 S Y n k ops c hb hb2 q (i::D) (t.setIfInBounds d v) h):Dq P r f R w0 S Y n k ops c hb hb2 (q+1) D t h:=by
 refine Dq.pure h2 (hx:=hb2) hic hf hd ht hi ?_ (.inl rfl) hs hg;obtain ⟨o,h1,h3,h4,h5,h6⟩:=ho;refine ⟨o,h1,h3,h4,h5,?_⟩;rcases h6 with ⟨a,b⟩|h6;exact .inl ⟨a,fun w Ds Y' hS=>b w Ds Y' (hS.cn (List.nil_sublist _))⟩;exact .inr h6
structure yW where
  i:Nat
  d:Nat
  V:Nat→Value
  O:Obj
def qQ:List Nat→List (List Nat)
 |[]=>[[]]
 |i::l=>qQ l++(qQ l).map (i::·)
theorem mn (p:Nat→Bool):∀l:List Nat,l.filter p∈qQ l
 |[]=>by simp [qQ]
 |i::l=>by
  rw [qQ,List.filter_cons];split;exact List.mem_append_right _ (List.mem_map.2 ⟨_,mn p l,rfl⟩);exact List.mem_append_left _ (mn p l)
def AV:List Nat→Bool
 |[]=>true
 |i::l=>!l.contains i && AV l
theorem ru:∀{l:List Nat},AV l=true→l.Nodup
 |[],_=>List.nodup_nil
 |i::l,h=>by
  rw [AV,Bool.and_eq_true] at h;exact List.nodup_cons.2 ⟨by simpa using h.1,ru h.2⟩
def E9 (n:Nat) (ops:Array Oper) (l:Fl) (c:Nat) (D ids ds:List Nat) (ip dp:Nat) (key:List Nat):Bool:=
 (qQ ids).all (fun s=>cond (key.all s.contains) ((aw ops (s++D)).contains ip && (s==ids||aw ops (s++(ip::D))==ids.filter (fun i=>!s.contains i))) (aw ops (s++D)==ids.filter (fun i=>!s.contains i))) &&
 !ids.contains c && !Nat.beq ip c && AV ids && AV ds && ds.all (fun d=>(look l d).isNone && Nat.blt d n && !Nat.beq d dp) && (look l dp).isNone && Nat.blt dp n && !ids.contains ip && key.all ids.contains && iJ ops ip && (bK ops ip==some dp)
theorem vD {a b:Fl} {i:Nat} {v:Value} (h:look (a++b) i=some v):(∃p∈a,p.1=i∧p.2=v)∨look b i=some v:=by
 induction a with
 |nil=>exact .inr h
 |cons p a ih=>
  obtain ⟨j,u⟩:=p;rw [List.cons_append,look] at h;cases hq:Nat.beq j i with
  |true=>
   rw [hq] at h;exact .inl ⟨(j,u),List.mem_cons_self ..,Nat.eq_of_beq_eq_true hq,by simpa using h⟩
  |false=>
   rw [hq] at h;rcases ih h with ⟨q,h1,h2⟩|h1;exact .inl ⟨q,List.mem_cons_of_mem _ h1,h2⟩;exact .inr h1
theorem Dq.A5 {q:Nat} {D1:List Nat} (ms rem:List yW) (got:List (yW×Nat)) {t:Array Value} (hp:(rem++got.map (·.1)).Perm ms) (hni:(ms.map (·.i)).Nodup) (hnd:(ms.map (·.d)).Nodup) (hl:∀x∈ms,look l x.d=none∧x.d<n)
  (hF:iW n t l) (hT:∀p∈got,t.getD p.1.d undef=p.1.V p.2) (hrd:aw ops (got.map (·.1.i)++D1)=(ms.map (·.i)).filter (fun i=>!(got.map (·.1.i)).contains i)) (hne:rem≠[]) (hs:∀G:List Nat,(∀j∈G,j∈ms.map (·.i))→(cur c hb hb2 (G++D1)).Sublist h)
  (hm:∀x∈ms,∀t h,iW n t l→eH P w0 S n ops x.i t h (fun t' h'=>∃b,t'=t.setIfInBounds x.d (x.V b)∧h'=(some b,x.O)::h))
  (hk:∀(x:yW) (b:Nat) (r':List yW),x∈ms→r'.length+1=rem.length→iW n (t.setIfInBounds x.d (x.V b)) l→(∀p∈(x,b)::got,(t.setIfInBounds x.d (x.V b)).getD p.1.d undef=p.1.V p.2)→(r'++((x,b)::got).map (·.1)).Perm ms→
   Dq P r f R w0 S Y n k ops c hb hb2 q (((x,b)::got).map (·.1.i)++D1) (t.setIfInBounds x.d (x.V b)) (((x,b)::got).map (fun p=>(some p.2,p.1.O))++h)):
  Dq P r f R w0 S Y n k ops c hb hb2 (q+1) (got.map (·.1.i)++D1) t (got.map (fun p=>(some p.2,p.1.O))++h):=by
 have hpi:(rem.map (·.i)++got.map (·.1.i)).Perm (ms.map (·.i)):=by simpa [Function.comp_def] using hp.map (·.i)
 have hnn:(rem.map (·.i)++got.map (·.1.i)).Nodup:=hpi.nodup_iff.2 hni;have hG:∀j∈got.map (·.1.i),j∈ms.map (·.i):=fun j hj=>hpi.subset (List.mem_append_right _ hj);rw [Dq];refine .inr ⟨?_,fun i hi=>.inl ?_⟩;rw [hrd];rcases rem with _|⟨x,rem⟩;exact absurd rfl hne;refine List.ne_nil_of_mem (a:=x.i) (List.mem_filter.2 ⟨hpi.subset (by simp),?_⟩);rw [List.map_cons,List.cons_append,List.nodup_cons] at hnn;simp only [List.contains_eq_mem,Bool.not_eq_true',decide_eq_false_iff_not];exact fun hx=>hnn.1 (List.mem_append_right _ hx);rw [hrd,List.mem_filter] at hi;have hir:i∈rem.map (·.i):=by
  rcases List.mem_append.1 (hpi.symm.subset hi.1) with h1|h1;exact h1;simp [List.contains_eq_mem] at hi;simp only [List.mem_map] at h1;obtain ⟨a,h1,h3⟩:=h1;exact absurd h3 (hi.2 _ _ h1)
 obtain ⟨x,hx,rfl⟩:=List.mem_map.1 hir;obtain ⟨s1,s2,rfl⟩:=List.append_of_mem hx;have hxm:x∈ms:=hp.subset (List.mem_append_left _ hx);have hp2:((s1++s2)++(x::got.map (·.1))).Perm ms:=by
  refine List.Perm.trans ?_ hp;refine (List.perm_middle.trans ?_);rw [←List.cons_append];exact List.Perm.append_right _ List.perm_middle.symm
 have hdx:∀p∈got,p.1.d≠x.d:=fun p hpg e=>by
  have h5:(((s1++s2)++(x::got.map (·.1))).map (·.d)).Nodup:=(hp2.map (·.d)).nodup_iff.2 hnd;rw [List.map_append,List.map_cons,List.nodup_append] at h5;have h6:=(List.nodup_cons.1 h5.2.1).1;exact h6 (by rw [←e];exact List.mem_map.2 ⟨p.1,List.mem_map.2 ⟨p,hpg,rfl⟩,rfl⟩)
 refine (hm x hxm t _ hF).mono ?_;rintro t' h' ⟨b,rfl,rfl⟩;refine ⟨?_,hk x b (s1++s2) hxm (by simp;omega) ⟨by simp [hF.1],fun j v hv=>?_⟩ (fun p hp=>?_) hp2⟩;exact ((hs (x.i::got.map (·.1.i)) (fun j hj=>by
  rcases List.mem_cons.1 hj with rfl|hj;exact hi.1;exact hG j hj)).trans (List.sublist_append_right _ _)).cons _;have hne:x.d≠j:=fun e=>by
  have:=(hl x hxm).1;rw [e,hv] at this;cases this
 have:=hF.2 j v hv;rw [←this];simp [Array.getD_eq_getD_getElem?,hne];rcases List.mem_cons.1 hp with rfl|hp;have hlt:x.d<t.size:=by rw [hF.1];exact (hl x hxm).2
 simp [Array.getD_eq_getD_getElem?,hlt];rw [←hT p hp];simp [Array.getD_eq_getD_getElem?,(hdx p hp).symm]
theorem Ca {got:List (yW×Nat)} (hgn:(got.map (·.1.i)).Nodup):∃b:Nat→Nat,∀p∈got,b p.1.i=p.2:=by
 induction got with
 |nil=>exact ⟨fun _=>0,fun p hp=>by cases hp⟩
 |cons p got ih=>
  rw [List.map_cons,List.nodup_cons] at hgn;obtain ⟨b,hb⟩:=ih hgn.2;refine ⟨fun i=>if i=p.1.i then p.2 else b i,fun x hx=>?_⟩;rcases List.mem_cons.1 hx with rfl|hx;exact if_pos rfl;exact (if_neg (fun e=>hgn.1 (by rw [←e];exact List.mem_map.2 ⟨x,hx,rfl⟩))).trans (hb x hx)
theorem bH.as {q:Nat} {D:List Nat} (l':Fl) (h':Hl) (el:l=l') (eh:h=h') (hg:bH P r f R w0 S Y n k ops c hb hb2 q D l' h'):bH P r f R w0 S Y n k ops c hb hb2 q D l h:=by
 rw [el,eh];exact hg
theorem bH.LG {q:Nat} {D:List Nat} (ms:List yW) (ip dp:Nat) (key:List Nat) (Vp:(Nat→Nat)→Value) (hok:E9 n ops l c D (ms.map (·.i)) (ms.map (·.d)) ip dp key=true) (h2:hb2.Sublist hb) (hs:(cur c hb hb2 D).Sublist h)
  (hm:∀x∈ms,∀t h,iW n t l→eH P w0 S n ops x.i t h (fun t' h'=>∃b,t'=t.setIfInBounds x.d (x.V b)∧h'=(some b,x.O)::h))
  (hV:∀b b',(∀i∈key,b i=b' i)→Vp b=Vp b')
  (ho:∀b:Nat→Nat,af P w0 S n [] ops ip ((ms.filter (fun x=>key.contains x.i)).map (fun x=>(x.d,x.V (b x.i)))++l) dp (Vp b))
  (hk:∀b:Nat→Nat,bH P r f R w0 S Y n k ops c hb hb2 q (ms.map (·.i)++ip::D) ((dp,Vp b)::(ms.map (fun x=>(x.d,x.V (b x.i)))++l)) (ms.map (fun x=>(some (b x.i),x.O))++h)):
  bH P r f R w0 S Y n k ops c hb hb2 (q+ms.length+1) D l h:=by
 simp only [E9,Bool.and_eq_true,List.all_eq_true,Bool.not_eq_true',Option.isNone_iff_eq_none,beq_iff_eq] at hok;obtain ⟨⟨⟨⟨⟨⟨⟨⟨⟨⟨⟨hr,hc⟩,hpc⟩,hni⟩,hnd⟩,hl'⟩,hdp⟩,hdn⟩,hpi'⟩,hkey⟩,hpu⟩,hdst⟩:=hok;replace hni:=ru hni;replace hnd:=ru hnd;have hl:∀x∈ms,look l x.d=none∧x.d<n:=fun x hx=>by
  have:=(hl' x.d (List.mem_map.2 ⟨x,hx,rfl⟩)).1;exact ⟨this.1,by simpa [Nat.blt_eq] using this.2⟩
 have hxp:∀x∈ms,x.d≠dp:=fun x hx e=>by
  have:=(hl' x.d (List.mem_map.2 ⟨x,hx,rfl⟩)).2;rw [e] at this;simp at this
 have hcu:∀G:List Nat,(∀j∈G,j∈ms.map (·.i))→cur c hb hb2 (G++D)=cur c hb hb2 D∧cur c hb hb2 (G++(ip::D))=cur c hb hb2 D:=fun G hG=>by
  have hnc:c∉G:=fun hg=>by
   have:=hG _ hg;rw [List.contains_eq_mem,decide_eq_false_iff_not] at hc;exact hc this
  have hnp:c≠ip:=fun e=>by rw [e] at hpc;simp at hpc
  unfold cur;have h1:(G++D).contains c=D.contains c:=by
   rw [Bool.eq_iff_iff];simp [hnc]
  have h3:(G++(ip::D)).contains c=D.contains c:=by
   rw [Bool.eq_iff_iff];simp [hnc,hnp]
  rw [h1,h3];exact ⟨rfl,rfl⟩
 have hsub:∀(got:List (yW×Nat)),(∀j∈got.map (·.1.i),j∈ms.map (·.i))→∃s,s∈qQ (ms.map (·.i))∧∀j,j∈s↔j∈got.map (·.1.i):=fun got hG=>
  ⟨_,mn (fun i=>(got.map (·.1.i)).contains i) (ms.map (·.i)),fun j=>by
   rw [List.mem_filter,List.contains_eq_mem,decide_eq_true_eq];exact ⟨fun h=>h.2,fun h=>⟨hG j h,h⟩⟩⟩;have hfl:∀(s:List Nat) (G:List Nat),(∀j,j∈s↔j∈G)→(ms.map (·.i)).filter (fun i=>!s.contains i)=(ms.map (·.i)).filter (fun i=>!G.contains i):=fun s G h=>by
  refine List.filter_congr (fun i _=>?_)
  congr 1;rw [Bool.eq_iff_iff];simp only [List.contains_eq_mem,decide_eq_true_eq];exact h i
 have hra:∀(s G D1:List Nat),(∀j,j∈s↔j∈G)→aw ops (s++D1)=aw ops (G++D1):=fun s G D1 h=>lD (fun j=>by simp only [List.mem_append,h j]);have aux1:∀(m:Nat) (rem:List yW) (got:List (yW×Nat)) (t:Array Value),rem.length=m→(rem++got.map (·.1)).Perm ms→iW n t l→(∀p∈got,t.getD p.1.d undef=p.1.V p.2)→
   (∀i∈key,i∈got.map (·.1.i))→(∃b0:Nat→Nat,(∀p∈got,p.1.i∈key→b0 p.1.i=p.2)∧t.getD dp undef=Vp b0)→
   Dq P r f R w0 S Y n k ops c hb hb2 (q+m) (got.map (·.1.i)++(ip::D)) t (got.map (fun p=>(some p.2,p.1.O))++h):=by
  intro m
  induction m with
  |zero=>
   intro rem got t hlen hp hF hT hky ⟨b0,hb0,hvp⟩;obtain rfl:=List.eq_nil_of_length_eq_zero hlen;rw [List.nil_append] at hp;have hpi:(got.map (·.1.i)).Perm (ms.map (·.i)):=by simpa [Function.comp_def] using hp.map (·.i)
   obtain ⟨b,hbd⟩:=Ca (hpi.nodup_iff.2 hni);have hmem:∀x∈ms,∃p∈got,p.1=x:=fun x hx=>by simpa using hp.symm.subset hx
   have hperm:(ms.map (fun x=>(some (b x.i),x.O))++h).Perm (got.map (fun p=>(some p.2,p.1.O))++h):=by
    refine List.Perm.append_right _ ?_;have h1:=(hp.symm.map (fun x:yW=>(some (b x.i),x.O)));rw [List.map_map] at h1;refine h1.trans (List.Perm.of_eq (List.map_congr_left (fun p hp=>?_)));simp [hbd p hp]
   have hvb:Vp b0=Vp b:=hV _ _ (fun i hi=>by
    obtain ⟨p,hp,rfl⟩:=List.mem_map.1 (hky i hi);rw [hb0 p hp hi,hbd p hp]);have hg:=hk b t ⟨hF.1,fun i v hv=>by
    rw [look] at hv;cases hq:Nat.beq dp i with
    |true=>
     rw [hq] at hv;rw [←Nat.eq_of_beq_eq_true hq,hvp,hvb];simpa using hv
    |false=>
     rw [hq] at hv;rcases vD hv with ⟨p,h1,h3,h4⟩|hv;obtain ⟨x,hx,rfl⟩:=List.mem_map.1 h1;obtain ⟨p,hpg,rfl⟩:=hmem x hx;dsimp only at h3 h4;rw [←h3,←h4,hT p hpg,hbd p hpg];exact hF.2 i v hv⟩;refine Dq.perm (D:=ms.map (·.i)++ip::D) (fun j=>?_) (hg.hJ h2 hperm ?_);simp only [List.mem_append,hpi.mem_iff];rw [(hcu _ (fun j hj=>hj)).2];exact hs.trans (List.sublist_append_right _ _)
  |succ m ih=>
   intro rem got t hlen hp hF hT hky ⟨b0,hb0,hvp⟩;have hpi:(rem.map (·.i)++got.map (·.1.i)).Perm (ms.map (·.i)):=by simpa [Function.comp_def] using hp.map (·.i)
   have hG:∀j∈got.map (·.1.i),j∈ms.map (·.i):=fun j hj=>hpi.subset (List.mem_append_right _ hj);obtain ⟨s,hsm,hsi⟩:=hsub got hG;have hrd:aw ops (got.map (·.1.i)++(ip::D))=(ms.map (·.i)).filter (fun i=>!(got.map (·.1.i)).contains i):=by
    have h1:=hr s hsm;rw [show key.all s.contains=true from List.all_eq_true.2 (fun i hi=>by rw [List.contains_eq_mem,decide_eq_true_eq,hsi];exact hky i hi)] at h1;simp only [cond_true,Bool.and_eq_true,Bool.or_eq_true,beq_iff_eq] at h1;rw [←hra s _ _ hsi,←hfl s _ hsi];refine h1.2.resolve_left (fun e=>?_);rcases rem with _|⟨x,rem⟩;cases hlen;have hx:x.i∈s:=by rw [e];exact hpi.subset (by simp)
    have hnn:((x::rem).map (·.i)++got.map (·.1.i)).Nodup:=hpi.nodup_iff.2 hni;rw [List.map_cons,List.cons_append,List.nodup_cons] at hnn;exact hnn.1 (List.mem_append_right _ ((hsi _).1 hx))
   rw [←Nat.add_assoc];refine Dq.A5 ms rem got hp hni hnd hl hF hT hrd (by rintro rfl;cases hlen) (fun G hG=>by rw [(hcu G hG).2];exact hs) hm (fun x b r' hxm hr' hF' hT' hp'=>?_);have hxk:x.i∉key:=fun hx=>by
    have h1:=hky _ hx;have hpi2:(r'.map (·.i)++(x.i::got.map (·.1.i))).Perm (ms.map (·.i)):=by simpa [Function.comp_def] using hp'.map (·.i)
    have:=(List.nodup_append.1 (hpi2.nodup_iff.2 hni)).2.1;exact (List.nodup_cons.1 this).1 h1
   refine ih r' ((x,b)::got) _ (by omega) hp' hF' hT' (fun i hi=>List.mem_cons_of_mem _ (hky i hi)) ⟨b0,fun p hp hpk=>?_,?_⟩;rcases List.mem_cons.1 hp with rfl|hp;exact absurd hpk hxk;exact hb0 p hp hpk;rw [←hvp];simp [Array.getD_eq_getD_getElem?,hxp x hxm]
 have aux0:∀(m:Nat) (rem:List yW) (got:List (yW×Nat)) (t:Array Value),rem.length=m→(rem++got.map (·.1)).Perm ms→iW n t l→(∀p∈got,t.getD p.1.d undef=p.1.V p.2)→
   Dq P r f R w0 S Y n k ops c hb hb2 (q+m+1) (got.map (·.1.i)++D) t (got.map (fun p=>(some p.2,p.1.O))++h):=by
  intro m
  induction m using Nat.strongRecOn with
  |_ m ih=>
   intro rem got t hlen hp hF hT;have hpi:(rem.map (·.i)++got.map (·.1.i)).Perm (ms.map (·.i)):=by simpa [Function.comp_def] using hp.map (·.i)
   have hG:∀j∈got.map (·.1.i),j∈ms.map (·.i):=fun j hj=>hpi.subset (List.mem_append_right _ hj);obtain ⟨s,hsm,hsi⟩:=hsub got hG;have h1:=hr s hsm;have hgn:=(List.nodup_append.1 (hpi.nodup_iff.2 hni)).2.1;have hin:∀x∈ms,x.i∈got.map (·.1.i)→∃p∈got,p.1=x:=fun x hx hxg=>by
    rcases List.mem_append.1 (hp.symm.subset hx) with h3|h3;exact absurd rfl ((List.nodup_append.1 (hpi.nodup_iff.2 hni)).2.2 _ (List.mem_map.2 ⟨x,h3,rfl⟩) _ hxg);simpa using h3
   cases hkb:key.all s.contains with
   |true=>
    rw [hkb] at h1;simp only [cond_true,Bool.and_eq_true,Bool.or_eq_true,beq_iff_eq] at h1;have hky:∀i∈key,i∈got.map (·.1.i):=fun i hi=>(hsi i).1 (by simpa using List.all_eq_true.1 hkb i hi);obtain ⟨b,hbd⟩:=Ca hgn;obtain ⟨d',hf⟩:=re hpu;obtain rfl:dp=d':=by
     have:=hf.dst;rw [hdst] at this;cases this;rfl
    have hFL:iW n t ((ms.filter (fun x=>key.contains x.i)).map (fun x=>(x.d,x.V (b x.i)))++l):=⟨hF.1,fun i v hv=>by
     rcases vD hv with ⟨z,h3,h4,h5⟩|hv;obtain ⟨x,hx,rfl⟩:=List.mem_map.1 h3;rw [List.mem_filter] at hx;obtain ⟨p,hpg,rfl⟩:=hin x hx.1 (hky _ (by simpa using hx.2));dsimp only at h4 h5;rw [←h4,←h5,hT p hpg,hbd p hpg];exact hF.2 i v hv⟩;have hO:jB P w0 S n [] ops ip t dp (Vp b):=by
     obtain ⟨o,ho,hw,hdst,hnd,hd,hr⟩:=ho b
     exact ⟨o,ho,hdst,by simpa [Nat.blt_eq] using hd,hnd,.inl ⟨eJ hFL hw,fun w Ds Y' hS=>by
      obtain ⟨nx,h1,rfl⟩:=hr t w Ds Y' hFL hS;exact .inl h1⟩⟩
    have hdlt:dp<n:=by simpa [Nat.blt_eq] using hdn
    refine Dq.IB h2 (by rintro rfl;simp at hpc) hf hdlt hF.1 ?_ hO ?_ ?_;rw [←hra s _ _ hsi];simpa using h1.1;rw [(hcu _ hG).1];exact hs.trans (List.sublist_append_right _ _);refine Dq.perm (D:=got.map (·.1.i)++ip::D) (fun j=>List.perm_middle.mem_iff) ?_;refine aux1 m rem got _ hlen hp ⟨by simp [hF.1],fun j v hv=>?_⟩ (fun p hpg=>?_) hky ⟨b,fun p hp _=>hbd p hp,?_⟩;have hne:dp≠j:=fun e=>by rw [e,hv] at hdp;cases hdp
    have:=hF.2 j v hv;rw [←this];simp [Array.getD_eq_getD_getElem?,hne];rw [←hT p hpg];simp [Array.getD_eq_getD_getElem?,(hxp p.1 (hp.subset (List.mem_append_right _ (List.mem_map.2 ⟨p,hpg,rfl⟩)))).symm];have:dp<t.size:=by rw [hF.1];exact hdlt
    simp [Array.getD_eq_getD_getElem?,this]
   |false=>
    rw [hkb] at h1;simp only [cond_false,beq_iff_eq] at h1;have hrd:aw ops (got.map (·.1.i)++D)=(ms.map (·.i)).filter (fun i=>!(got.map (·.1.i)).contains i):=by
     rw [←hra s _ _ hsi,←hfl s _ hsi];exact h1
    have hne:rem≠[]:=fun e=>by
     subst e;have:key.all s.contains=true:=List.all_eq_true.2 (fun i hi=>by
      rw [List.contains_eq_mem,decide_eq_true_eq,hsi];exact hpi.symm.subset (by simpa using hkey i hi));rw [this] at hkb;cases hkb
    obtain ⟨m',rfl⟩:∃m',m=m'+1:=⟨m - 1,by
     rcases rem with _|⟨x,rem⟩;exact absurd rfl hne;simp only [List.length_cons] at hlen;omega⟩;refine Dq.A5 (q:=q+m'+1) ms rem got hp hni hnd hl hF hT hrd hne (fun G hG=>by rw [(hcu G hG).1];exact hs) hm (fun x b r' hxm hr' hF' hT' hp'=>?_);exact ih m' (by omega) r' ((x,b)::got) _ (by omega) hp' hF' hT'
 intro t hF;simpa using aux0 ms.length ms [] t rfl (by simp) hF (fun p hp=>by cases hp)
theorem cR.zX {α:Type} (enc:α→Value) (z:α) {i d:Nat} {ty:TypeId} {pos:String} {aft:Array Edge} {g:Option (Nat×Bool)} {K:Value→Hl→Prop} {t e:TypeId} {x y:Operand} {kx ky:IntKind} {m:Nat} {inf:TypeInfo} (ho:ops[i]?=some ⟨some d,.makeSlice t x y,ty,pos,aft,g⟩) (hw:aq ops l g=true) (hx:aM l x=some (.int kx m)) (hy:aM l y=some (.int ky m)) (hd:Nat.blt d n=true)
  (hu:P.underlying t=some (.slice e)) (hi:P.info? e=some inf) (hz:inf.zero=some (enc z)) (hz1:(enc z).cells=#[enc z]) (hs:inf.size=1) (hb:inf.bytes*m≤281474976710656) (hm:m≤maxLen)
  (hk:∀b,K (.slice (some ⟨b,0,none⟩) m m) ((some b,ob enc e (List.replicate m z) [])::h)):cR P w0 S n h ops i l d K:=
 ⟨_,ho,rfl,rfl,rfl,hd,.inl ⟨hw,fun t' w Ds Y' hF hS=>.inl (by
  obtain ⟨w',hrun,⟨_,hown⟩,hg⟩:=run_make_full (P:=P) w w.heap.size t e inf (enc z) 1 hu hi hz hs kx ky m hb hm (Nat.le_refl _);rw [vC (enc z) hz1] at hown;rcases hown with ⟨h1,_⟩|⟨b,cap,cur,hv,hbg,hheap,hnc,_,hcs,htk⟩;simp at h1;simp only [Value.slice.injEq,Option.some.injEq,Addr.mk.injEq,and_true,true_and] at hv;obtain ⟨rfl,rfl⟩:=hv;have hcur:cur=((List.replicate m z).map enc++[]).toArray:=by
   rw [←Array.toList_inj,List.append_nil,List.map_replicate];rw [←htk,List.take_of_length_le (by simp [hcs])]
  rw [hcur] at hheap;refine ⟨_,w',_,?_,hS.Br (vZ hg) hheap rfl hbg,hk _⟩;simp only [execOp,hF.aM hx,hF.aM hy,Sem.run_bind,hrun,Result.andThen_ok,Sem.run_pure])⟩⟩
def xz (P:Program) (w0:World) (S:List Nat) (n:Nat) (ops:Array Oper) (l:Fl) (x:yW):Prop:=∀t h,iW n t l→eH P w0 S n ops x.i t h (fun t' h'=>∃b,t'=t.setIfInBounds x.d (x.V b)∧h'=(some b,x.O)::h)
theorem xz.mk {x:yW} (hm:∀h,cR P w0 S n h ops x.i l x.d (fun v h'=>∃b,v=x.V b∧h'=(some b,x.O)::h)):xz P w0 S n ops l x:=fun _ h hF=>
 eH.of (hm h) hF (fun _ _ ⟨b,e1,e2⟩=>⟨b,by rw [e1],e2⟩)
end
end Go.Proofs.Wit
