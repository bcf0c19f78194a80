/- Laws of walks, for any program, under the conditions that each theorem states. -/
import Derived.Test.YtaamcaiglooemaaGreatDoorXF20
set_option maxRecDepth 100000
set_option maxHeartbeats 4000000
namespace Go.Proofs.Wit
open Go Go.RowKit
structure Tk (c:List NV) (r:Nat) (s:List Bool) (o st:List Nat):Prop where
  len:s.length=c.length
  nd:o.Nodup
  mem:∀j,j∈o↔sB s j=true
  lt:∀j∈st,j<c.length
  sub:∀j,j∈o∨j∈st→∀u∈jl (aa c j),u∈jl (aa c r)
  root:r∈o∨r∈st
  cl:∀j∈o,∀hj:j<c.length,iu c[j].op=false→(cS c[j].op=true→c[j].x.toNat∈o∨c[j].x.toNat∈st)∧(cF c[j].op=true→c[j].y.toNat∈o∨c[j].y.toNat∈st)
section
variable {c:List NV} {r i:Nat} {s:List Bool} {o st st':List Nat}
theorem Tk.init (hr:r<c.length):Tk c r (List.replicate c.length false) [] [r]:=
 ⟨by simp,List.nodup_nil,fun j=>⟨fun h=>(by cases h),fun h=>(by
  unfold sB at h;rw [List.getD_eq_getElem?_getD,List.getElem?_replicate] at h;split at h<;>cases h)⟩,fun j hj=>(by rw [List.mem_singleton.1 hj];exact hr),fun j hj u hu=>(by
  rcases hj with h|h;cases h;rw [List.mem_singleton.1 h] at hu;exact hu),.inr (List.mem_singleton.2 rfl),fun j hj=>by cases hj⟩
theorem Tk.E5 (h:Tk c r s o st) {j:Nat} (hj:j∈o):j<c.length:=by
 have h1:=(h.mem j).1 hj;rw [←h.len];rcases Nat.lt_or_ge j s.length with h2|h2;exact h2;unfold sB at h1;rw [List.getD_eq_getElem?_getD,List.getElem?_eq_none h2] at h1;cases h1
theorem Tk.K0 (h:Tk c r s o st):o.length≤c.length:=by
 have:=h.nd.length_le_of_subset (fun j hj=>List.mem_range.2 (h.E5 hj):o⊆List.range c.length);simpa using this
theorem Tk.skip (h:Tk c r s o (st++[i])) (hs:sB s i=true):Tk c r s o st:=by
 have hi:=(h.mem i).2 hs;have k:∀j,(j∈o∨j∈st++[i])→j∈o∨j∈st:=fun j hj=>by
  rcases hj with hj|hj;exact .inl hj;rcases List.mem_append.1 hj with hj|hj;exact .inr hj;rw [List.mem_singleton.1 hj];exact .inl hi
 refine ⟨h.len,h.nd,h.mem,fun j hj=>h.lt j (List.mem_append_left _ hj),fun j hj=>h.sub j ?_,k r h.root,fun j hj hjl hlf=>⟨fun hx=>k _ ((h.cl j hj hjl hlf).1 hx),fun hy=>k _ ((h.cl j hj hjl hlf).2 hy)⟩⟩;rcases hj with hj|hj;exact .inl hj;exact .inr (List.mem_append_left _ hj)
theorem Tk.wT (h:Tk c r s o (st++[i])):i<c.length:=h.lt i (List.mem_append_right _ (List.mem_singleton.2 rfl))
theorem Tk.Kd (h:Tk c r s o (st++[i])) (hs:sB s i=false):o.length<c.length:=by
 have hi:=h.wT;have hn:(i::o).Nodup:=List.nodup_cons.2 ⟨fun hm=>(by rw [(h.mem i).1 hm] at hs;cases hs),h.nd⟩;have:=hn.length_le_of_subset (fun j hj=>List.mem_range.2 (by
  rcases List.mem_cons.1 hj with e|hj;rw [e];exact hi;exact h.E5 hj):i::o⊆List.range c.length);rw [List.length_cons,List.length_range] at this;exact this
theorem Tk.go (h:Tk c r s o (st++[i])) (hs:sB s i=false) (h1:∀j∈st,j∈st') (h2:∀j∈st',j∈st∨(j<c.length∧∀u∈jl (aa c j),u∈jl (aa c i)))
  (h3:∀hi:i<c.length,iu c[i].op=false→(cS c[i].op=true→c[i].x.toNat∈st')∧(cF c[i].op=true→c[i].y.toNat∈st')):Tk c r (s.set i true) (o++[i]) st':=by
 have hi:=h.wT;have his:i<s.length:=by rw [h.len];exact hi
 have hio:i∉o:=fun hm=>by rw [(h.mem i).1 hm] at hs;cases hs
 have hsub:∀u∈jl (aa c i),u∈jl (aa c r):=h.sub i (.inr (List.mem_append_right _ (List.mem_singleton.2 rfl)));have k:∀j,(j∈o∨j∈st++[i])→j∈o++[i]∨j∈st':=fun j hj=>by
  rcases hj with hj|hj;exact .inl (List.mem_append_left _ hj);rcases List.mem_append.1 hj with hj|hj;exact .inr (h1 j hj);exact .inl (List.mem_append_right _ hj)
 refine ⟨by rw [List.length_set];exact h.len,?_,fun j=>?_,fun j hj=>?_,fun j hj=>?_,k r h.root,fun j hj hjl hlf=>?_⟩;refine List.nodup_append.2 ⟨h.nd,by simp,fun a ha b hb e=>?_⟩;rw [List.mem_singleton.1 hb] at e;exact hio (e ▸ ha);rw [List.mem_append,List.mem_singleton,qV his,h.mem j];by_cases e:j=i;rw [if_pos e];simp [e];rw [if_neg e];simp [e];rcases h2 j hj with h'|⟨h',_⟩;exact h.lt j (List.mem_append_left _ h');exact h';rcases hj with hj|hj;rcases List.mem_append.1 hj with hj|hj;exact h.sub j (.inl hj);rw [List.mem_singleton.1 hj];exact hsub;rcases h2 j hj with h'|⟨_,h'⟩;exact h.sub j (.inr (List.mem_append_left _ h'));exact fun u hu=>hsub u (h' u hu);rcases List.mem_append.1 hj with hj|hj;exact ⟨fun hx=>k _ ((h.cl j hj hjl hlf).1 hx),fun hy=>k _ ((h.cl j hj hjl hlf).2 hy)⟩;obtain rfl:=List.mem_singleton.1 hj;exact ⟨fun hx=>.inr ((h3 hjl hlf).1 hx),fun hy=>.inr ((h3 hjl hlf).2 hy)⟩
def wZ (c:List NV) (o:List Nat):List Nat:=o.filter (fun j=>iu (c.getD j (⟨0,0,0,0,0,0⟩:NV)).op)
theorem um {j:Nat} (hj:j<c.length):(c.getD j (⟨0,0,0,0,0,0⟩:NV))=c[j]:=by simp [List.getD_eq_getElem?_getD,hj]
theorem Tk.done (h:Tk c r s o []) (hO:aK c):∀u,u∈(wZ c o).map (aa c)↔u∈jl (aa c r):=by
 have key:∀j,j∈o→∀u∈jl (aa c j),u∈(wZ c o).map (aa c):=by
  intro j
  induction j using Nat.strongRecOn with
  |_ j ih=>
   intro hj u hu;have hjl:=h.E5 hj;have ht:fE (aa c j)=c[j].op:=jE hjl hO;cases hl:iu c[j].op with
   |true=>
    rw [oR (by rw [ht];exact hl),List.mem_singleton] at hu;rw [hu];exact List.mem_map_of_mem (List.mem_filter.2 ⟨hj,by rw [um hjl];exact hl⟩)
   |false=>
    have kx:cS c[j].op=true→c[j].x.toNat∈o:=fun hx=>by
     rcases (h.cl j hj hjl hl).1 hx with h'|h';exact h';cases h'
    have ky:cF c[j].op=true→c[j].y.toNat∈o:=fun hx=>by
     rcases (h.cl j hj hjl hl).2 hx with h'|h';exact h';cases h'
    have hord:=hO.ord j hjl;rcases cd hjl hO with ⟨h1,h2⟩|⟨h1,h1',h2⟩|⟨h1,h2⟩;rw [h2] at hu;unfold jl at hu;rw [hl] at hu;cases hu;rw [h2] at hu;unfold jl at hu;rw [hl] at hu;have hx:=hord.1 h1;exact ih _ (by omega) (kx h1) u hu;rw [h2] at hu;unfold jl at hu;rw [hl] at hu;have hx:=hord.1 (dI h1);have hy:=hord.2 h1;rcases List.mem_append.1 hu with hu|hu;exact ih _ (by omega) (kx (dI h1)) u hu;exact ih _ (by omega) (ky h1) u hu
 have hr:r∈o:=by
  rcases h.root with h'|h';exact h';cases h'
 refine fun u=>⟨fun hu=>?_,key r hr u⟩;obtain ⟨j,hj,rfl⟩:=List.mem_map.1 hu;obtain ⟨hj,hl⟩:=List.mem_filter.1 hj;have hjl:=h.E5 hj;rw [um hjl] at hl;have ht:fE (aa c j)=c[j].op:=jE hjl hO;exact h.sub j (.inl hj) _ (by rw [oR (by rw [ht];exact hl)];exact List.mem_singleton.2 rfl)
theorem wY (h:Tk c r s o []):∀j∈wZ c o,j<c.length:=fun _ hj=>h.E5 (List.mem_filter.1 hj).1
theorem wX (h:Tk c r s o []):(wZ c o).Nodup:=h.nd.filter _
theorem Bc {j:Nat} (hj:j<c.length):wZ c (o++[j])=if iu c[j].op=true then wZ c o++[j] else wZ c o:=by
 unfold wZ;rw [List.filter_append];by_cases hl:iu c[j].op=true;rw [if_pos hl,List.filter_cons_of_pos (by rw [um hj];exact hl)];rfl;rw [if_neg hl,List.filter_cons_of_neg (by rw [um hj];exact hl)];simp
def wi (L:List Tr) (u:Tr) (k:Nat):Int:=if L.idxOf u<k then (L.idxOf u:Int) else -1
def Dv (L:List Tr) (v:Nat) (u:Tr):Bool:=if u∈L then v.testBit (L.idxOf u) else false
theorem EL {L:List Tr} {u:Tr} {k:Nat} (hn:L.Nodup) (hk:k<L.length) (h:L[k]=u):wi L u (k+1)=(k:Int):=by
 have:L.idxOf u=k:=by rw [←h];exact hn.idxOf_getElem k hk
 rw [wi,this,if_pos (Nat.lt_succ_self _)]
theorem HD {L:List Tr} {u:Tr} {k:Nat} (hk:k<L.length) (h:L[k]≠u):wi L u (k+1)=wi L u k:=by
 have hne:L.idxOf u≠k:=fun e=>by
  have hlt:L.idxOf u<L.length:=by omega
  have h2:=List.getElem_idxOf hlt;apply h;rw [←h2]
  congr 1
  exact e.symm
 unfold wi;by_cases h1:L.idxOf u<k;rw [if_pos h1,if_pos (by omega)];rw [if_neg h1,if_neg (by omega)]
theorem Ck {L:List Tr} {u:Tr} (h:u∈L):wi L u L.length=(L.idxOf u:Int):=if_pos (List.idxOf_lt_length_of_mem h)
theorem EM {L:List Tr} {u:Tr} (h:u∉L):wi L u L.length=-1:=if_neg (fun hl=>h (List.idxOf_lt_length_iff.1 hl))
theorem Cl {L:List Tr} {u:Tr}:0≤wi L u L.length↔u∈L:=by
 by_cases h:u∈L;rw [Ck h];simp [h];rw [EM h];simp [h]
theorem xS {L:List Tr} {v:Nat} {u:Tr} (h:u∈L):Dv L v u=v.testBit (L.idxOf u):=if_pos h
theorem xR {L:List Tr} {v:Nat} {u:Tr} (h:u∉L):Dv L v u=false:=if_neg h
theorem ox {α:Type} {g:Nat→α} {k j:Nat} {d:α} (h:j<k):((List.range k).map g).getD j d=g j:=by simp [List.getD_eq_getElem?_getD,h]
theorem tc {α:Type} {g:Nat→α} {k:Nat}:(List.range (k+1)).map g=(List.range k).map g++[g k]:=by rw [List.range_succ,List.map_append];rfl
theorem vA {α:Type} {g:Nat→α} {k:Nat}:((List.range k).map g).length=k:=by simp
theorem vE {op:Int} (h:1≤op∧op≤21):iu op=false↔(1≤op∧op≤8)∧op≠3:=by
 unfold iu;simp only [Bool.or_eq_false_iff,decide_eq_false_iff_not,beq_eq_false_iff_ne];omega
theorem uP:∀{t u:Tr},u∈jl t→iu (fE u)=true
 |.leaf op i e g,u,h=>by
  unfold jl at h;split at h;rename_i hl;rw [List.mem_singleton.1 h];exact hl;cases h
 |.un op i e g a,u,h=>by
  unfold jl at h;split at h;rename_i hl;rw [List.mem_singleton.1 h];exact hl;exact uP h
 |.bin op i e g a b,u,h=>by
  unfold jl at h;split at h;rename_i hl;rw [List.mem_singleton.1 h];exact hl;rcases List.mem_append.1 h with h|h;exact uP h;exact uP h
end
end Go.Proofs.Wit
