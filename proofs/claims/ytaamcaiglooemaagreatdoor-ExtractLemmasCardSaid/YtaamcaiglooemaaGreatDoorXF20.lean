/- Laws of walks, for any program, under the conditions that each theorem states. -/
import Derived.Test.YtaamcaiglooemaaGreatDoorXF16
set_option maxRecDepth 100000
set_option maxHeartbeats 4000000
namespace Go.Proofs.Wit
open Go Go.RowKit
def iu (op:Int):Bool:=op==3||decide (8<op)
def uL (op:Int) (x y:Bool):Bool:=if op=1 then true else if op=4 then !x else if op=5 then x && y else if op=6 then x||y else if op=7 then !x||y else if op=8 then x==y else false
def cC (r:Tr→Bool):Tr→Bool
 |.leaf op i e g=>if iu op=true then r (.leaf op i e g) else uL op false false
 |.un op i e g a=>if iu op=true then r (.un op i e g a) else uL op (cC r a) false
 |.bin op i e g a b=>if iu op=true then r (.bin op i e g a b) else uL op (cC r a) (cC r b)
def jl:Tr→List Tr
 |.leaf op i e g=>if iu op=true then [.leaf op i e g] else []
 |.un op i e g a=>if iu op=true then [.un op i e g a] else jl a
 |.bin op i e g a b=>if iu op=true then [.bin op i e g a b] else jl a++jl b
theorem oI {r r':Tr→Bool}:∀{t:Tr},(∀u∈jl t,r u=r' u)→cC r t=cC r' t
 |.leaf op i e g,h=>by
  unfold cC jl at*;split;rename_i hl;rw [if_pos hl] at h;exact h _ (List.mem_cons_self ..);rfl
 |.un op i e g a,h=>by
  unfold jl at h;unfold cC;split;rename_i hl;rw [if_pos hl] at h;exact h _ (List.mem_cons_self ..);rename_i hl;rw [if_neg hl] at h;rw [oI h]
 |.bin op i e g a b,h=>by
  unfold jl at h;unfold cC;split;rename_i hl;rw [if_pos hl] at h;exact h _ (List.mem_cons_self ..);rename_i hl;rw [if_neg hl] at h;rw [oI (t:=a) (fun u hu=>h u (List.mem_append_left _ hu)),oI (t:=b) (fun u hu=>h u (List.mem_append_right _ hu))]
def bC (t:Tr):Prop:=(∃l:List Tr,l.Nodup∧(∀u,u∈l↔u∈jl t)∧l.length≤10)∧∀r:Tr→Bool,cC r t=true
theorem xH {t:Tr} {l:List Tr} (hn:l.Nodup) (hm:∀u,u∈l↔u∈jl t):bC t↔l.length≤10∧∀r:Tr→Bool,cC r t=true:=by
 constructor;rintro ⟨⟨l',hn',hm',hl'⟩,h⟩;have:=hn.length_le_of_subset (fun u hu=>(hm' u).2 ((hm u).1 hu):l⊆l');exact ⟨by omega,h⟩;rintro ⟨h1,h2⟩;exact ⟨⟨l,hn,hm,h1⟩,h2⟩
theorem yO (b:Nat→Bool):∀n:Nat,∃v,v<2^n∧∀k,k<n→v.testBit k=b k
 |0=>⟨0,by decide,fun k hk=>absurd hk (Nat.not_lt_zero _)⟩
 |n+1=>by
  obtain ⟨v,hv,h⟩:=yO b n;cases hb:b n with
  |false=>
   refine ⟨v,by rw [Nat.pow_succ];omega,fun k hk=>?_⟩;by_cases e:k=n;subst e;rw [hb];exact Nat.testBit_lt_two_pow hv;exact h k (by omega)
  |true=>
   refine ⟨2^n+v,by rw [Nat.pow_succ];omega,fun k hk=>?_⟩;by_cases e:k=n;subst e;rw [hb,Nat.testBit_two_pow_add_eq,Nat.testBit_lt_two_pow hv];rfl;rw [Nat.testBit_two_pow_add_gt (by omega)];exact h k (by omega)
theorem u6 {t:Tr} {l:List Tr} (hm:∀u,u∈l↔u∈jl t) {R:Nat→Tr→Bool} (hR:∀v u,u∈l→R v u=v.testBit (l.idxOf u)):(∀r:Tr→Bool,cC r t=true)↔∀v,v<2^l.length→cC (R v) t=true:=by
 constructor;exact fun h v _=>h _;intro h r;obtain ⟨v,hv,hb⟩:=yO (fun k=>r (l.getD k (.leaf 0 0 0 0))) l.length;rw [←h v hv];refine oI (fun u hu=>?_);have hul:=(hm u).2 hu;have hlt:=List.idxOf_lt_length_of_mem hul;rw [hR v u hul,hb _ hlt];simp [List.getD_eq_getElem?_getD,hlt,List.getElem_idxOf]
abbrev sB (s:List Bool) (j:Nat):Bool:=s.getD j false
structure Lv (c:List NV) (i:Nat) (s:List Bool) (o:List Int) (s':List Bool) (o':List Int):Prop where
  len:s'.length=s.length
  mono:∀j,sB s j=true→sB s' j=true
  self:sB s' i=true
  new:∀(j:Nat),sB s' j=true→sB s j=false→∃hj:j<c.length,(iu c[j].op=true→aa c j∈jl (aa c i))∧(iu c[j].op=false→(cS c[j].op=true→sB s' c[j].x.toNat=true)∧(cF c[j].op=true→sB s' c[j].y.toNat=true))
  out:∃l:List Nat,o'=o++l.map (fun j:Nat=>(j:Int))∧l.Nodup∧∀j,j∈l↔(sB s' j=true∧sB s j=false∧∃hj:j<c.length,iu c[j].op=true)
theorem qV {s:List Bool} {i j:Nat} (hi:i<s.length):sB (s.set i true) j=if j=i then true else sB s j:=by
 unfold sB;by_cases e:j=i;subst e;simp [List.getD_eq_getElem?_getD,hi];rw [if_neg e];simp [List.getD_eq_getElem?_getD,Ne.symm e]
theorem qt {s:List Bool} {i j:Nat} (hi:i<s.length) (h:sB s j=true):sB (s.set i true) j=true:=by
 rw [qV hi];split;rfl;exact h
section
variable {c:List NV} {i:Nat} {s s1 s2 s3:List Bool} {o o2 o3:List Int}
theorem Lv.seen (h:sB s i=true):Lv c i s o s o:=
 ⟨rfl,fun _ h=>h,h,fun j h1 h2=>(by rw [h1] at h2;cases h2),[],by simp,List.nodup_nil,fun j=>⟨fun h=>(by cases h),fun ⟨h1,h2,_⟩=>by rw [h1] at h2;cases h2⟩⟩
theorem oR {t:Tr} (h:iu (fE t)=true):jl t=[t]:=by
 cases t<;>exact if_pos h
theorem Lv.leaf (hi:i<c.length) (hO:aK c) (hs:s.length=c.length) (h0:sB s i=false) (hl:iu c[i].op=true):Lv c i s o (s.set i true) (o++[(i:Int)]):=by
 have mT:∀j,sB (s.set i true) j=if j=i then true else sB s j:=fun j=>qV (by omega);have ht:fE (aa c i)=c[i].op:=jE hi hO;refine ⟨by simp,fun j h=>qt (by omega) h,by rw [mT];simp,fun j h1 h2=>?_,[i],by simp,by simp,fun j=>?_⟩;rw [mT] at h1;by_cases e:j=i;subst e;exact ⟨hi,fun _=>by rw [oR (by rw [ht];exact hl)];exact List.mem_cons_self ..,fun h=>(by rw [hl] at h;cases h)⟩;rw [if_neg e,h2] at h1;cases h1;rw [mT,List.mem_singleton];constructor;rintro rfl;exact ⟨by simp,h0,hi,hl⟩;rintro ⟨h1,h2,_⟩;by_cases e:j=i;exact e;rw [if_neg e,h2] at h1;cases h1
theorem Lv.node (hi:i<c.length) (hs:s.length=c.length) (h0:sB s i=false) (hl:iu c[i].op=false)
  (hA:(cS c[i].op=true∧Lv c c[i].x.toNat (s.set i true) o s2 o2∧∀u∈jl (aa c c[i].x.toNat),u∈jl (aa c i))∨(cS c[i].op=false∧s2=s.set i true∧o2=o))
  (hB:(cF c[i].op=true∧Lv c c[i].y.toNat s2 o2 s3 o3∧∀u∈jl (aa c c[i].y.toNat),u∈jl (aa c i))∨(cF c[i].op=false∧s3=s2∧o3=o2)):Lv c i s o s3 o3:=by
 have mT:∀j,sB (s.set i true) j=if j=i then true else sB s j:=fun j=>qV (by omega);have l2:s2.length=s.length:=by
  rcases hA with ⟨_,h,_⟩|⟨_,h,_⟩;rw [h.len];simp;rw [h];simp
 have m2:∀j,sB (s.set i true) j=true→sB s2 j=true:=fun j h=>by
  rcases hA with ⟨_,h',_⟩|⟨_,h',_⟩;exact h'.mono j h;rw [h'];exact h
 have l3:s3.length=s.length:=by
  rcases hB with ⟨_,h,_⟩|⟨_,h,_⟩;rw [h.len,l2];rw [h,l2]
 have m3:∀j,sB s2 j=true→sB s3 j=true:=fun j h=>by
  rcases hB with ⟨_,h',_⟩|⟨_,h',_⟩;exact h'.mono j h;rw [h'];exact h
 have i1:sB (s.set i true) i=true:=by rw [mT];simp
 have hx:cS c[i].op=true→sB s2 c[i].x.toNat=true:=fun h=>by
  rcases hA with ⟨_,h',_⟩|⟨h',_⟩;exact h'.self;rw [h] at h';cases h'
 have hy:cF c[i].op=true→sB s3 c[i].y.toNat=true:=fun h=>by
  rcases hB with ⟨_,h',_⟩|⟨h',_⟩;exact h'.self;rw [h] at h';cases h'
 have n2:∀j,sB s2 j=true→sB (s.set i true) j=false→∃hj:j<c.length,(iu c[j].op=true→aa c j∈jl (aa c i))∧(iu c[j].op=false→(cS c[j].op=true→sB s2 c[j].x.toNat=true)∧(cF c[j].op=true→sB s2 c[j].y.toNat=true)):=fun j h1 h2=>by
  rcases hA with ⟨_,h',hsub⟩|⟨_,h',_⟩;obtain ⟨hj,k1,k2⟩:=h'.new j h1 h2;exact ⟨hj,fun h=>hsub _ (k1 h),k2⟩;rw [h',h2] at h1;cases h1
 have n3:∀j,sB s3 j=true→sB s2 j=false→∃hj:j<c.length,(iu c[j].op=true→aa c j∈jl (aa c i))∧(iu c[j].op=false→(cS c[j].op=true→sB s3 c[j].x.toNat=true)∧(cF c[j].op=true→sB s3 c[j].y.toNat=true)):=fun j h1 h2=>by
  rcases hB with ⟨_,h',hsub⟩|⟨_,h',_⟩;obtain ⟨hj,k1,k2⟩:=h'.new j h1 h2;exact ⟨hj,fun h=>hsub _ (k1 h),k2⟩;rw [h',h2] at h1;cases h1
 obtain ⟨la,ea,na,ma⟩:∃l:List Nat,o2=o++l.map (fun j:Nat=>(j:Int))∧l.Nodup∧∀j,j∈l↔(sB s2 j=true∧sB (s.set i true) j=false∧∃hj:j<c.length,iu c[j].op=true):=by
  rcases hA with ⟨_,h',_⟩|⟨_,h',e⟩;exact h'.out;exact ⟨[],by simp [e],List.nodup_nil,fun j=>⟨fun h=>(by cases h),fun ⟨k1,k2,_⟩=>by rw [h',k2] at k1;cases k1⟩⟩
 obtain ⟨lb,eb,nb,mb⟩:∃l:List Nat,o3=o2++l.map (fun j:Nat=>(j:Int))∧l.Nodup∧∀j,j∈l↔(sB s3 j=true∧sB s2 j=false∧∃hj:j<c.length,iu c[j].op=true):=by
  rcases hB with ⟨_,h',_⟩|⟨_,h',e⟩;exact h'.out;exact ⟨[],by simp [e],List.nodup_nil,fun j=>⟨fun h=>(by cases h),fun ⟨k1,k2,_⟩=>by rw [h',k2] at k1;cases k1⟩⟩
 refine ⟨l3,fun j h=>m3 j (m2 j (qt (by omega) h)),m3 i (m2 i i1),fun j h1 h2=>?_,la++lb,by rw [eb,ea,List.map_append,List.append_assoc],List.nodup_append.2 ⟨na,nb,fun a h1 b h2 e=>?_⟩,fun j=>?_⟩;by_cases e:j=i;subst e;exact ⟨hi,fun h=>(by rw [hl] at h;cases h),fun _=>⟨fun h=>m3 _ (hx h),hy⟩⟩;cases h3:sB s2 j with
 |false=>exact n3 j h1 h3
 |true=>
  obtain ⟨hj,k1,k2⟩:=n2 j h3 (by rw [mT,if_neg e];exact h2);exact ⟨hj,k1,fun h=>⟨fun h'=>m3 _ ((k2 h).1 h'),fun h'=>m3 _ ((k2 h).2 h')⟩⟩
 subst e;have k1:=((ma a).1 h1).1;have k2:=((mb a).1 h2).2.1;rw [k1] at k2;cases k2;rw [List.mem_append,ma,mb];constructor;rintro (⟨k1,k2,k3⟩|⟨k1,k2,k3⟩);refine ⟨m3 j k1,?_,k3⟩;rw [mT] at k2;split at k2;cases k2;exact k2;refine ⟨k1,?_,k3⟩;cases h:sB s j with
 |false=>rfl
 |true=>
  have:=m2 j (qt (by omega) h);rw [this] at k2;cases k2
 rintro ⟨k1,k2,k3⟩;have hji:j≠i:=fun e=>by
  subst e;obtain ⟨_,h⟩:=k3;rw [hl] at h;cases h
 cases h3:sB s2 j with
 |true=>exact .inl ⟨rfl,by rw [mT,if_neg hji];exact k2,k3⟩
 |false=>exact .inr ⟨k1,rfl,k3⟩
theorem Lv.done (hO:aK c) (_hi:i<c.length) (h:Lv c i (List.replicate c.length false) [] s3 o3):∃l:List Nat,o3=l.map (fun j:Nat=>(j:Int))∧l.Nodup∧(∀j∈l,j<c.length)∧∀u,u∈l.map (aa c)↔u∈jl (aa c i):=by
 obtain ⟨l,e,hn,hm⟩:=h.out;have h0:∀j,sB (List.replicate c.length false) j=false:=fun j=>by
  unfold sB;rw [List.getD_eq_getElem?_getD,List.getElem?_replicate];split<;>rfl
 have key:∀j,sB s3 j=true→∀u∈jl (aa c j),u∈l.map (aa c):=by
  intro j
  induction j using Nat.strongRecOn with
  |_ j ih=>
   intro hj u hu;obtain ⟨hjl,k1,k2⟩:=h.new j hj (h0 j);have ht:fE (aa c j)=c[j].op:=jE hjl hO;cases hl:iu c[j].op with
   |true=>
    rw [oR (by rw [ht];exact hl),List.mem_singleton] at hu;rw [hu];exact List.mem_map_of_mem ((hm j).2 ⟨hj,h0 j,hjl,hl⟩)
   |false=>
    obtain ⟨kx,ky⟩:=k2 hl;have hord:=hO.ord j hjl;rcases cd hjl hO with ⟨h1,h2⟩|⟨h1,h1',h2⟩|⟨h1,h2⟩;rw [h2] at hu;unfold jl at hu;rw [hl] at hu;cases hu;rw [h2] at hu;unfold jl at hu;rw [hl] at hu;have hx:=hord.1 h1;exact ih _ (by omega) (kx h1) u hu;rw [h2] at hu;unfold jl at hu;rw [hl] at hu;have hx:=hord.1 (dI h1);have hy:=hord.2 h1;rcases List.mem_append.1 hu with hu|hu;exact ih _ (by omega) (kx (dI h1)) u hu;exact ih _ (by omega) (ky h1) u hu
 refine ⟨l,by rw [e];rfl,hn,fun j hj=>by obtain ⟨_,_,hj',_⟩:=(hm j).1 hj;exact hj',fun u=>⟨fun hu=>?_,key i h.self u⟩⟩;obtain ⟨j,hj,rfl⟩:=List.mem_map.1 hu;obtain ⟨k1,k2,hj',k3⟩:=(hm j).1 hj;obtain ⟨_,k4,_⟩:=h.new j k1 k2;exact k4 k3
end
theorem oH {c:List NV} {k:Nat} {r:Tr→Bool} (hk:k<c.length) (hO:aK c) (hl:iu c[k].op=true):cC r (aa c k)=r (aa c k):=by
 have ht:fE (aa c k)=c[k].op:=jE hk hO;rw [←ht] at hl;generalize aa c k=t at hl;cases t<;>exact if_pos hl
theorem yD {c:List NV} {k:Nat} {r:Tr→Bool} {bx bY:Bool} (hk:k<c.length) (hO:aK c) (hl:iu c[k].op=false) (hx:cS c[k].op=true→bx=cC r (aa c c[k].x.toNat)) (hy:cF c[k].op=true→bY=cC r (aa c c[k].y.toNat)):
  uL c[k].op bx bY=cC r (aa c k):=by
 have hop:=(hO k hk).op;have hc:(1≤c[k].op∧c[k].op≤8)∧c[k].op≠3:=by
  unfold iu at hl;simp only [Bool.or_eq_false_iff,decide_eq_false_iff_not,beq_eq_false_iff_ne] at hl;omega
 rcases cd hk hO with ⟨h1,h2⟩|⟨h1,h1',h2⟩|⟨h1,h2⟩;rw [h2];unfold cC;rw [if_neg (by rw [hl];simp)];rw [qN hop,decide_eq_false_iff_not] at h1;have:c[k].op=1∨c[k].op=2:=by omega
 rcases this with h|h<;>rw [h]<;>rfl
 ·rw [h2]
  unfold cC;rw [if_neg (by rw [hl];simp),hx h1];have:c[k].op=4:=by
   rcases (by omega:c[k].op=1∨c[k].op=2∨c[k].op=4∨c[k].op=5∨c[k].op=6∨c[k].op=7∨c[k].op=8) with h|h|h|h|h|h|h;rw [h] at h1;cases h1;rw [h] at h1;cases h1;exact h
   all_goals rw [h] at h1';cases h1'
  rw [this];rfl
 rw [h2]
 conv=>rhs;unfold cC
 rw [if_neg (by rw [hl];simp),hx (dI h1),hy h1]
theorem yp {c:List NV} {k:Nat} (hk:k<c.length) (hO:aK c) (hl:iu c[k].op=false):(cS c[k].op=true→∀u∈jl (aa c c[k].x.toNat),u∈jl (aa c k))∧(cF c[k].op=true→∀u∈jl (aa c c[k].y.toNat),u∈jl (aa c k)):=by
 rcases cd hk hO with ⟨h1,h2⟩|⟨h1,h1',h2⟩|⟨h1,h2⟩;exact ⟨fun h=>(by rw [h1] at h;cases h),fun h=>(by have:=dI h;rw [h1] at this;cases this)⟩;refine ⟨fun _ u hu=>?_,fun h=>(by rw [h1'] at h;cases h)⟩;rw [h2];unfold jl;rw [if_neg (by rw [hl];simp)];exact hu;refine ⟨fun _ u hu=>?_,fun _ u hu=>?_⟩<;>rw [h2]<;>unfold jl<;>rw [if_neg (by rw [hl];simp)]
 exact List.mem_append_left _ hu;exact List.mem_append_right _ hu
def rT (c:List NV) (b:Nat→Bool) (u:Tr):Bool:=b ((trees c).idxOf u)
theorem AG {c:List NV} (hC:fL c) {b:Nat→Bool} {k:Nat} (hk:k<c.length):rT c b (aa c k)=b k:=by
 have hn:(trees c).Nodup:=by rw [hC.trees];exact (iP _).nd
 unfold rT;have hk':k<(trees c).length:=by rw [dc];exact hk
 rw [gH hk,hn.idxOf_getElem k hk']
def oV (c:List NV) (s:List Bool) (o:List Int):Prop:=∃l:List Nat,o=l.map (fun j:Nat=>(j:Int))∧l.Nodup∧∀j∈l,sB s j=true∧j<c.length
theorem oV.nil {c:List NV} {s:List Bool}:oV c s []:=⟨[],rfl,List.nodup_nil,fun _ h=>by cases h⟩
theorem oV.le {c:List NV} {s:List Bool} {o:List Int} (h:oV c s o):o.length≤c.length:=by
 obtain ⟨l,rfl,hn,hm⟩:=h;have:=hn.length_le_of_subset (fun j hj=>List.mem_range.2 (hm j hj).2:l⊆List.range c.length);simpa using this
theorem oV.set {c:List NV} {s:List Bool} {o:List Int} {i:Nat} (h:oV c s o) (hi:i<s.length):oV c (s.set i true) o:=by
 obtain ⟨l,e,hn,hm⟩:=h;exact ⟨l,e,hn,fun j hj=>⟨qt hi (hm j hj).1,(hm j hj).2⟩⟩
theorem oV.go {c:List NV} {i:Nat} {s s':List Bool} {o o':List Int} (h:oV c s o) (g:Lv c i s o s' o'):oV c s' o':=by
 obtain ⟨l,rfl,hn,hm⟩:=h;obtain ⟨l2,rfl,hn2,hm2⟩:=g.out;refine ⟨l++l2,by rw [List.map_append],List.nodup_append.2 ⟨hn,hn2,fun a h1 b h2 e=>?_⟩,fun j hj=>?_⟩;subst e;have k1:=(hm a h1).1;have k2:=((hm2 a).1 h2).2.1;rw [k1] at k2;cases k2;rcases List.mem_append.1 hj with hj|hj;exact ⟨g.mono j (hm j hj).1,(hm j hj).2⟩;obtain ⟨k1,_,k3,_⟩:=(hm2 j).1 hj;exact ⟨k1,k3⟩
def sA (L:Nat) (l:List Nat) (k:Nat):List Int:=(List.range L).map (fun i=>if l.idxOf i<k then (l.idxOf i:Int) else 0)
theorem yh {L k:Nat} {l:List Nat}:(sA L l k).length=L:=by simp [sA]
theorem AY {L:Nat} {l:List Nat}:sA L l 0=List.replicate L 0:=by
 apply List.ext_getElem (by simp [sA]);intro i h1 h2;simp [sA]
theorem yi {L k i:Nat} {l:List Nat} (hi:i<L):(sA L l k).getD i 0=if l.idxOf i<k then (l.idxOf i:Int) else 0:=by simp [sA,List.getD_eq_getElem?_getD,hi]
theorem DI {L k:Nat} {l:List Nat} (hn:l.Nodup) (hk:k<l.length):(sA L l k).set l[k] (k:Int)=sA L l (k+1):=by
 have hx:l.idxOf l[k]=k:=hn.idxOf_getElem k hk;apply List.ext_getElem (by simp [sA]);intro i h1 h2;rw [List.getElem_set];by_cases e:l[k]=i;subst e;rw [if_pos rfl];simp [sA,hx];rw [if_neg e];have hne:l.idxOf i≠k:=fun h=>by
  have hlt:l.idxOf i<l.length:=by omega
  have:=List.getElem_idxOf hlt;apply e;rw [←this]
  congr 1
  exact h.symm
 simp only [sA,List.getElem_map,List.getElem_range];by_cases h:l.idxOf i<k;rw [if_pos h,if_pos (by omega)];rw [if_neg h,if_neg (by omega)]
section
variable {c:List NV} {l:List Nat}
theorem lC (hC:fL c) {i j:Nat} (hi:i<c.length) (hj:j<c.length) (e:aa c i=aa c j):i=j:=by
 have hn:(trees c).Nodup:=by rw [hC.trees];exact (iP _).nd
 rw [gH hi,gH hj] at e;exact (List.getElem_inj hn).1 e
theorem rv (hC:fL c) (hn:l.Nodup) (hl:∀j∈l,j<c.length):(l.map (aa c)).Nodup:=by
 induction l with
 |nil=>exact List.nodup_nil
 |cons a l ih=>
  rw [List.nodup_cons] at hn;rw [List.map_cons,List.nodup_cons];refine ⟨fun h=>?_,ih hn.2 (fun j hj=>hl j (by simp [hj]))⟩;obtain ⟨j,hj,e⟩:=List.mem_map.1 h;have:=lC hC (hl j (by simp [hj])) (hl a (by simp)) e;exact hn.1 (this ▸ hj)
theorem D3 (hC:fL c) (hl:∀j∈l,j<c.length) {j:Nat} (hj:j∈l):(l.map (aa c)).idxOf (aa c j)=l.idxOf j:=by
 induction l with
 |nil=>cases hj
 |cons a l ih=>
  rw [List.map_cons,List.idxOf_cons,List.idxOf_cons];by_cases e:a=j;subst e;simp;have hne:¬aa c a=aa c j:=fun h=>e (lC hC (hl a (by simp)) (hl j hj) h);have hj2:j∈l:=by
   rcases List.mem_cons.1 hj with h|h;exact absurd h.symm e;exact h
  have h1:(aa c a==aa c j)=false:=beq_eq_false_iff_ne.2 hne;have h2:(a==j)=false:=beq_eq_false_iff_ne.2 e;rw [h1,h2,ih (fun j hj=>hl j (by simp [hj])) hj2]
theorem Du (hC:fL c) (hl:∀j∈l,j<c.length) (v:Nat) (u:Tr) (hu:u∈l.map (aa c)):rT c (fun i=>v.testBit ((sA c.length l l.length).getD i 0).toNat) u=v.testBit ((l.map (aa c)).idxOf u):=by
 obtain ⟨j,hj,rfl⟩:=List.mem_map.1 hu;rw [AG hC (hl j hj),D3 hC hl hj,yi (hl j hj),if_pos (List.idxOf_lt_length_of_mem hj),Int.toNat_natCast]
end
def pY (r:Int) (t:Tr):Prop:=if r=1 then bC t else if r=2 then HQ t else if r=3 then Fz t else if r=4 then FD t else if r=5 then HU t else if r=6 then FC t else if r=7 then HP t else if r=8 then HS t else if r=9 then HT t else False
theorem nine {p:Int→Prop} (h:p 1∧p 2∧p 3∧p 4∧p 5∧p 6∧p 7∧p 8∧p 9) {r:Int} (h1:1≤r) (h9:r≤9):p r:=by
 obtain ⟨a1,a2,a3,a4,a5,a6,a7,a8,a9⟩:=h;rcases (by omega:r=1∨r=2∨r=3∨r=4∨r=5∨r=6∨r=7∨r=8∨r=9) with e|e|e|e|e|e|e|e|e<;>rw [e]<;>assumption
structure EV (g:Nat) (fn:Int→FuncId) (w:World):Prop where
  size:g<w.heap.size
  cell:∀r:Nat,1≤r→r≤9→w.cell? ⟨g,r,none⟩=some (.func (.func (fn r)) #[] #[])
theorem EV.ex {g:Nat} {fn:Int→FuncId} {w0 w:World} {S:List Nat} (h:EV g fn w0) (e:Ex S w0 w) (hS:g∉S:=by simp):EV g fn w:=
 ⟨Nat.lt_of_lt_of_le h.size e.size,fun i h1 h9=>by rw [←h.cell i h1 h9];exact World.cell?_of_block (e.block g h.size hS)⟩
structure LV where
  f:FV
  r:Int
  a:Int
  b:Int
  g:Int
def LV.cells (x:LV):List Value:=[x.f.v,.int .i64 x.r,.int .i64 x.a,.int .i64 x.b,.int .i64 x.g]
structure LA (w:World) (A:Option Addr) (ls:List LV):Prop where
  at_:Sl w A (ls.flatMap LV.cells)
  fs:∀l∈ls,FA w l.f.a l.f.f∧l.f.f.length≤maxLen
theorem LA.au {w0 w:World} {A:Option Addr} {ls:List LV} (h:LA w0 A ls) (e:Ex [] w0 w):LA w A ls:=⟨Sl.ex h.at_ e (by simp),fun l hl=>⟨(h.fs l hl).1.au e,(h.fs l hl).2⟩⟩
end Go.Proofs.Wit
