/- Laws of walks, each under its own conditions. -/
import Derived.Test.YtaamcaiglooemaaGreatDoorXP15
set_option maxRecDepth 100000
set_option maxHeartbeats 40000000
namespace Go.Proofs.Wit
open Go Go.RowKit
def m9(op:Int):Bool:=op==3||decide (8<op)
def zn(op:Int)(x y:Bool):Bool:=if op=1 then true else if op=4 then !x else if op=5 then x && y else if op=6 then x||y else if op=7 then !x||y else if op=8 then x==y else false
def iG(r:Tr->Bool):Tr->Bool
 |.leaf op i e g=>if m9 op=true then r (.leaf op i e g)else zn op false false
 |.un op i e g a=>if m9 op=true then r (.un op i e g a)else zn op (iG r a) false
 |.bin op i e g a b=>if m9 op=true then r (.bin op i e g a b)else zn op (iG r a) (iG r b)
def ov:Tr->List Tr
 |.leaf op i e g=>if m9 op=true then [.leaf op i e g]else []
 |.un op i e g a=>if m9 op=true then [.un op i e g a]else ov a
 |.bin op i e g a b=>if m9 op=true then [.bin op i e g a b]else ov a++ov b
theorem ue{r r':Tr->Bool}:∀{t:Tr},(∀u∈ov t,r u=r' u)->iG r t=iG r' t
 |.leaf op i e g,h=>by
  unfold iG ov at*;split;rename_i hl;rw[if_pos hl]at h;exact h _ aF;rfl
 |.un op i e g a,h=>by
  unfold ov at h;unfold iG;split;rename_i hl;rw[if_pos hl]at h;exact h _ aF;rename_i hl;rw[if_neg hl]at h;rw[ue h]
 |.bin op i e g a b,h=>by
  unfold ov at h;unfold iG;split;rename_i hl;rw[if_pos hl]at h;exact h _ aF;rename_i hl;rw[if_neg hl]at h;rw[ue (t:=a) (λu hu=>h u (cD _ hu)),ue (t:=b) (λu hu=>h u (bZ _ hu))]
def eZ(t:Tr):Prop:=(∃l:List Tr,l.Nodup/\(∀u,u∈l↔u∈ov t)/\l.length<=10)/\∀r:Tr->Bool,iG r t=true
theorem Co{t:Tr}{l:List Tr}(hn:l.Nodup)(hm:∀u,u∈l↔u∈ov t):eZ t↔l.length<=10/\∀r:Tr->Bool,iG r t=true:=by
 constructor;rintro ⟨⟨l',hn',hm',hl'⟩,h⟩;have:=hn.length_le_of_subset (λu hu=>(hm' u).2 ((hm u).1 hu):l⊆l');exact⟨aH,h⟩;rintro ⟨h1,h2⟩;exact⟨⟨l,hn,hm,h1⟩,h2⟩
theorem Dr(b:Nat->Bool):∀n:Nat,∃v,v<2^n/\∀k,k<n->v.testBit k=b k
 |0=>⟨0,aI,λk hk=>absurd hk (dV _)⟩
 |n+1=>by
  obtain⟨v,hv,h⟩:=Dr b n;cases hb:b n with
  |false=>
   refine⟨v,by rw[Nat.pow_succ];omega,λk hk=>?_⟩;by_cases e:k=n;subst e;rw[hb];exact Nat.testBit_lt_two_pow hv;exact h k aH
  |true=>
   refine⟨2^n+v,by rw[Nat.pow_succ];omega,λk hk=>?_⟩;by_cases e:k=n;subst e;rw[hb,Nat.testBit_two_pow_add_eq,Nat.testBit_lt_two_pow hv];rfl;rw[Nat.testBit_two_pow_add_gt aH];exact h k aH
theorem zK{t:Tr}{l:List Tr}(hm:∀u,u∈l↔u∈ov t){R:Nat->Tr->Bool}(hR:∀v u,u∈l->R v u=v.testBit (l.idxOf u)):(∀r:Tr->Bool,iG r t=true)↔∀v,v<2^l.length->iG (R v) t=true:=by
 constructor;exact λh v _=>h _;intro h r;obtain⟨v,hv,hb⟩:=Dr (λk=>r (l.getD k (.leaf 0 0 0 0))) l.length;rw[<-h v hv];refine ue (λu hu=>?_);have hul:=(hm u).2 hu;have hlt:=List.idxOf_lt_length_of_mem hul;rw[hR v u hul,hb _ hlt];simp[aX,hlt,db]
abbrev sB(s:ao)(j:Nat):Bool:=s.getD j false
structure Lv (c:List NV) (i:Nat) (s:ao) (o:ar) (s':ao) (o':ar):Prop where
  len:s'.length=s.length
  mono:∀j,sB s j=true->sB s' j=true
  self:sB s' i=true
  new:∀(j:Nat),sB s' j=true->sB s j=false->∃hj:j<c.length,(m9 c[j].op=true->eP c j∈ov (eP c i))/\(m9 c[j].op=false->(jd c[j].op=true->sB s' c[j].x.toNat=true)/\(iH c[j].op=true->sB s' c[j].y.toNat=true))
  out:∃l:aq,o'=o++l.map (λj:Nat=>(j:Int))/\l.Nodup/\∀j,j∈l↔(sB s' j=true/\sB s j=false/\∃hj:j<c.length,m9 c[j].op=true)
theorem wu{s:ao}{i j:Nat}(hi:i<s.length):sB (s.set i true) j=if j=i then true else sB s j:=by
 unfold sB;by_cases e:j=i;subst e;simp[aX,hi];rw[if_neg e];simp[aX,Ne.symm e]
theorem vH{s:ao}{i j:Nat}(hi:i<s.length)(h:sB s j=true):sB (s.set i true) j=true:=by
 rw[wu hi];split;rfl;exact h
section
variable{c:List NV}{i:Nat}{s s1 s2 s3:ao}{o o2 o3:ar}
theorem Lv.seen(h:sB s i=true):Lv c i s o s o:=
 ⟨rfl,λ_ h=>h,h,λj h1 h2=>(by rw[h1]at h2;cases h2),[],by simp,ed,λj=>⟨λh=>(by cases h),λ⟨h1,h2,_⟩=>by rw[h1]at h2;cases h2⟩⟩
theorem ur{t:Tr}(h:m9 (lE t)=true):ov t=[t]:=by
 cases t<;>exact if_pos h
theorem Lv.leaf(hi:i<c.length)(hO:fT c)(hs:s.length=c.length)(h0:sB s i=false)(hl:m9 c[i].op=true):Lv c i s o (s.set i true) (o++[(i:Int)]):=by
 have pS:∀j,sB (s.set i true) j=if j=i then true else sB s j:=λj=>wu aH;have ht:lE (eP c i)=c[i].op:=oM hi hO;refine⟨by simp,λj h=>vH aH h,by rw[pS];simp,λj h1 h2=>?_,[i],by simp,by simp,λj=>?_⟩;rw[pS]at h1;by_cases e:j=i;subst e;exact⟨hi,λ_=>by rw[ur (by rw[ht];exact hl)];exact aF,λh=>(by rw[hl]at h;cases h)⟩;rw[if_neg e,h2]at h1;cases h1;rw[pS,de];constructor;rintro rfl;exact⟨by simp,h0,hi,hl⟩;rintro ⟨h1,h2,_⟩;by_cases e:j=i;exact e;rw[if_neg e,h2]at h1;cases h1
theorem Lv.node(hi:i<c.length)(hs:s.length=c.length)(h0:sB s i=false)(hl:m9 c[i].op=false)
  (hA:(jd c[i].op=true/\Lv c c[i].x.toNat (s.set i true) o s2 o2/\∀u∈ov (eP c c[i].x.toNat),u∈ov (eP c i))\/(jd c[i].op=false/\s2=s.set i true/\o2=o))
  (hB:(iH c[i].op=true/\Lv c c[i].y.toNat s2 o2 s3 o3/\∀u∈ov (eP c c[i].y.toNat),u∈ov (eP c i))\/(iH c[i].op=false/\s3=s2/\o3=o2)):Lv c i s o s3 o3:=by
 have pS:∀j,sB (s.set i true) j=if j=i then true else sB s j:=λj=>wu aH;have l2:s2.length=s.length:=by
  rcases hA with⟨_,h,_⟩|⟨_,h,_⟩;rw[h.len];simp;rw[h];simp
 have m2:∀j,sB (s.set i true) j=true->sB s2 j=true:=λj h=>by
  rcases hA with⟨_,h',_⟩|⟨_,h',_⟩;exact h'.mono j h;rw[h'];exact h
 have l3:s3.length=s.length:=by
  rcases hB with⟨_,h,_⟩|⟨_,h,_⟩;rw[h.len,l2];rw[h,l2]
 have m3:∀j,sB s2 j=true->sB s3 j=true:=λj h=>by
  rcases hB with⟨_,h',_⟩|⟨_,h',_⟩;exact h'.mono j h;rw[h'];exact h
 have i1:sB (s.set i true) i=true:=by rw[pS];simp
 have hx:jd c[i].op=true->sB s2 c[i].x.toNat=true:=λh=>by
  rcases hA with⟨_,h',_⟩|⟨h',_⟩;exact h'.self;rw[h]at h';cases h'
 have hy:iH c[i].op=true->sB s3 c[i].y.toNat=true:=λh=>by
  rcases hB with⟨_,h',_⟩|⟨h',_⟩;exact h'.self;rw[h]at h';cases h'
 have n2:∀j,sB s2 j=true->sB (s.set i true) j=false->∃hj:j<c.length,(m9 c[j].op=true->eP c j∈ov (eP c i))/\(m9 c[j].op=false->(jd c[j].op=true->sB s2 c[j].x.toNat=true)/\(iH c[j].op=true->sB s2 c[j].y.toNat=true)):=λj h1 h2=>by
  rcases hA with⟨_,h',hsub⟩|⟨_,h',_⟩;obtain⟨hj,k1,k2⟩:=h'.new j h1 h2;exact⟨hj,λh=>hsub _ (k1 h),k2⟩;rw[h',h2]at h1;cases h1
 have n3:∀j,sB s3 j=true->sB s2 j=false->∃hj:j<c.length,(m9 c[j].op=true->eP c j∈ov (eP c i))/\(m9 c[j].op=false->(jd c[j].op=true->sB s3 c[j].x.toNat=true)/\(iH c[j].op=true->sB s3 c[j].y.toNat=true)):=λj h1 h2=>by
  rcases hB with⟨_,h',hsub⟩|⟨_,h',_⟩;obtain⟨hj,k1,k2⟩:=h'.new j h1 h2;exact⟨hj,λh=>hsub _ (k1 h),k2⟩;rw[h',h2]at h1;cases h1
 obtain⟨la,ea,na,ma⟩:∃l:aq,o2=o++l.map (λj:Nat=>(j:Int))/\l.Nodup/\∀j,j∈l↔(sB s2 j=true/\sB (s.set i true) j=false/\∃hj:j<c.length,m9 c[j].op=true):=by
  rcases hA with⟨_,h',_⟩|⟨_,h',e⟩;exact h'.out;exact⟨[],by simp[e],ed,λj=>⟨λh=>(by cases h),λ⟨k1,k2,_⟩=>by rw[h',k2]at k1;cases k1⟩⟩
 obtain⟨lb,eb,nb,mb⟩:∃l:aq,o3=o2++l.map (λj:Nat=>(j:Int))/\l.Nodup/\∀j,j∈l↔(sB s3 j=true/\sB s2 j=false/\∃hj:j<c.length,m9 c[j].op=true):=by
  rcases hB with⟨_,h',_⟩|⟨_,h',e⟩;exact h'.out;exact⟨[],by simp[e],ed,λj=>⟨λh=>(by cases h),λ⟨k1,k2,_⟩=>by rw[h',k2]at k1;cases k1⟩⟩
 refine⟨l3,λj h=>m3 j (m2 j (vH aH h)),m3 i (m2 i i1),λj h1 h2=>?_,la++lb,by rw[eb,ea,dO,dk],dq.2 ⟨na,nb,λa h1 b h2 e=>?_⟩,λj=>?_⟩;by_cases e:j=i;subst e;exact⟨hi,λh=>(by rw[hl]at h;cases h),λ_=>⟨λh=>m3 _ (hx h),hy⟩⟩;cases h3:sB s2 j with
 |false=>exact n3 j h1 h3
 |true=>
  obtain⟨hj,k1,k2⟩:=n2 j h3 (by rw[pS,if_neg e];exact h2);exact⟨hj,k1,λh=>⟨λh'=>m3 _ ((k2 h).1 h'),λh'=>m3 _ ((k2 h).2 h')⟩⟩
 subst e;have k1:=((ma a).1 h1).1;have k2:=((mb a).1 h2).2.1;rw[k1]at k2;cases k2;rw[dP,ma,mb];constructor;rintro (⟨k1,k2,k3⟩|⟨k1,k2,k3⟩);refine⟨m3 j k1,?_,k3⟩;rw[pS]at k2;split at k2;cases k2;exact k2;refine⟨k1,?_,k3⟩;cases h:sB s j with
 |false=>rfl
 |true=>
  have:=m2 j (vH aH h);rw[this]at k2;cases k2
 rintro ⟨k1,k2,k3⟩;have hji:j≠i:=λe=>by
  subst e;obtain⟨_,h⟩:=k3;rw[hl]at h;cases h
 cases h3:sB s2 j with
 |true=>exact .inl ⟨rfl,by rw[pS,if_neg hji];exact k2,k3⟩
 |false=>exact .inr ⟨k1,rfl,k3⟩
theorem Lv.done(hO:fT c)(_hi:i<c.length)(h:Lv c i (List.replicate c.length false) [] s3 o3):∃l:aq,o3=l.map (λj:Nat=>(j:Int))/\l.Nodup/\(∀j∈l,j<c.length)/\∀u,u∈l.map (eP c)↔u∈ov (eP c i):=by
 obtain⟨l,e,hn,hm⟩:=h.out;have h0:∀j,sB (List.replicate c.length false) j=false:=λj=>by
  unfold sB;rw[aX,List.getElem?_replicate];split<;>rfl
 have key:∀j,sB s3 j=true->∀u∈ov (eP c j),u∈l.map (eP c):=by
  intro j
  induction j using Nat.strongRecOn with
  |_ j ih=>
   intro hj u hu;obtain⟨hjl,k1,k2⟩:=h.new j hj (h0 j);have ht:lE (eP c j)=c[j].op:=oM hjl hO;cases hl:m9 c[j].op with
   |true=>
    rw[ur (by rw[ht];exact hl),de]at hu;rw[hu];exact cQ ((hm j).2 ⟨hj,h0 j,hjl,hl⟩)
   |false=>
    obtain⟨kx,ky⟩:=k2 hl;have hord:=hO.ord j hjl;rcases iB hjl hO with⟨h1,h2⟩|⟨h1,h1',h2⟩|⟨h1,h2⟩;rw[h2]at hu;unfold ov at hu;rw[hl]at hu;cases hu;rw[h2]at hu;unfold ov at hu;rw[hl]at hu;have hx:=hord.1 h1;exact ih _ aH (kx h1) u hu;rw[h2]at hu;unfold ov at hu;rw[hl]at hu;have hx:=hord.1 (jQ h1);have hy:=hord.2 h1;rcases dP.1 hu with hu|hu;exact ih _ aH (kx (jQ h1)) u hu;exact ih _ aH (ky h1) u hu
 refine⟨l,by rw[e];rfl,hn,λj hj=>by obtain⟨_,_,hj',_⟩:=(hm j).1 hj;exact hj',λu=>⟨λhu=>?_,key i h.self u⟩⟩;obtain⟨j,hj,rfl⟩:=eA.1 hu;obtain⟨k1,k2,hj',k3⟩:=(hm j).1 hj;obtain⟨_,k4,_⟩:=h.new j k1 k2;exact k4 k3
end
theorem ud{c:List NV}{k:Nat}{r:Tr->Bool}(hk:k<c.length)(hO:fT c)(hl:m9 c[k].op=true):iG r (eP c k)=r (eP c k):=by
 have ht:lE (eP c k)=c[k].op:=oM hk hO;rw[<-ht]at hl;generalize eP c k=t at hl;cases t<;>exact if_pos hl
theorem Db{c:List NV}{k:Nat}{r:Tr->Bool}{bx bY:Bool}(hk:k<c.length)(hO:fT c)(hl:m9 c[k].op=false)(hx:jd c[k].op=true->bx=iG r (eP c c[k].x.toNat))(hy:iH c[k].op=true->bY=iG r (eP c c[k].y.toNat)):
  zn c[k].op bx bY=iG r (eP c k):=by
 have hop:=(hO k hk).op;have hc:(1<=c[k].op/\c[k].op<=8)/\c[k].op≠3:=by
  unfold m9 at hl;simp only[cz,bP,cR]at hl;omega
 rcases iB hk hO with⟨h1,h2⟩|⟨h1,h1',h2⟩|⟨h1,h2⟩;rw[h2];unfold iG;rw[if_neg (by rw[hl];simp)];rw[wc hop,bP]at h1;have:c[k].op=1\/c[k].op=2:=aH;rcases this with h|h<;>rw[h]<;>rfl
 ·rw[h2]
  unfold iG;rw[if_neg (by rw[hl];simp),hx h1];have:c[k].op=4:=by
   rcases(by omega:c[k].op=1\/c[k].op=2\/c[k].op=4\/c[k].op=5\/c[k].op=6\/c[k].op=7\/c[k].op=8)with h|h|h|h|h|h|h;rw[h]at h1;cases h1;rw[h]at h1;cases h1;exact h
   all_goals rw[h]at h1';cases h1'
  rw[this];rfl
 rw[h2]
 conv=>rhs;unfold iG
 rw[if_neg (by rw[hl];simp),hx (jQ h1),hy h1]
theorem C1{c:List NV}{k:Nat}(hk:k<c.length)(hO:fT c)(hl:m9 c[k].op=false):(jd c[k].op=true->∀u∈ov (eP c c[k].x.toNat),u∈ov (eP c k))/\(iH c[k].op=true->∀u∈ov (eP c c[k].y.toNat),u∈ov (eP c k)):=by
 rcases iB hk hO with⟨h1,h2⟩|⟨h1,h1',h2⟩|⟨h1,h2⟩;exact⟨λh=>(by rw[h1]at h;cases h),λh=>(by have:=jQ h;rw[h1]at this;cases this)⟩;refine⟨λ_ u hu=>?_,λh=>(by rw[h1']at h;cases h)⟩;rw[h2];unfold ov;rw[if_neg (by rw[hl];simp)];exact hu;refine⟨λ_ u hu=>?_,λ_ u hu=>?_⟩<;>rw[h2]<;>unfold ov<;>rw[if_neg (by rw[hl];simp)]
 exact cD _ hu;exact bZ _ hu
def rT(c:List NV)(b:Nat->Bool)(u:Tr):Bool:=b ((trees c).idxOf u)
theorem Fm{c:List NV}(hC:mf c){b:Nat->Bool}{k:Nat}(hk:k<c.length):rT c b (eP c k)=b k:=by
 have hn:(trees c).Nodup:=by rw[hC.trees];exact(nK _).nd
 unfold rT;have hk':k<(trees c).length:=by rw[js];exact hk
 rw[mH hk,hn.idxOf_getElem k hk']
def uy(c:List NV)(s:ao)(o:ar):Prop:=∃l:aq,o=l.map (λj:Nat=>(j:Int))/\l.Nodup/\∀j∈l,sB s j=true/\j<c.length
theorem uy.nil{c:List NV}{s:ao}:uy c s []:=⟨[],rfl,ed,λ_ h=>by cases h⟩
theorem uy.le{c:List NV}{s:ao}{o:ar}(h:uy c s o):o.length<=c.length:=by
 obtain⟨l,rfl,hn,hm⟩:=h;have:=hn.length_le_of_subset (λj hj=>ec.2 (hm j hj).2:l⊆List.range c.length);simpa using this
theorem uy.set{c:List NV}{s:ao}{o:ar}{i:Nat}(h:uy c s o)(hi:i<s.length):uy c (s.set i true) o:=by
 obtain⟨l,e,hn,hm⟩:=h;exact⟨l,e,hn,λj hj=>⟨vH hi (hm j hj).1,(hm j hj).2⟩⟩
theorem uy.go{c:List NV}{i:Nat}{s s':ao}{o o':ar}(h:uy c s o)(g:Lv c i s o s' o'):uy c s' o':=by
 obtain⟨l,rfl,hn,hm⟩:=h;obtain⟨l2,rfl,hn2,hm2⟩:=g.out;refine⟨l++l2,by rw[dO],dq.2 ⟨hn,hn2,λa h1 b h2 e=>?_⟩,λj hj=>?_⟩;subst e;have k1:=(hm a h1).1;have k2:=((hm2 a).1 h2).2.1;rw[k1]at k2;cases k2;rcases dP.1 hj with hj|hj;exact⟨g.mono j (hm j hj).1,(hm j hj).2⟩;obtain⟨k1,_,k3,_⟩:=(hm2 j).1 hj;exact⟨k1,k3⟩
def xy(L:Nat)(l:aq)(k:Nat):ar:=(List.range L).map (λi=>if l.idxOf i<k then(l.idxOf i:Int)else 0)
theorem CV{L k:Nat}{l:aq}:(xy L l k).length=L:=by simp[xy]
theorem FN{L:Nat}{l:aq}:xy L l 0=List.replicate L 0:=by
 apply dA (by simp[xy]);intro i h1 h2;simp[xy]
theorem CW{L k i:Nat}{l:aq}(hi:i<L):(xy L l k).getD i 0=if l.idxOf i<k then(l.idxOf i:Int)else 0:=by simp[xy,aX,hi]
theorem IX{L k:Nat}{l:aq}(hn:l.Nodup)(hk:k<l.length):(xy L l k).set l[k] (k:Int)=xy L l (k+1):=by
 have hx:l.idxOf l[k]=k:=hn.idxOf_getElem k hk;apply dA (by simp[xy]);intro i h1 h2;rw[List.getElem_set];by_cases e:l[k]=i;subst e;rw[if_pos rfl];simp[xy,hx];rw[if_neg e];have hne:l.idxOf i≠k:=λh=>by
  have hlt:l.idxOf i<l.length:=aH;have:=db hlt;apply e;rw[<-this]
  congr 1
  exact h.symm
 simp only[xy,List.getElem_map,List.getElem_range];by_cases h:l.idxOf i<k;rw[if_pos h,if_pos aH];rw[if_neg h,if_neg aH]
section
variable{c:List NV}{l:aq}
theorem qH(hC:mf c){i j:Nat}(hi:i<c.length)(hj:j<c.length)(e:eP c i=eP c j):i=j:=by
 have hn:(trees c).Nodup:=by rw[hC.trees];exact(nK _).nd
 rw[mH hi,mH hj]at e;exact(List.getElem_inj hn).1 e
theorem wN(hC:mf c)(hn:l.Nodup)(hl:∀j∈l,j<c.length):(l.map (eP c)).Nodup:=by
 induction l with
 |nil=>exact ed
 |cons a l ih=>
  rw[dS]at hn;rw[ep,dS];refine⟨λh=>?_,ih hn.2 (λj hj=>hl j (by simp[hj]))⟩;obtain⟨j,hj,e⟩:=eA.1 h;have:=qH hC (hl j (by simp[hj])) (hl a aL) e;exact hn.1 (this ▸ hj)
theorem Jf(hC:mf c)(hl:∀j∈l,j<c.length){j:Nat}(hj:j∈l):(l.map (eP c)).idxOf (eP c j)=l.idxOf j:=by
 induction l with
 |nil=>cases hj
 |cons a l ih=>
  rw[ep,List.idxOf_cons,List.idxOf_cons];by_cases e:a=j;subst e;simp;have hne:¬eP c a=eP c j:=λh=>e (qH hC (hl a aL) (hl j hj) h);have hj2:j∈l:=by
   rcases ew.1 hj with h|h;exact absurd h.symm e;exact h
  have h1:(eP c a==eP c j)=false:=cR.2 hne;have h2:(a==j)=false:=cR.2 e;rw[h1,h2,ih (λj hj=>hl j (by simp[hj])) hj2]
theorem IC(hC:mf c)(hl:∀j∈l,j<c.length)(v:Nat)(u:Tr)(hu:u∈l.map (eP c)):rT c (λi=>v.testBit ((xy c.length l l.length).getD i 0).toNat) u=v.testBit ((l.map (eP c)).idxOf u):=by
 obtain⟨j,hj,rfl⟩:=eA.1 hu;rw[Fm hC (hl j hj),Jf hC hl hj,CW (hl j hj),if_pos (List.idxOf_lt_length_of_mem hj),di]
end
def vn(r:Int)(t:Tr):Prop:=if r=1 then eZ t else if r=2 then M7 t else if r=3 then KI t else if r=4 then KL t else if r=5 then Na t else if r=6 then KK t else if r=7 then M6 t else if r=8 then M8 t else if r=9 then M9 t else False
theorem nine{p:Int->Prop}(h:p 1/\p 2/\p 3/\p 4/\p 5/\p 6/\p 7/\p 8/\p 9){r:Int}(h1:1<=r)(h9:r<=9):p r:=by
 obtain⟨a1,a2,a3,a4,a5,a6,a7,a8,a9⟩:=h;rcases(by omega:r=1\/r=2\/r=3\/r=4\/r=5\/r=6\/r=7\/r=8\/r=9)with e|e|e|e|e|e|e|e|e<;>rw[e]<;>assumption
structure J5 (g:Nat) (fn:Int->ay) (w:aB):Prop where
  size:g<w.heap.size
  cell:∀r:Nat,1<=r->r<=9->w.cell? ⟨g,r,none⟩=some (.func (.func (fn r)) #[] #[])
theorem J5.ex{g:Nat}{fn:Int->ay}{w0 w:aB}{S:aq}(h:J5 g fn w0)(e:Ex S w0 w)(hS:g∉S:=by simp):J5 g fn w:=
 ⟨dg h.size e.size,λi h1 h9=>by rw[<-h.cell i h1 h9];exact World.cell?_of_block (e.block g h.size hS)⟩
structure LV where
  f:FV
  r:Int
  a:Int
  b:Int
  g:Int
def LV.cells(x:LV):ai:=[x.f.v,aS x.r,aS x.a,aS x.b,aS x.g]
structure LA (w:aB) (A:ae) (ls:List LV):Prop where
  at_:Sl w A (ls.flatMap LV.cells)
  fs:∀l∈ls,FA w l.f.a l.f.f/\l.f.f.length<=maxLen
theorem LA.eY{w0 w:aB}{A:ae}{ls:List LV}(h:LA w0 A ls)(e:Ex [] w0 w):LA w A ls:=⟨Sl.ex h.at_ e aL,λl hl=>⟨(h.fs l hl).1.eY e,(h.fs l hl).2⟩⟩
end Go.Proofs.Wit
