/- Laws of walks, each under its own conditions. -/
import Derived.Test.YtaamcaiglooemaaGreatDoorXP05
set_option maxRecDepth 100000
set_option maxHeartbeats 40000000
namespace Go.Proofs.Wit
open Go Go.RowKit
section
variable{L:List (Int×Nat)}{f:List NV}{ts:List Tr}{i:Nat}{t:Tr}
theorem Ag{κ:Type}[DecidableEq κ]{L:List κ}{m:κ}:∀{s:Nat},ic (λa b:κ=>a==b) (L.zipIdx s) m=if m∈L then some (L.idxOf m+s)else none:=by
 induction L with
 |nil=>intro s;rfl
 |cons a L ih=>
  intro s;rw[List.zipIdx_cons,ic];by_cases h:a=m;subst h;simp;have h2:(m==a)=false:=by simpa using Ne.symm h
  have h4:(a==m)=false:=by simpa using h
  rw[if_neg (by simpa using h2),ih];by_cases h3:m∈L;rw[if_pos h3,if_pos (by simp[h3]),List.idxOf_cons,h4];simp;omega;rw[if_neg h3,if_neg (by simp[h3,Ne.symm h])]
theorem vg{κ:Type}[DecidableEq κ]{m:κ}:∀{L:List κ} {k:Nat},L[k]?=some m->(∀j,j<k->L[j]?≠some m)->L.idxOf m=k
 |[],k,h1,_=>by simp at h1
 |a::L,0,h1,_=>by
  have:a=m:=by simpa using h1
  subst this;simp
 |a::L,k+1,h1,h2=>by
  have hne:a≠m:=λe=>h2 0 aH (by simp[e]);have h4:(a==m)=false:=by simpa using hne
  rw[List.idxOf_cons,h4];simp only[Bool.cond_false];rw[vg (L:=L) (k:=k) (by simpa using h1) (λj hj=>by simpa using h2 (j+1) aH)]
theorem Ah (hc:rR ts)(hn:ts.Nodup)(hw:∀u∈ts,u.wf) (ht:t∈ts):ic (λa b:NV=>a==b) (ff ts).zipIdx (fM ts t)=some (ts.idxOf t):=by
 obtain⟨h1,h2⟩:=yN hc hn hw ht;rw[Ag,if_pos (cH h1),vg h1 h2];rfl
theorem Ai (hc:rR ts)(hw:∀u∈ts,u.wf) (htw:t.wf)(hk:∀c∈kids t,c∈ts)(ht:t∉ts):ic (λa b:NV=>a==b) (ff ts).zipIdx (fM ts t)=none:=by
 rw[Ag,if_neg];intro hm;obtain⟨k,hk2,he⟩:=cG.1 hm;exact CE hc hw htw hk ht k (by rw[bG hk2,he])
theorem EF  (hc:rR ts)(hk:∀c∈kids t,c∈ts):(ff (ts++[t])).zipIdx=(ff ts).zipIdx++[(fM ts t,(ff ts).length)]:=by
 rw[oD hc hk,List.zipIdx_append];simp
theorem Aj{κ ν:Type}{q:κ->κ->Bool}{L:List (κ×ν)}{a:κ}{v:ν}{x:κ}:ic q (L++[(a,v)]) x=(ic q L x).or (if q x a=true then some v else none):=by
 induction L with
 |nil=>simp[ic]
 |cons p L ih=>
  rw[dz,ic,ic,ih];split<;>simp
abbrev Ng(v:Nat):aC:=aS v
structure qD (f:List NV) (ts:List Tr) (L:List (Int×Nat)):Prop where
  at_:∀(i v:Nat),ic (λa b:Int=>a==b) L (i:Int)=some v->eP f i∈ts/\v=ts.idxOf (eP f i)
theorem qD.nil  :qD f ts []:=⟨λi v h=>by cases h⟩
theorem qD.mono {us:List Tr} (h:qD f ts L)(hp:ts<+:us):qD f us L:=
 ⟨λi v hv=>by
  obtain⟨h1,h2⟩:=h.at_ i v hv;exact⟨hp.subset h1,by rw[h2,pw hp h1]⟩⟩
theorem qD.ins   (h:qD f ts L) (hm:eP f i∈ts):qD f ts (L++[((i:Int),ts.idxOf (eP f i))]):=
 ⟨λj v hv=>by
  rw[Aj]at hv;cases e:ic (λa b:Int=>a==b) L (j:Int)with
  |some u=>
   rw[e]at hv;cases hv;exact h.at_ j _ e
  |none=>
   rw[e]at hv;by_cases hq:((j:Int)==(i:Int))=true;have:i=j:=by have:=eq_of_beq hq;omega
   subst this;simp at hv;exact⟨hm,hv.symm⟩;rw[if_neg hq]at hv;cases hv⟩
theorem u9 {i j:Int}{v:Nat}(h:i≠j):ic (λa b:Int=>a==b) (L++[(i,v)]) j=ic (λa b:Int=>a==b) L j:=by
 rw[Aj,if_neg (by simpa using Ne.symm h)];simp
def xp(f:List NV)(n:NV)(ts:List Tr):List Tr:=if jd n.op=true then visit (eP f n.x.toNat) ts else ts
def HI(f:List NV)(n:NV)(ts:List Tr):NV:={n with x:=if jd n.op=true then((xp f n ts).idxOf (eP f n.x.toNat):Int)else n.x}
theorem KU  (hi:i<f.length)(hO:fT f) (hc:rR ts)(hn:ts.Nodup)(hs:ts⊆trees f):
  rR (xp f f[i] ts)/\(xp f f[i] ts).Nodup/\ts<+:xp f f[i] ts/\xp f f[i] ts⊆trees f:=by
 unfold xp;split;rename_i h;have hx:=(hO i hi).x h;have hV:=kJ (eP f f[i].x.toNat) hc hn;exact⟨hV.qU,hV.nd,hV.pre,lW _ hO.ord.qU (nr aH) hs⟩;exact⟨hc,hn,dF _,hs⟩
theorem KT  (hi:i<f.length)(hO:fT f) (hc:rR ts)(hn:ts.Nodup)(hs:ts⊆trees f):
  rR (lK (eP f i) ts)/\(lK (eP f i) ts).Nodup/\ts<+:lK (eP f i) ts/\lK (eP f i) ts⊆trees f/\∀c∈kids (eP f i),c∈lK (eP f i) ts:=by
 have hm:∀c∈kids (eP f i),c∈trees f:=hO.ord.qU.mem (nr hi);cases ht:eP f i with
 |leaf=>exact⟨hc,hn,dF _,hs,λc h=>by cases h⟩
 |un op j e g a=>
  rw[ht]at hm;have hV:=kJ a hc hn;exact⟨hV.qU,hV.nd,hV.pre,lW _ hO.ord.qU (hm a (by simp[kids])) hs,λc h=>by rw[de.1 h];exact hV.mem⟩
 |bin op j e g a b=>
  rw[ht]at hm;have hV:=kJ a hc hn;have hW:=kJ b hV.qU hV.nd;refine⟨hW.qU,hW.nd,hV.pre.trans hW.pre,lW _ hO.ord.qU (hm b (by simp[kids])) (lW _ hO.ord.qU (hm a (by simp[kids])) hs),λc h=>?_⟩;simp only[kids,ew,dE,eM]at h;rcases h with rfl|rfl;exact hW.pre.subset hV.mem;exact hW.mem
theorem QF  (hi:i<f.length)(hO:fT f) (hY:iH f[i].op=false):xp f f[i] ts=lK (eP f i) ts/\HI f f[i] ts=fM (lK (eP f i) ts) (eP f i):=by
 have hok:=hO i hi;have hy0:=hok.y0 hY;rcases iB hi hO with⟨h,ht⟩|⟨h,_,ht⟩|⟨h,_⟩;have hx0:=hok.x0 h;rw[ht];constructor;simp[xp,h,lK];simp only[HI,h,fM];simp[hx0,hy0];rw[ht];constructor;simp[xp,h,lK];simp only[HI,h,fM,xp,eN,lK];simp[hy0];rw[hY]at h;cases h
theorem No  (hi:i<f.length)(hO:fT f) (hc:rR ts)(hn:ts.Nodup)(hY:iH f[i].op=true):
  visit (eP f f[i].y.toNat) (xp f f[i] ts)=lK (eP f i) ts/\{HI f f[i] ts with y:=((visit (eP f f[i].y.toNat) (xp f f[i] ts)).idxOf (eP f f[i].y.toNat):Int)}=fM (lK (eP f i) ts) (eP f i):=by
 have hX:=jQ hY;rcases iB hi hO with⟨h,ht⟩|⟨_,h,ht⟩|⟨_,ht⟩;rw[hX]at h;cases h;rw[hY]at h;cases h;have hV:=kJ (eP f f[i].x.toNat) hc hn;have hW:=kJ (eP f f[i].y.toNat) hV.qU hV.nd;rw[ht];constructor;simp[xp,hX,lK];simp only[HI,fM,xp,hX,eN,lK];rw[pw hW.pre hV.mem]
end
theorem gu{P:av}{r:ah}{f:ay}{R:aC->aB->Prop}{w0:aB}{S:aq}{Y:List (Nat×Obj)}{n:Nat}{k:al}{l:Fl}{h:Hl}{x y:Code}{α:Type}(lf:α->Fl)(hf:α->Hl)
  (hK:∀a,eQ P r f R w0 S Y n (.code y::k) (lf a) (hf a))
  (hg:(∀a l h,j9 (lf a) l->(∀w Y',St w0 S w h Y'->St w0 S w (hf a) Y')->eQ P r f R w0 S Y n (.code y::k) l h)->eQ P r f R w0 S Y n (.code x::.code y::k) l h):eQ P r f R w0 S Y n (.code x::.code y::k) l h:=
 hg (λa _ _ hl hh=>(hK a).Nx hl hh)
end Go.Proofs.Wit
