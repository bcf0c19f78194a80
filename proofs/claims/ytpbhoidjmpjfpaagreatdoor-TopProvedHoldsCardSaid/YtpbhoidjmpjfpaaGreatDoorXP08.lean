/- Laws of walks, each under its own conditions. -/
import Derived.Test.YtpbhoidjmpjfpaaGreatDoorXP06
set_option maxRecDepth 100000
set_option maxHeartbeats 40000000
namespace Go.Proofs.Wit
open Go Go.RowKit
section
variable{L:List (Int×Nat)}{f:List NV}{ts:List Tr}{i:Nat}{t:Tr}
theorem Dy{κ:Type}[DecidableEq κ]{L:List κ}{m:κ}:∀{s:Nat},iJ (λa b:κ=>a==b) (L.zipIdx s) m=if m∈L then some (L.idxOf m+s)else none:=by
 induction L with
 |nil=>intro s;rfl
 |cons a L ih=>
  intro s;rw[List.zipIdx_cons,iJ];by_cases h:a=m;subst h;simp;have h2:(m==a)=false:=by simpa using Ne.symm h
  have h4:(a==m)=false:=by simpa using h
  rw[if_neg (by simpa using h2),ih];by_cases h3:m∈L;rw[if_pos h3,if_pos (by simp[h3]),List.idxOf_cons,h4];simp;omega;rw[if_neg h3,if_neg (by simp[h3,Ne.symm h])]
theorem w9{κ:Type}[DecidableEq κ]{m:κ}:∀{L:List κ} {k:Nat},L[k]?=some m->(∀j,j<k->L[j]?≠some m)->L.idxOf m=k
 |[],k,h1,_=>by simp at h1
 |a::L,0,h1,_=>by
  have:a=m:=by simpa using h1
  subst this;simp
 |a::L,k+1,h1,h2=>by
  have hne:a≠m:=λe=>h2 0 aH (by simp[e]);have h4:(a==m)=false:=by simpa using hne
  rw[List.idxOf_cons,h4];simp only[Bool.cond_false];rw[w9 (L:=L) (k:=k) (by simpa using h1) (λj hj=>by simpa using h2 (j+1) aH)]
theorem Dz (hc:oN ts)(hn:ts.Nodup)(hw:∀u∈ts,u.wf) (ht:t∈ts):iJ (λa b:NV=>a==b) (fH ts).zipIdx (gA ts t)=some (ts.idxOf t):=by
 obtain⟨h1,h2⟩:=GJ hc hn hw ht;rw[Dy,if_pos (cP h1),w9 h1 h2];rfl
theorem DA (hc:oN ts)(hw:∀u∈ts,u.wf) (htw:t.wf)(hk:∀c∈kids t,c∈ts)(ht:t∉ts):iJ (λa b:NV=>a==b) (fH ts).zipIdx (gA ts t)=none:=by
 rw[Dy,if_neg];intro hm;obtain⟨k,hk2,he⟩:=cN.1 hm;exact GK hc hw htw hk ht k (by rw[bJ hk2,he])
theorem JI  (hc:oN ts)(hk:∀c∈kids t,c∈ts):(fH (ts++[t])).zipIdx=(fH ts).zipIdx++[(gA ts t,(fH ts).length)]:=by
 rw[oQ hc hk,List.zipIdx_append];simp
theorem vq{κ ν:Type}{q:κ->κ->Bool}{L:List (κ×ν)}{a:κ}{v:ν}{x:κ}:iJ q (L++[(a,v)]) x=(iJ q L x).or (if q x a=true then some v else none):=by
 induction L with
 |nil=>simp[iJ]
 |cons p L ih=>
  rw[List.cons_append,iJ,iJ,ih];split<;>simp
abbrev S7(v:Nat):aC:=aS v
structure q9 (f:List NV) (ts:List Tr) (L:List (Int×Nat)):Prop where
  at_:∀(i v:Nat),iJ (λa b:Int=>a==b) L (i:Int)=some v->fe f i∈ts/\v=ts.idxOf (fe f i)
theorem q9.nil  :q9 f ts []:=⟨λi v h=>by cases h⟩
theorem q9.mono {us:List Tr} (h:q9 f ts L)(hp:ts<+:us):q9 f us L:=
 ⟨λi v hv=>by
  obtain⟨h1,h2⟩:=h.at_ i v hv;exact⟨hp.subset h1,by rw[h2,rE hp h1]⟩⟩
theorem q9.ins   (h:q9 f ts L) (hm:fe f i∈ts):q9 f ts (L++[((i:Int),ts.idxOf (fe f i))]):=
 ⟨λj v hv=>by
  rw[vq]at hv;cases e:iJ (λa b:Int=>a==b) L (j:Int)with
  |some u=>
   rw[e]at hv;cases hv;exact h.at_ j _ e
  |none=>
   rw[e]at hv;by_cases hq:((j:Int)==(i:Int))=true;have:i=j:=by have:=eq_of_beq hq;omega
   subst this;simp at hv;exact⟨hm,hv.symm⟩;rw[if_neg hq]at hv;cases hv⟩
theorem w6 {i j:Int}{v:Nat}(h:i≠j):iJ (λa b:Int=>a==b) (L++[(i,v)]) j=iJ (λa b:Int=>a==b) L j:=by
 rw[vq,if_neg (by simpa using Ne.symm h)];simp
def Ai(f:List NV)(n:NV)(ts:List Tr):List Tr:=if ji n.op=true then visit (fe f n.x.toNat) ts else ts
def Nf(f:List NV)(n:NV)(ts:List Tr):NV:={n with x:=if ji n.op=true then((Ai f n ts).idxOf (fe f n.x.toNat):Int)else n.x}
theorem QT  (hi:i<f.length)(hO:fT f) (hc:oN ts)(hn:ts.Nodup)(hs:ts⊆trees f):
  oN (Ai f f[i] ts)/\(Ai f f[i] ts).Nodup/\ts<+:Ai f f[i] ts/\Ai f f[i] ts⊆trees f:=by
 unfold Ai;split;rename_i h;have hx:=(hO i hi).x h;have hV:=lK (fe f f[i].x.toNat) hc hn;exact⟨hV.sR,hV.nd,hV.pre,mX _ hO.ord.sR (o9 aH) hs⟩;exact⟨hc,hn,dQ _,hs⟩
theorem QS  (hi:i<f.length)(hO:fT f) (hc:oN ts)(hn:ts.Nodup)(hs:ts⊆trees f):
  oN (mA (fe f i) ts)/\(mA (fe f i) ts).Nodup/\ts<+:mA (fe f i) ts/\mA (fe f i) ts⊆trees f/\∀c∈kids (fe f i),c∈mA (fe f i) ts:=by
 have hm:∀c∈kids (fe f i),c∈trees f:=hO.ord.sR.mem (o9 hi);cases ht:fe f i with
 |leaf=>exact⟨hc,hn,dQ _,hs,λc h=>by cases h⟩
 |un op j e g a=>
  rw[ht]at hm;have hV:=lK a hc hn;exact⟨hV.sR,hV.nd,hV.pre,mX _ hO.ord.sR (hm a (by simp[kids])) hs,λc h=>by rw[dn.1 h];exact hV.mem⟩
 |bin op j e g a b=>
  rw[ht]at hm;have hV:=lK a hc hn;have hW:=lK b hV.sR hV.nd;refine⟨hW.sR,hW.nd,hV.pre.trans hW.pre,mX _ hO.ord.sR (hm b (by simp[kids])) (mX _ hO.ord.sR (hm a (by simp[kids])) hs),λc h=>?_⟩;simp only[kids,eH,dO,eX]at h;rcases h with rfl|rfl;exact hW.pre.subset hV.mem;exact hW.mem
theorem TX  (hi:i<f.length)(hO:fT f) (hY:iM f[i].op=false):Ai f f[i] ts=mA (fe f i) ts/\Nf f f[i] ts=gA (mA (fe f i) ts) (fe f i):=by
 have hok:=hO i hi;have hy0:=hok.y0 hY;rcases jv hi hO with⟨h,ht⟩|⟨h,_,ht⟩|⟨h,_⟩;have hx0:=hok.x0 h;rw[ht];constructor;simp[Ai,h,mA];simp only[Nf,h,gA];simp[hx0,hy0];rw[ht];constructor;simp[Ai,h,mA];simp only[Nf,h,gA,Ai,eY,mA];simp[hy0];rw[hY]at h;cases h
theorem Tj  (hi:i<f.length)(hO:fT f) (hc:oN ts)(hn:ts.Nodup)(hY:iM f[i].op=true):
  visit (fe f f[i].y.toNat) (Ai f f[i] ts)=mA (fe f i) ts/\{Nf f f[i] ts with y:=((visit (fe f f[i].y.toNat) (Ai f f[i] ts)).idxOf (fe f f[i].y.toNat):Int)}=gA (mA (fe f i) ts) (fe f i):=by
 have hX:=jL hY;rcases jv hi hO with⟨h,ht⟩|⟨_,h,ht⟩|⟨_,ht⟩;rw[hX]at h;cases h;rw[hY]at h;cases h;have hV:=lK (fe f f[i].x.toNat) hc hn;have hW:=lK (fe f f[i].y.toNat) hV.sR hV.nd;rw[ht];constructor;simp[Ai,hX,mA];simp only[Nf,gA,Ai,hX,eY,mA];rw[rE hW.pre hV.mem]
end
theorem iz{P:av}{r:ah}{f:ay}{R:aC->aB->Prop}{w0:aB}{S:aq}{Y:List (Nat×Obj)}{n:Nat}{k:al}{l:Fl}{h:Hl}{x y:Code}{α:Type}(lf:α->Fl)(hf:α->Hl)
  (hK:∀a,ff P r f R w0 S Y n (.code y::k) (lf a) (hf a))
  (hg:(∀a l h,nN (lf a) l->(∀w Y',St w0 S w h Y'->St w0 S w (hf a) Y')->ff P r f R w0 S Y n (.code y::k) l h)->ff P r f R w0 S Y n (.code x::.code y::k) l h):ff P r f R w0 S Y n (.code x::.code y::k) l h:=
 hg (λa _ _ hl hh=>(hK a).TA hl hh)
end Go.Proofs.Wit
