/- Laws of walks, each under its own conditions. -/
import Derived.Test.YtpbhoidjmpjfpaaGreatDoorXT05
set_option maxRecDepth 100000
set_option maxHeartbeats 40000000
namespace Go.Proofs.Wit
open Go Go.RowKit
section
variable{L:List (Int×Nat)}{f:List NV}{ts:List Tr}{i:Nat}{t:Tr}
theorem zm{κ:Type}[DecidableEq κ]{L:List κ}{m:κ}:∀{s:Nat},gL (λa b:κ=>a==b) (L.zipIdx s) m=if m∈L then some (L.idxOf m+s)else none:=by
 induction L with
 |nil=>intro s;rfl
 |cons a L ih=>
  intro s;rw[List.zipIdx_cons,gL];by_cases h:a=m;subst h;simp;have h2:(m==a)=false:=by simpa using Ne.symm h
  have h4:(a==m)=false:=by simpa using h
  rw[if_neg (by simpa using h2),ih];by_cases h3:m∈L;rw[if_pos h3,if_pos (by simp[h3]),List.idxOf_cons,h4];simp;omega;rw[if_neg h3,if_neg (by simp[h3,Ne.symm h])]
theorem ua{κ:Type}[DecidableEq κ]{m:κ}:∀{L:List κ} {k:Nat},L[k]?=some m->(∀j,j<k->L[j]?≠some m)->L.idxOf m=k
 |[],k,h1,_=>by simp at h1
 |a::L,0,h1,_=>by
  have:a=m:=by simpa using h1
  subst this;simp
 |a::L,k+1,h1,h2=>by
  have hne:a≠m:=λe=>h2 0 aH (by simp[e]);have h4:(a==m)=false:=by simpa using hne
  rw[List.idxOf_cons,h4];simp only[Bool.cond_false];rw[ua (L:=L) (k:=k) (by simpa using h1) (λj hj=>by simpa using h2 (j+1) aH)]
theorem zn (hc:mK ts)(hn:ts.Nodup)(hw:∀u∈ts,u.wf) (ht:t∈ts):gL (λa b:NV=>a==b) (eJ ts).zipIdx (fM ts t)=some (ts.idxOf t):=by
 obtain⟨h1,h2⟩:=BB hc hn hw ht;rw[zm,if_pos (cD h1),ua h1 h2];rfl
theorem zo (hc:mK ts)(hw:∀u∈ts,u.wf) (htw:t.wf)(hk:∀c∈kids t,c∈ts)(ht:t∉ts):gL (λa b:NV=>a==b) (eJ ts).zipIdx (fM ts t)=none:=by
 rw[zm,if_neg];intro hm;obtain⟨k,hk2,he⟩:=cz.1 hm;exact BC hc hw htw hk ht k (by rw[bH hk2,he])
theorem DP  (hc:mK ts)(hk:∀c∈kids t,c∈ts):(eJ (ts++[t])).zipIdx=(eJ ts).zipIdx++[(fM ts t,(eJ ts).length)]:=by
 rw[mP hc hk,List.zipIdx_append];simp
theorem r0{κ ν:Type}{q:κ->κ->Bool}{L:List (κ×ν)}{a:κ}{v:ν}{x:κ}:gL q (L++[(a,v)]) x=(gL q L x).or (if q x a=true then some v else none):=by
 induction L with
 |nil=>simp[gL]
 |cons p L ih=>
  rw[List.cons_append,gL,gL,ih];split<;>simp
abbrev L4(v:Nat):aC:=aS v
structure oJ (f:List NV) (ts:List Tr) (L:List (Int×Nat)):Prop where
  at_:∀(i v:Nat),gL (λa b:Int=>a==b) L (i:Int)=some v->eA f i∈ts/\v=ts.idxOf (eA f i)
theorem oJ.nil  :oJ f ts []:=⟨λi v h=>by cases h⟩
theorem oJ.mono {us:List Tr} (h:oJ f ts L)(hp:ts<+:us):oJ f us L:=
 ⟨λi v hv=>by
  obtain⟨h1,h2⟩:=h.at_ i v hv;exact⟨hp.subset h1,by rw[h2,oW hp h1]⟩⟩
theorem oJ.ins   (h:oJ f ts L) (hm:eA f i∈ts):oJ f ts (L++[((i:Int),ts.idxOf (eA f i))]):=
 ⟨λj v hv=>by
  rw[r0]at hv;cases e:gL (λa b:Int=>a==b) L (j:Int)with
  |some u=>
   rw[e]at hv;cases hv;exact h.at_ j _ e
  |none=>
   rw[e]at hv;by_cases hq:((j:Int)==(i:Int))=true;have:i=j:=by have:=eq_of_beq hq;omega
   subst this;simp at hv;exact⟨hm,hv.symm⟩;rw[if_neg hq]at hv;cases hv⟩
theorem tW {i j:Int}{v:Nat}(h:i≠j):gL (λa b:Int=>a==b) (L++[(i,v)]) j=gL (λa b:Int=>a==b) L j:=by
 rw[r0,if_neg (by simpa using Ne.symm h)];simp
def wx(f:List NV)(n:NV)(ts:List Tr):List Tr:=if iX n.op=true then visit (eA f n.x.toNat) ts else ts
def Gw(f:List NV)(n:NV)(ts:List Tr):NV:={n with x:=if iX n.op=true then((wx f n ts).idxOf (eA f n.x.toNat):Int)else n.x}
theorem JN  (hi:i<f.length)(hO:fC f) (hc:mK ts)(hn:ts.Nodup)(hs:ts⊆trees f):
  mK (wx f f[i] ts)/\(wx f f[i] ts).Nodup/\ts<+:wx f f[i] ts/\wx f f[i] ts⊆trees f:=by
 unfold wx;split;rename_i h;have hx:=(hO i hi).x h;have hV:=kz (eA f f[i].x.toNat) hc hn;exact⟨hV.pP,hV.nd,hV.pre,lA _ hO.ord.pP (m4 aH) hs⟩;exact⟨hc,hn,dw _,hs⟩
theorem JM  (hi:i<f.length)(hO:fC f) (hc:mK ts)(hn:ts.Nodup)(hs:ts⊆trees f):
  mK (ld (eA f i) ts)/\(ld (eA f i) ts).Nodup/\ts<+:ld (eA f i) ts/\ld (eA f i) ts⊆trees f/\∀c∈kids (eA f i),c∈ld (eA f i) ts:=by
 have hm:∀c∈kids (eA f i),c∈trees f:=hO.ord.pP.mem (m4 hi);cases ht:eA f i with
 |leaf=>exact⟨hc,hn,dw _,hs,λc h=>by cases h⟩
 |un op j e g a=>
  rw[ht]at hm;have hV:=kz a hc hn;exact⟨hV.pP,hV.nd,hV.pre,lA _ hO.ord.pP (hm a (by simp[kids])) hs,λc h=>by rw[cS.1 h];exact hV.mem⟩
 |bin op j e g a b=>
  rw[ht]at hm;have hV:=kz a hc hn;have hW:=kz b hV.pP hV.nd;refine⟨hW.pP,hW.nd,hV.pre.trans hW.pre,lA _ hO.ord.pP (hm b (by simp[kids])) (lA _ hO.ord.pP (hm a (by simp[kids])) hs),λc h=>?_⟩;simp only[kids,dS,dv,ep]at h;rcases h with rfl|rfl;exact hW.pre.subset hV.mem;exact hW.mem
theorem PZ  (hi:i<f.length)(hO:fC f) (hY:ij f[i].op=false):wx f f[i] ts=ld (eA f i) ts/\Gw f f[i] ts=fM (ld (eA f i) ts) (eA f i):=by
 have hok:=hO i hi;have hy0:=hok.y0 hY;rcases iK hi hO with⟨h,ht⟩|⟨h,_,ht⟩|⟨h,_⟩;have hx0:=hok.x0 h;rw[ht];constructor;simp[wx,h,ld];simp only[Gw,h,fM];simp[hx0,hy0];rw[ht];constructor;simp[wx,h,ld];simp only[Gw,h,fM,wx,ew,ld];simp[hy0];rw[hY]at h;cases h
theorem Mf  (hi:i<f.length)(hO:fC f) (hc:mK ts)(hn:ts.Nodup)(hY:ij f[i].op=true):
  visit (eA f f[i].y.toNat) (wx f f[i] ts)=ld (eA f i) ts/\{Gw f f[i] ts with y:=((visit (eA f f[i].y.toNat) (wx f f[i] ts)).idxOf (eA f f[i].y.toNat):Int)}=fM (ld (eA f i) ts) (eA f i):=by
 have hX:=jz hY;rcases iK hi hO with⟨h,ht⟩|⟨_,h,ht⟩|⟨_,ht⟩;rw[hX]at h;cases h;rw[hY]at h;cases h;have hV:=kz (eA f f[i].x.toNat) hc hn;have hW:=kz (eA f f[i].y.toNat) hV.pP hV.nd;rw[ht];constructor;simp[wx,hX,ld];simp only[Gw,fM,wx,hX,ew,ld];rw[oW hW.pre hV.mem]
end
theorem gp{P:av}{r:ah}{f:ay}{R:aC->aB->Prop}{w0:aB}{S:aq}{Y:List (Nat×Obj)}{n:Nat}{k:al}{l:Fl}{h:Hl}{x y:Code}{α:Type}(lf:α->Fl)(hf:α->Hl)
  (hK:∀a,eB P r f R w0 S Y n (.code y::k) (lf a) (hf a))
  (hg:(∀a l h,lY (lf a) l->(∀w Y',St w0 S w h Y'->St w0 S w (hf a) Y')->eB P r f R w0 S Y n (.code y::k) l h)->eB P r f R w0 S Y n (.code x::.code y::k) l h):eB P r f R w0 S Y n (.code x::.code y::k) l h:=
 hg (λa _ _ hl hh=>(hK a).Mo hl hh)
end Go.Proofs.Wit
