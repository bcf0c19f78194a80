/- What calls return, each under its own conditions. -/
import Derived.Test.YtpbhoidjmpjfpaaGreatDoorXP44
import Derived.Test.YtpbhoidjmpjfpaaGreatDoorXP45
import Derived.Test.YtpbhoidjmpjfpaaGreatDoorXP46
import Derived.Test.YtpbhoidjmpjfpaaGreatDoorXP47
set_option maxRecDepth 100000
set_option maxHeartbeats 40000000
namespace Go.Proofs.YtpbhoidjmpjfpaaGreatDoor
open Go.RowKit Go.Proofs.Wit Tryz
theorem CC:∀k:Fin 65,(18446744073709551615#64>>>(64 - k.val))=jZ k.val:=by decide+kernel
def QO(m:MV)(n:Nat)(f:List NV):Bool:=(jN m.n m.val m.rel f==0) && (xd m n f==jZ n)
theorem JT{m:MV}{n:Nat}{f:List NV}(h:jN m.n m.val m.rel f=0):QO m n f=(xd m n f==jZ n):=by unfold QO;rw[h];rfl
theorem To{m:MV}{n:Nat}{f:List NV}(h:jN m.n m.val m.rel f≠0):QO m n f=false:=by unfold QO;rw[eB h];rfl
theorem Gn(m:MV)(n:Nat)(a:ae)(p:Nat)(f:List NV)(w:aB)(hm:m.At w)(C:m.n=(n:Int))(E:n<=64)(ha:FA w a f)(D:f.length<=maxLen):
    Qqa 18 [m.v,.slice a f.length p] w (λv _=>v=.tuple #[.bool (QO m n f),aS (jN m.n m.val m.rel f)]):=by
  refine gz func18 ?_;refine gS (gR ?_);refine ff.oE (λF=>?_)
  iterate 2 refine ij ?_
  refine gE (gS (gR ?_));refine ff.v (fh.Al rfl rfl rfl rfl isAgg50 0 rfl YT rfl) ?_;refine jk ?_;refine nr call45 (λw _ h=>(by exact Kq m n a p f w (hm.fD h.ext) C (ha.fD h.ext) D)) ?_;refine jk ?_
  iterate 2 refine Xc ?_
  iterate 2 refine ij ?_
  refine gE (gS (gR ?_));refine jk ?_;refine jO rO ?_;refine jk ?_;refine B6 16 (λh0:jN m.n m.val m.rel f=0=>?_) λh0:jN m.n m.val m.rel f≠0=>?_;refine jk ?_;refine oL Yo X4 0 ?_;refine ff.v (fh.mE (v:=aS m.n) rfl rfl rfl rfl X5 0 rfl rfl) ?_;refine kR rfl rfl rfl rfl (mj (c:=((64 - n:Nat):Int)) aH aH) ?_;refine ff.v (fh.bin (a:=U 18446744073709551615#64) rfl rfl rfl rfl (Cz (64 - n) rfl) rfl) ?_;refine jO xL ?_;refine rH ?_;refine jk ?_
  iterate 2 refine ij ?_
  refine gE ?_;refine gT func18 λw' h=>?_;exact⟨h.ext,by rw[JT h0,<-CC ⟨n,aH⟩];rfl⟩
  iterate 6 refine ov ?_
  refine qv ?_;refine jk ?_
  iterate 2 refine ij ?_
  refine gE ?_;refine gT func18 λw' h=>?_;exact⟨h.ext,by rw[To h0];rfl⟩
theorem MQ.dg{l:Int}{g:List NV}{L:List SD}(h:MQ l g L):∀x∈L,EI (Sm l (fF g) (mw (iG (fF g)) (iG (fF g)).length)) x:=by
 obtain⟨_,n,low,σ,hz,_,rfl,_⟩:=h;refine EI.nk (λx hx=>?_);exact yR _ _ _ _ hz (λx hx=>by cases hx) x (cQ hx)
theorem MQ.lines{A B:Nat}{l:Int}(D:0<=l/\l<=6){f g:List NV}{L:List SD}(h:MQ l g L)(hg:g=gh ⟨4,0,0,0,0,0⟩ [f])(hf:FT A B (fF f)):oM A B (kS fg (iG (fF g)) L).2:=by
 obtain⟨p,_⟩:=h.ok D;obtain⟨_,w,C,_,_⟩:=GM hg h.1.1;have hb:∀n,FT A B (fe (iG (fF g)) n):=O4 (fA.1 h.1.1.1).top (by rw[w];exact hf.nt);exact oM.TK hb (Q6 p (Cy p.base) hb h.dg rfl)
theorem wc(z:Int)(hz:0<=z/\z<256)(a:ae)(ca:Nat)(f:List NV)(m:MV)(w:aB)(hT:Jv w)(hX:SM w)(ha:FA w a f)(S:f.length<=maxLen)(hm:m.At w):
    Qqa 5 [.int .u8 z,.slice a f.length ca,m.v] w (λv _=>v=.bool true):=by
  obtain⟨k,rfl⟩:∃k:Nat,z=(k:Int):=⟨z.toNat,aH⟩;obtain⟨l,hld⟩:∃l:Int,l=((k%7:Nat):Int):=⟨_,rfl⟩;have J:0<=l/\l<=6:=aH;refine gz func5 ?_;refine gW ?_;refine ff.oE (λb5=>?_);refine gW ?_;refine nr call6 (λw _ p=>(by exact tM w (hX.ex p.ext))) ?_;refine gW ?_;refine jO PJ ?_;refine gW ?_;refine Uj 25 (λhc=>?_) λhc=>?_;refine gW ?_;refine sd ?_;refine gW ?_;refine nr call6 (λw _ p=>(by exact tM w (hX.ex p.ext))) ?_;refine gW ?_;refine gT func5 λw' p=>?_;exact⟨p.ext,rfl⟩;refine gW ?_;refine uB call15 (λw _ p=>(by exact Uq m 6 w (hm.fD p.ext))) ?_;rintro v w1 w2 Y' p he ⟨b2,rfl⟩;refine⟨_,p.later he,?_⟩;refine gW ?_;refine Uj 30 (λhc=>?_) λhc=>?_;refine gW ?_;refine sd ?_;refine gW ?_;refine nr call6 (λw _ p=>(by exact tM w (hX.ex p.ext))) ?_;refine gW ?_;refine gT func5 λw' p=>?_;exact⟨p.ext,rfl⟩;refine gW ?_;refine nr call16 (λw _ p=>(by exact IB m w (hm.fD p.ext))) ?_;refine jO Eo ?_;refine gW ?_;refine EL (λhc=>?_) λhck:iY m.n m.val m.rel=0=>?_;refine gW ?_;refine nr call6 (λw _ p=>(by exact tM w (hX.ex p.ext))) ?_;refine gW ?_;refine gT func5 λw' p=>?_;exact⟨p.ext,rfl⟩;have E:mK m.n m.val m.rel:=lY.1 hck;obtain⟨n,W⟩:∃n:Nat,m.n=n:=⟨m.n.toNat,by have:=E.n1;omega⟩;have hv:mK (n:Int) m.val m.rel:=W ▸ E;have O:n<=64:=by have:=hv.IU;omega
  refine gW ?_;refine ff.v (fh.conv rfl rfl rfl (UY (a:=(k:Int)) (k:=.i64) underlying5 underlying3 (IntWalk.i64_in _ aH)) rfl) ?_;refine kR rfl rfl rfl rfl (Ss hld) ?_;refine gW ?_;refine nr call17 (λw _ p=>(by exact VI m l w (hT.ex p.ext) (hm.fD p.ext))) ?_;refine gW ?_;refine EL (λhc=>?_) λhin:OT m.n m.val m.rel l=true=>?_;refine gW ?_;refine gT func5 λw' p=>?_;exact⟨p.ext,rfl⟩;have hF:P2 (tQ hv) l:=R1 hv (W ▸ hin);refine gW ?_;refine uB Ys (λw _ p=>(by exact KE a ca f w (ha.fD p.ext) S)) ?_;rintro v w1 w2 Y' p he ⟨ho,_⟩;obtain⟨g,hg⟩:∃g,g=gh ⟨4,0,0,0,0,0⟩ [f]:=⟨_,rfl⟩;have hgl:g.length<=maxLen:=by have:=HQ ⟨4,0,0,0,0,0⟩ [f];rw[<-hg]at this;unfold maxLen;omega
  rw[<-hg]at ho;obtain⟨q,cap,sp,rfl,hq,fB,hS'⟩:=fR p he ho;refine⟨_,hS',?_⟩;refine uB call7 (λw _ p=>(by exact Ig l J (q.map aP) cap g w (fZ p 0 rfl (λe=>(hq e).1)) hgl)) ?_;rintro v w1 w2 Y' p he ⟨v1,e,l',b',os,rfl,⟨qa,qo,cA,co,spa,spo,H,rfl,hqa,hqo,hnew,K⟩,hok,hno⟩;refine⟨_,p.mM (pre:=[_,_]) he hnew,?_⟩;refine gW ?_;refine ff.gO (λ_=>YV _) (λb8=>?_);refine ff.gl YN 0 ?_;refine gW ?_;refine jO Eo ?_;refine gW ?_;refine r0 (λe0:e≠0=>?_) λe0:e=0=>?_;refine gW ?_;refine gT func5 λw' p=>?_;exact⟨p.ext,rfl⟩;obtain⟨rfl,rfl,N⟩:=hok e0;have T:=N.1.1;obtain⟨X,kz⟩:=N.ok J;obtain⟨hf0,_,_,Q,_⟩:=GM hg T;obtain⟨_,_,hro⟩:=Dg hg T;obtain⟨hp,_,_⟩:=Q8 J N;have hfm:=Kn hf0 Q;have hVK:=Oa hg T X kz hF;have hbl:(iG (fF g)).length<=maxLen:=by have:=X.base.len;unfold maxLen;omega
  have Y:os.length<=maxLen:=by have:=X.len;rw[iU]at this;unfold maxLen;omega
  rw[iU]at hp;refine gW ?_;refine nr call18 (λw _ p=>(by exact Gn m n a ca f w (hm.fD p.ext) W O (ha.fD p.ext) S)) ?_;refine gW ?_;refine jO rO ?_;refine gW ?_;refine EL (λhc=>?_) λh2:jN m.n m.val m.rel f≠2=>?_;refine gW ?_;refine gT func5 λw' p=>?_;exact⟨p.ext,rfl⟩;obtain⟨hfit,h0⟩:sN f m.rel.length m.val.length=true/\jN m.n m.val m.rel f=0:=by
    rcases TJ E hfm with h|h;exact h;exact absurd h.2 h2
  have hva:QO m n f=true:=by
    rw[JT h0,xd,if_pos h0,TI hv hfm (by rw[<-W];exact h0) hVK];exact beq_self_eq_true _
  have hLs:=N.lines J hg (sK.1 hfit).2;rw[h0,hva];refine gW ?_;refine kR rfl rfl rfl rfl (wR (v:=false) rfl) ?_;refine gW ?_;refine Uj 66 (λhc=>?_) λhc=>?_;simp at hc;skip;refine gW ?_;refine nr call19 (λw _ p=>(by exact AO l' (qa.map aP) cA (iG (fF g)) (qo.map aP) co os a ca f (lk (fF g)) w (fZ p 1 rfl hqa) (C5 p 2 rfl hqo (λx hx=>⟨(K x hx).1.mono (λz hz=>by simp[hz]),(K x hx).2⟩)) (ha.fD p.ext) hbl Y S X hf0 Q hp hro)) ?_;refine kR rfl rfl rfl rfl (wR (v:=false) rfl) ?_;refine gW ?_;refine xu ?_;refine gW ?_;refine uB call9 (λw _ p=>(by exact CR l' (qa.map aP) cA (iG (fF g)) (qo.map aP) co os w (fZ p 1 rfl hqa) (C5 p 2 rfl hqo (λx hx=>⟨(K x hx).1.mono (λz hz=>by simp[hz]),(K x hx).2⟩)) hbl Y)) ?_;rintro v w1 w2 Y' p he ⟨sv,D,rfl,⟨q1,c1,s1,H1,rfl,hq1,hc1,hn1,M⟩,hx1,hx1'⟩;refine⟨_,p.mM (pre:=[_]) he hn1,?_⟩;refine gW ?_;refine jO Eo ?_;refine gW ?_;refine r0 (λh2:Fa l' (iG (fF g)) (kJ os)≠0=>?_) λh2:Fa l' (iG (fF g)) (kJ os)=0=>?_;refine gW ?_;refine jO rO ?_;refine gW ?_;refine gT func5 λw' p=>?_;exact⟨p.ext,by rw[TN X h2];rfl⟩;have hd:=hx1 h2;obtain⟨F,hlt0,_⟩:=Ko h2 hd;have hx4:=(lZ.1 F).2.2.1;obtain⟨b1q,rfl⟩:∃b,q1=some b:=by
    cases q1 with
    |none=>have:=(hq1 rfl).1;omega
    |some b=>exact⟨b,rfl⟩
  refine gW ?_;refine ff.loop (σ:=Nat) (λk=>[(5,aQ b5),(81,.slice (aR b1q) D.length c1),(82,aS D.length),(83,aS k)])
    (λ_=>(some b1q,Qc 39 D s1)::(some b5,.cells m.v.cells 50 (0,0))::H1) (λk=>k<=D.length) (λk=>D.length - k) 0 aG zT (.cons_cons _ (.cons _ (.cons _ (.cons _ (.cons _ (.cons_cons _ (bG H H1))))))) (λk hk IH=>?_);refine gW ?_;refine jO AA ?_;refine gW ?_;refine Xd (λC:k<D.length=>?_) λhc=>?_;have P:=wA F k C;have hE:jN m.n m.val m.rel D[k].f.f=0:=A9 E P (K0 X hLs hd F C);have hvk:QO m n D[k].f.f=true:=by
    rw[JT hE,xd,if_pos hE,GF hv P (by rw[<-W];exact hE) (sound hF F k C)];exact beq_self_eq_true _
  refine gW ?_;refine ff.v (fh.gk YU YR (k) ⟨rfl,C⟩) ?_;refine ff.v (fh.lE (cs:=LV.cells D[k]) isAgg39 YR (λw _ p=>Sl.many (enc:=LV.cells) (sz:=5) (K7 p 0 rfl aK (λx hx=>⟨(M x hx).1.mono (λz hz=>by simp[hz]),(M x hx).2⟩)).at_ (λ_=>rfl) C)) ?_;refine ff.gO (λ_=>zeroValue39 _) (λb15=>?_);refine ff.gl YR 0 ?_;refine gW ?_;refine nr call18 (λw _ p=>(by have:=Gn m n D[k].f.a D[k].f.c D[k].f.f w (hm.fD p.ext) W O (((M D[k] (dL C)).1.mono (λz hz=>by simp[hz])).at p) (M D[k] (dL C)).2;rw[hE,hvk]at this;exact this)) ?_;refine gW ?_;refine kR rfl rfl rfl rfl (wR (v:=false) rfl) ?_;refine gW ?_;refine ff.cond rfl (λhc=>by exfalso;simp at hc) (λ_=>?_);refine gW ?_;refine mV ?_;refine gW ?_;exact IH (k+1) _ _ C aH zT (.cons _ aD);skip;refine kk ?_;refine gW ?_;refine gT func5 λw' p=>?_;exact⟨p.ext,rfl⟩
end Go.Proofs.YtpbhoidjmpjfpaaGreatDoor
