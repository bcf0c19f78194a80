/- Laws of walks, each under its own conditions. -/
import Derived.Test.YtpbhoidjmpjfpaaGreatDoorXP26
set_option maxRecDepth 100000
set_option maxHeartbeats 40000000
namespace Go.Proofs.Wit
open Go Go.RowKit
section
variable{b:List NV}{y:SD}
section
variable{c:TC}{s:fi}
theorem pY {s t:fi}(hs:jw b s)(ht:jw b t):jw b (s|||t):=λk h=>by
 rw[du,dV]at h;exact h.elim (hs k) (ht k)
theorem oS (hb:b.length<=64){i:Int}(h:0<=i/\i<b.length):jw b (bW i):=λk hk=>by
 have:=(rN aH).1 hk;omega
theorem DN {l:Int}(hb:fS b){s:fi}{ag:Int}:jw b (m4 l b s ag):=λk hk=>by
 obtain⟨i,h1,h2,h3,h4⟩:=(oz hb).1 hk;rcases h4 with⟨h4,h5⟩|⟨h4,h5⟩;have:=hb.x h1 aH;omega;omega
theorem Ec(hc:CG c)(hs:jw c.b s) (e:og c s=some y)(ss:List SD):y.set=s/\jr c.l c.b ss ss.length y:=by
 unfold og at e;obtain⟨i,hi,e⟩:=aT e;have hi:=eD.1 hi;by_cases h:ga s i=true;rw[if_pos h]at e;by_cases h2:(c.n i).op=2;rw[if_pos h2]at e;cases e;exact⟨rfl,hs,.inl ⟨rfl,rfl,.inl ⟨⟨by simpa using hi,h,h2⟩,rfl⟩⟩⟩;rw[if_neg h2]at e;by_cases h3:ga s (c.m i)=true;rw[if_pos h3]at e;cases e;exact⟨rfl,hs,.inl ⟨rfl,rfl,.inr ⟨h,by simpa using hi,h3,(hc.ng i hi).symm⟩⟩⟩;rw[if_neg h3]at e;cases e;rw[if_neg h]at e;cases e
theorem zf(hc:CG c)(hs:jw c.b s) {xs:List fi}(e:lD c s=some (y,xs)):y.set=s/\(∀x∈xs,jw c.b x)/\∀(ss:List SD) fs,CL ss fs xs->jr c.l c.b ss ss.length {y with fr:=fs}:=by
 have hl:=hc.base.len;unfold lD at e;split at e;rename_i r er;cases e;obtain⟨i,hi,e⟩:=aT er;have hi:=eD.1 hi;simp only at e;split at e;rename_i h;cases e;have hx:=hc.base.x hi (by have:=h.2.1;unfold TC.n at this;omega);have hy:=hc.base.y hi (.inl (by have:=h.2.1;unfold TC.n at this;exact this));refine⟨rfl,λx hx'=>?_,λss fs hg=>⟨hs,.inr (.inl ⟨rfl,rfl,⟨by simpa using hi,h.1,h.2.1⟩,hg.pre⟩)⟩⟩;rw[dn]at hx';subst hx';exact pY (pY hs (oS hl (by unfold TC.n;omega))) (oS hl (by unfold TC.n;omega));split at e;rename_i h;cases e;have hx:=hc.base.x hi (by have:=h.2.1;unfold TC.n at this;omega);refine⟨rfl,λx hx'=>?_,λss fs hg=>⟨hs,.inr (.inr (.inr (.inr (.inl ⟨rfl,rfl,?_,⟨by simpa using hi,h.1,h.2.1⟩,hg.pre⟩))))⟩⟩;rw[dn]at hx';subst hx';exact pY hs (oS hl (by unfold TC.n;omega));have:=h.2.2.1;simp[TC.GG]at this;omega;cases e;obtain⟨i,hi,e⟩:=aT e;have hi:=eD.1 hi;simp only at e;split at e;rename_i h;cases e;have hx:=hc.base.x hi (by have:=h.2.1;unfold TC.n at this;omega);have hy:=hc.base.y hi (.inr (by have:=h.2.1;unfold TC.n at this;exact this));refine⟨rfl,λx hx'=>?_,λss fs hg=>⟨hs,.inr (.inr (.inl ⟨rfl,rfl,⟨by simpa using hi,h.1,h.2.1⟩,hg.pre⟩))⟩⟩;rcases eH.1 hx' with rfl|hx';exact pY hs (oS hl (by unfold TC.n;omega));rw[dn]at hx';subst hx';exact pY hs (oS hl (by unfold TC.n;omega));split at e;rename_i h;cases e;have hk:=hc.kn i hi h.2.1
 refine⟨rfl,λx hx'=>?_,λss fs hg=>⟨hs,.inr (.inr (.inr (.inl ⟨rfl,⟨by simp,by simpa using hi⟩,hk.1,(hc.ng i hi).symm,hg.pre⟩)))⟩⟩;rcases eH.1 hx' with rfl|hx';exact pY hs (oS hl aH);rw[dn]at hx';subst hx';exact pY hs (oS hl aH);cases e
theorem tf(hc:CG c)(hs:jw c.b s) {x:fi}(h:(y,x)∈jP c s):y.set=s/\jw c.b x/\∀(ss:List SD) n,CL ss [n] [x]->jr c.l c.b ss ss.length {y with fr:=[n]}:=by
 have hl:=hc.base.len;unfold jP at h;rcases ed.1 h with h|h;obtain⟨i,hi,e⟩:=dk.1 h;have hi:=eD.1 hi;split at e;rename_i hh;cases e;have hx:=hc.base.x hi (by have:=hh.2;unfold TC.n at this;omega);exact⟨rfl,pY (oS hl (by unfold TC.n;omega)) (DN hc.base),λss n hg=>⟨hs,.inr (.inr (.inr (.inr (.inr (.inl ⟨rfl,rfl,⟨by simpa using hi,hh.1,hh.2⟩,hg.pre⟩)))))⟩⟩;cases e;obtain⟨a,ha,e⟩:=dk.1 h;have ha:=eD.1 ha;split at e;rename_i hh;cases e;exact⟨rfl,DN hc.base,λss n hg=>⟨hs,.inr (.inr (.inr (.inr (.inr (.inr ⟨rfl,rfl,hh.2,⟨by simp,by show(a:Int)<4;omega⟩,hg.pre⟩)))))⟩⟩;cases e
end
end
section
variable{ss:List SD}{s:fi}
theorem wg {y:SD}:gN (ss++[y]) (ss.length:Int)=y.set:=by
 unfold gN;rw[ec,aY,aZ aL];simp
theorem IP  {n:Nat}(h:pg ss s=some n):n<ss.length/\gN ss n=s:=by
 unfold pg at h;obtain⟨h1,h2,_⟩:=List.findIdx?_eq_some_iff_getElem.1 h;refine⟨h1,?_⟩;unfold gN;rw[aY,dB];simpa[h1]using h2
theorem AV  (h:pg ss s=none):∀y∈ss,y.set≠s:=λy hy e=>by
 unfold pg at h;rw[bt]at h;have:=h y hy;simp[e]at this
section
variable{c:TC}
theorem Kept.add{path:List fi}{s:fi}{σ σ1:TS}{y:SD}(h:Kept c (path++[s]) σ σ1)(hy:y.set=s)(hn:∀x∈σ.ss,x.set≠s)(hp:s∉path)(hcor:jr c.l c.b σ1.ss σ1.ss.length y)(op:List fi):Kept c path σ ⟨σ1.ss++[y],op⟩:=by
 obtain⟨ys,e,h1⟩:=h.ext;refine⟨h.ok.add hcor (λx hx=>?_),ys++[y],by rw[e,dA],λx hx=>?_⟩;rw[hy];rw[e]at hx;rcases ed.1 hx with hx|hx;exact hn x hx;exact λe=>h1 x hx (by rw[e];simp);rcases ed.1 hx with hx|hx;exact λhm=>h1 x hx (cK _ hm);rw[dn]at hx;rw[hx,hy];exact hp
theorem Kept.Tn{path:List fi} {σ σ1:TS}(h:Kept c (path++[s]) σ σ1)(op:List fi):Kept c path σ ⟨σ1.ss,op⟩:=by
 obtain⟨ys,e,h1⟩:=h.ext;exact⟨h.ok,ys,e,λy hy hm=>h1 y hy (cK _ hm)⟩
theorem FM(hc:CG c){path:List fi}{r:TS->fi->Option ((Int×Int)×TS)} (hr:Bt c (path++[s]) r){σ σ1:TS}{d:Nat}{n low:Int}(h:rP c σ.ss)(hs:jw c.b s)(hn:∀x∈σ.ss,x.set≠s)(hp:s∉path)
  (e:jH c r d s σ=some ((n,low),σ1)):Kept c path σ σ1/\WX σ1.ss n s:=by
 unfold jH at e;cases e1:lD c s with
 |some q=>
  obtain⟨y,xs⟩:=q;rw[e1]at e;simp only at e;obtain⟨hy,hx,hcor⟩:=zf hc hs e1;cases e2:pN r xs [] σ with
  |none=>rw[e2]at e;cases e
  |some q=>
   obtain⟨z,σ2⟩:=q;rw[e2]at e;obtain⟨k1,g1⟩:=H6 hr h hx (fr:=[]) (done:=[]) (by exact True.intro) e2;cases z with
   |inl lw=>simp only at e;cases e;exact⟨k1.Tn _,.inl rfl⟩
   |inr fs=>
    simp only at e;cases e;refine⟨k1.add (by exact hy) hn hp (hcor _ _ (by simpa using g1 fs rfl)) _,.inr ⟨by simp,by simp;omega,?_⟩⟩;rw[wg];exact hy
 |none=>
  rw[e1]at e;simp only at e;cases e2:pD r (jP c s) (d+1) σ with
  |none=>rw[e2]at e;cases e
  |some q=>
   obtain⟨z,σ2⟩:=q;rw[e2]at e;obtain⟨k1,g1⟩:=HZ hr h (λx hx=>(tf hc hs (show(x.1,x.2)∈_ from hx)).2.1) e2;cases z with
   |inl lw=>simp only at e;cases e;exact⟨k1.Tn _,.inl rfl⟩
   |inr y=>
    simp only at e;cases e;obtain⟨y0,m,x,hm,rfl,hg⟩:=g1 y rfl;obtain⟨hy,_,hcor⟩:=tf hc hs hm;refine⟨k1.add (by exact hy) hn hp (hcor _ _ hg) _,.inr ⟨by simp,by simp;omega,?_⟩⟩;rw[wg];exact hy
theorem nX(hc:CG c):∀(k:Nat) (path:List fi),Bt c path (ie c k path)
 |0,_,_,_,_,_,_,_,_,e=>by cases e
 |k+1,path,σ,s,n,low,σ1,h,hs,e=>by
  rw[ie]at e;cases e1:pg σ.ss s with
  |some m=>
   rw[e1]at e;simp only at e;cases e;have:=IP e1;exact⟨.refl h,.inr ⟨by simp,by simpa using this.1,this.2⟩⟩
  |none=>
   rw[e1]at e;simp only at e;by_cases h1:s∈σ.op;rw[if_pos h1]at e;cases e;exact⟨.refl h,.inl rfl⟩;rw[if_neg h1]at e;cases e2:path.findIdx? (·==s)with
   |some a=>rw[e2]at e;simp only at e;cases e;exact⟨.refl h,.inl rfl⟩
   |none=>
    rw[e2]at e;simp only at e;have hp:s∉path:=λhm=>by
     rw[bt]at e2;have:=e2 s hm;simp at this
    have hn:=AV e1;cases e3:og c s with
    |some y=>
     rw[e3]at e;simp only at e;cases e;obtain⟨hy,hcor⟩:=Ec hc hs e3 σ.ss;exact⟨(Kept.refl (path:=path++[s]) h).add hy hn hp hcor _,.inr ⟨by simp,by simp;omega,by rw[wg];exact hy⟩⟩
    |none=>
     rw[e3]at e;simp only at e;cases e4:jH c (ie c k (path++[s])) path.length s σ with
     |none=>rw[e4]at e;cases e
     |some q=>
      obtain⟨⟨m,lw⟩,σ2⟩:=q;rw[e4]at e;simp only at e;cases e;obtain⟨k1,a1⟩:=FM hc (nX hc k (path++[s])) h hs hn hp e4;split;exact⟨⟨k1.ok,k1.ext⟩,a1⟩;exact⟨k1,a1⟩
theorem OQ{b:List NV} (h:jw b s):s.toNat<2^b.length:=
 Nat.lt_pow_two_of_testBit _ λi hi=>by
  cases e:s.toNat.testBit i with
  |false=>rfl
  |true=>have:=h i (by rw[BitVec.getLsbD];exact e);omega
theorem yK{b:List NV}{l:List fi}(hn:l.Nodup)(hi:∀s∈l,jw b s):l.length<=2^b.length:=by
 have h1:(l.map BitVec.toNat).Nodup:=List.pairwise_map.2 (hn.imp λh e=>h (BitVec.eq_of_toNat_eq e));have:=h1.length_le_of_subset (l₂:=List.range (2^b.length)) (λx hx=>by
  obtain⟨s,hs,rfl⟩:=eL.1 hx;exact eD.2 (OQ (hi s hs)));simpa using this
theorem Bq{path:List fi}{r:TS->fi->Option ((Int×Int)×TS)}(hk:Bt c path r)(hr:∀σ s,rP c σ.ss->jw c.b s->∃z,r σ s=some z):∀{xs:List fi} {fr:ar} {σ:TS},rP c σ.ss->(∀x∈xs,jw c.b x)->∃z,pN r xs fr σ=some z
 |[],_,_,_,_=>⟨_,rfl⟩
 |x::xs,fr,σ,h,hx=>by
  obtain⟨⟨⟨n,low⟩,σ1⟩,e⟩:=hr σ x h (hx x aF);unfold pN;rw[e];simp only;by_cases hn:n<0;rw[if_pos hn];exact⟨_,rfl⟩;rw[if_neg hn];exact Bq hk hr (hk _ _ _ _ _ h (hx x aF) e).1.ok (λy hy=>hx y (cM _ hy))
theorem Bp{path:List fi}{r:TS->fi->Option ((Int×Int)×TS)}(hk:Bt c path r)(hr:∀σ s,rP c σ.ss->jw c.b s->∃z,r σ s=some z):∀{xs:List (SD×fi)} {low:Int} {σ:TS},rP c σ.ss->(∀x∈xs,jw c.b x.2)->∃z,pD r xs low σ=some z
 |[],_,_,_,_=>⟨_,rfl⟩
 |(y,x)::xs,low,σ,h,hx=>by
  obtain⟨⟨⟨n,lw⟩,σ1⟩,e⟩:=hr σ x h (hx (y,x) aF);unfold pD;rw[e];simp only;by_cases hn:0<=n;rw[if_pos hn];exact⟨_,rfl⟩;rw[if_neg hn];exact Bp hk hr (hk _ _ _ _ _ h (hx (y,x) aF) e).1.ok (λz hz=>hx z (cM _ hz))
theorem u7(hc:CG c):∀(m:Nat) (path:List fi),path.Nodup->(∀p∈path,jw c.b p)->2^c.b.length<path.length+m->∀σ s,rP c σ.ss->jw c.b s->∃z,ie c m path σ s=some z
 |0,path,hn,hi,hm,_,_,_,_=>by have:=yK hn hi;omega
 |m+1,path,hn,hi,hm,σ,s,h,hs=>by
  rw[ie];cases e1:pg σ.ss s with
  |some n=>exact⟨_,rfl⟩
  |none=>
   simp only;by_cases h1:s∈σ.op;rw[if_pos h1];exact⟨_,rfl⟩;rw[if_neg h1];cases e2:path.findIdx? (·==s)with
   |some a=>exact⟨_,rfl⟩
   |none=>
    simp only;have hp:s∉path:=λhm=>by
     rw[bt]at e2;have:=e2 s hm;simp at this
    cases e3:og c s with
    |some y=>exact⟨_,rfl⟩
    |none=>
     simp only;have hr:=u7 hc m (path++[s]) (by rw[dC];exact⟨hn,by simp,λa ha b hb=>by rw[dn]at hb;rw[hb];exact λe=>hp (e ▸ ha)⟩)
      (λp hp=>by rcases ed.1 hp with hp|hp;exact hi p hp;rw[dn]at hp;rw[hp];exact hs) aN;have hk:=nX hc m (path++[s]);have:∃z,jH c (ie c m (path++[s])) path.length s σ=some z:=by
      unfold jH;cases e4:lD c s with
      |some q=>
       obtain⟨y,xs⟩:=q;obtain⟨⟨z,σ1⟩,e5⟩:=Bq hk hr (fr:=[]) h (zf hc hs e4).2.1;simp only[e5];cases z<;>exact⟨_,rfl⟩
      |none=>
       obtain⟨⟨z,σ1⟩,e5⟩:=Bp hk hr (low:=(path.length:Int)+1) h (λx hx=>(tf hc hs (show(x.1,x.2)∈jP c s from hx)).2.1);simp only[e5];cases z<;>exact⟨_,rfl⟩
     obtain⟨⟨⟨n,low⟩,σ1⟩,e4⟩:=this;rw[e4];exact⟨_,rfl⟩
end
end
section
variable{k:Nat}
noncomputable def JC(ss:List SD)(x:SD):SD:={x with fr:=x.fr.map (λj=>((gq (iS ss) j.toNat:Nat):Int))}
noncomputable def wx(ss:List SD):Nat->List SD
 |0=>[]
 |k+1=>match ss[k]? with
  |some x=>if iS ss k=true then wx ss k++[JC ss x]else wx ss k
  |none=>wx ss k
noncomputable def v5(ss:List SD):List SD:=wx ss ss.length
section
variable{l:Int}{b:List NV}{ss:List SD}
theorem tG (hk:k<ss.length):wx ss (k+1)=if iS ss k=true then wx ss k++[JC ss ss[k]]else wx ss k:=by
 rw[wx,bJ hk]
theorem sC:∀{k:Nat},k<=ss.length->(wx ss k).length=gq (iS ss) k
 |0,_=>by simp[wx,gq]
 |k+1,h=>by
  have h1:=sC (k:=k) aH;rw[tG aH,lB];split<;>simp[h1]
theorem GY{j:Nat}(hn:iS ss j=true):∀{k:Nat},k<=ss.length->j<k->∀hj:j<ss.length,(wx ss k)[gq (iS ss) j]?=some (JC ss ss[j])
 |0,_,h,_=>aH
 |k+1,h,h2,hj=>by
  rw[tG aH];by_cases e:j=k;subst e;rw[if_pos hn,aZ (by rw[sC aH];exact eR _),sC aH];simp;have h3:=GY hn (k:=k) aH aH hj;split;rw[bu (bB.1 h3).1];exact h3;exact h3
theorem GZ:(v5 ss).length=gq (iS ss) ss.length:=sC (eR _)
theorem KJ (hk:k<ss.length)(hn:iS ss k=true):∃hc:gq (iS ss) k<(v5 ss).length,(v5 ss)[gq (iS ss) k]=JC ss ss[k]:=
 bB.1 (GY hn (eR _) hk hk)
theorem KI{q:Nat}(hq:q<(v5 ss).length):∃(k:Nat) (hk:k<ss.length),iS ss k=true/\gq (iS ss) k=q/\(v5 ss)[q]=JC ss ss[k]:=by
 rw[GZ]at hq;obtain⟨k,h1,h2,h3⟩:=Mj hq;subst h3;exact⟨k,h1,h2,rfl,(KJ h1 h2).2⟩
theorem GC (hk:k<ss.length)(hn:iS ss k=true):gN (v5 ss) (gq (iS ss) k:Nat)=gN ss k:=by
 obtain⟨h1,h2⟩:=KJ hk hn;rw[jx h1,h2,jx hk];rfl
theorem GO{k:Nat}:∀{fs:ar} {us:List fi},(∀j∈fs,0<=j->j.toNat<k->j.toNat<ss.length/\iS ss j.toNat=true/\gq (iS ss) j.toNat<gq (iS ss) k)->kV ss k fs us->
  kV (v5 ss) (gq (iS ss) k) (fs.map (λj=>((gq (iS ss) j.toNat:Nat):Int))) us
 |[],[],_,_=>eZ
 |f::fs,u::us,hf,h=>by
  obtain⟨h1,h2,h3⟩:=hf f aF h.1.1.1 (by have:=h.1.1;omega);refine⟨⟨⟨by show(0:Int)<=(gq (iS ss) f.toNat:Nat);omega,by show((gq (iS ss) f.toNat:Nat):Int)<_;omega⟩,?_⟩,GO (λj hj=>hf j (cM _ hj)) h.2⟩;rw[GC h1 h2];have:=h.1.2;rwa[show((f.toNat:Nat):Int)=f by have:=h.1.1;omega]
 |[],_::_,_,h=>h.elim
 |_::_,[],_,h=>h.elim
theorem Rn(hc:∀(k:Nat) (hk:k<ss.length),jr l b ss k ss[k]) (hk:k<ss.length)(hn:iS ss k=true):jr l b (v5 ss) (gq (iS ss) k) (JC ss ss[k]):=by
 have h:=hc k hk;have hp:∀us,kV ss k ss[k].fr us->kV (v5 ss) (gq (iS ss) k) (JC ss ss[k]).fr us:=λus h=>by
  refine GO (λj hj h0 hlt=>?_) h;have h1:iS ss j.toNat=true:=me.2 (.fr hk (me.1 hn) (by rwa[show((j.toNat:Nat):Int)=j by omega]));exact⟨aH,h1,HF hlt h1⟩
 refine⟨h.1,?_⟩;rcases h.2 with⟨h1,h2,h3⟩|⟨a,b1,c,d⟩|⟨a,b1,c,d⟩|⟨a,b1,c,d,e⟩|⟨a,b1,c,d,e⟩|⟨a,b1,c,d⟩|⟨a,b1,c,d,e⟩;exact .inl ⟨h1,by unfold JC;simp[h2],h3⟩;exact .inr (.inl ⟨a,b1,c,hp _ d⟩);exact .inr (.inr (.inl ⟨a,b1,c,hp _ d⟩));exact .inr (.inr (.inr (.inl ⟨a,b1,c,d,hp _ e⟩)));exact .inr (.inr (.inr (.inr (.inl ⟨a,b1,c,d,hp _ e⟩))));exact .inr (.inr (.inr (.inr (.inr (.inl ⟨a,b1,c,hp _ d⟩)))));exact .inr (.inr (.inr (.inr (.inr (.inr ⟨a,b1,c,d,hp _ e⟩)))))
theorem TY(hl:0<=l/\l<=6)(hb:fS b)(hc:∀(k:Nat) (hk:k<ss.length),jr l b ss k ss[k])(h0:0<ss.length)(hm:(v5 ss).length<=4096):kQ l b (v5 ss)/\gN (v5 ss) ((v5 ss).length - 1:Nat)=gN ss (ss.length - 1:Nat):=by
 have hlast:iS ss (ss.length - 1)=true:=me.2 (.last aH);have hlen:(v5 ss).length=gq (iS ss) (ss.length - 1)+1:=by
  rw[GZ,show ss.length=ss.length - 1+1 by omega,lB,if_pos (by simpa using hlast)];simp
 refine⟨⟨hl,hb,aH,hm,λq hq=>?_⟩,?_⟩;obtain⟨k,hk,hn,rfl,e⟩:=KI hq;rw[e];exact Rn hc hk hn;rw[hlen];exact GC aH hlast
theorem Jh{n:Nat}(hk:k<n)(hn:n<=ss.length){x:SD}(h:jr l b ss k x):jr l b (ss.take n) k x:=by
 have hp:∀us,kV ss k x.fr us->kV (ss.take n) k x.fr us:=by
  intro us;generalize x.fr=fs
  induction fs generalizing us with
  |nil=>cases us with
   |nil=>exact λh=>h
   |cons _ _=>exact λh=>h.elim
  |cons f fs ih=>cases us with
   |nil=>exact λh=>h.elim
   |cons u us=>
    intro h;refine⟨⟨h.1.1,?_⟩,ih us h.2⟩;have h2:=h.1.2;have h3:f.toNat<(ss.take n).length:=by have:=h.1.1;simp;omega
    have:=u0 (ss:=ss.take n) (ys:=ss.drop n) (k:=f) h3;rw[List.take_append_drop]at this;rwa[<-this]
 refine⟨h.1,?_⟩;rcases h.2 with h|⟨a,b1,c,d⟩|⟨a,b1,c,d⟩|⟨a,b1,c,d,e⟩|⟨a,b1,c,d,e⟩|⟨a,b1,c,d⟩|⟨a,b1,c,d,e⟩;exact .inl h;exact .inr (.inl ⟨a,b1,c,hp _ d⟩);exact .inr (.inr (.inl ⟨a,b1,c,hp _ d⟩));exact .inr (.inr (.inr (.inl ⟨a,b1,c,d,hp _ e⟩)));exact .inr (.inr (.inr (.inr (.inl ⟨a,b1,c,d,hp _ e⟩))));exact .inr (.inr (.inr (.inr (.inr (.inl ⟨a,b1,c,hp _ d⟩)))));exact .inr (.inr (.inr (.inr (.inr (.inr ⟨a,b1,c,d,hp _ e⟩)))))
end
end
section
variable{e g i op:Int}{a:Tr}
theorem Hm (h:op=5\/op=6)(hf:kG op i e g=0):i=0/\e=0/\g=0:=by
 unfold kG at hf;split at hf;exact absurd hf aI;rename_i hc;rcases h with rfl|rfl<;>simp[iO,ui,rZ]at hc<;>omega
theorem LI (h:op=9\/op=10)(hf:kG op i e g=0):e=0/\g=0:=by
 unfold kG at hf;split at hf;exact absurd hf aI;rename_i hc;rcases h with rfl|rfl<;>simp[iO,ui,rZ]at hc<;>omega
theorem D3 (h:op=1\/op=2)(hf:kG op i e g=0):i=0/\e=0/\g=0:=by
 unfold kG at hf;split at hf;exact absurd hf aI;rename_i hc;rcases h with rfl|rfl<;>simp[iO,ui,rZ]at hc<;>omega
theorem pW:∀{t:Tr},t.ok->jE (λop _ _=>op<=10) t->(fC (fC t).1).2=(fC t).2/\(fC (fC t).2).2=(fC t).1
 |.leaf op i e g,hok,hl=>by
  have h1:op<=10:=hl;rw[fC];dsimp only;by_cases h2:op=1;subst h2;obtain⟨rfl,rfl,rfl⟩:=D3 (.inl rfl) hok.2.2;exact⟨rfl,rfl⟩;by_cases h3:op=2;subst h3;obtain⟨rfl,rfl,rfl⟩:=D3 (.inr rfl) hok.2.2;exact⟨rfl,rfl⟩;rw[if_neg h2,if_neg h3];refine⟨by rw[fC,if_neg h2,if_neg h3],?_⟩;rw[fU,fC,if_pos rfl,fC]
 |.un op i e g a,hok,hl=>by
  have ih:=pW hok.2.2.2.2 hl.2;have h1:op<=10:=hl.1;have hop:op=4\/op=9\/op=10:=by have h2:=hok.1;have h3:=hok.2.1;have h4:=hok.2.2.1;unfold ji at h3;unfold iM at h4;simp at h3 h4;omega
  rcases hop with rfl|rfl|rfl;rw[fC,if_pos rfl];exact⟨ih.2,ih.1⟩;obtain⟨rfl,rfl⟩:=LI (.inl rfl) hok.2.2.2.1;rw[fC,if_neg aI,if_pos rfl];refine⟨by rw[fC,if_neg aI,if_pos rfl,ih.1],by rw[fC,if_neg aI,if_neg aI,if_pos rfl,ih.2]⟩;obtain⟨rfl,rfl⟩:=LI (.inr rfl) hok.2.2.2.1;rw[fC,if_neg aI,if_neg aI,if_pos rfl];refine⟨by rw[fC,if_neg aI,if_neg aI,if_pos rfl,ih.1],by rw[fC,if_neg aI,if_pos rfl,ih.2]⟩
 |.bin op i e g a b,hok,hl=>by
  have iha:=pW hok.2.2.2.1 hl.2.1;have ihb:=pW hok.2.2.2.2 hl.2.2;have h1:op<=10:=hl.1;have hop:op=5\/op=6\/op=7\/op=8:=by have h2:=hok.1;have h3:=hok.2.1;unfold iM at h3;simp at h3;omega
  rcases hop with rfl|rfl|rfl|rfl;obtain⟨rfl,rfl,rfl⟩:=Hm (.inl rfl) hok.2.2.1;rw[fC,if_pos rfl];refine⟨by rw[fC,if_pos rfl,iha.1,ihb.1],by rw[fC,if_neg aI,if_pos rfl,iha.2,ihb.2]⟩;obtain⟨rfl,rfl,rfl⟩:=Hm (.inr rfl) hok.2.2.1;rw[fC,if_neg aI,if_pos rfl];refine⟨by rw[fC,if_neg aI,if_pos rfl,iha.1,ihb.1],by rw[fC,if_pos rfl,iha.2,ihb.2]⟩;rw[fC,if_neg aI,if_neg aI,if_pos rfl];refine⟨by rw[fC,if_neg aI,if_pos rfl,iha.2,ihb.1],by rw[fC,if_pos rfl,iha.1,ihb.2]⟩;rw[fC,if_neg aI,if_neg aI,if_neg aI,if_pos rfl];have q6:∀x y:Tr,(fC (.bin 6 0 0 0 x y)).2=.bin 5 0 0 0 (fC x).2 (fC y).2:=λx y=>by rw[fC,if_neg aI,if_pos rfl]
  have q5:∀x y:Tr,(fC (.bin 5 0 0 0 x y)).2=.bin 6 0 0 0 (fC x).2 (fC y).2:=λx y=>by rw[fC,if_pos rfl]
  refine⟨by simp only[q5,q6,iha.1,iha.2,ihb.1,ihb.2],by simp only[q5,q6,iha.1,iha.2,ihb.1,ihb.2]⟩
theorem r8.kv{p q:Tr->Prop}(h:∀u,p u->q u):∀{t:Tr},r8 p t->r8 q t
 |.leaf ..,ht=>h _ ht
 |.un ..,ht=>⟨h _ ht.1,r8.kv h ht.2⟩
 |.bin ..,ht=>⟨h _ ht.1,r8.kv h ht.2.1,r8.kv h ht.2.2⟩
abbrev Jx(P N u:Tr):Prop:=(fC u).2∈iu P\/(fC u).2∈iu N
theorem Jx.mono{P N P' N' u:Tr}(h:Jx P N u)(h1:iu P⊆iu P'\/iu P⊆iu N')(h2:iu N⊆iu P'\/iu N⊆iu N'):Jx P' N' u:=by
 rcases h with h|h;exact h1.elim (λg=>.inl (g h)) (λg=>.inr (g h));exact h2.elim (λg=>.inl (g h)) (λg=>.inr (g h))
theorem j6 {b:Tr}:iu a⊆iu (.bin op i e g a b):=uU (by simp[kids])
theorem j5 {b:Tr}:iu b⊆iu (.bin op i e g a b):=uU (by simp[kids])
theorem wY  :iu a⊆iu (.un op i e g a):=uU (by simp[kids])
theorem BV:∀{t:Tr},t.ok->jE (λop _ _=>op<=10) t->r8 (Jx (fC t).1 (fC t).2) (fC t).1/\r8 (Jx (fC t).1 (fC t).2) (fC t).2
 |.leaf op i e g,hok,hl=>by
  have hd:=pW hok hl;have s1:Jx (fC (.leaf op i e g)).1 (fC (.leaf op i e g)).2 (fC (.leaf op i e g)).1:=.inr (by rw[hd.1];exact lx _);have s2:Jx (fC (.leaf op i e g)).1 (fC (.leaf op i e g)).2 (fC (.leaf op i e g)).2:=.inl (by rw[hd.2];exact lx _);refine⟨s1,?_⟩;by_cases h2:op=1;have e2:(fC (.leaf op i e g)).2=cT 2:=by rw[fC];simp[h2]
  rw[e2]at s2⊢;exact s2;by_cases h3:op=2;have e2:(fC (.leaf op i e g)).2=cT 1:=by rw[fC];simp[h3]
  rw[e2]at s2⊢;exact s2;have e2:(fC (.leaf op i e g)).2=fU (.leaf op i e g):=by rw[fC];simp[h2,h3]
  rw[e2]at s1 s2⊢;exact⟨s2,s1⟩
 |.un op i e g a,hok,hl=>by
  have hd:=pW hok hl;have ih:=BV hok.2.2.2.2 hl.2;have h1:op<=10:=hl.1;have hop:op=4\/op=9\/op=10:=by have h2:=hok.1;have h3:=hok.2.1;have h4:=hok.2.2.1;unfold ji at h3;unfold iM at h4;simp at h3 h4;omega
  have s1:Jx (fC (.un op i e g a)).1 (fC (.un op i e g a)).2 (fC (.un op i e g a)).1:=.inr (by rw[hd.1];exact lx _);have s2:Jx (fC (.un op i e g a)).1 (fC (.un op i e g a)).2 (fC (.un op i e g a)).2:=.inl (by rw[hd.2];exact lx _);rcases hop with rfl|rfl|rfl;have e1:fC (.un 4 i e g a)=((fC a).2,(fC a).1):=by rw[fC,if_pos rfl]
  rw[e1];exact⟨ih.2.kv λu h=>h.symm,ih.1.kv λu h=>h.symm⟩;have e1:fC (.un 9 i e g a)=(.un 9 i e g (fC a).1,.un 10 i 0 0 (fC a).2):=by rw[fC,if_neg aI,if_pos rfl]
  rw[e1]at s1 s2⊢;exact⟨⟨s1,ih.1.kv λu h=>h.mono (.inl wY) (.inr wY)⟩,⟨s2,ih.2.kv λu h=>h.mono (.inl wY) (.inr wY)⟩⟩;have e1:fC (.un 10 i e g a)=(.un 10 i e g (fC a).1,.un 9 i 0 0 (fC a).2):=by rw[fC,if_neg aI,if_neg aI,if_pos rfl]
  rw[e1]at s1 s2⊢;exact⟨⟨s1,ih.1.kv λu h=>h.mono (.inl wY) (.inr wY)⟩,⟨s2,ih.2.kv λu h=>h.mono (.inl wY) (.inr wY)⟩⟩
 |.bin op i e g a b,hok,hl=>by
  have hd:=pW hok hl;have iha:=BV hok.2.2.2.1 hl.2.1;have ihb:=BV hok.2.2.2.2 hl.2.2;have da:=pW hok.2.2.2.1 hl.2.1;have db:=pW hok.2.2.2.2 hl.2.2;have h1:op<=10:=hl.1;have hop:op=5\/op=6\/op=7\/op=8:=by have h2:=hok.1;have h3:=hok.2.1;unfold iM at h3;simp at h3;omega
  have s1:Jx (fC (.bin op i e g a b)).1 (fC (.bin op i e g a b)).2 (fC (.bin op i e g a b)).1:=.inr (by rw[hd.1];exact lx _);have s2:Jx (fC (.bin op i e g a b)).1 (fC (.bin op i e g a b)).2 (fC (.bin op i e g a b)).2:=.inl (by rw[hd.2];exact lx _);rcases hop with rfl|rfl|rfl|rfl;have e1:fC (.bin 5 i e g a b)=(.bin 5 i e g (fC a).1 (fC b).1,.bin 6 0 0 0 (fC a).2 (fC b).2):=by rw[fC,if_pos rfl]
  rw[e1]at s1 s2⊢;exact⟨⟨s1,iha.1.kv λu h=>h.mono (.inl j6) (.inr j6),ihb.1.kv λu h=>h.mono (.inl j5) (.inr j5)⟩,⟨s2,iha.2.kv λu h=>h.mono (.inl j6) (.inr j6),ihb.2.kv λu h=>h.mono (.inl j5) (.inr j5)⟩⟩;have e1:fC (.bin 6 i e g a b)=(.bin 6 i e g (fC a).1 (fC b).1,.bin 5 0 0 0 (fC a).2 (fC b).2):=by rw[fC,if_neg aI,if_pos rfl]
  rw[e1]at s1 s2⊢;exact⟨⟨s1,iha.1.kv λu h=>h.mono (.inl j6) (.inr j6),ihb.1.kv λu h=>h.mono (.inl j5) (.inr j5)⟩,⟨s2,iha.2.kv λu h=>h.mono (.inl j6) (.inr j6),ihb.2.kv λu h=>h.mono (.inl j5) (.inr j5)⟩⟩;have e1:fC (.bin 7 i e g a b)=(.bin 6 0 0 0 (fC a).2 (fC b).1,.bin 5 0 0 0 (fC a).1 (fC b).2):=by rw[fC,if_neg aI,if_neg aI,if_pos rfl]
  rw[e1]at s1 s2⊢;exact⟨⟨s1,iha.2.kv λu h=>h.mono (.inr j6) (.inl j6),ihb.1.kv λu h=>h.mono (.inl j5) (.inr j5)⟩,⟨s2,iha.1.kv λu h=>h.mono (.inr j6) (.inl j6),ihb.2.kv λu h=>h.mono (.inl j5) (.inr j5)⟩⟩;have e1:fC (.bin 8 i e g a b)=(.bin 5 0 0 0 (.bin 6 0 0 0 (fC a).2 (fC b).1) (.bin 6 0 0 0 (fC a).1 (fC b).2),.bin 6 0 0 0 (.bin 5 0 0 0 (fC a).1 (fC b).2) (.bin 5 0 0 0 (fC a).2 (fC b).1)):=by
   rw[fC,if_neg aI,if_neg aI,if_neg aI,if_pos rfl]
  rw[e1]at s1 s2⊢;have q6:∀x y:Tr,(fC (.bin 6 0 0 0 x y)).2=.bin 5 0 0 0 (fC x).2 (fC y).2:=λx y=>by rw[fC,if_neg aI,if_pos rfl]
  have q5:∀x y:Tr,(fC (.bin 5 0 0 0 x y)).2=.bin 6 0 0 0 (fC x).2 (fC y).2:=λx y=>by rw[fC,if_pos rfl]
  refine⟨⟨s1,⟨.inr ?_,iha.2.kv λu h=>h.mono (.inl (λx hx=>j5 (j6 hx))) (.inl (λx hx=>j6 (j6 hx))),ihb.1.kv λu h=>h.mono (.inl (λx hx=>j6 (j5 hx))) (.inl (λx hx=>j5 (j5 hx)))⟩,⟨.inr ?_,iha.1.kv λu h=>h.mono (.inl (λx hx=>j5 (j6 hx))) (.inl (λx hx=>j6 (j6 hx))),ihb.2.kv λu h=>h.mono (.inl (λx hx=>j6 (j5 hx))) (.inl (λx hx=>j5 (j5 hx)))⟩⟩,
   ⟨s2,⟨.inl ?_,iha.1.kv λu h=>h.mono (.inl (λx hx=>j5 (j6 hx))) (.inl (λx hx=>j6 (j6 hx))),ihb.2.kv λu h=>h.mono (.inl (λx hx=>j6 (j5 hx))) (.inl (λx hx=>j5 (j5 hx)))⟩,⟨.inl ?_,iha.2.kv λu h=>h.mono (.inl (λx hx=>j5 (j6 hx))) (.inl (λx hx=>j6 (j6 hx))),ihb.1.kv λu h=>h.mono (.inl (λx hx=>j6 (j5 hx))) (.inl (λx hx=>j5 (j5 hx)))⟩⟩⟩;rw[q6,da.2,db.1];exact j6 (lx _);rw[q6,da.1,db.2];exact j5 (lx _);rw[q5,da.1,db.2];exact j6 (lx _);rw[q5,da.2,db.1];exact j5 (lx _)
end
section
variable{l:Int}{b:List NV}{ss:List SD}
theorem kQ.Nx(h:kQ l b ss):∃(h1:(jD b ss).length - 1<(jD b ss).length) (h2:ss.length - 1<ss.length),(jD b ss)[(jD b ss).length - 1]=m7 b ss (ss.length - 1) ss[ss.length - 1]/\iS ss (ss.length - 1)=true:=by
 have hp:=h.pos;have hlast:iS ss (ss.length - 1)=true:=me.2 (.last aH);have hl:ss.length - 1<ss.length:=aH;obtain⟨h1,h2⟩:=BC (b:=b) hl hlast;have e:(jD b ss).length=gq (iS ss) (ss.length - 1)+1:=by
  rw[xN]
  conv=>lhs;rw[show ss.length=(ss.length - 1)+1 by omega]
  rw[lB,if_pos hlast]
 refine⟨aH,hl,?_,hlast⟩;rw[<-h2];congr 1;omega
def CN:Tr->Bool
 |.leaf op _ _ _=>op==1
 |.un op _ _ _ a=>if op=4 then !CN a else CN a
 |.bin op _ _ _ a c=>if op=5 then CN a && CN c else CN a||CN c
theorem yl:∀{t:Tr},um t->t.ok->CN (fC t).2=!CN t
 |.leaf op i e g,h,hok=>by
  have h1:op<=3:=h;have h2:=hok.1.1;rw[fC];dsimp only;rcases(by omega:op=1\/op=2\/op=3)with rfl|rfl|rfl;rfl;rfl;rfl
 |.un op i e g a,h,hok=>by
  rcases h with⟨rfl,j,e',g',rfl⟩|⟨h1,h2⟩;rfl;have ih:=yl h2 hok.2.2.2.2;rcases h1 with rfl|rfl;rw[fC,if_neg aI,if_pos rfl];exact ih;rw[fC,if_neg aI,if_neg aI,if_pos rfl];exact ih
 |.bin op i e g a c,h,hok=>by
  have iha:=yl h.2.1 hok.2.2.2.1;have ihc:=yl h.2.2 hok.2.2.2.2;rcases h.1 with rfl|rfl;rw[fC,if_pos rfl];show(if (6:Int)=5 then _ else _)=!(if (5:Int)=5 then _ else _);rw[if_neg aI,if_pos rfl,iha,ihc];cases CN a<;>cases CN c<;>rfl
  rw[fC,if_neg aI,if_pos rfl];show(if (5:Int)=5 then _ else _)=!(if (6:Int)=5 then _ else _);rw[if_pos rfl,if_neg aI,iha,ihc];cases CN a<;>cases CN c<;>rfl
theorem fS.node(h:fS b){i:Nat}(hi:i<b.length):((nd b i).op<=3/\fe b i=.leaf (nd b i).op (nd b i).i (nd b i).e (nd b i).g)\/(((nd b i).op=4\/(nd b i).op=9\/(nd b i).op=10)/\fe b i=.un (nd b i).op (nd b i).i (nd b i).e (nd b i).g (fe b (nd b i).x.toNat))\/(((nd b i).op=5\/(nd b i).op=6)/\fe b i=.bin (nd b i).op (nd b i).i (nd b i).e (nd b i).g (fe b (nd b i).x.toNat) (fe b (nd b i).y.toNat)):=by
 rw[jU hi];have hO:=(fA.1 h.qA).nodes;have hn:=h.TW _ (dL hi);unfold oH at hn;have hX:ji b[i].op=true↔4<=b[i].op:=by
  unfold ji;simp;omega
 have hY:iM b[i].op=true↔b[i].op=5\/b[i].op=6:=by
  unfold iM;simp;omega
 rcases jv hi hO with⟨h1,h2⟩|⟨h1,h2,h3⟩|⟨h1,h2⟩;refine .inl ⟨?_,h2⟩;have:¬4<=b[i].op:=λe=>by rw[hX.2 e]at h1;cases h1
 omega;refine .inr (.inl ⟨?_,h3⟩);have:=hX.1 h1;have:¬(b[i].op=5\/b[i].op=6):=λe=>by rw[hY.2 e]at h2;cases h2
 omega;exact .inr (.inr ⟨hY.1 h1,h2⟩)
theorem fS.ok(h:fS b){i:Nat}(hi:i<b.length):(fe b i).ok:=(fA.1 h.qA).nodes.tree i hi
theorem fS.nf(h:fS b):∀(i:Nat),i<b.length->um (fe b i):=by
 intro i
 induction i using Nat.strongRecOn with
 |_ i ih=>
 intro hi;rcases h.node hi with⟨h1,h2⟩|⟨h1,h2⟩|⟨h1,h2⟩;rw[h2];exact h1;have hx:=h.x hi aH;rw[h2];by_cases h4:(nd b i).op=4;have hn:=h.TW _ (dL hi);unfold oH at hn;rw[<-jU hi]at hn;have h3:(nd b (nd b i).x).op=3:=aH;obtain⟨k,hk⟩:∃k:Nat,(nd b i).x=k:=⟨(nd b i).x.toNat,aH⟩;rw[hk]at h3⊢;have hkl:k<b.length:=aH;rcases h.node hkl with⟨g1,g2⟩|⟨g1,g2⟩|⟨g1,g2⟩;rw[dy,g2,h3];exact .inl ⟨h4,_,_,_,rfl⟩;omega;omega;exact .inr ⟨aH,ih _ aH aH⟩;have hx:=h.x hi aH;have hy:=h.y hi h1;rw[h2];exact⟨h1,ih _ aH aH,ih _ aH aH⟩
theorem fS.fit(h:fS b){i:Nat}(hi:i<b.length):Fit (fU (fe b i))/\Fit (fe b i):=by
 have h1:=wM (fA.1 h.qA).nodes.ord hi;have h2:=h.len;have h3:(iA (fU (fe b i))).length=(iA (fe b i)).length+1:=Cr;unfold Fit;omega
theorem fS.L4(h:fS b){i:Nat}(hi:i<b.length):CN (jT (fe b i))=!CN (fe b i):=by
 rw[wq (h.fit hi).1];exact yl (h.nf i hi) (h.ok hi)
theorem kQ.LO(h:kQ l b ss):∀(k:Nat),k<ss.length->∃n,Us b ss k n/\CN (fe b n)=false:=by
 have hb:=h.base;intro k
 induction k using Nat.strongRecOn with
 |_ k ih=>
 intro hk;have hsrc:∀{j:Nat} {s:fi} {ag:Int} {m:Nat},j<ss.length->Us b ss j m->CN (fe b m)=false->CN (fe b (lP b s ag m))=false:=λ{j s ag m} hj hm he=>by
  rcases lO (b:=b) (s:=s) (ag:=ag) (n:=m)with⟨i,h1,h2,h3,h4,h5,h6,_⟩|⟨h1,_⟩;rw[h1];rcases hb.node h2 with⟨g1,g2⟩|⟨g1,g2⟩|⟨g1,g2⟩;omega;rw[g2,h6];show(if _ then _ else _)=_;rw[if_neg aH];exact he;omega;rw[h1];exact he
 cases h.P8 hk with
 |O7 o h1 h2 h3 h4 h5 h6 h7=>
  refine⟨o,(h7 o).2 rfl,?_⟩;rcases hb.node h4 with⟨g1,g2⟩|⟨g1,g2⟩|⟨g1,g2⟩;rw[g2,h6];rfl;omega;omega
 |neg o e h1 h2 h3 h4 h5 h6 h7 h8 h9 h10 h11 h12=>
  cases hv:CN (fe b o)with
  |false=>exact⟨o,(h12 o).2 (.inl rfl),hv⟩
  |true=>exact⟨e,(h12 e).2 (.inr rfl),by rw[h11,hb.L4 h4,hv];rfl⟩
 |and o j h1 h2 h3 h4 h5 h6 h7 h8 h9 h10=>
  obtain⟨n,hn,hv⟩:=ih j h4 aH;have hx:=hb.x h6 aH;have hy:=hb.y h6 aH;by_cases c1:(n:Int)=(nd b o).x\/(n:Int)=(nd b o).y;refine⟨o,(h10 o).2 (.inr rfl),?_⟩;rcases hb.node h6 with⟨g1,g2⟩|⟨g1,g2⟩|⟨g1,g2⟩;omega;omega;rw[g2,h8];show(if (5:Int)=5 then _ else _)=_;rw[if_pos rfl];rcases c1 with c1|c1;rw[<-c1,dy,hv];rfl;rw[<-c1,dy,hv,Bool.and_false];exact⟨n,(h10 n).2 (.inl ⟨hn,λe=>c1 (.inl e),λe=>c1 (.inr e)⟩),hv⟩
 |or o j i h1 h2 h3 h4 h5 h6 h7 h8 h9 h10 h11 h12=>
  obtain⟨n,hn,hv⟩:=ih j h4 aH;obtain⟨m,hm,hw⟩:=ih i h5 aH;by_cases c1:(n:Int)=(nd b o).x;by_cases c2:(m:Int)=(nd b o).y;refine⟨o,(h12 o).2 (.inr (.inr rfl)),?_⟩;rcases hb.node h7 with⟨g1,g2⟩|⟨g1,g2⟩|⟨g1,g2⟩;omega;omega;rw[g2,h9];show(if (6:Int)=5 then _ else _)=_;rw[if_neg aI,<-c1,<-c2,dy,dy,hv,hw];rfl;exact⟨m,(h12 m).2 (.inr (.inl ⟨hm,c2⟩)),hw⟩;exact⟨n,(h12 n).2 (.inl ⟨hn,c1⟩),hv⟩
 |cut o e j i h1 h2 h3 h4 h5 h6 h7 h8 h9 h10 h11 h12 h13=>
  obtain⟨n,hn,hv⟩:=ih j h3 aH;obtain⟨m,hm,hw⟩:=ih i h4 aH;by_cases c1:n=o;by_cases c2:m=e;subst c1 c2;rw[h10,hb.L4 h6,hv]at hw;cases hw;exact⟨m,(h13 m).2 (.inr ⟨hm,c2⟩),hw⟩;exact⟨n,(h13 n).2 (.inl ⟨hn,c1⟩),hv⟩
 |t o j h1 h2 h3 h4 h5 h6 h7 h8 h9 h10 h11=>
  obtain⟨n,hn,hv⟩:=ih j h5 aH;by_cases c1:(n:Int)=(nd b o).x;refine⟨o,(h11 o).2 (.inr rfl),?_⟩;rcases hb.node h7 with⟨g1,g2⟩|⟨g1,g2⟩|⟨g1,g2⟩;omega;rw[g2,h9,<-c1,dy];show(if (9:Int)=4 then _ else _)=_;rw[if_neg aI];exact hv;omega;exact⟨n,(h11 n).2 (.inl ⟨hn,c1⟩),hv⟩
 |k o j h1 h2 h3 h4 h5 h6 h7 h8 h9 h10=>
  obtain⟨n,hn,hv⟩:=ih j h4 aH;by_cases c1:(n:Int)=(nd b o).x;refine⟨o,(h10 o).2 (.inr rfl),?_⟩;rcases hb.node h6 with⟨g1,g2⟩|⟨g1,g2⟩|⟨g1,g2⟩;omega;rw[g2,h8,<-c1,dy];show(if (10:Int)=4 then _ else _)=_;rw[if_neg aI];exact hv;omega;exact⟨_,(h10 _).2 (.inl ⟨n,hn,c1,rfl⟩),hsrc (by omega:j<ss.length) hn hv⟩
 |d j h1 h2 h3 h4 h5 h6 h7 h8=>
  obtain⟨n,hn,hv⟩:=ih j h5 aH;exact⟨_,(h8 _).2 ⟨n,hn,rfl⟩,hsrc (by omega:j<ss.length) hn hv⟩
end
section
variable{last:aq}{full:fi}
def iV(b:List NV)(s:fi):Tr:=fU (p7 ((iQ s).map (fe b)))
section
variable(T:Tr->Prop)
noncomputable def zE(a:Int)(h:Tr):List Tr->List Tr->Nat->Sg->Nat×Sg
 |_,[],r,σ=>(r,σ)
 |ds,t::ts,r,σ=>
  let k:=kW T a t (iK ts h) σ
  let d:=gw T (iK ((ds++[t]).map (fN a)) (fN a (iK ts h))) [r,k.1] k.2
  zE a h (ds++[t]) ts d.1 d.2
noncomputable def rK(a:Int)(ts:List Tr)(h:Tr)(line:Nat)(σ:Sg):Nat×Sg:=
 let f:=gw T (iK ts h) [line] σ
 let r:=iy T (fN a (iK ts h)) 11 f.1 0 a f.2
 zE T a h [] ts r.1 r.2
noncomputable def j8(b:List NV)(full:fi)(a:Int):aq->Sg->aq×Sg
 |[],σ=>([],σ)
 |n::ns,σ=>if lP b full a n=n then((qV T a (fe b n) σ).1::(j8 b full a ns (qV T a (fe b n) σ).2).1,(j8 b full a ns (qV T a (fe b n) σ).2).2)else j8 b full a ns σ
noncomputable def B0(b:List NV)(goal:Tr)(full:fi)(a:Int)(ns:aq)(tg:Nat)(own:aq)(isK:Bool)(line:Nat)(σ:Sg):Nat×Sg:=
 let c:=rK T a (ns.map (fe b)) (fU (fe b tg)) line σ
 let d:=j8 T b full a own c.2
 let e:=if isK=true then kF T a (fe b tg) d.2 else iy T (gv (fN a (fe b tg)) (fU (fN a (fU (fe b tg))))) 6 0 0 0 d.2
 gw T goal (c.1::(d.1++[e.1])) e.2
noncomputable def gQ(b:List NV)(tl:List SD)(full:fi)(x:SD)(last:aq)(σ:Sg):Nat×Sg:=
 let goal:=iV b x.set
 let p0:=last.getD (x.fr.getD 0 0).toNat 0
 let p1:=last.getD (x.fr.getD 1 0).toNat 0
 if x.fK=1 then(if (nd b x.on).op=2 then gw T goal [] σ else gw T goal [(fX T false (tA b x.on) σ).1] (fX T false (tA b x.on) σ).2)
 else if x.fK=2 then gw T goal [p0] σ
 else if x.fK=3 then gw T goal [p0,p1] σ
 else if x.fK=4 then gw T goal [(fX T true (tA b x.on) σ).1,p0,p1] (fX T true (tA b x.on) σ).2
 else if x.fK=5 then gw T goal [(iy T (gv (tA b x.on) (tA b (nd b x.on).x)) 3 0 0 0 σ).1,p0] (iy T (gv (tA b x.on) (tA b (nd b x.on).x)) 3 0 0 0 σ).2
 else if x.fK=6 then B0 T b goal full (nd b x.on).i (iQ (gN tl (x.fr.getD 0 0) &&& ~~~ bW (nd b x.on).x)) (nd b x.on).x.toNat (iQ (gN tl (x.fr.getD 0 0) &&& ~~~ bW (nd b x.on).x)) true p0 σ
 else B0 T b goal full x.on (iQ (gN tl (x.fr.getD 0 0))).dropLast ((iQ (gN tl (x.fr.getD 0 0))).getLastD 0) (iQ (gN tl (x.fr.getD 0 0))) false p0 σ
noncomputable def gj(b:List NV)(tl:List SD)(fl:List fi):Nat->aq×Sg
 |0=>([],⟨[],false⟩)
 |q+1=>match tl[q]? with
  |some x=>((gj b tl fl q).1++[(gQ T b tl (fl.getD q 0#64) x (gj b tl fl q).1 (gj b tl fl q).2).1],(gQ T b tl (fl.getD q 0#64) x (gj b tl fl q).1 (gj b tl fl q).2).2)
  |none=>gj b tl fl q
end
noncomputable def jl(ss:List SD):Nat->List fi
 |0=>[]
 |k+1=>match ss[k]? with
  |some x=>if iS ss k=true then jl ss k++[x.set]else jl ss k
  |none=>jl ss k
noncomputable def kS(T:Tr->Prop)(b:List NV)(ss:List SD):Nat×Sg:=
 let tl:=jD b ss
 let p:=gj T b tl (jl ss ss.length) tl.length
 let ln:=p.1.getD (tl.length - 1) 0
 if gN tl ((tl.length - 1:Nat):Int)=gN ss ((ss.length - 1:Nat):Int)then(ln,p.2)else gw T (iV b (gN ss ((ss.length - 1:Nat):Int))) [ln] p.2
section
variable{l:Int}{b:List NV}{ss:List SD}{σ:Sg}{T:Tr->Prop}
theorem LZ{v:Tr->Bool}:∀{ts:List Tr},iC v (p7 ts)=true↔∀u∈ts,iC v u=true
 |[]=>⟨λ_ _ h=>(by cases h),λ_=>rfl⟩
 |t::ts=>by
  have key:∀(us:List Tr) (a:Tr),iC v (us.foldl (λa c=>.bin 5 0 0 0 a c) a)=true↔iC v a=true/\∀u∈us,iC v u=true:=by
   intro us
   induction us with
   |nil=>intro a;simp
   |cons u us ih=>
    intro a;rw[dX,ih,show iC v (.bin 5 0 0 0 a u)=(iC v a && iC v u)from rfl,dG];simp only[eH,forall_eq_or_imp,and_assoc]
  rw[show p7 (t::ts)=ts.foldl (λa c=>.bin 5 0 0 0 a c) t from rfl,key];simp
theorem lF{v:Tr->Bool}{s:fi}:iC v (iV b s)=true↔¬∀n,s.getLsbD n=true->iC v (fe b n)=true:=by
 unfold iV;rw[Az,dw];constructor;intro h hall;have:iC v (p7 ((iQ s).map (fe b)))=true:=LZ.2 (λu hu=>by
  obtain⟨n,hn,rfl⟩:=eL.1 hu;exact hall n (jy.1 hn));rw[this]at h;cases h;intro h;cases e:iC v (p7 ((iQ s).map (fe b)))with
 |false=>rfl
 |true=>exact absurd (λn hn=>LZ.1 e _ (c7 (jy.2 hn))) h
theorem HE:∀{ts:List Tr},(∀u∈ts,lA u)->lA (p7 ts)
 |[],_=>⟨⟨aI,rfl,aI⟩,.inl aI⟩
 |t::ts,h=>by
  have key:∀(us:List Tr) (a:Tr),lA a->(∀u∈us,lA u)->lA (us.foldl (λa c=>.bin 5 0 0 0 a c) a):=by
   intro us
   induction us with
   |nil=>intro a ha _;exact ha
   |cons u us ih=>intro a ha hu;exact ih _ (ha.ad (hu u aF)) (λw hw=>hu w (cM _ hw))
  exact key ts t (h t aF) (λu hu=>h u (cM _ hu))
theorem fS.fr(h:fS b){n:Nat}(hn:n<b.length):lA (fe b n):=(h.nf n hn).fr (h.ok hn)
theorem vi(h:fS b){s:fi}(hs:jw b s):lA (iV b s):=(HE (λu hu=>by
 obtain⟨n,hn,rfl⟩:=eL.1 hu;exact h.fr (hs n (jy.1 hn)))).nt
theorem HJ{a:Int}{h:Tr}:∀{ts ds:List Tr} {r:Nat} {σ:Sg},σ.Le (zE T a h ds ts r σ).2
 |[],_,_,σ=>Sg.Le.refl σ
 |_t::ts,_ds,_r,_σ=>DJ.trans (jz.trans (HJ (ts:=ts)))
theorem Pr{a:Int}{h:Tr}{ts:List Tr}{n:Nat}:σ.Le (rK T a ts h n σ).2:=jz.trans (jB.trans HJ)
theorem Ef{a:Int}{h:Tr}:∀{ts ds:List Tr} {r:Nat} {σ:Sg},jK σ r (iK (ds.map (fN a)) (fN a (iK ts h)))->jK (zE T a h ds ts r σ).2 (zE T a h ds ts r σ).1 (iK ((ds++ts).map (fN a)) (fN a h))
 |[],ds,r,σ,hr=>by rw[dW];exact hr
 |t::ts,ds,r,σ,_=>by
  rw[show ds++t::ts=(ds++[t])++ts by simp];exact Ef kO
theorem Ee{a:Int}{h:Tr}{ts:List Tr}{n:Nat}:jK (rK T a ts h n σ).2 (rK T a ts h n σ).1 (iK (ts.map (fN a)) (fN a h)):=Ef (ds:=[]) iw
theorem qT{full:fi}{a:Int}:∀{ns:aq} {σ:Sg},σ.Le (j8 T b full a ns σ).2
 |[],σ=>Sg.Le.refl σ
 |n::ns,σ=>by
  rw[j8];split;exact Cp.trans qT;exact qT
theorem wJ{full:fi}{a:Int}:∀{ns:aq} {σ:Sg} (m:Nat),m∈(j8 T b full a ns σ).1->∃n∈ns,lP b full a n=n/\jK (j8 T b full a ns σ).2 m (gv (fe b n) (fN a (fe b n)))
 |[],σ,m,h=>by cases h
 |n::ns,σ,m,h=>by
  rw[j8]at h⊢;by_cases e:lP b full a n=n;rw[if_pos e]at h⊢;rcases eH.1 h with rfl|h;exact⟨n,aF,e,zO.le qT⟩;obtain⟨k,h1,h2,h3⟩:=wJ m h;exact⟨k,cM _ h1,h2,h3⟩;rw[if_neg e]at h⊢;obtain⟨k,h1,h2,h3⟩:=wJ m h;exact⟨k,cM _ h1,h2,h3⟩
theorem wK{full:fi}{a:Int}:∀{ns:aq} {σ:Sg} {n:Nat},n∈ns->lP b full a n=n->∃m∈(j8 T b full a ns σ).1,jK (j8 T b full a ns σ).2 m (gv (fe b n) (fN a (fe b n)))
 |[],_,_,h,_=>by cases h
 |k::ns,σ,n,h,he=>by
  rw[j8];rcases eH.1 h with rfl|h;rw[if_pos he];exact⟨_,aF,zO.le qT⟩;split;obtain⟨m,h1,h2⟩:=wK (σ:=(qV T a (fe b k) σ).2) h he;exact⟨m,cM _ h1,h2⟩;exact wK h he
theorem G4{goal:Tr} {a:Int}{ns:aq}{tg:Nat}{own:aq}{isK:Bool}{line:Nat}:σ.Le (B0 T b goal full a ns tg own isK line σ).2:=by
 have h1:=Pr (T:=T) (σ:=σ) (a:=a) (h:=fU (fe b tg)) (ts:=ns.map (fe b)) (n:=line);have h2:=qT (T:=T) (b:=b) (full:=full) (a:=a) (ns:=own) (σ:=(rK T a (ns.map (fe b)) (fU (fe b tg)) line σ).2);cases isK with
 |true=>exact(h1.trans h2).trans (pS.trans jz)
 |false=>exact(h1.trans h2).trans (jB.trans jz)
theorem C2{tl:List SD} {x:SD} :σ.Le (gQ T b tl full x last σ).2:=by
 unfold gQ;dsimp only
 repeat' split
 exact jz;exact ot.trans jz;exact jz;exact jz;exact ot.trans jz;exact jB.trans jz;exact G4;exact G4
theorem Ir{tl:List SD} {x:SD} :jK (gQ T b tl full x last σ).2 (gQ T b tl full x last σ).1 (iV b x.set):=by
 unfold gQ;dsimp only
 repeat' split
 all_goals exact kO
def xt(σ:Sg)(n:Nat):Prop:=σ.bad=false->n+1=σ.ls.length
theorem Br{t:Tr}{r g:Int}{a c:Nat}:xt (iy T t r a c g σ).2 (iy T t r a c g σ).1:=by
 unfold iy;split;intro e;cases e;intro _;simp
theorem A1{g:Tr}:∀{ps:List (Nat×Tr)} {n:Nat} {σ:Sg},xt σ n->xt (qP T g ps n σ).2 (qP T g ps n σ).1
 |[],_,_,h=>h
 |_::ps,_,_,_=>A1 (ps:=ps) Br
theorem Bn{g:Tr}{fr:aq}:xt (gw T g fr σ).2 (gw T g fr σ).1:=by
 unfold gw;split;rename_i h;intro e;rw[h]at e;cases e;exact A1 Br
theorem EW{tl:List SD} {x:SD} :xt (gQ T b tl full x last σ).2 (gQ T b tl full x last σ).1:=by
 unfold gQ;dsimp only
 repeat' split
 all_goals exact Bn
end
end
section
variable{l:Int}{b:List NV}{ss:List SD}{σ:Sg}
theorem HI{a:Int}{h:Tr}(hi:0<=a/\a<4)(hh:lA h):∀{ts ds:List Tr} {r:Nat} {σ:Sg},(∀u∈ts,lA u)->(∀u∈ds,lA u)->Good l σ->jK σ r (iK (ds.map (fN a)) (fN a (iK ts h)))->CK l (λT=>zE T a h ds ts r) σ
 |[],_,_,σ,_,_,hg,_=>⟨rfl,hg⟩
 |t::ts,ds,r,σ,hts,hds,hg,hr=>by
  have ht:=hts t aF;have hts':∀u∈ts,lA u:=λu hu=>hts u (cM _ hu);have hc:=lA.ch hts' hh;have h1:=Qe (i:=a) (p:=t) (q:=iK ts h) hi hg ht hc;have k1:jK (kW fg a t (iK ts h) σ).2 (kW fg a t (iK ts h) σ).1 (gv (fN a (gv t (iK ts h))) (gv (fN a t) (fN a (iK ts h)))):=iw;have kr:=hr.le (DJ (T:=fg) (i:=a) (p:=t) (q:=iK ts h));have hds':∀u∈ds++[t],lA u:=λu hu=>by
   rcases ed.1 hu with hu|hu;exact hds u hu;rw[dn.1 hu];exact ht
  have h2:=kA (g:=iK ((ds++[t]).map (fN a)) (fN a (iK ts h))) (from_:=[r,(kW fg a t (iK ts h) σ).1]) h1.jY (lA.ch (λu hu=>by
    obtain⟨w,hw,rfl⟩:=eL.1 hu;exact(hds' w hw).kw hi) (hc.kw hi)) (λhb n hn=>by
   simp only[eH,dO,eX]at hn;rcases hn with rfl|rfl;exact(kr hb).1;exact(k1 hb).1) (λhb _ v hv=>by
   have e1:=hv _ aF;have e2:=hv _ (cM _ aF);rw[(kr hb).2,FQ]at e1;rw[(k1 hb).2,xJ,xJ]at e2;rw[FQ];intro hall;have e3:iC v (fN a (gv t (iK ts h)))=true:=e1 (λu hu=>hall u (by rw[ec];exact cK _ hu));have e4:iC v (fN a t)=true:=hall _ (by rw[ec];exact cD _ (dn.2 rfl));rw[e3,e4]at e2;simpa using e2);have h3:=HI hi hh (ts:=ts) (ds:=ds++[t]) hts' hds' h2.jY kO;have s1:=h1.same;have s2:=h2.same;have s3:=h3.same;constructor;simp only[zE];rw[<-s1,<-s2];exact s3;exact h3.jY
theorem Pq{a:Int}{h t0:Tr}{ts:List Tr}{n:Nat}(hi:0<=a/\a<4)(hh:lA h)(hts:∀u∈ts,lA u)(hg:Good l σ)(hn:jK σ n t0)(he:∀v,iC v t0=true->iC v (iK ts h)=true):CK l (λT=>rK T a ts h n) σ:=by
 have hc:=lA.ch hts hh;have h1:=kA (g:=iK ts h) (from_:=[n]) hg hc (λhb m hm=>by rw[dn.1 hm];exact(hn hb).1) (λhb _ v hv=>by
  have:=hv n (dn.2 rfl);rw[(hn hb).2]at this;exact he v this);have h2:=nE (t:=fN a (iK ts h)) (r:=11) (a:=(gw fg (iK ts h) [n] σ).1) (b:=0) (g:=a) h1.jY (λ_ _=>⟨hc.kw hi,RW l aH,.inr (.inr (.inr ⟨rfl,rfl,hi,_,kO,rfl⟩))⟩);have h3:=HI (ts:=ts) (ds:=[]) hi hh hts (λu hu=>by cases hu) h2.jY iw;have s1:=h1.same;have s2:=h2.same;have s3:=h3.same;constructor;simp only[rK];rw[<-s1,<-s2];exact s3;exact h3.jY
structure Xv (l:Int) (P:(Tr->Prop)->Sg->aq×Sg) (σ:Sg):Prop where
  same:P fg σ=P te σ
  jY:Good l (P fg σ).2
theorem zM{full:fi}{a:Int}(hi:0<=a/\a<4):∀{ns:aq} {σ:Sg},Good l σ->(∀n∈ns,lP b full a n=n->∃z,lA z/\((fe b n=fN a z/\gJ l 4=true)\/(fe b n=pU a z/\gJ l 5=true)))->Xv l (λT=>j8 T b full a ns) σ
 |[],σ,hg,_=>⟨rfl,hg⟩
 |n::ns,σ,hg,h=>by
  have hns:=λk hk=>h k (cM _ hk);by_cases e:lP b full a n=n;obtain⟨z,hz,hf⟩:=h n aF e;have h1:=Pt (i:=a) (f:=fe b n) (z:=z) hi hz hf hg;have h2:=zM hi (ns:=ns) h1.jY hns;have s1:=h1.same;have s2:=h2.same;constructor;simp only[j8];rw[if_pos e,if_pos e,<-s1,s2];simp only[j8];rw[if_pos e];exact h2.jY;have h2:=zM hi (ns:=ns) hg hns;constructor;simp only[j8];rw[if_neg e,if_neg e];exact h2.same;simp only[j8];rw[if_neg e];exact h2.jY
theorem G3{goal t0:Tr}{full:fi}{a:Int}{ns own:aq}{tg line:Nat}{isK:Bool}(hb:fS b)(hi:0<=a/\a<4)(hgl:lA goal)(hns:∀n∈ns,n<b.length)(htg:tg<b.length)(h6:isK=false->gJ l 6=true)(hg:Good l σ)(hn:jK σ line t0)
  (he:∀v,iC v t0=true->iC v (iK (ns.map (fe b)) (fU (fe b tg)))=true)
  (hc:∀n∈own,lP b full a n=n->∃z,lA z/\((fe b n=fN a z/\gJ l 4=true)\/(fe b n=pU a z/\gJ l 5=true)))
  (hlast:∀v,((∀n∈ns,iC v (fN a (fe b n))=true)->iC v (fN a (fU (fe b tg)))=true)->(∀n∈own,lP b full a n=n->iC v (fe b n)=true->iC v (fN a (fe b n))=true)->(if isK=true then iC v (pU a (fe b tg))=true->¬iC v (fN a (fU (fe b tg)))=true else iC v (fN a (fe b tg))=true->¬iC v (fN a (fU (fe b tg)))=true)->iC v goal=true):
  CK l (λT=>B0 T b goal full a ns tg own isK line) σ:=by
 have ft:=hb.fr htg;have h1:=Pq (ts:=ns.map (fe b)) (h:=fU (fe b tg)) hi ft.nt (λu hu=>by
  obtain⟨n,hn,rfl⟩:=eL.1 hu;exact hb.fr (hns n hn)) hg hn he;have k1:jK _ _ _:=Ee (T:=fg) (a:=a) (h:=fU (fe b tg)) (ts:=ns.map (fe b)) (n:=line) (σ:=σ);obtain⟨σ1,e1⟩:∃s,s=rK fg a (ns.map (fe b)) (fU (fe b tg)) line σ:=⟨_,rfl⟩;have g1:Good l σ1.2:=by rw[e1];exact h1.jY
 rw[<-e1]at k1;have h2:=zM (b:=b) (full:=full) hi (ns:=own) g1 hc;obtain⟨σ2,e2⟩:∃s,s=j8 fg b full a own σ1.2:=⟨_,rfl⟩;have g2:Good l σ2.2:=by rw[e2];exact h2.jY
 have le2:σ1.2.Le σ2.2:=by rw[e2];exact qT
 obtain⟨P3,hP3⟩:∃P3:(Tr->Prop)->Sg->Nat×Sg,P3=λT s=>if isK=true then kF T a (fe b tg) s else iy T (gv (fN a (fe b tg)) (fU (fN a (fU (fe b tg))))) 6 0 0 0 s:=⟨_,rfl⟩;obtain⟨t3,ht3⟩:∃t3,t3=if isK=true then xH (pU a (fe b tg)) (fU (fN a (fU (fe b tg))))else gv (fN a (fe b tg)) (fU (fN a (fU (fe b tg)))):=⟨_,rfl⟩;have h3:CK l P3 σ2.2:=by
  rw[hP3];cases hk:isK with
  |true=>exact BM hi g2 ft
  |false=>exact nE g2 (λ_ _=>⟨(ft.kw hi).im (ft.nt.kw hi).nt,h6 hk,.inr (.inl ⟨aI,aI,rfl,rfl,rfl,⟨a,_,rfl⟩⟩)⟩)
 obtain⟨σ3,e3⟩:∃s,s=P3 fg σ2.2:=⟨_,rfl⟩;have g3:Good l σ3.2:=by rw[e3];exact h3.jY
 have le3:σ2.2.Le σ3.2:=by
  rw[e3,hP3];cases isK with
  |true=>exact pS
  |false=>exact jB
 have k3:jK σ3.2 σ3.1 t3:=by
  rw[e3,hP3,ht3];cases isK with
  |true=>exact iw
  |false=>exact iw
 have k1':=k1.le (le2.trans le3);have h4:=kA (g:=goal) (from_:=σ1.1::(σ2.1++[σ3.1])) g3 hgl (λhbd n hn=>by
  simp only[eH,ed,dO,eX]at hn;rcases hn with rfl|hn|rfl;exact(k1' hbd).1;rw[e2]at hn;obtain⟨m,_,_,hm⟩:=wJ n hn;rw[<-e2]at hm;exact(hm.le le3 hbd).1;exact(k3 hbd).1) (λhbd _ v hv=>by
  have q1:=hv _ aF;have q3:=hv σ3.1 (cM _ (cD _ (dn.2 rfl)));rw[(k1' hbd).2,FQ]at q1;rw[(k3 hbd).2,ht3]at q3;refine hlast v (λhall=>q1 (λu hu=>?_)) (λn hno hsn hvn=>?_) ?_;rw[eK]at hu;obtain⟨n,hn,rfl⟩:=eL.1 hu;exact hall n hn;obtain⟨m,hm,hh⟩:=wK (T:=fg) (b:=b) (full:=full) (a:=a) (ns:=own) (σ:=σ1.2) hno hsn;rw[<-e2]at hm hh;have q2:=hv m (cM _ (cK _ hm));rw[(hh.le le3 hbd).2,xJ,hvn]at q2;simpa using q2;cases isK with
  |true=>
   rw[if_pos rfl]at q3⊢;rw[Pc,Az]at q3;intro hp hk;rw[hp,hk]at q3;cases q3
  |false=>
   rw[if_neg aI]at q3⊢;rw[xJ,Az]at q3;intro hp hk;rw[hp,hk]at q3;cases q3);have s1:=h1.same;have s2:=h2.same;have s3:=h3.same;have s4:=h4.same;rw[<-e1]at s1;rw[<-e2]at s2;rw[<-e3]at s3;have hsp:∀T s,B0 T b goal full a ns tg own isK line s=gw T goal ((rK T a (ns.map (fe b)) (fU (fe b tg)) line s).1::((j8 T b full a own (rK T a (ns.map (fe b)) (fU (fe b tg)) line s).2).1++[(P3 T (j8 T b full a own (rK T a (ns.map (fe b)) (fU (fe b tg)) line s).2).2).1])) (P3 T (j8 T b full a own (rK T a (ns.map (fe b)) (fU (fe b tg)) line s).2).2).2:=λT s=>by rw[hP3];rfl
 constructor;rw[hsp,hsp,<-s1,<-e1,<-s2,<-e2,<-s3,<-e3];exact s4;rw[hsp,<-e1,<-e2,<-e3];exact h4.jY
end
section
variable{l:Int}{b:List NV}{ss:List SD}{σ:Sg}
theorem VH{l:Int}(h:v7 l):gJ l 4=true:=by unfold v7 at h;unfold gJ;rw[if_neg aI,if_pos rfl];exact eF aH
theorem VV{l:Int}(h:ym l):gJ l 5=true:=by unfold ym at h;unfold gJ;rw[if_neg aI,if_neg aI,if_pos rfl];exact eF aH
theorem zN(hb:fS b){s:fi}{a:Int}{n:Nat}(hn:(m4 l b s a).getLsbD n=true)(he:lP b s a n=n):∃z,lA z/\((fe b n=fN a z/\gJ l 4=true)\/(fe b n=pU a z/\gJ l 5=true)):=by
 obtain⟨i,h1,h2,h3,h4⟩:=(oz hb).1 hn;have hno:¬((nd b i).op=9/\(nd b i).x=n):=λ⟨g1,g2⟩=>by
  rcases lO (b:=b) (s:=s) (ag:=a) (n:=n)with⟨j,k1,k2,k3,k4,k5,k6,_⟩|⟨k1,k2⟩;have hj:j=n:=aH;subst hj;have:=hb.x k2 aH;omega;exact k2 i h1 h2 g1 h3 g2
 rcases h4 with h4|⟨h4,h5⟩;exact absurd h4 hno;subst h4;have hok:=hb.ok h1;rcases hb.node h1 with⟨g1,g2⟩|⟨g1,g2⟩|⟨g1,g2⟩;omega;have hx:=hb.x h1 aH;rw[g2]at hok;obtain⟨_,e1,e2⟩:=tY hok aH;refine⟨fe b (nd b n).x.toNat,hb.fr aH,?_⟩;rw[g2,e1,e2,h3];rcases h5 with⟨h5,h6⟩|⟨h5,h6⟩;exact .inl ⟨by rw[h5],VH h6⟩;exact .inr ⟨by rw[h5],VV h6⟩;omega
theorem J4(hb:fS b){s u:fi}{a:Int}{v:Tr->Bool}{n:Nat}(_hi:0<=a/\a<4)(hall:∀n,u.getLsbD n=true->iC v (fe b n)=true)(hu:u.getLsbD (lP b s a n)=true)(hc:lP b s a n=n->iC v (fe b n)=true->iC v (fN a (fe b n))=true):iC v (fN a (fe b n))=true:=by
 rcases lO (b:=b) (s:=s) (ag:=a) (n:=n)with⟨i,h1,h2,h3,h4,h5,h6,_⟩|⟨h1,_⟩;rw[h1]at hu;have:=hall i hu;have hok:=hb.ok h2;rcases hb.node h2 with⟨g1,g2⟩|⟨g1,g2⟩|⟨g1,g2⟩;omega;rw[g2]at hok this;obtain⟨_,e1,e2⟩:=tY hok aH;rw[e1,e2,h4,h5,h6]at this;exact this;omega;rw[h1]at hu;exact hc h1 (hall n hu)
def Af(b:List NV)(tl:List SD)(σ:Sg)(last:aq)(q:Nat):Prop:=∀j,j<q->jK σ (last.getD j 0) (iV b (gN tl (j:Int)))
theorem Cj{n:Nat}:∀{xs:aq},n∈xs->n∈xs.dropLast\/n=xs.getLastD 0:=λ{xs} h=>by
 have hne:xs≠[]:=λe=>by rw[e]at h;cases h
 have e:xs.dropLast++[xs.getLast hne]=xs:=List.dropLast_concat_getLast hne;rw[<-e]at h;rcases ed.1 h with h|h;exact .inl h;refine .inr ?_;rw[dn.1 h,List.getLastD_eq_getLast?,List.getLast?_eq_some_getLast hne];rfl
theorem rG{xs:aq}(h:xs≠[]):xs.getLastD 0∈xs:=by
 rw[List.getLastD_eq_getLast?,List.getLast?_eq_some_getLast h];exact List.getLast_mem h
theorem kQ.NK(h:kQ l b ss){k:Nat}(hk:k<ss.length)(hn:iS ss k=true){last:aq}(hl:Af b (jD b ss) σ last (gq (iS ss) k))(hg:Good l σ):
  CK l (λT=>gQ T b (jD b ss) ss[k].set (m7 b ss k ss[k]) last) σ:=by
 have hb:=h.base;have hus:=h.sub k hk;have hin:jw b (xv b ss k):=λn hn=>(h.rf k hk).1 n (hus n hn);have hgl:lA (iV b (xv b ss k)):=vi hb hin;have hsub:∀(j:Nat),(j:Int)∈ss[k].fr->∀m,Us b ss j m->(gN ss j).getLsbD m=true:=λj hj m hm=>by
  have:=(h.pre hk hn hj).2.1;rw[jx aH];exact h.sub j aH m hm
 have hinj:∀(j:Nat),(j:Int)∈ss[k].fr->∀m,Us b ss j m->m<b.length:=λj hj m hm=>by
  have:=(h.pre hk hn hj).2.1;exact(h.rf j aH).1 m (h.sub j aH m hm)
 have hset:∀(j:Nat),(j:Int)∈ss[k].fr->gN (jD b ss) (gq (iS ss) j:Nat)=xv b ss j:=λj hj=>
  BF (by have:=(h.pre hk hn hj).2.1;omega) (h.pre hk hn hj).1;have hline:∀(j:Nat),(j:Int)∈ss[k].fr->jK σ (last.getD (gq (iS ss) j) 0) (iV b (xv b ss j)):=λj hj=>by
  rw[<-hset j hj];exact hl _ (h.pre hk hn hj).2.2
 have hru:(m7 b ss k ss[k]).fK=ss[k].fK:=rfl;have hon:(m7 b ss k ss[k]).on=ss[k].on:=rfl;have hse:(m7 b ss k ss[k]).set=xv b ss k:=rfl;have hfr:(m7 b ss k ss[k]).fr=ss[k].fr.map (λj=>((gq (iS ss) j.toNat:Nat):Int)):=rfl;have ev2:∀{v:Tr->Bool} {o:Nat},o<b.length->(nd b o).op=2->iC v (fe b o)=false:=λ{v o} ho h2=>by
  rcases hb.node ho with⟨g1,g2⟩|⟨g1,g2⟩|⟨g1,g2⟩;rw[g2,h2];rfl;omega;omega
 have ev5:∀{v:Tr->Bool} {o:Nat},o<b.length->(nd b o).op=5->iC v (fe b o)=(iC v (fe b (nd b o).x.toNat) && iC v (fe b (nd b o).y.toNat)):=λ{v o} ho h2=>by
  rcases hb.node ho with⟨g1,g2⟩|⟨g1,g2⟩|⟨g1,g2⟩;omega;omega;rw[g2,h2];rfl
 have ev6:∀{v:Tr->Bool} {o:Nat},o<b.length->(nd b o).op=6->iC v (fe b o)=(iC v (fe b (nd b o).x.toNat)||iC v (fe b (nd b o).y.toNat)):=λ{v o} ho h2=>by
  rcases hb.node ho with⟨g1,g2⟩|⟨g1,g2⟩|⟨g1,g2⟩;omega;omega;rw[g2,h2];rfl
 have evk:∀{o:Nat} {op:Int},op=9\/op=10->o<b.length->(nd b o).op=op->(0<=(nd b o).i/\(nd b o).i<4)/\fe b o=.un op (nd b o).i 0 0 (fe b (nd b o).x.toNat):=λ{o op} h9 ho h2=>by
  have hok:=hb.ok ho;rcases hb.node ho with⟨g1,g2⟩|⟨g1,g2⟩|⟨g1,g2⟩;omega;rw[g2,h2]at hok;obtain⟨e0,e1,e2⟩:=tY hok h9;exact⟨e0,by rw[g2,h2,e1,e2]⟩;omega
 unfold gQ;simp only[hru,hon,hse];cases h.P8 hk with
 |O7 o h1 h2 h3 h4 h5 h6 h7=>
  simp only[if_pos h1,h3,if_pos h6];exact kA hg hgl (λ_ n hn=>by cases hn) (λ_ _ v _=>lF.2 (λhall=>by
   have:=hall o ((h7 o).2 rfl);rw[ev2 h4 h6]at this;cases this))
 |neg o e h1 h2 h3 h4 h5 h6 h7 h8 h9 h10 h11 h12=>
  simp only[if_pos h1,h3,if_neg h6];have htA:tA b (o:Int)=fe b o:=rfl;have c1:=vv (ei:=false) (hb.nf o h4) (hb.ok h4) hg;have c2:jK _ _ (uh false (fe b o)):=kL (T:=fg) (ei:=false) (t:=fe b o) (σ:=σ);have c3:=kA (g:=iV b (xv b ss k)) (from_:=[(fX fg false (fe b o) σ).1]) c1.jY hgl (λhbd n hn=>by rw[dn.1 hn];exact(c2 hbd).1) (λhbd _ v hv=>lF.2 (λhall=>by
   have q:=hv _ (dn.2 rfl);rw[(c2 hbd).2,xl,if_neg aI,hall o ((h12 o).2 (.inl rfl)),<-h11,hall e ((h12 e).2 (.inr rfl))]at q;cases q));have s1:=c1.same;exact⟨by rw[htA,<-s1];exact c3.same,by rw[htA];exact c3.jY⟩
 |and o j h1 h2 h3 h4 h5 h6 h7 h8 h9 h10=>
  have hm:(j:Int)∈ss[k].fr:=by rw[h3];simp
  have e0:(m7 b ss k ss[k]).fr.getD 0 0=((gq (iS ss) j:Nat):Int):=by rw[hfr,h3];rfl
  have hx:=hb.x h6 aH;have hy:=hb.y h6 aH;simp only[h1,show ¬(2:Int)=1 by decide,eW,eY,e0,dy];exact kA hg hgl (λhbd n hn=>by rw[dn.1 hn];exact(hline j hm hbd).1) (λhbd _ v hv=>lF.2 (λhall=>by
   have q:=hv _ (dn.2 rfl);rw[(hline j hm hbd).2,lF]at q;have ho:=hall o ((h10 o).2 (.inr rfl));rw[ev5 h6 h8,dG]at ho;refine q (λn hn=>?_);by_cases c1:(n:Int)=(nd b o).x;rw[<-c1]at ho;exact ho.1;by_cases c2:(n:Int)=(nd b o).y;rw[<-c2]at ho;exact ho.2;exact hall n ((h10 n).2 (.inl ⟨hn,c1,c2⟩))))
 |or o j i h1 h2 h3 h4 h5 h6 h7 h8 h9 h10 h11 h12=>
  have hm:(j:Int)∈ss[k].fr:=by rw[h3];simp
  have hm2:(i:Int)∈ss[k].fr:=by rw[h3];simp
  have e0:(m7 b ss k ss[k]).fr.getD 0 0=((gq (iS ss) j:Nat):Int):=by rw[hfr,h3];rfl
  have e1:(m7 b ss k ss[k]).fr.getD 1 0=((gq (iS ss) i:Nat):Int):=by rw[hfr,h3];rfl
  simp only[h1,show ¬(3:Int)=1 by decide,show ¬(3:Int)=2 by decide,eW,eY,e0,e1,dy];exact kA hg hgl (λhbd n hn=>by
   simp only[eH,dO,eX]at hn;rcases hn with rfl|rfl;exact(hline j hm hbd).1;exact(hline i hm2 hbd).1) (λhbd _ v hv=>lF.2 (λhall=>by
   have q1:=hv _ aF;have q2:=hv _ (cM _ aF);rw[(hline j hm hbd).2,lF]at q1;rw[(hline i hm2 hbd).2,lF]at q2;have ho:=hall o ((h12 o).2 (.inr (.inr rfl)));rw[ev6 h7 h9,dV]at ho;rcases ho with ho|ho;refine q1 (λn hn=>?_);by_cases c1:(n:Int)=(nd b o).x;rw[<-c1]at ho;exact ho;exact hall n ((h12 n).2 (.inl ⟨hn,c1⟩));refine q2 (λn hn=>?_);by_cases c1:(n:Int)=(nd b o).y;rw[<-c1]at ho;exact ho;exact hall n ((h12 n).2 (.inr (.inl ⟨hn,c1⟩)))))
 |cut o e j i h1 h2 h3 h4 h5 h6 h7 h8 h9 h10 h11 h12 h13=>
  have hm:(j:Int)∈ss[k].fr:=by rw[h2];simp
  have hm2:(i:Int)∈ss[k].fr:=by rw[h2];simp
  have e0:(m7 b ss k ss[k]).fr.getD 0 0=((gq (iS ss) j:Nat):Int):=by rw[hfr,h2];rfl
  have e1:(m7 b ss k ss[k]).fr.getD 1 0=((gq (iS ss) i:Nat):Int):=by rw[hfr,h2];rfl
  simp only[h1,h5,show ¬(4:Int)=1 by decide,show ¬(4:Int)=2 by decide,show ¬(4:Int)=3 by decide,eW,eY,e0,e1,dy];have htA:tA b (o:Int)=fe b o:=rfl;have c1:=vv (ei:=true) (hb.nf o h6) (hb.ok h6) hg;have c2:jK _ _ (uh true (fe b o)):=kL (T:=fg) (ei:=true) (t:=fe b o) (σ:=σ);have lle:σ.Le (fX fg true (fe b o) σ).2:=ot;have c3:=kA (g:=iV b (xv b ss k)) (from_:=[(fX fg true (fe b o) σ).1,last.getD (gq (iS ss) j) 0,last.getD (gq (iS ss) i) 0]) c1.jY hgl (λhbd n hn=>by
   simp only[eH,dO,eX]at hn;rcases hn with rfl|rfl|rfl;exact(c2 hbd).1;exact((hline j hm).le lle hbd).1;exact((hline i hm2).le lle hbd).1) (λhbd _ v hv=>lF.2 (λhall=>by
   have q0:=hv _ aF;have q1:=hv _ (cM _ aF);have q2:=hv _ (cM _ (cM _ aF));rw[(c2 hbd).2,xl,if_pos rfl,<-h10,dV]at q0;rw[((hline j hm).le lle hbd).2,lF]at q1;rw[((hline i hm2).le lle hbd).2,lF]at q2;rcases q0 with q0|q0;refine q1 (λn hn=>?_);by_cases c1:n=o;rw[c1];exact q0;exact hall n ((h13 n).2 (.inl ⟨hn,c1⟩));refine q2 (λn hn=>?_);by_cases c1:n=e;rw[c1];exact q0;exact hall n ((h13 n).2 (.inr ⟨hn,c1⟩))));have s1:=c1.same;exact⟨by rw[htA,<-s1];exact c3.same,by rw[htA];exact c3.jY⟩
 |t o j h1 h2 h3 h4 h5 h6 h7 h8 h9 h10 h11=>
  have hm:(j:Int)∈ss[k].fr:=by rw[h4];simp
  have e0:(m7 b ss k ss[k]).fr.getD 0 0=((gq (iS ss) j:Nat):Int):=by rw[hfr,h4];rfl
  simp only[h1,h6,show ¬(5:Int)=1 by decide,show ¬(5:Int)=2 by decide,show ¬(5:Int)=3 by decide,show ¬(5:Int)=4 by decide,eW,eY,e0,dy];have hx:=hb.x h7 aH;obtain⟨hi,ht⟩:=evk (.inl rfl) h7 h9;have htA:tA b (o:Int)=fe b o:=rfl;have htX:tA b (nd b o).x=fe b (nd b o).x.toNat:=rfl;have fx:lA (fe b (nd b o).x.toNat):=hb.fr aH;have c1:CK l (λT=>iy T (gv (tA b (o:Int)) (tA b (nd b o).x)) 3 0 0 0) σ:=nE hg (λ_ _=>⟨by rw[htA,htX];exact(hb.fr h7).im fx,by unfold gJ;rw[if_pos rfl];exact eF h3,.inr (.inl ⟨aI,aI,rfl,rfl,rfl,⟨(nd b o).i,fe b (nd b o).x.toNat,by rw[htA,htX,ht]⟩⟩)⟩);have c2:jK _ _ (gv (tA b (o:Int)) (tA b (nd b o).x)):=iw (T:=fg) (t:=gv (tA b (o:Int)) (tA b (nd b o).x)) (r:=3) (a:=0) (b:=0) (gg:=0) (σ:=σ);have lle:σ.Le (iy fg (gv (tA b (o:Int)) (tA b (nd b o).x)) 3 0 0 0 σ).2:=jB;have c3:=kA (g:=iV b (xv b ss k)) (from_:=[(iy fg (gv (tA b (o:Int)) (tA b (nd b o).x)) 3 0 0 0 σ).1,last.getD (gq (iS ss) j) 0]) c1.jY hgl (λhbd n hn=>by
   simp only[eH,dO,eX]at hn;rcases hn with rfl|rfl;exact(c2 hbd).1;exact((hline j hm).le lle hbd).1) (λhbd _ v hv=>lF.2 (λhall=>by
   have q0:=hv _ aF;have q1:=hv _ (cM _ aF);rw[(c2 hbd).2,xJ,htA,hall o ((h11 o).2 (.inr rfl)),htX]at q0;rw[((hline j hm).le lle hbd).2,lF]at q1;refine q1 (λn hn=>?_);by_cases c1:(n:Int)=(nd b o).x;rw[<-c1]at q0;simpa using q0;exact hall n ((h11 n).2 (.inl ⟨hn,c1⟩))));have s1:=c1.same;exact⟨by rw[<-s1];exact c3.same,c3.jY⟩
 |k o j h1 h2 h3 h4 h5 h6 h7 h8 h9 h10=>
  have hm:(j:Int)∈ss[k].fr:=by rw[h3];simp
  have e0:(m7 b ss k ss[k]).fr.getD 0 0=((gq (iS ss) j:Nat):Int):=by rw[hfr,h3];rfl
  simp only[h1,h5,show ¬(6:Int)=1 by decide,show ¬(6:Int)=2 by decide,show ¬(6:Int)=3 by decide,show ¬(6:Int)=4 by decide,show ¬(6:Int)=5 by decide,eW,eY,e0,dy];have hx:=hb.x h6 aH;have hlen:=hb.len;obtain⟨hi,ht⟩:=evk (.inr rfl) h6 h8;have hmem:∀n,n∈iQ (gN (jD b ss) ((gq (iS ss) j:Nat):Int) &&& ~~~ bW (nd b o).x)↔Us b ss j n/\(n:Int)≠(nd b o).x:=λn=>by
   rw[jy,nm,hset j hm,rN aH]
  have hcr:∀n,Us b ss j n->(n:Int)≠(nd b o).x->(m4 l b ss[k].set (nd b o).i).getLsbD n=true:=λn hn hne=>(h9 n (hsub j hm n hn)).resolve_right hne;refine G3 hb hi hgl (λn hn=>hinj j hm n ((hmem n).1 hn).1) aH aK hg (hline j hm) (λv hv=>?_) (λn hn he=>?_) (λv hv1 hv2 hv3=>?_);rw[lF]at hv;rw[FQ];intro hall;rw[Az,dw];cases hX:iC v (fe b (nd b o).x.toNat)with
  |false=>rfl
  |true=>
   exact absurd (λn hn=>by
    by_cases c1:(n:Int)=(nd b o).x;rw[<-c1]at hX;exact hX;exact hall _ (c7 ((hmem n).2 ⟨hn,c1⟩))) hv
  have:=(hmem n).1 hn;exact zN hb (hcr n this.1 this.2) he;rw[if_pos rfl]at hv3;refine lF.2 (λhall=>?_);have ho:=hall o ((h10 o).2 (.inr rfl));rw[ht]at ho;refine hv3 ho (hv1 (λn hn=>?_));have hn':=(hmem n).1 hn;exact J4 hb hi hall ((h10 _).2 (.inl ⟨n,hn'.1,hn'.2,rfl⟩)) (λe=>hv2 n hn e)
 |d j h1 h2 h3 h4 h5 h6 h7 h8=>
  have hm:(j:Int)∈ss[k].fr:=by rw[h4];simp
  have e0:(m7 b ss k ss[k]).fr.getD 0 0=((gq (iS ss) j:Nat):Int):=by rw[hfr,h4];rfl
  simp only[h1,show ¬(7:Int)=1 by decide,show ¬(7:Int)=2 by decide,show ¬(7:Int)=3 by decide,show ¬(7:Int)=4 by decide,show ¬(7:Int)=5 by decide,show ¬(7:Int)=6 by decide,eW,e0,dy];have hmem:∀n,n∈iQ (gN (jD b ss) ((gq (iS ss) j:Nat):Int))↔Us b ss j n:=λn=>by rw[jy,hset j hm]
  obtain⟨ps,hps⟩:∃ps,ps=iQ (gN (jD b ss) ((gq (iS ss) j:Nat):Int)):=⟨_,rfl⟩;rw[<-hps]at hmem⊢;have hne:ps≠[]:=λe=>by
   obtain⟨n,hn,_⟩:=h.LO j (by have:=(h.pre hk hn hm).2.1;omega);have:=(hmem n).2 hn;rw[e]at this;cases this
  have hlm:=(hmem _).1 (rG hne);refine G3 hb h6 hgl (λn hn=>hinj j hm n ((hmem n).1 ((List.dropLast_sublist _).subset hn))) (hinj j hm _ hlm) (λ_=>by unfold gJ;rw[if_neg aI,if_neg aI,if_neg aI,if_pos rfl];exact eF h3) hg (hline j hm) (λv hv=>?_) (λn hn he=>?_) (λv hv1 hv2 hv3=>?_);rw[lF]at hv;rw[FQ];intro hall;rw[Az,dw];cases hX:iC v (fe b (ps.getLastD 0))with
  |false=>rfl
  |true=>
   exact absurd (λn hn=>by
    rcases Cj ((hmem n).2 hn)with c1|c1;exact hall _ (c7 c1);rw[c1];exact hX) hv
  exact zN hb (h7 n (hsub j hm n ((hmem n).1 hn))) he;rw[if_neg aI]at hv3;refine lF.2 (λhall=>?_);have hkw:∀n∈ps,iC v (fN ss[k].on (fe b n))=true:=λn hn=>J4 hb h6 hall ((h8 _).2 ⟨n,(hmem n).1 hn,rfl⟩) (λe=>hv2 n hn e);exact hv3 (hkw _ (rG hne)) (hv1 (λn hn=>hkw n ((List.dropLast_sublist _).subset hn)))
theorem sJ:∀{k:Nat},k<=ss.length->(jl ss k).length=gq (iS ss) k
 |0,_=>by simp[jl,gq]
 |k+1,h=>by
  have h1:=sJ (k:=k) aH;rw[jl,bJ (by omega:k<ss.length),lB];dsimp only;split<;>simp[h1]
theorem B7{j:Nat}(hn:iS ss j=true):∀{k:Nat},k<=ss.length->j<k->∀hj:j<ss.length,(jl ss k)[gq (iS ss) j]?=some ss[j].set
 |0,_,h,_=>aH
 |k+1,h,h2,hj=>by
  rw[jl,bJ (by omega:k<ss.length)];dsimp only;by_cases e:j=k;subst e;rw[if_pos hn,aZ (by rw[sJ aH];exact eR _),sJ aH];simp;have h3:=B7 hn (k:=k) aH aH hj;split;rw[bu (bB.1 h3).1];exact h3;exact h3
theorem kE{T:Tr->Prop}{tl:List SD}{fl:List fi}{q:Nat}(hq:q<tl.length):gj T b tl fl (q+1)=((gj T b tl fl q).1++[(gQ T b tl (fl.getD q 0#64) tl[q] (gj T b tl fl q).1 (gj T b tl fl q).2).1],(gQ T b tl (fl.getD q 0#64) tl[q] (gj T b tl fl q).1 (gj T b tl fl q).2).2):=by
 rw[gj,bJ hq]
theorem tD{T:Tr->Prop}{tl:List SD}{fl:List fi}:∀{q:Nat},q<=tl.length->(gj T b tl fl q).1.length=q
 |0,_=>rfl
 |q+1,h=>by rw[kE aH,di,tD aH];rfl
theorem Di{T:Tr->Prop}{tl:List SD}{fl:List fi}{q:Nat}(hq:q+1<=tl.length):xt (gj T b tl fl (q+1)).2 ((gj T b tl fl (q+1)).1.getD q 0):=by
 have hl:=tD (T:=T) (b:=b) (fl:=fl) (show q<=tl.length by omega);rw[kE aH];have:((gj T b tl fl q).1++[(gQ T b tl (fl.getD q 0#64) tl[q] (gj T b tl fl q).1 (gj T b tl fl q).2).1]).getD q 0=(gQ T b tl (fl.getD q 0#64) tl[q] (gj T b tl fl q).1 (gj T b tl fl q).2).1:=by
  simp[hl]
 dsimp only;rw[this];exact EW
theorem rq{T:Tr->Prop}{tl:List SD}{fl:List fi}:∀{q:Nat},q<=tl.length->Af b tl (gj T b tl fl q).2 (gj T b tl fl q).1 q
 |0,_=>λj hj=>aH
 |q+1,h=>λj hj=>by
  have hl:=tD (T:=T) (b:=b) (fl:=fl) (show q<=tl.length by omega);rw[kE aH];dsimp only;by_cases e:j=q;subst e;have:((gj T b tl fl j).1++[(gQ T b tl (fl.getD j 0#64) tl[j] (gj T b tl fl j).1 (gj T b tl fl j).2).1]).getD j 0=(gQ T b tl (fl.getD j 0#64) tl[j] (gj T b tl fl j).1 (gj T b tl fl j).2).1:=by
   simp[hl]
  rw[this,jx aH];exact Ir;have h1:jK (gj T b tl fl q).2 ((gj T b tl fl q).1.getD j 0) (iV b (gN tl (j:Int))):=rq (tl:=tl) (fl:=fl) (q:=q) aH j aH;have:((gj T b tl fl q).1++[(gQ T b tl (fl.getD q 0#64) tl[q] (gj T b tl fl q).1 (gj T b tl fl q).2).1]).getD j 0=(gj T b tl fl q).1.getD j 0:=by
   simp only[aY];rw[bu (show j<(gj T b tl fl q).1.length by omega)]
  rw[this];exact h1.le (C2 (T:=T) (b:=b) (tl:=tl) (full:=fl.getD q 0#64) (x:=tl[q]) (last:=(gj T b tl fl q).1) (σ:=(gj T b tl fl q).2))
theorem Lq:Good l ⟨[],false⟩:=⟨aI,λk hk=>absurd hk (ew k),λk hk=>absurd hk (ew k)⟩
theorem kQ.Re(h:kQ l b ss)(q:Nat):q<=(jD b ss).length->gj fg b (jD b ss) (jl ss ss.length) q=gj te b (jD b ss) (jl ss ss.length) q/\Good l (gj fg b (jD b ss) (jl ss ss.length) q).2:=by
 induction q with
 |zero=>intro _;exact⟨by simp only[gj],by simp only[gj];exact Lq⟩
 |succ q ih=>
  intro hq;obtain⟨h1,h2⟩:=ih aH;have hql:q<(jD b ss).length:=aH;obtain⟨k,hk,k1,k2,k3⟩:=ES (b:=b) hql;have hf:(jl ss ss.length).getD q 0#64=ss[k].set:=by
   rw[aY,<-k2,B7 k1 (eR _) hk hk];rfl
  have hl:=rq (T:=fg) (b:=b) (tl:=jD b ss) (fl:=jl ss ss.length) (q:=q) aH;obtain⟨p,hp⟩:∃p,p=gj fg b (jD b ss) (jl ss ss.length) q:=⟨_,rfl⟩;rw[<-hp]at h1 h2 hl;have h3:=h.NK hk k1 (last:=p.1) (by rw[k2];exact hl) h2;have s3:=h3.same;rw[kE hql,kE hql,hf,k3,<-h1,<-hp,<-s3];exact⟨rfl,h3.jY⟩
theorem kQ.TK(h:kQ l b ss):kS fg b ss=kS te b ss/\Good l (kS fg b ss).2/\jK (kS fg b ss).2 (kS fg b ss).1 (iV b (gN ss ((ss.length - 1:Nat):Int)))/\xt (kS fg b ss).2 (kS fg b ss).1:=by
 obtain⟨h1,h2⟩:=h.Re _ (eR _);obtain⟨c1,c2,c3,c4⟩:=h.Nx;have hl:=rq (T:=fg) (b:=b) (tl:=jD b ss) (fl:=jl ss ss.length) (eR _) ((jD b ss).length - 1) c1;have hll:xt (gj fg b (jD b ss) (jl ss ss.length) (jD b ss).length).2 ((gj fg b (jD b ss) (jl ss ss.length) (jD b ss).length).1.getD ((jD b ss).length - 1) 0):=by
  have:=Di (T:=fg) (b:=b) (tl:=jD b ss) (fl:=jl ss ss.length) (q:=(jD b ss).length - 1) aH;rwa[show(jD b ss).length - 1+1=(jD b ss).length by omega]at this
 have hsub:∀n,(gN (jD b ss) (((jD b ss).length - 1:Nat):Int)).getLsbD n=true->(gN ss ((ss.length - 1:Nat):Int)).getLsbD n=true:=λn hn=>by
  rw[jx c1,c3]at hn;rw[jx c2];exact h.sub _ c2 n hn
 unfold kS;dsimp only;by_cases e:gN (jD b ss) (((jD b ss).length - 1:Nat):Int)=gN ss ((ss.length - 1:Nat):Int);simp only[if_pos e];refine⟨by rw[h1],h2,?_,hll⟩;rw[<-e];exact hl;simp only[if_neg e];have hin:jw b (gN ss ((ss.length - 1:Nat):Int)):=by
  rw[jx c2];exact(h.rf _ c2).1
 have h3:=kA (g:=iV b (gN ss ((ss.length - 1:Nat):Int))) (from_:=[(gj fg b (jD b ss) (jl ss ss.length) (jD b ss).length).1.getD ((jD b ss).length - 1) 0]) h2 (vi h.base hin) (λhb n hn=>by rw[dn.1 hn];exact(hl hb).1) (λhb _ v hv=>by
  have q:=hv _ (dn.2 rfl);rw[(hl hb).2,lF]at q;rw[lF];exact λhall=>q (λn hn=>hall n (hsub n hn)));exact⟨by rw[<-h1];exact h3.same,h3.jY,kO,Bn⟩
end
def Xr(ls:List LV)(k j:Nat):Prop:=∃hk:k<ls.length,(10<=ls[k].r/\j=ls[k].a.toNat)\/(ls[k].r=10/\j=ls[k].b.toNat)
structure XX (ls:List LV) (i:Nat) (s:ao):Prop where
  len:s.length=ls.length
  OX:∀j,j<ls.length->(sB s j=true↔(j+1=ls.length\/∃k,ls.length<=k+i/\k<ls.length/\Tc ls k/\Xr ls k j))
section
variable{l:Int}{ls:List LV}{i k:Nat}{s:ao}
end
def FV.yw(t:ax)(H:Hl)(x:FV):Prop:=∃q sp,(q,jR t x.f sp)∈H/\x.a=q.map aP/\(q=none->x.f.length=0)
theorem FV.yw.mono{t:ax}{H H':Hl}{x:FV}(h:x.yw t H)(hs:H⊆H'):x.yw t H':=by
 obtain⟨q,sp,h1,h2,h3⟩:=h;exact⟨q,sp,hs h1,h2,h3⟩
theorem FV.yw.at{t:ax}{w0 w:aB}{S:aq}{h:Hl}{Y:List (Nat×Obj)}{x:FV}(g:x.yw t h)(s:St w0 S w h Y):FA w x.a x.f:=by
 obtain⟨q,sp,h1,h2,h3⟩:=g;obtain⟨j,hj⟩:=List.getElem?_of_mem h1;rw[h2];exact fZ s j hj h3
theorem K7{w0 w:aB}{S:aq}{h:Hl}{Y:List (Nat×Obj)}(s:St w0 S w h Y)(j:Nat){q:ah}{ls:List LV}{e:ax}{sp:ai}(hj:h[j]?=some (q,Qc e ls sp))(hq:q=none->ls.length=0)
  {t:ax}(hin:∀x∈ls,x.f.yw t h/\x.f.f.length<=maxLen):LA w (q.map aP) ls:=by
 refine⟨?_,λx hx=>⟨(hin x hx).1.at s,(hin x hx).2⟩⟩;cases q with
 |none=>rw[aV (hq rfl)];exact Sl.nil _ _
 |some b=>exact Sl.jd (s.get hj)
def uK(t tl:ax)(w w':aB)(v:aC)(ls:List LV):Prop:=∃(q:ah) (cap:Nat) (sp:ai) (H:Hl),v=gx q ls.length cap/\(q=none->ls.length=0/\cap=0)/\(ls.flatMap LV.cells++sp).length=cap*5/\ld w w' ((q,Qc tl ls sp)::H)/\∀x∈ls,x.f.yw t H/\x.f.f.length<=maxLen
theorem uK.nil{t tl:ax}{w w':aB}:uK t tl w w' (.slice none 0 0) []:=⟨none,0,[],[],rfl,λ_=>⟨rfl,rfl⟩,rfl,ld.nil,λ_ h=>by cases h⟩
section
variable{P:av}{r:ah}{f:ay}{R:aC->aB->Prop}{w0:aB}{S:aq}{Y:List (Nat×Obj)}{n:Nat}{k:al}{l:Fl}{h:Hl}
variable{ops:aj}{i d:Nat}{rest:aq}{ty:ax}{pos:aA}{aft:ak}{g:Option (Nat×Bool)}
theorem FI{ls:List LV}{x:LV}:(ls++[x]).flatMap LV.cells=ls.flatMap LV.cells++LV.cells x:=by simp
end
def SV.cells(x:SV):ai:=[U x.d.set,aS x.d.fK,aS x.d.on,aS x.d.e,.slice x.fa x.d.fr.length x.fc]
structure Jw (w:aB) (A:ae) (ss:List SV):Prop where
  at_:Sl w A (ss.flatMap SV.cells)
  Ax:∀s∈ss,oD w s.fa s.d.fr/\s.d.fr.length<=maxLen
theorem Jw.fD{w0 w:aB}{A:ae}{ss:List SV}(h:Jw w0 A ss)(e:Ex [] w0 w):Jw w A ss:=⟨Sl.ex h.at_ e aL,λs hs=>⟨(h.Ax s hs).1.fD e,(h.Ax s hs).2⟩⟩
def iE(l:Int)(A:ae)(n cA:Nat)(B:ae)(m cB:Nat):af:=#[aS l,.slice A n cA,.slice B m cB]
def xK(l:Int)(A:ae)(n cA:Nat)(B:ae)(m cB:Nat)(O:ae)(k cO:Nat):af:=#[aS l,.slice A n cA,.slice B m cB,.slice O k cO]
abbrev kJ(ss:List SV):List SD:=ss.map SV.d
theorem iU{ss:List SV}:(kJ ss).length=ss.length:=by simp
theorem qz{ss:List SV}{k:Nat}(hk:k<ss.length):(kJ ss)[k]'(by simpa using hk)=ss[k].d:=by simp
theorem ye{s:fi}{i:Nat}:(((s>>>i) &&& 1#64)==1#64)=s.getLsbD i:=by
 rw[dU,eU];constructor;intro h;have:=eV (λx=>x.getLsbD 0) h;simpa using this;intro h;apply bS;intro k hk;rw[dc,BitVec.getLsbD_ushiftRight,BitVec.getLsbD_one];by_cases e:k=0;subst e;simp[h];simp[e]
theorem Fz{b:List NV}{s:fi}(h0:0<b.length)(h64:b.length<=64):(s &&& ~~~ (18446744073709551615#64>>>(64 - b.length))=0#64)↔jw b s:=by
 rw[uS];have hb:∀k,(18446744073709551615#64>>>(64 - b.length)).getLsbD k=true↔k<b.length:=λk=>by
  rw[BitVec.getLsbD_ushiftRight,show(18446744073709551615#64)=BitVec.allOnes 64 from aI,BitVec.getLsbD_allOnes,dE];omega
 exact forall_congr' λk=>imp_congr_right λ_=>hb k
def RL(b:List NV)(s:fi):Bool:=s &&& ~~~ (18446744073709551615#64>>>(64 - b.length))==0#64
theorem DM{b:List NV}{s:fi}(h0:0<b.length)(h64:b.length<=64):RL b s=true↔jw b s:=by
 unfold RL;rw[eU];exact Fz h0 h64
theorem nh{ss:List SD}{k:Nat}:∀{fs:ar} {us:List fi},kV ss k fs us↔fs.length=us.length/\∀j,j<us.length->(0<=fs.getD j 0/\fs.getD j 0<k)/\gN ss (fs.getD j 0) &&& ~~~ us.getD j 0#64=0#64
 |[],[]=>by simp[kV]
 |[],_::_=>by simp[kV]
 |_::_,[]=>by simp[kV]
 |f::fs,u::us=>by
  rw[kV,nh];constructor;rintro ⟨h1,h2,h3⟩;refine⟨by simp[h2],λj hj=>?_⟩;cases j with
  |zero=>exact h1
  |succ j=>exact h3 j (by simp at hj;omega)
  rintro ⟨h1,h2⟩;refine⟨h2 0 aL,by simpa using h1,λj hj=>h2 (j+1) aN⟩
def rU(os:ar)(node other:Int):Bool:=decide (0<=node/\node<os.length/\0<=other/\os.getD node.toNat 0=other)
def rR(b:List NV)(x:SD)(op:Int):Bool:=decide (x.on<b.length) && (ga x.set x.on && decide ((nd b x.on).op=op))
theorem oP{b:List NV}{x:SD}{op:Int}:rR b x op=true↔Nk b x op:=by
 unfold rR Nk;simp only[dG,dE]
def SW:NV:=⟨0,0,0,0,0,0⟩
noncomputable def iD(b:List NV):ar:=(List.range b.length).map (λ(i:Nat)=>kU b (i:Int))
theorem lu{b:List NV}:(iD b).length=b.length:=by simp[iD]
theorem xV{b:List NV}{i:Nat}(hi:i<b.length):(iD b).getD i 0=kU b i:=by simp[iD,hi]
theorem xS{b:List NV}{node other:Int}:rU (iD b) node other=true↔(0<=node/\node<b.length)/\0<=other/\kU b node=other:=by
 unfold rU;rw[dE,lu];constructor;rintro ⟨h1,h2,h3,h4⟩;obtain⟨k,rfl⟩:∃k:Nat,node=k:=⟨node.toNat,aH⟩;rw[dy,xV aH]at h4;exact⟨⟨h1,h2⟩,h3,h4⟩;rintro ⟨⟨h1,h2⟩,h3,h4⟩;obtain⟨k,rfl⟩:∃k:Nat,node=k:=⟨node.toNat,aH⟩;exact⟨h1,h2,h3,by rw[dy,xV aH];exact h4⟩
structure Vf (w:aB) (t:ax) (bc:Nat) (l:Int) (A:ae) (cA:Nat) (b:List NV) (B:ae) (cB:Nat) (ss:List SV) (O:ae) (cO:Nat):Prop where
  jd:w.heap[bc]?=some (.cells (xK l A b.length cA B ss.length cB O (iD b).length cO) t (0,0))
  fa:FA w A b
  sa:Jw w B ss
  oa:oD w O (iD b)
  base:fS b
theorem Vf.ex{w w':aB}{t:ax}{bc:Nat}{l:Int}{A:ae}{cA:Nat}{b:List NV}{B:ae}{cB:Nat}{ss:List SV}{O:ae}{cO:Nat}(h:Vf w t bc l A cA b B cB ss O cO)(e:Ex [] w w'):Vf w' t bc l A cA b B cB ss O cO:=⟨e.mu h.jd,h.fa.fD e,h.sa.fD e,h.oa.fD e,h.base⟩
theorem yV{ss:List SD}{k:Nat}{fs:ar}:kV ss k fs []↔fs=[]:=by cases fs<;>simp[kV]
def Jz(b:List NV)(x:SD):Prop:=x.fr=[]/\((rR b x 2=true/\x.e=0)\/(ga x.set x.on=true/\ga x.set x.e=true/\rU (iD b) x.on x.e=true))
theorem FZ{b:List NV}{x:SD}:Jz b x↔(x.fr=[]/\((Nk b x 2/\x.e=0)\/(ga x.set x.on=true/\x.on<b.length/\ga x.set x.e=true/\kU b x.on=x.e))):=by
 unfold Jz;rw[oP,xS];refine and_congr_right λ_=>or_congr Iff.rfl ?_;constructor;rintro ⟨h1,h2,h3,h4,h5⟩;exact⟨h1,h3.2,h2,h5⟩;rintro ⟨h1,h2,h3,h4⟩;obtain⟨k,e1,_⟩:=mF.1 h1;obtain⟨j,e2,_⟩:=mF.1 h3;exact⟨h1,h3,⟨aH,h2⟩,aH,h4⟩
section
variable{l:Int}{b:List NV}{ss:List SD}{k:Nat}{x:SD}
theorem Pj(h:¬jw b x.set):¬jr l b ss k x:=λg=>h g.1
theorem FU(hi:jw b x.set)(h:x.fK=1):jr l b ss k x↔Jz b x:=by
 rw[FZ];unfold jr;rw[h];simp[hi]
theorem vK(hi:jw b x.set)(h:x.fK=4):jr l b ss k x↔0<=x.e/\rU (iD b) x.on x.e=true/\kV ss k x.fr [x.set|||bW x.on,x.set|||bW x.e]:=by
 rw[xS];unfold jr;rw[h];simp[hi];constructor;rintro ⟨h1,h2,h3,h4⟩;exact⟨h2,⟨h1,h2,h3⟩,h4⟩;rintro ⟨h1,⟨h2,h3,h4⟩,h5⟩;exact⟨h2,h3,h4,h5⟩
theorem UR(h1:x.fK≠1)(h4:x.fK≠4)(he:x.e≠0):¬jr l b ss k x:=by
 rintro ⟨_,h⟩;rcases h with h|h|h|h|h|h|h;exact h1 h.1;exact he h.2.1;exact he h.2.1;exact h4 h.1;exact he h.2.1;exact he h.2.1;exact he h.2.1
theorem Mg(hi:jw b x.set)(he:x.e=0)(h:x.fK=2):jr l b ss k x↔rR b x 5=true/\kV ss k x.fr [x.set|||bW (nd b x.on).x|||bW (nd b x.on).y]:=by
 rw[oP];unfold jr;rw[h];simp[hi,he]
theorem Mf(hi:jw b x.set)(he:x.e=0)(h:x.fK=3):jr l b ss k x↔rR b x 6=true/\kV ss k x.fr [x.set|||bW (nd b x.on).x,x.set|||bW (nd b x.on).y]:=by
 rw[oP];unfold jr;rw[h];simp[hi,he]
theorem xk(hi:jw b x.set)(he:x.e=0)(h:x.fK=5):jr l b ss k x↔rR b x 9=true/\(l=2\/l=4\/l=6)/\kV ss k x.fr [x.set|||bW (nd b x.on).x]:=by
 rw[oP];unfold jr;rw[h];simp[hi,he];exact⟨λ⟨h1,h2,h3⟩=>⟨h2,h1,h3⟩,λ⟨h1,h2,h3⟩=>⟨h2,h1,h3⟩⟩
theorem Me(hi:jw b x.set)(he:x.e=0)(h:x.fK=6):jr l b ss k x↔rR b x 10=true/\kV ss k x.fr [bW (nd b x.on).x|||m4 l b x.set (nd b x.on).i]:=by
 rw[oP];unfold jr;rw[h];simp[hi,he]
theorem vL(hi:jw b x.set)(he:x.e=0)(h:x.fK=7):jr l b ss k x↔(l=1\/l=5)/\0<=x.on/\x.on<4/\kV ss k x.fr [m4 l b x.set x.on]:=by
 unfold jr;rw[h];simp[hi,he,and_assoc]
theorem Si(h1:x.fK≠1)(h2:x.fK≠2)(h3:x.fK≠3)(h4:x.fK≠4)(h5:x.fK≠5)(h6:x.fK≠6)(h7:x.fK≠7):¬jr l b ss k x:=by
 unfold jr;simp[h1,h2,h3,h4,h5,h6,h7]
end
instance{b:List NV}{n:NV}:Decidable (oH b n):=by unfold oH;infer_instance
section
variable{b:List NV}{s:fi}{ag:Int}{n:Nat}
theorem NP{i:Nat}(hi:i<b.length)(h1:s.getLsbD i=true)(h2:(nd b i).op=9)(h3:(nd b i).i=ag)(h4:(nd b i).x=n)(hf:∀j,j<i->s.getLsbD j=true->(nd b j).op=9->(nd b j).i=ag->(nd b j).x≠n):lP b s ag n=i:=by
 rcases lO (b:=b) (s:=s) (ag:=ag) (n:=n)with⟨j,g1,g2,g3,g4,g5,g6,g7⟩|⟨_,g2⟩;rw[g1];by_cases e:j=i;exact e;by_cases hlt:j<i;exact absurd g6 (hf j hlt g3 g4 g5);exact absurd h4 (g7 i aH h1 h2 h3);exact absurd h4 (g2 i hi h1 h2 h3)
theorem NN(hf:∀j,j<b.length->s.getLsbD j=true->(nd b j).op=9->(nd b j).i=ag->(nd b j).x≠n):lP b s ag n=n:=by
 rcases lO (b:=b) (s:=s) (ag:=ag) (n:=n)with⟨j,_,g2,g3,g4,g5,g6,_⟩|⟨g1,_⟩;exact absurd g6 (hf j g2 g3 g4 g5);exact g1
theorem Rb{k m:Nat}(hk:k<(iQ s).length)(hm:m<(iQ s).length)(h:k<m):(iQ s)[k]<(iQ s)[m]:=by
 have:(iQ s).Pairwise (·<·):=List.Pairwise.filter _ List.pairwise_lt_range;exact bE.1 this k m hk hm h
theorem E5{k j:Nat}(hk:k<(iQ s).length)(hj:s.getLsbD j=true)(h:j<(iQ s)[k]):∃(m:Nat) (hm:m<(iQ s).length),m<k/\(iQ s)[m]=j:=by
 obtain⟨m,hm,e⟩:=cN.1 (jy.2 hj);refine⟨m,hm,?_,e⟩;rcases Nat.lt_trichotomy m k with h1|h1|h1;exact h1;subst h1;omega;have:=Rb hk hm h1;omega
def Ib(b:List NV)(ag:Int)(n:Nat)(j:Nat):Prop:=(nd b j).op=9->(nd b j).i=ag->(nd b j).x≠n
end
section
variable{sp:ai}{fr:ar}
def Ak(c:Bool)(s:ao)(fr:ar):ao:=fr.foldl (λs j=>s.set j.toNat (sB s j.toNat||c)) s
theorem NZ{s:ao}{i j:Nat}{v:Bool}(hi:i<s.length):sB (s.set i v) j=if j=i then v else sB s j:=by
 unfold sB;rw[aY,aY,List.getElem?_set];by_cases e:i=j;subst e;simp[hi];rw[if_neg e,if_neg (λh=>e h.symm)]
theorem xY{c:Bool}:∀{fr:ar} {s:ao},(Ak c s fr).length=s.length
 |[],_=>rfl
 |j::fr,s=>by
  show(Ak c _ fr).length=_;rw[xY,dZ]
theorem Dw{c:Bool}{s:ao} {j:Int}:Ak c s (fr++[j])=(Ak c s fr).set j.toNat (sB (Ak c s fr) j.toNat||c):=by
 unfold Ak;rw[List.foldl_append];rfl
theorem E2{c:Bool}{k:Nat}:∀{fr:ar} {s:ao},(∀j∈fr,0<=j/\j<s.length)->sB (Ak c s fr) k=(sB s k||(c && decide ((k:Int)∈fr)))
 |[],s,_=>by simp[Ak]
 |j::fr,s,h=>by
  obtain⟨h1,h2⟩:=h j aF;have e:Ak c s (j::fr)=Ak c (s.set j.toNat (sB s j.toNat||c)) fr:=rfl;rw[e,E2 (λi hi=>by rw[dZ];exact h i (cM _ hi)),NZ aH];by_cases ek:k=j.toNat;have:(k:Int)=j:=aH;rw[if_pos ek,<-ek];simp[this];cases sB s k<;>cases c<;>simp
  have:(k:Int)≠j:=aH;rw[if_neg ek];simp[this]
section
variable{l:Int}{b:List NV}{ss:List SD}{s:ao}{i k:Nat}
structure Nj (ss:List SD) (i:Nat) (s:ao):Prop where
  len:s.length=ss.length
  OX:∀j,j<ss.length->(sB s j=true↔(j+1=ss.length\/∃k,∃hk:k<ss.length,ss.length<=k+i/\Ic ss k/\(j:Int)∈ss[k].fr))
theorem Ey(h0:0<ss.length):Nj ss 0 ((List.replicate ss.length false).set (ss.length - 1) true):=by
 refine⟨by simp,λj hj=>?_⟩;rw[BH aN];constructor;intro h;by_cases e:j=ss.length - 1;exact .inl aH;rw[if_neg e]at h;simp[sB,hj]at h;rintro (h|⟨k,hk,h1,_⟩);rw[if_pos aH];omega
theorem Nj.nd(h:Nj ss i s)(hf:∀(k:Nat) (hk:k<ss.length),∀j∈ss[k].fr,0<=j/\j<k)(hk:k+1+i=ss.length):sB s k=true↔Ic ss k:=by
 rw[h.OX k aH];constructor;rintro (h1|⟨q,hq,_,h2,h3⟩);exact .last h1;exact .fr hq h2 h3;intro hn;cases hn with
 |last e=>exact .inl e
 |@fr q _ hq hn hm=>exact .inr ⟨q,hq,by have:=hf q hq _ hm;omega,hn,hm⟩
theorem Nj.step(h:Nj ss i s)(hf:∀(k:Nat) (hk:k<ss.length),∀j∈ss[k].fr,0<=j/\j<k)(hk:k+1+i=ss.length):Nj ss (i+1) (Ak (sB s k) s (ss[k]'aH).fr):=by
 have hkl:k<ss.length:=aH;have hnd:=h.nd hf hk;refine⟨by rw[xY];exact h.len,λj hj=>?_⟩;rw[E2 (λq hq=>by have:=hf k hkl q hq;rw[h.len];omega),dV,h.OX j hj,dG,dE,hnd];constructor;rintro ((h1|⟨q,hq,h1,h2⟩)|⟨h1,h2⟩);exact .inl h1;exact .inr ⟨q,hq,aH,h2⟩;exact .inr ⟨k,hkl,aH,h1,h2⟩;rintro (h1|⟨q,hq,h1,h2,h3⟩);exact .inl (.inl h1);by_cases e:q=k;subst e;exact .inr ⟨h2,h3⟩;exact .inl (.inr ⟨q,hq,aH,h2,h3⟩)
theorem Nj.done(h:Nj ss ss.length s){j:Nat}(hj:j<ss.length):sB s j=iS ss j:=by
 have key:sB s j=true↔Ic ss j:=by
  rw[h.OX j hj];constructor;rintro (h1|⟨q,hq,_,h2,h3⟩);exact .last h1;exact .fr hq h2 h3;intro hn;cases hn with
  |last e=>exact .inl e
  |@fr q _ hq hn hm=>exact .inr ⟨q,hq,aH,hn,hm⟩
 cases h1:iS ss j with
 |true=>exact key.2 (me.1 h1)
 |false=>
  cases h2:sB s j with
  |false=>rfl
  |true=>rw[me.2 (key.1 h2)]at h1;cases h1
noncomputable def lS(ss:List SD)(i:Nat):ar:=(List.range ss.length).map (λj=>if j<i/\iS ss j=true then(gq (iS ss) j:Int)else 0)
theorem vd:(lS ss i).length=ss.length:=by simp[lS]
theorem AQ:lS ss 0=List.replicate ss.length 0:=by
 apply dK (by simp[lS]);intro j h1 h2;simp[lS]
theorem AR(h:iS ss i=false):lS ss (i+1)=lS ss i:=by
 apply dK (by simp[lS]);intro j h1 h2;simp only[lS,List.getElem_map,List.getElem_range];by_cases e:j=i;subst e;simp[h];have:j<i+1↔j<i:=aH;simp only[this]
theorem Dj(h:iS ss i=true):(lS ss i).set i (gq (iS ss) i:Int)=lS ss (i+1):=by
 apply dK (by simp[lS]);intro j h1 h2;rw[List.getElem_set];simp only[lS,List.getElem_map,List.getElem_range];by_cases e:i=j;subst e;rw[if_pos rfl,if_pos ⟨aH,h⟩];rw[if_neg e];have:j<i+1↔j<i:=aH;simp only[this]
theorem Dk{y:Nat}(hy:y<i)(hi:i<=ss.length)(hn:Ic ss y):(lS ss i).getD y 0=(gq (iS ss) y:Int):=by
 unfold lS;rw[aY,dB,List.getElem?_range aH];show(if _ then _ else _)=_;rw[if_pos ⟨aH,me.2 hn⟩]
end
noncomputable def EJ(ss:List SD)(fr:ar)(q:Nat):ar:=(fr.take q).map (λj=>((gq (iS ss) j.toNat:Nat):Int))++fr.drop q
theorem Ke{ss:List SD} :EJ ss fr 0=fr:=by simp[EJ]
theorem N2{ss:List SD} :EJ ss fr fr.length=fr.map (λj=>((gq (iS ss) j.toNat:Nat):Int)):=by simp[EJ]
theorem N1{ss:List SD} {q:Nat}:(EJ ss fr q).length=fr.length:=by simp[EJ];omega
theorem Q9{ss:List SD} {q:Nat}(hq:q<fr.length):(EJ ss fr q).getD q 0=fr[q]:=by
 unfold EJ;rw[aY,aZ aN];have:q - ((fr.take q).map (λj=>((gq (iS ss) j.toNat:Nat):Int))).length=0:=by simp;omega
 rw[this];simp[hq]
theorem N0{ss:List SD} {q:Nat}(hq:q<fr.length):(EJ ss fr q).set q ((gq (iS ss) fr[q].toNat:Nat):Int)=EJ ss fr (q+1):=by
 unfold EJ;have hl:((fr.take q).map (λj=>((gq (iS ss) j.toNat:Nat):Int))).length=q:=by simp;omega
 rw[List.set_append_right _ _ aH,hl,eO,br hq,List.set_cons_zero,aU hq,ec];simp
def oY(e:ax)(ss:List SV)(sp:ai):Obj:=.cells (ss.flatMap SV.cells++sp).toArray e (0,0)
theorem LK{ss:List SV}:(ss.flatMap SV.cells).length=ss.length*5:=qS (enc:=SV.cells) (sz:=5) (λ_=>rfl)
def SV.yw(t:ax)(H:Hl)(x:SV):Prop:=∃q sp,(q,ob gu t x.d.fr sp)∈H/\x.fa=q.map aP/\(q=none->x.d.fr.length=0)
theorem SV.yw.mono{t:ax}{H H':Hl}{x:SV}(h:x.yw t H)(hs:H⊆H'):x.yw t H':=by
 obtain⟨q,sp,h1,h2,h3⟩:=h;exact⟨q,sp,hs h1,h2,h3⟩
theorem SV.yw.at{t:ax}{w0 w:aB}{S:aq}{h:Hl}{Y:List (Nat×Obj)}{x:SV}(g:x.yw t h)(s:St w0 S w h Y):oD w x.fa x.d.fr:=by
 obtain⟨q,sp,h1,h2,h3⟩:=g;obtain⟨j,hj⟩:=List.getElem?_of_mem h1;rw[h2];cases q with
 |none=>rw[aV (h3 rfl)];exact Sl.nil _ _
 |some b=>exact Sl.jd (s.get hj)
theorem C5{w0 w:aB}{S:aq}{h:Hl}{Y:List (Nat×Obj)}(s:St w0 S w h Y)(j:Nat){q:ah}{ss:List SV}{e:ax} (hj:h[j]?=some (q,oY e ss sp))(hq:q=none->ss.length=0)
  {t:ax}(hin:∀x∈ss,x.yw t h/\x.d.fr.length<=maxLen):Jw w (q.map aP) ss:=by
 refine⟨?_,λx hx=>⟨(hin x hx).1.at s,(hin x hx).2⟩⟩;cases q with
 |none=>rw[aV (hq rfl)];exact Sl.nil _ _
 |some b=>exact Sl.jd (s.get hj)
theorem St.pick{w0 w:aB}{S:aq}{pre pre':Hl}{Y:List (Nat×Obj)}(s:St w0 S w pre Y)(is:aq)(hn:is.Nodup)(e:is.map (λi=>pre[i]?)=pre'.map some):St w0 S w pre' Y:=by
 have:=St.kq (pre:=pre) (pre':=pre') (HR:=[]) (by rw[dW];exact s) is hn e;rwa[dW]at this
theorem Ty{w0 w:aB}{S:aq}{h:Hl}{Y:List (Nat×Obj)}(s:St w0 S w h Y)(j:Nat){q:ah}{xs:List fi}{e:ax} (hj:h[j]?=some (q,ob U e xs sp))(hq:q=none->xs.length=0):m6 w (q.map aP) xs:=by
 cases q with
 |none=>rw[aV (hq rfl)];exact Sl.nil _ _
 |some b=>exact Sl.jd (s.get hj)
section
variable{P:av}{r:ah}{f:ay}{R:aC->aB->Prop}{w0:aB}{S:aq}{Y:List (Nat×Obj)}{n:Nat}{k:al}{l:Fl}{h:Hl}
variable{ops:aj}{i d:Nat}{rest:aq}{ty:ax}{pos:aA}{aft:ak}{g:Option (Nat×Bool)}
theorem uF{ss:List SV}{x:SV}:(ss++[x]).flatMap SV.cells=ss.flatMap SV.cells++SV.cells x:=by simp
theorem q7{t e:ax}{x y:au}{inf:TypeInfo}{z:aC}{q:ah}{ss:List SV} {cap:Nat}{bn:Nat}{nl:SV}{en:ax}{frn:Nat×Nat}
  (ho:ops[i]?=some ⟨some d,.call ⟨.builtin .append,#[x,y],#[t,t]⟩,ty,pos,aft,g⟩)(hw:fE ops l g=true)(hx:fW l x=some (gx q ss.length cap))(hy:fW l y=some (.slice (aR bn) 1 1))(hd:Nat.blt d n=true)
  (hu:P.underlying t=some (.slice e))(hi:P.info? e=some inf)(hz:inf.zero=some z)(hsz:inf.size=5)(hz1:z.cells.size=5)
  (hq:q=none->ss.length=0/\cap=0)(j:Nat)(hj:h[j]?=some (q,oY e ss sp))(jn:Nat)(hjn:h[jn]?=some (some bn,.cells (SV.cells nl++[]).toArray en frn))
  (fB:(ss.flatMap SV.cells++sp).length=cap*5)(hmx:ss.length+1<=maxLen)(hbytes:(ss.length+1)*inf.bytes<=140737488355328)
  (hk:∀b' sp' cap',((ss++[nl]).flatMap SV.cells++sp').length=cap'*5->ff P r f R w0 S Y n (.inRegion ops rest::k) ((d,gx (some b') (ss++[nl]).length cap')::l) (h.set j (some b',oY e (ss++[nl]) sp'))):ff P r f R w0 S Y n (.inRegion ops (i::rest)::k) l h:=
 .app 5 (xs:=ss.flatMap SV.cells) (sp:=sp) (nx:=ss.length) (q:=q) (news:=SV.cells nl) (spn:=[]) ho hw hx hy hd hu hi hz hsz hz1 hq j hj jn hjn LK fB rfl aI (λu hu=>by
  simp only[SV.cells,eH,dO,eX]at hu;rcases hu with rfl|rfl|rfl|rfl|rfl<;>rfl) hmx hbytes (λb' sp' cap' hlen=>by
  have:=hk b' sp' cap' (by rw[uF];exact hlen);rw[di,cC,oY,uF]at this;exact this)
end
def Vb(tn ts ti:ax)(w w':aB)(l:Int)(b:List NV)(v u:aC)(os ws:List SV):Prop:=
 ∃(qa qo qw:ah) (ca co cw:Nat) (spa spo spw:ai) (H:Hl),v=.agg (iE l (qa.map aP) b.length ca (qo.map aP) os.length co)/\u=gx qw ws.length cw/\
  (qa=none->b.length=0)/\(qo=none->os.length=0)/\(qw=none->ws.length=0)/\ld w w' ((qa,jR tn b spa)::(qo,oY ts os spo)::(qw,oY ts ws spw)::H)/\∀x∈os,x.yw ti H/\x.d.fr.length<=maxLen
end
structure Xx (b:List NV):Prop where
  qA:gp b=0
  TW:∀n∈b,oH b n
section
variable{b:List NV}
end
theorem AY:∀{t:Tr},t.ok->jE (λop _ _=>op<=10) t->um (fC t).1/\um (fC t).2
 |.leaf op i e g,hok,hl=>by
  have h1:op<=10:=hl;have h2:=hok.1;have h3:=G5 hok.1 hok.2.1;rw[fC];dsimp only;refine⟨by unfold um;omega,?_⟩;split;unfold cT um;omega;split;unfold cT um;omega;exact .inl ⟨rfl,i,e,g,by rw[show op=3 by omega]⟩
 |.un op i e g a,hok,hl=>by
  have ih:=AY hok.2.2.2.2 hl.2;have h1:op<=10:=hl.1;have hop:op=4\/op=9\/op=10:=by have h2:=hok.1;have h3:=hok.2.1;have h4:=hok.2.2.1;unfold ji at h3;unfold iM at h4;simp at h3 h4;omega
  rcases hop with rfl|rfl|rfl;rw[fC,if_pos rfl];exact⟨ih.2,ih.1⟩;rw[fC,if_neg aI,if_pos rfl];exact⟨.inr ⟨.inl rfl,ih.1⟩,.inr ⟨.inr rfl,ih.2⟩⟩;rw[fC,if_neg aI,if_neg aI,if_pos rfl];exact⟨.inr ⟨.inr rfl,ih.1⟩,.inr ⟨.inl rfl,ih.2⟩⟩
 |.bin op i e g a b,hok,hl=>by
  have iha:=AY hok.2.2.2.1 hl.2.1;have ihb:=AY hok.2.2.2.2 hl.2.2;have h1:op<=10:=hl.1;have hop:op=5\/op=6\/op=7\/op=8:=by have h2:=hok.1;have h3:=hok.2.1;unfold iM at h3;simp at h3;omega
  rcases hop with rfl|rfl|rfl|rfl;rw[fC,if_pos rfl];exact⟨⟨.inl rfl,iha.1,ihb.1⟩,⟨.inr rfl,iha.2,ihb.2⟩⟩;rw[fC,if_neg aI,if_pos rfl];exact⟨⟨.inr rfl,iha.1,ihb.1⟩,⟨.inl rfl,iha.2,ihb.2⟩⟩;rw[fC,if_neg aI,if_neg aI,if_pos rfl];exact⟨⟨.inr rfl,iha.2,ihb.1⟩,⟨.inl rfl,iha.1,ihb.2⟩⟩;rw[fC,if_neg aI,if_neg aI,if_neg aI,if_pos rfl];exact⟨⟨.inl rfl,⟨.inr rfl,iha.2,ihb.1⟩,⟨.inr rfl,iha.1,ihb.2⟩⟩,⟨.inr rfl,⟨.inl rfl,iha.1,ihb.2⟩,⟨.inl rfl,iha.2,ihb.1⟩⟩⟩
theorem Ro:∀(t:Tr),um t->∀c∈kids t,um c
 |.leaf ..,_,c,hc=>by simp[kids]at hc
 |.un op i e g a,h,c,hc=>by
  simp only[kids,dn]at hc;subst hc;rcases h with⟨_,i,e,g,rfl⟩|h;show(3:Int)<=3;omega;exact h.2
 |.bin op i e g a b,h,c,hc=>by
  simp only[kids,eH,dO,eX]at hc;rcases hc with rfl|rfl;exact h.2.1;exact h.2.2
def Jl(P N:Tr):List Tr:=visit N (iu P)
def iG(t:Tr):List NV:=fH (Jl (fC t).1 (fC t).2)
theorem sT(P N:Tr):Wj N (iu P) (Jl P N):=lK N (kp P).sR (kp P).nd
theorem zS{p:Tr->Prop}(hp:∀t,p t->∀c∈kids t,p c){P N:Tr}(h1:p P)(h2:p N):∀u∈Jl P N,p u:=
 th hp N h2 (th hp P h1 (λu hu=>by cases hu))
section
variable{t:Tr}
theorem Co:(iG t).length=(Jl (fC t).1 (fC t).2).length:=ku
theorem wI(h:t.ok):trees (iG t)=Jl (fC t).1 (fC t).2:=
 tU (sT _ _).sR (λu hu=>(zS (λ_ ht _ hc=>ht.Am hc) (nj h).1 (nj h).2 u hu).wf)
theorem F9(h:t.ok){i:Nat}(hi:i<(iG t).length):fe (iG t) i∈Jl (fC t).1 (fC t).2:=by
 rw[<-wI h];exact o9 hi
theorem F8(h:t.ok)(hl:jE (λop _ _=>op<=10) t)(hm:(iG t).length<=64):fS (iG t):=by
 have hN:fT (iG t):=y8 (sT _ _).sR (zS (λ_ ht _ hc=>ht.Am hc) (nj h).1 (nj h).2);have hp:0<(iG t).length:=by rw[Co];exact List.length_pos_of_mem (sT _ _).mem
 refine⟨fA.2 ⟨hp,aH,λi hi=>lT.2 (hN i hi)⟩,hm,λn hn=>?_⟩;obtain⟨i,hi,rfl⟩:=List.getElem_of_mem hn;have hf:um (fe (iG t) i):=zS Ro (AY h hl).1 (AY h hl).2 _ (F9 h hi);rcases jv hi hN with⟨h1,h2⟩|⟨h1,h2,h3⟩|⟨h1,h2⟩;rw[h2]at hf;have h3:(iG t)[i].op<=3:=hf;have h4:=(hN i hi).op;exact .inl aH;rw[h3]at hf;rcases hf with⟨e1,i',e',g',e2⟩|⟨e1,_⟩;refine .inr ⟨e1,?_⟩;have hx:=(hN i hi).x h1;have hxl:(iG t)[i].x.toNat<(iG t).length:=aH;have:=tv hxl hN;rw[e2]at this;unfold nd;rw[aY,bJ hxl];exact this.symm;exact .inl aH;rw[h2]at hf;have:(iG t)[i].op=5\/(iG t)[i].op=6:=hf.1;exact .inl aH
theorem HH(h:t.ok)(hl:jE (λop _ _=>op<=10) t)(hm:(iG t).length<=64){i:Nat}(hi:i<(iG t).length):0<=kU (iG t) i/\kU (iG t) i<(iG t).length:=by
 have hu:=F9 h hi;obtain⟨c1,c2⟩:=BV h hl;have hfit:Fit (fU (fe (iG t) i)):=by
  have hs:iu (fe (iG t) i)⊆Jl (fC t).1 (fC t).2:=mX _ (sT _ _).sR hu (List.nil_subset _);have h1:(iA (fe (iG t) i)).length<=64:=by
   rw[ly];exact eM ((kp _).nd.length_le_of_subset hs) (by rw[<-Co];exact hm)
  have h2:(iu (fU (fe (iG t) i))).length<=(fe (iG t) i::iu (fe (iG t) i)).length+1:=by
   have hs2:iu (fU (fe (iG t) i))⊆fU (fe (iG t) i)::iu (fe (iG t) i):=λu hu=>by
    rcases NJ hu with rfl|hu;exact aF;exact cM _ hu
   have:=(kp (fU (fe (iG t) i))).nd.length_le_of_subset hs2;simp at this⊢;omega
  unfold Fit;rw[ly]at h1⊢;simp at h2;omega
 have hop:jT (tA (iG t) i)=(fC (fe (iG t) i)).2:=by
  unfold tA;rw[show((i:Int)).toNat=i by omega];exact wq hfit
 have hd:(fC (fe (iG t) i)).2∈Jl (fC t).1 (fC t).2:=by
  have hall:∀u∈Jl (fC t).1 (fC t).2,Jx (fC t).1 (fC t).2 u:=λu hu=>
   (zS (p:=r8 (Jx (fC t).1 (fC t).2)) r8.Am c1 c2 u hu).self;rcases hall _ hu with h1|h1;exact(sT _ _).pre.subset h1;exact mX _ (sT (fC t).1 (fC t).2).sR (sT _ _).mem (List.nil_subset _) h1
 rw[<-wI h]at hd;obtain⟨j,hj,e⟩:=List.getElem_of_mem hd;have hj2:j<(iG t).length:=by rwa[gL]at hj
 have hf:((List.range (iG t).length).find? (λj=>decide (fe (iG t) j=jT (tA (iG t) i)))).isSome=true:=by
  rw[List.find?_isSome];exact⟨j,eD.2 hj2,by rw[hop,kl hj2,e];simp⟩
 unfold kU;cases e2:(List.range (iG t).length).find? (λj=>decide (fe (iG t) j=jT (tA (iG t) i)))with
 |none=>rw[e2]at hf;cases hf
 |some k=>
  have:=eD.1 (List.mem_of_find?_eq_some e2);simp only;omega
end
noncomputable def Sm(l:Int)(t:Tr)(ag:fi):TC:=⟨l,iG t,(List.range (iG t).length).map (λi=>kU (iG t) (i:Nat)),ag⟩
def lk(t:Tr):Nat:=(iu (fC t).1).length - 1
section
variable{l:Int}{t:Tr}{ag:fi}
theorem F0(h0:0<=l/\l<=6)(h:t.ok)(hl:jE (λop _ _=>op<=10) t)(hm:(iG t).length<=64):CG (Sm l t ag):=by
 have hng:∀i,i<(iG t).length->(Sm l t ag).m i=kU (iG t) i:=λi hi=>by
  show((List.range (iG t).length).map (λi=>kU (iG t) (i:Nat))).getD i (-1)=_;rw[aY,dB,List.getElem?_range hi];rfl
 exact⟨h0,F8 h hl hm,hng,λi hi _=>by rw[hng i hi];exact HH h hl hm hi⟩
theorem BI(h:t.ok):lk t<(iG t).length/\fe (iG t) (lk t)=(fC t).1:=by
 obtain⟨q,hq⟩:=qJ (fC t).1;obtain⟨r,hr⟩:=(sT (fC t).1 (fC t).2).pre;have e1:lk t=q.length:=by unfold lk;rw[hq];simp
 have e2:Jl (fC t).1 (fC t).2=q++(fC t).1::r:=by rw[<-hr,hq];simp
 have h1:lk t<(iG t).length:=by rw[Co,e2,e1];simp
 refine⟨h1,?_⟩;have h2:(trees (iG t))[lk t]?=some (fC t).1:=by
  rw[wI h,e2,e1,aZ (eR _)];simp
 rw[kl h1];exact(bB.1 h2).2
theorem u4(h:t.ok)(hm:(iG t).length<=64):jw (iG t) (bW (lk t:Nat)):=oS hm ⟨aH,by have:=(BI h).1;omega⟩
noncomputable def uW(l:Int)(t:Tr)(ag:fi):Option ((Int×Int)×TS):=ie (Sm l t ag) (2^(iG t).length+1) [] ⟨[],[]⟩ (bW (lk t:Nat))
theorem It(h0:0<=l/\l<=6)(h:t.ok)(hl:jE (λop _ _=>op<=10) t)(hm:(iG t).length<=64):∃z,uW l t ag=some z:=
 u7 (F0 h0 h hl hm) _ [] eE aL (by show 2^(iG t).length<_;simp) _ _ ⟨λk hk=>by simp at hk,by simp⟩ (u4 h hm)
theorem NF{b:List NV}{ss:List SD}{m:Nat}(hc:∀(k:Nat) (hk:k<ss.length),jr l b ss k ss[k])(hm:m<=ss.length):∀(k:Nat) (hk:k<(ss.take m).length),jr l b (ss.take m) k (ss.take m)[k]:=λk hk=>by
 have h1:k<m:=by simp at hk;omega
 rw[List.getElem_take];exact Jh h1 hm (hc k aH)
theorem NM(h0:0<=l/\l<=6)(h:t.ok)(hl:jE (λop _ _=>op<=10) t)(hm:(iG t).length<=64){n low:Int}{σ:TS}(e:uW l t ag=some ((n,low),σ))(hn:0<=n)(hs:(v5 (σ.ss.take (n.toNat+1))).length<=4096):
  n<σ.ss.length/\kQ l (iG t) (v5 (σ.ss.take (n.toNat+1)))/\gN (v5 (σ.ss.take (n.toNat+1))) ((v5 (σ.ss.take (n.toNat+1))).length - 1:Nat)=bW (lk t:Nat):=by
 obtain⟨k1,a1⟩:=nX (F0 h0 h hl hm) _ [] _ _ _ _ _ (show rP (Sm l t ag) ([]:List SD)from⟨λk hk=>by simp at hk,by simp⟩) (u4 h hm) e;have ha:0<=n/\n<σ.ss.length/\gN σ.ss n=bW (lk t:Nat):=by
  rcases a1 with a1|a1;omega;exact a1
 have hlen:(σ.ss.take (n.toNat+1)).length=n.toNat+1:=by simp;omega
 obtain⟨r1,r2⟩:=TY h0 (F8 h hl hm) (NF k1.ok.rf (m:=n.toNat+1) aH) aH hs;refine⟨ha.2.1,r1,r2.trans ?_⟩;rw[hlen,Nat.add_sub_cancel];have h3:=u0 (ss:=σ.ss.take (n.toNat+1)) (ys:=σ.ss.drop (n.toNat+1)) (k:=(n.toNat:Int)) (by rw[hlen];omega);rw[List.take_append_drop]at h3;rw[<-h3,show((n.toNat:Nat):Int)=n by omega];exact ha.2.2
end
section
variable{ts us:List Tr}{t:Tr}
def gU(ts us:List Tr):List Tr:=us.foldl (λa u=>pL u a) ts
theorem xq {u:Tr}:gU ts (us++[u])=pL u (gU ts us):=by simp[gU]
theorem KQ{u:Tr} :u∈pL t ts↔u∈ts\/u=t:=by
 unfold pL;split;rename_i h;exact⟨.inl,λe=>e.elim id (λe=>e ▸ h)⟩;simp
theorem pk :∀{us:List Tr} {u:Tr},u∈gU ts us↔u∈ts\/u∈us:=by
 intro us
 induction us generalizing ts with
 |nil=>simp[gU]
 |cons x us ih=>
  intro u;show u∈gU (pL x ts) us↔_;rw[ih,KQ,eH];constructor;rintro ((h|h)|h);exact .inl h;exact .inr (.inl h);exact .inr (.inr h);rintro (h|h|h);exact .inl (.inl h);exact .inl (.inr h);exact .inr h
theorem Mo  (hc:oN ts)(ht:∀c∈kids t,c∈ts):oN (pL t ts):=by
 unfold pL;split;exact hc;exact hc.snoc ht
theorem Oy  (hn:ts.Nodup):(pL t ts).Nodup:=by
 unfold pL;split;exact hn;rename_i h;exact ph hn h
theorem xp {k:Nat}(hk:k<us.length):gU ts (us.take (k+1))=pL us[k] (gU ts (us.take k)):=by
 rw[aU hk,xq]
theorem wV{ts us:List Tr}(hc:oN ts)(hn:ts.Nodup)(hu:oN us):∀k,k<=us.length->oN (gU ts (us.take k))/\(gU ts (us.take k)).Nodup
 |0,_=>by simpa[gU]using⟨hc,hn⟩
 |k+1,hk=>by
  obtain⟨h1,h2⟩:=wV hc hn hu k aH;rw[xp aH];exact⟨Mo h1 (λc hc=>pk.2 (.inr (hu k aH c hc))),Oy h2⟩
theorem oh (hc:oN ts)(hn:ts.Nodup)(hu:oN us):oN (gU ts us)/\(gU ts us).Nodup:=by
 have:=wV hc hn hu us.length (eR _);rwa[dR]at this
theorem uJ  :gU ts (pL t us)=pL t (gU ts us):=by
 by_cases h:t∈us;rw[show pL t us=us from if_pos h];exact(if_pos (pk.2 (.inr h))).symm;rw[show pL t us=us++[t]from if_neg h,xq]
theorem CE (hc:oN ts)(hn:ts.Nodup)(t:Tr):∀{us:List Tr},oN us->us.Nodup->gU ts (visit t us)=visit t (gU ts us):=by
 induction t with
 |leaf op i e g=>
  intro us hu hun;rw[<-nT hu hun,uJ,<-nT (oh hc hn hu).1 (oh hc hn hu).2];rfl
 |un op i e g a ih=>
  intro us hu hun;rw[<-nT hu hun,uJ,<-nT (oh hc hn hu).1 (oh hc hn hu).2];show pL _ (gU ts (visit a us))=pL _ (visit a (gU ts us));rw[ih hu hun]
 |bin op i e g a b iha ihb=>
  intro us hu hun;rw[<-nT hu hun,uJ,<-nT (oh hc hn hu).1 (oh hc hn hu).2];show pL _ (gU ts (visit b (visit a us)))=pL _ (visit b (visit a (gU ts us)));rw[ihb (lK a hu hun).sR (lK a hu hun).nd,iha hu hun]
theorem z9 (hc:oN ts)(hn:ts.Nodup)(t:Tr):gU ts (iu t)=visit t ts:=
 (CE hc hn t oN.nil eE).trans (by simp[gU])
end
section
variable{f:List NV}{ts:List Tr}{k:Nat}
structure QF (f:List NV) (ts:List Tr) (k:Nat) (as:ar):Prop where
  len:as.length=f.length
  at_:∀j,j<k->fe f j∈ts/\as.getD j 0=(ts.idxOf (fe f j):Int)
theorem QF.start  :QF f ts 0 (List.replicate f.length 0):=⟨by simp,λj hj=>absurd hj (ew _)⟩
theorem QF.step {us:List Tr} {as:ar}(h:QF f ts k as)(hk:k<f.length)(hp:ts<+:us)(hm:fe f k∈us):QF f us (k+1) (as.set k (us.idxOf (fe f k):Int)):=
 ⟨by rw[dZ];exact h.len,λj hj=>by
  have hl:=h.len;by_cases e:j=k;subst e;exact⟨hm,by simp[hl,hk]⟩;obtain⟨h1,h2⟩:=h.at_ j aH;refine⟨hp.subset h1,?_⟩;rw[rE hp h1,<-h2];simp[Ne.symm e]⟩
def EK(n:NV)(as:ar):NV:={n with x:=if 4<=n.op then as.getD n.x.toNat 0 else n.x,y:=if 5<=n.op/\n.op<=8 then as.getD n.y.toNat 0 else n.y}
theorem Lg{n:NV}{as:ar}{v:Int}(h:(EK n as).y=v):EK n as=⟨n.op,n.i,n.e,n.g,(EK n as).x,v⟩:=by rw[<-h];rfl
theorem OO   {as:ar}(h:QF f ts k as)(hk:k<f.length)(hO:fT f)(ho:f[k].op<=10):EK f[k] as=gA ts (fe f k):=by
 have hN:=hO k hk;have hx:ji f[k].op=true↔4<=f[k].op:=by unfold ji;simp;omega
 have hy:iM f[k].op=true↔5<=f[k].op/\f[k].op<=8:=by unfold iM;simp;omega
 unfold EK;rcases jv hk hO with⟨h1,ht⟩|⟨h1,h2,ht⟩|⟨h2,ht⟩;have h2:iM f[k].op=false:=by
  cases e:iM f[k].op with
  |false=>rfl
  |true=>rw[jL e]at h1;cases h1
 have a1:¬4<=f[k].op:=λe=>by rw[hx.2 e]at h1;cases h1
 have a2:¬(5<=f[k].op/\f[k].op<=8):=λe=>by rw[hy.2 e]at h2;cases h2
 rw[ht,if_neg a1,if_neg a2,hN.x0 h1,hN.y0 h2];rfl;have a1:=hx.1 h1;have a2:¬(5<=f[k].op/\f[k].op<=8):=λe=>by rw[hy.2 e]at h2;cases h2
 have hb:=hN.x h1;rw[ht,if_pos a1,if_neg a2,(h.at_ f[k].x.toNat aH).2,hN.y0 h2];rfl;have a2:=hy.1 h2;have h1:=jL h2;have hb:=hN.x h1;have hc:=hN.y h2;rw[ht,if_pos (hx.1 h1),if_pos a2,(h.at_ f[k].x.toNat aH).2,(h.at_ f[k].y.toNat aH).2];rfl
def qH(ts:List Tr)(f:List NV)(k:Nat):List Tr:=gU ts ((trees f).take k)
theorem vy  :qH ts f 0=ts:=by simp[qH,gU]
theorem zi   (hk:k<f.length):qH ts f (k+1)=pL (fe f k) (qH ts f k):=by
 unfold qH;rw[xp (by rw[gL];exact hk),kl hk]
theorem OP  :qH ts f f.length=gU ts (trees f):=by
 unfold qH;rw[bZ (by rw[gL];exact eR _)]
theorem Hb{ts:List Tr}{f:List NV}:∀{k:Nat},k<=f.length->(qH ts f k).length<=ts.length+k
 |0,_=>by rw[vy];exact eR _
 |k+1,hk=>by
  have ih:=@Hb ts f k aH;rw[zi aH];unfold pL;split;omega;simp;omega
theorem RI  (hc:oN ts)(hn:ts.Nodup)(hw:∀u∈ts,u.wf)(hO:fT f) (hk:k<=f.length):oN (qH ts f k)/\(qH ts f k).Nodup/\∀u∈qH ts f k,u.wf:=by
 obtain⟨h1,h2⟩:=wV hc hn hO.ord.sR k (by rw[gL];exact hk);refine⟨h1,h2,λu hu=>?_⟩;rcases pk.1 hu with hu|hu;exact hw u hu;exact yD f u (cQ hu)
def SJ(b:List NV)(n:NV)(r:Int):Prop:=(∃k:Nat,r=k/\b[k]?=some n/\∀j,j<k->b[j]?≠some n)\/(r=-1/\∀k:Nat,b[k]?≠some n)
theorem Hd (hc:oN ts)(hn:ts.Nodup)(hw:∀u∈ts,u.wf){t:Tr}(ht:t∈ts){r:Int}(h:SJ (fH ts) (gA ts t) r):r=(ts.idxOf t:Int):=by
 obtain⟨h1,h2⟩:=GJ hc hn hw ht;rcases h with⟨k,rfl,h3,h4⟩|⟨_,h3⟩;rcases Nat.lt_trichotomy k (ts.idxOf t)with e|e|e;exact absurd h3 (h2 k e);rw[e];exact absurd h1 (h4 _ e);exact absurd h1 (h3 _)
theorem OZ (hc:oN ts)(hw:∀u∈ts,u.wf){t:Tr}(htw:t.wf)(hk:∀c∈kids t,c∈ts)(ht:t∉ts){r:Int}(h:SJ (fH ts) (gA ts t) r):r=-1:=by
 rcases h with⟨k,_,h3,_⟩|⟨h3,_⟩;exact absurd h3 (GK hc hw htw hk ht k);exact h3
end
end Go.Proofs.Wit
