/- What calls return, each under its own conditions. -/
import Derived.Test.YtpbhoidjmpjfpaaGreatDoorXP38
import Derived.Test.YtpbhoidjmpjfpaaGreatDoorXP37
set_option maxRecDepth 100000
set_option maxHeartbeats 40000000
namespace Go.Proofs.YtpbhoidjmpjfpaaGreatDoor
open Go.RowKit Go.Proofs.Wit Tryz
theorem My{r:List fi}{s:fi}(hv:uk r):Jm r s=Mx r s r.length:=by rw[Jm,if_neg (by simp[rL.2 hv])];rfl
theorem Sd{r:List fi}{s:fi}(hv:uk r):Mb r s=Jf r s r.length:=by rw[Mb,if_neg (by simp[rL.2 hv]),My hv];exact L9 hv
theorem Ct(a:ae)(h:Nat)(r:List fi)(s:fi)(w:aB)(ha:m6 w a r)(hv:uk r):Qqa 150 [.slice a r.length h,U s] w (λv _=>v=U (Mx r s r.length)):=My (s:=s) hv ▸ Qu a h r s w ha (by have:=hv.len;unfold maxLen;omega)
theorem Sc(a:ae)(h:Nat)(r:List fi)(s:fi)(w:aB)(ha:m6 w a r)(hv:uk r):Qqa 151 [.slice a r.length h,U s] w (λv _=>v=U (Jf r s r.length)):=Sd (s:=s) hv ▸ Je a h r s w ha (by have:=hv.len;unfold maxLen;omega)
structure X0 (x u:fi) (L:List UInt8) (i:Nat):Prop where
  len:L.length=65
  lo:50<=i
  hi:i<=65
  sm:u.toNat<16^(i - 49)
  XH:RT x.toNat=RT u.toNat++L.drop i
structure WN (w:aB) (n:Nat) (ra:ae) (rows:List Row):Prop where
  rel:CH w ra rows
  row:∀r∈rows,r.At w/\uk r.xs/\r.xs.length=n
  len:rows.length<=20
theorem N4{m:MV}{i:Nat}(h:i<m.rows.length):m.rel.getD i []=m.rows[i].xs:=by simp[MV.rel,h]
theorem OE(x y:fi)(w:aB):Qqa 164 [U x,U y] w (λv _=>v=U (x &&& y)):=by
 refine gz func164 ?_;refine fz func164 λw' h=>?_;exact⟨h.ext,rfl⟩
theorem zA(r:Row)(w:aB)(h:r.At w)(p:r.xs.length<=100000):Qqa 171 [r.v] w (λv w'=>Own w w' v r.xs):=Pp r.a r.cap r.xs w h.at_ p h.cap
theorem Lt(m:MV)(n g:Nat)(w:aB)(hm:m.At w)(hv:mK m.n m.val m.rel)(hn:m.n=(n:Int))(hg:1<=g/\g<2^m.rows.length):
    Qqa 163 [m.v,aS g,.func (.func 164) #[] #[]] w (λv w'=>Own w w' v (sD n m.rel g)):=by
  have hn64:=hv.IU;have hn1:=hv.n1;have hag:=hv.qE;have Y:m.rel.length=m.rows.length:=by simp[MV.rel]
  have hp4:(2:Nat)^m.rows.length<=2^4:=cS aI aH;have h16:(2:Nat)^4=16:=aI;refine gz func163 ?_;refine gS (gR ?_);refine ff.oE (λb3=>?_);refine ij ?_;refine gE (gS (gS (gR ?_)));refine ff.v (fh.Al rfl rfl rfl rfl isAgg50 0 rfl YT rfl) ?_;refine nr call41 (λw _ D=>(by exact(vt m w (hm.fD D.ext)).mono (λv w' _ e=>by rw[e,lY.2 hv]))) ?_;refine kR rfl rfl rfl rfl (wR (v:=false) rfl) ?_
  iterate 2 refine jk ?_
  refine kR rfl rfl rfl rfl (PI (v:=false) (eC aH)) ?_;refine qv ?_
  iterate 2 refine jk ?_
  refine oL Yo YI 2 ?_;refine ff.v (fh.mE (v:=.slice m.ra m.rows.length m.rc) rfl rfl rfl rfl YJ 0 rfl rfl) ?_;refine Aw Yz ?_;refine kR rfl rfl rfl rfl (xm (x:=1) (j:=m.rows.length) rfl aH aH) ?_;refine kR rfl rfl rfl rfl (PK (v:=false) (eC aH)) ?_;refine qv ?_;refine gE (xu (gK (gS (gR ?_))));refine ij ?_;refine gE (gS (gS (gR ?_)));refine oL Yo YI 2 ?_;refine ff.v (fh.mE (v:=.slice m.ra m.rows.length m.rc) rfl rfl rfl rfl YJ 0 rfl rfl) ?_;refine Aw Yz ?_;refine jk ?_;refine gE (gB ?_);refine ff.gZ (ob U 43 [] []) ?_;refine ff.loop (σ:=Nat×ah×Nat×ai×List fi) (λz=>[(1,aS g),(2,.func (.func 164) #[] #[]),(7,gx z.2.1 z.2.2.2.2.length z.2.2.1),(27,.slice m.ra m.rows.length m.rc),(28,aS m.rows.length),(29,aS z.1)]) (λz=>[(z.2.1,ob U 43 z.2.2.2.2 z.2.2.2.1)])
    (λz=>z.1<=m.rows.length/\(z.2.1=none/\z.2.2.1=0/\z.2.2.2.2=[]/\(∀a,a<z.1->gb g a=0)\/∃b,z.2.1=some b/\z.2.2.2.2=jV n m.rel g z.1/\(z.2.2.2.2.map U++z.2.2.2.1).length=z.2.2.1)) (λz=>m.rows.length - z.1) (0,none,0,[],[])
    ⟨aG,.inl ⟨rfl,rfl,rfl,λa ha=>absurd ha (ew _)⟩⟩ zT (.cons_cons _ (.cons _ .slnil)) (λz hI S=>?_);obtain⟨k,q,cap,sp,xs⟩:=z;obtain⟨hk,p⟩:=hI;dsimp only at hk p S⊢;refine gS (gR ?_);refine jO AA ?_;refine gE (gS ?_);refine r0 (λC:k<m.rows.length=>?_) λhge:¬k<m.rows.length=>?_;have E:=hm.row m.rows[k] (dL C);have K:m.rows[k].xs∈m.rel:=eL.2 ⟨_,dL C,rfl⟩;have W:=hv.qM _ K;have X:m.rows[k].xs.length=n:=by have:=hv.len _ K;omega
  have M:m.rel.getD k []=m.rows[k].xs:=N4 C;refine gK (gS (gB (gS (gR ?_))));refine jk ?_;refine ff.v (fM rfl rfl rfl rfl rfl Yz YM ⟨_,hm.rel⟩ aL (k) ⟨rfl,by simpa using C⟩) ?_;refine ff.v (fh.iF YS (λw _ D=>(CH.fD hm.rel D.ext).at (k) C)) ?_
  iterate 2 refine ij ?_
  refine gE (gS (gS (gR ?_)))
  iterate 2 refine jk ?_
  refine kR rfl rfl rfl rfl (En (j:=k) rfl aH aH) ?_;refine kR rfl rfl rfl rfl (CB (by have:g / 2^k<=g:=Nat.div_le_self _ _;omega)) ?_;refine jO rO ?_;refine gE ?_;refine gC (λhc=>?_) λhc=>?_;have Q:gb g k=0:=Int.ofNat_inj.1 (show((gb g k:Nat):Int)=((0:Nat):Int)from eU.1 hc);refine kk (gR ?_);refine mV ?_;refine jk ?_;refine gE ?_;refine S (k+1,q,cap,sp,xs) _ _ ⟨C,?_⟩ aM zT aD;rcases p with⟨h1,h2,h3,h4⟩|⟨b,h1,h2,h3⟩;exact .inl ⟨h1,h2,h3,λa ha=>by
    rcases bR.1 ha with ha|rfl;exact h4 a ha;exact Q⟩;exact .inr ⟨b,h1,by rw[DC Q];exact h2,h3⟩;have P:gb g k=1:=by
    rcases DU g k with h|h;exact absurd (show((gb g k:Nat):Int)=0 by rw[h];rfl) (c9.1 hc);exact h
  refine gK (gS (gS (gR ?_)));refine jk ?_;refine kR rfl rfl rfl rfl (wQ X9) ?_;refine gE ?_;refine gC (λhc=>?_) λhc=>?_;obtain⟨rfl,rfl,rfl,hno⟩:q=none/\cap=0/\xs=[]/\∀a,a<k->gb g a=0:=by
    rcases p with h|⟨b,rfl,_⟩;exact h;cases hc
  refine gS (gR ?_);refine jk ?_;refine uB call171 (λw _ D=>zA m.rows[k] w (E.fD D.ext) aH) ?_;rintro v w1 w2 Y' D he ho;obtain⟨q2,oA,tN,rfl,hq2,lI,hS'⟩:=sI D he ho;obtain⟨b2,rfl⟩:∃b,q2=some b:=by
    cases q2 with
    |none=>have:=(hq2 rfl).1;omega
    |some b=>exact⟨b,rfl⟩
  refine⟨_,hS',?_⟩;refine ij ?_;refine gE (kk (gR ?_));refine mV ?_;refine jk ?_;refine gE ?_;exact S (k+1,some b2,oA,tN,m.rows[k].xs) _ _ ⟨C,.inr ⟨b2,rfl,(BZ aH hno P M X W).symm,lI⟩⟩ aM zT (.cons_cons _ (.cons _ .slnil));obtain⟨b,rfl,J,fB⟩:∃b,q=some b/\xs=jV n m.rel g k/\(xs.map U++sp).length=cap:=by
    rcases p with⟨rfl,_⟩|h;cases hc;exact h
  have T:xs.length=n:=by rw[J,ze]
  refine gK (gS (gR ?_));refine jk ?_;refine Aw X9 ?_;refine jk ?_;refine gE (gB ?_);refine ff.loop (σ:=Nat) (λj=>[(1,aS g),(2,.func (.func 164) #[] #[]),(7,gx (some b) xs.length cap),(9,m.rows[k].v),(27,.slice m.ra m.rows.length m.rc),(28,aS m.rows.length),(29,aS k),(44,aS xs.length),(45,aS j)]) (λj=>[(some b,ob U 43 (xi (λw x=>x &&& m.rows[k].xs.getD w 0#64) xs j) sp)])
    (λj=>j<=xs.length) (λj=>xs.length - j) 0 aG zT (by rw[D1];exact aD) (λj hj IH2=>?_);refine gS (gR ?_);refine jO AA ?_;refine gE (gS ?_);refine r0 (λF:j<xs.length=>?_) λhge:¬j<xs.length=>?_;have N:j<m.rows[k].xs.length:=aH;have O:j<(xi (λw x=>x &&& m.rows[k].xs.getD w 0#64) xs j).length:=by rw[od];exact F
  refine gK (gS (gB (gS (gR ?_))));refine jk ?_;refine ij ?_;refine gE ?_;refine ff.draw 13 mixed rfl ?_
  iterate 5 refine S1 ?_
  refine fJ.v (fh.gk X9 X8 (j) ⟨rfl,F⟩) ?_;refine fJ.v (ir U 0#64 rfl rfl rfl rfl Yi 0 rfl O) ?_
  iterate 2 refine S1 ?_
  refine fJ.v (fM rfl rfl rfl rfl rfl X9 X8 ⟨_,E.at_⟩ aL (j) ⟨rfl,by simpa using N⟩) ?_;refine fJ.v (fh.iF Yi (λw _ D=>(m6.fD E.at_ D.ext).at (j) N)) ?_;refine fJ.mI rfl rfl rfl rfl rfl call164 (λw _ D=>OE _ _ w) ?_;refine fJ.v (fh.gk X9 X8 (j) ⟨rfl,F⟩) ?_;refine fJ.nil ?_;refine ff.uV U _ rfl rfl rfl rfl X8 rfl 0 rfl O ?_;refine gE (xg (gR ?_));refine mV ?_;refine jk ?_;refine gE ?_;exact IH2 (j+1) _ _ F aH zT (by rw[<-D2 F];exact aD);obtain rfl:j=xs.length:=aH;have kz:xi (λw x=>x &&& m.rows[k].xs.getD w 0#64) xs xs.length=jV n m.rel g (k+1):=by rw[T,J];exact DB P M
  refine kk (xg (gR ?_));refine mV ?_;refine jk ?_;refine gE ?_;exact S (k+1,some b,cap,sp,xi (λw x=>x &&& m.rows[k].xs.getD w 0#64) xs xs.length) _ _ ⟨C,.inr ⟨b,rfl,kz,by rw[<-fB];simp[od]⟩⟩ aM ⟨rfl,rfl,(by rw[od];rfl),rfl,rfl,rfl,eZ⟩ aD;obtain rfl:k=m.rows.length:=aH;obtain⟨b,rfl,J,fB⟩:∃b,q=some b/\xs=jV n m.rel g m.rows.length/\(xs.map U++sp).length=cap:=by
    rcases p with⟨_,_,_,h⟩|h;exact absurd h (Hf hg.1 hg.2);exact h
  obtain rfl:xs=sD n m.rel g:=by rw[J,sD,Y]
  refine kk (gS (gR ?_));refine jk ?_;refine ij ?_;refine gE ?_;refine gT func163 λw' D=>?_;exact⟨D.ext,some b,cap,sp,rfl,(λh=>by cases h),fB,λb' hb=>by cases hb;exact⟨D.fresh (j:=0) rfl,D.get (j:=0) rfl⟩⟩
theorem OD(m:MV)(n g:Nat)(w:aB)(hm:m.At w)(hv:mK m.n m.val m.rel)(C:m.n=(n:Int))(hg:1<=g/\g<2^m.rows.length):
  Qqa 152 [m.v,aS g] w (λv w'=>Own w w' v (sD n m.rel g)):=by
 refine gz func152 ?_;refine gY ?_;refine ff.oE (λF=>?_);refine gy call163 (λw _ h=>Lt m n g w (hm.fD h.ext) hv C hg) ?_;rintro v E D J h he ho;obtain⟨q,cap,sp,rfl,hq,fB,p⟩:=sI h he ho;refine⟨_,p,?_⟩;refine fz func152 λw' h=>?_;exact⟨h.ext,q,cap,sp,rfl,hq,fB,λb' hb=>by subst hb;exact⟨h.fresh (j:=0) rfl,h.get (j:=0) rfl⟩⟩
theorem oy(f:List NV):fT (fw f):=by
 by_cases h:gp f=0;exact(ox h).nodes;rw[fw,if_pos h];intro i hi;exact absurd hi (ew _)
def xd(m:MV)(n:Nat)(f:List NV):fi:=if jN m.n m.val m.rel f=0 then rk n m.val m.rel (fF f)else 0#64
theorem B4:(Tryz.prog.info? 46).map (λi=>(i.zero,i.size,i.bytes))=some (some (.agg #[U 0#64,aS 0,aS 0,aS 0,.slice none 0 0]),5,56):=by kernel_rfl
theorem FB:(Tryz.prog.info? 43).map (λi=>(i.zero,i.size,i.bytes))=some (some (U 0#64),1,8):=by kernel_rfl
theorem No(l:Int)(A:ae)(cA:Nat)(b:List NV)(B:ae)(cB:Nat)(ss:List SV)(w:aB)(hA:FA w A b)(hB:Jw w B ss)(X:kQ l b (kJ ss)):
    Qqa 27 [.agg (iE l A b.length cA B ss.length cB)] w (λv w'=>∃v1 v2 os ws,v=.tuple #[v1,v2]/\Vb 88 46 3 w w' l b v1 v2 os ws/\kJ os=jD b (kJ ss)/\ws.map (λx=>x.d.set)=jl (kJ ss) (kJ ss).length):=by
  obtain⟨i1,hi1,hz1,hsz1,hby1⟩:=info_parts Ll;obtain⟨i2,hi2,hz2,hsz2,hby2⟩:=info_parts zj;obtain⟨i3,hi3,hz3,hsz3,hby3⟩:=info_parts B4;obtain⟨i4,hi4,hz4,hsz4,hby4⟩:=info_parts FB;obtain⟨L,hLd⟩:∃L,L=kJ ss:=⟨_,rfl⟩;have hL:L.length=ss.length:=by rw[hLd,iU]
  rw[<-hLd]at X⊢;have hat:∀{k:Nat} (hk:k<ss.length),L[k]'aH=ss[k].d:=λhk=>by subst hLd;exact qz hk
  have hp0:=X.pos;have hp4:=X.len;have hb:=X.base;have P:∀(k:Nat) (hk:k<ss.length),jr l b L k ss[k].d:=λk hk=>by have:=X.rf k aH;rwa[hat hk]at this
  have hfl:∀(k:Nat) (hk:k<ss.length),ss[k].d.fr.length<=2:=λk hk=>by
    have h:=(P k hk).2;rcases h with⟨_,e,_⟩|⟨_,_,_,h⟩|⟨_,_,_,h⟩|⟨_,_,_,_,h⟩|⟨_,_,_,_,h⟩|⟨_,_,_,h⟩|⟨_,_,_,_,h⟩;rw[e];exact aG
    all_goals (rw[nh]at h;have:=h.1;simp at this;omega)
  have hfb:∀(k:Nat) (hk:k<L.length),∀j∈L[k].fr,0<=j/\j<k:=λk hk j hj=>(X.rf k hk).uc hj;have hbl:b.length<=64:=hb.len;have hb0:0<b.length:=(fA.1 hb.qA).pos;have hnl:ss.length - 1<ss.length:=aH;have hrl:ss.length - 1<(List.replicate ss.length false).length:=by simp;omega
  refine gz func27 ?_;refine gY ?_;refine ff.oE (λN=>?_);refine ff.gO (λ_=>YV _) (λM=>?_);refine gY ?_;refine ff.gZ (ob U 43 [] []) ?_;refine ff.pick (pre:=[_,_,_]) (pre':=[(some N,.cells (iE l A b.length cA B ss.length cB) 26 (0,0)),(some M,.cells (iE 0 none 0 0 none 0 0) 26 (0,0)),(none,ob U 43 (lh b L 0) [])]) [2,1,0] aI rfl ?_;refine ff.loop (σ:=Nat×ah×Nat×ai) (λz=>[(1,aQ N),(2,aQ M),(4,gx z.2.1 (lh b L z.1).length z.2.2.1),(18,.slice B ss.length cB),(19,aS ss.length),(20,aS z.1)])
    (λz=>[(some N,.cells (iE l A b.length cA B ss.length cB) 26 (0,0)),(some M,.cells (iE 0 none 0 0 none 0 0) 26 (0,0)),(z.2.1,ob U 43 (lh b L z.1) z.2.2.2)])
    (λz=>z.1<=ss.length/\(z.2.1=none->(lh b L z.1).length=0/\z.2.2.1=0)/\((lh b L z.1).map U++z.2.2.2).length=z.2.2.1)
    (λz=>ss.length - z.1) (0,none,0,[]) ⟨aG,λ_=>⟨rfl,rfl⟩,rfl⟩ zT aD (λz hZ IH=>?_);obtain⟨k,q,cap,sp⟩:=z;obtain⟨hk,hq,fB⟩:=hZ;dsimp only at hk hq fB IH⊢;have hul:(lh b L k).length=k:=si aH;refine fy (λp:k<ss.length=>?_) λhge:¬k<ss.length=>?_;have hsu:lh b L (k+1)=lh b L k++[qe b ss[k].d (lh b L k)]:=by rw[tj aH,hat p]
  refine gY ?_;refine ff.v (fh.iT Yp Ya ⟨_,(hB).at_⟩ JB aI (k) ⟨rfl,p⟩) ?_;refine ff.v (fh.lE (cs:=SV.cells ss[k]) YK Ya (λw _ C=>Sl.many (enc:=SV.cells) (sz:=5) (hB.fD C.ext).at_ (λ_=>rfl) p)) ?_;refine ff.gO (λ_=>YP _) (λb6=>?_);refine ff.gl Ya 0 ?_;refine gF call56 (λw _ C=>(by exact Nn l A cA b B ss.length cB ss[k] L k (q.map aP) cap (lh b L k) w (hA.fD C.ext) hb ((hB.Ax ss[k] (dL p)).1.fD C.ext) (Ty C 3 rfl (λe=>(hq e).1)) hul (P k p) (hfl k p))) ?_;refine ff.gG (c:=[_]) X9 X8 YH (λb29=>?_);refine iZ U (news:=[qe b ss[k].d (lh b L k)]) (spn:=[]) (xs:=lh b L k) (sp:=sp) (q:=q) rfl rfl rfl rfl rfl X9 hi4 hz4 hsz4 rfl hq 4 rfl 0 rfl fB rfl aI (λ_=>rfl) qI (by rw[hby4];omega) (λb' sp' cap' hlen=>?_);refine gY ?_;refine ff.pick (pre:=[_,_,_,_,_]) (pre':=[_,_,_]) [2,3,4] aI rfl ?_;rw[<-hsu]at hlen⊢;exact IH (k+1,some b',cap',sp') _ _ ⟨p,aK,hlen⟩ aM zT aD;obtain rfl:k=ss.length:=aH;obtain⟨bs,rfl⟩:∃b,q=some b:=by
    cases q with
    |none=>have:=(hq rfl).1;omega
    |some b=>exact⟨b,rfl⟩
  rw[hul];have hug:∀{i:Nat},i<ss.length->(lh b L ss.length).getD i 0#64=xv b L i:=λhi=>uN hi aH;refine kk ?_;refine gY ?_;refine mR Value.bool false rfl rfl rfl rfl rfl Yn hi1 hz1 rfl hsz1 (by rw[hby1];omega) qI (λE=>?_);refine gY ?_;refine kR rfl rfl rfl rfl (mj (c:=((ss.length - 1:Nat):Int)) aH aH) ?_;refine ff.v (fh.gk Yn Yd (ss.length - 1) ⟨rfl,hnl⟩) ?_;refine ff.uV Value.bool _ rfl rfl rfl rfl Yd rfl 0 rfl hrl ?_;refine zp ?_;refine gY ?_;refine ff.loop (σ:=Nat×ao) (λz=>[(1,aQ N),(2,aQ M),(4,gx (some bs) ss.length cap),(7,.slice (aR E) ss.length ss.length),(8,aS ((ss.length:Int) - 1 - z.1))])
    (λz=>[(some E,ob Value.bool 4 z.2 []),(some N,.cells (iE l A b.length cA B ss.length cB) 26 (0,0)),(some M,.cells (iE 0 none 0 0 none 0 0) 26 (0,0)),(some bs,ob U 43 (lh b L ss.length) sp)])
    (λz=>z.1<=ss.length/\Nj L z.1 z.2) (λz=>ss.length - z.1) (0,(List.replicate ss.length false).set (ss.length - 1) true) ⟨aG,by have:=Ey (ss:=L) aH;rw[hL]at this;exact this⟩ ⟨rfl,rfl,rfl,rfl,by dsimp only;rw[show(ss.length:Int) - 1 - ((0:Nat):Int)=(ss.length:Int) - 1 by omega];rfl,eZ⟩ aD (λz hZ IH=>?_);obtain⟨i,s⟩:=z;obtain⟨hi,hU⟩:=hZ;dsimp only at hi hU IH⊢;refine fy (λp:i<ss.length=>?_) λhge:¬i<ss.length=>?_;obtain⟨k,hkd⟩:∃k,k=ss.length - 1 - i:=⟨_,rfl⟩;have hk:k<ss.length:=aH;have hki:k+1+i=ss.length:=aH;have hkI:(ss.length:Int) - 1 - i=(k:Int):=aH;have hsl:s.length=ss.length:=by rw[hU.len,hL]
  have hks:k<s.length:=aH;rw[hkI];refine gY ?_;refine ff.v (fh.iT Yp Ya ⟨_,(hB).at_⟩ JB aI (k) ⟨rfl,hk⟩) ?_;refine ff.v (fh.ow YO YG ((k)*5+4)) ?_;refine ff.v (fh.iF YL (λw _ C=>Sl.rJ (enc:=SV.cells) (sz:=5) ((hB).fD C.ext).at_ (λ_=>rfl) hk rfl)) ?_;refine gY ?_;refine ff.loop (σ:=Nat) (λq=>[(1,aQ N),(2,aQ M),(4,gx (some bs) ss.length cap),(7,.slice (aR E) ss.length ss.length),(8,aS (k:Int)),(53,.slice ss[k].fa ss[k].d.fr.length ss[k].fc),(54,aS ss[k].d.fr.length),(55,aS q)])
    (λq=>[(some E,ob Value.bool 4 (Ak (sB s k) s (ss[k].d.fr.take q)) []),(some N,.cells (iE l A b.length cA B ss.length cB) 26 (0,0)),(some M,.cells (iE 0 none 0 0 none 0 0) 26 (0,0)),(some bs,ob U 43 (lh b L ss.length) sp)])
    (λq=>q<=ss[k].d.fr.length) (λq=>ss[k].d.fr.length - q) 0 aG zT aD (λq hq IH2=>?_);refine fy (λW:q<ss[k].d.fr.length=>?_) λhge:¬q<ss[k].d.fr.length=>?_;have hjb:=(P k hk).uc (dL W);obtain⟨j,hj⟩:∃j:Nat,ss[k].d.fr[q]=(j:Int):=⟨ss[k].d.fr[q].toNat,aH⟩;obtain⟨s1,hs1⟩:∃s1,s1=Ak (sB s k) s (ss[k].d.fr.take q):=⟨_,rfl⟩;have hs1l:s1.length=ss.length:=by rw[hs1,xY,hsl]
  have hjl:j<ss.length:=aH;have hjs:j<s1.length:=aH;have hk1:k<s1.length:=aH;have hfr:=(hB.Ax ss[k] (dL hk)).1;have hf2:=hfl k hk;have hsk:sB s1 k=sB s k:=by
    have hn:(k:Int)∉ss[k].d.fr.take q:=λhm=>by have:=(P k hk).uc (cQ hm);omega
    rw[hs1,E2 (λi hi=>by have:=(P k hk).uc (cQ hi);omega)];simp[hn]
  have hnx:Ak (sB s k) s (ss[k].d.fr.take (q+1))=s1.set j (sB s1 j||sB s k):=by
    rw[aU W,Dw,<-hs1,hj];rfl
  rw[<-hs1];refine gY ?_;refine ff.v (fM rfl rfl rfl rfl rfl X7 X4 ⟨_,hfr⟩ aL (q) ⟨rfl,by simpa using W⟩) ?_;refine ff.v (fh.iF X5 (λw _ C=>(oD.fD hfr C.ext).at (q) W)) ?_;refine gY ?_;refine ff.v (fh.gk Yn Yd (j) ⟨hj,hjl⟩) ?_;refine ff.v (fh.qR Value.bool false Yw 0 hjs) ?_;refine fY 65 (λhsj:sB s1 j=true=>?_) λhsj:sB s1 j=false=>?_;refine gY ?_;refine ff.v (fh.gk Yn Yd (j) ⟨hj,hjl⟩) ?_;refine ff.uV Value.bool _ rfl rfl rfl rfl Yd rfl 0 rfl hjs ?_;refine gY ?_;exact IH2 (q+1) _ _ W aH zT (by rw[hnx,hsj];exact aD);refine gY ?_;refine ff.v (fh.gk Yn Yd (k) ⟨rfl,hk⟩) ?_;refine ff.v (fh.qR Value.bool false Yw 0 hk1) ?_;refine gY ?_;refine ff.v (fh.gk Yn Yd (j) ⟨hj,hjl⟩) ?_;refine ff.uV Value.bool _ rfl rfl rfl rfl Yd rfl 0 rfl hjs ?_;refine gY ?_;exact IH2 (q+1) _ _ W aH zT (by rw[hnx,hsj,<-hsk];exact aD);obtain rfl:q=ss[k].d.fr.length:=aH;refine kk ?_;refine zp ?_;refine gY ?_;exact IH (i+1,Ak (sB s k) s ss[k].d.fr) _ _ ⟨p,by have:=hU.step hfb (k:=k) aH;rw[hat hk]at this;exact this⟩ aM ⟨rfl,rfl,rfl,rfl,by dsimp only;rw[show(ss.length:Int) - 1 - ((i+1:Nat):Int)=(k:Int) - 1 by omega];rfl,eZ⟩ (by rw[dR];exact aD);obtain rfl:i=ss.length:=aH;have hnd:∀j,j<ss.length->sB s j=iS L j:=λj hj=>by rw[<-hL]at hU;exact hU.done aH
  have hsl:s.length=ss.length:=by rw[hU.len,hL]
  refine kk (gS ?_);refine ig (α:=Nat×Nat×Nat×ai) [7] (λz=>[(1,aQ N),(2,aQ M),(4,gx (some bs) ss.length cap),(7,.slice (aR E) ss.length ss.length),(78,.agg (iE l ((some z.2.1).map aP) b.length z.2.2.1 none 0 0)),(11,aQ z.1)]) (λz=>[(some z.1,.cells (iE 0 none 0 0 none 0 0) 26 (0,0)),(some z.2.1,jR 88 b z.2.2.2),(some E,ob Value.bool 4 s []),(some N,.cells (iE l A b.length cA B ss.length cB) 26 (0,0)),(some M,.cells (iE 0 none 0 0 none 0 0) 26 (0,0)),(some bs,ob U 43 (lh b L ss.length) sp)]) (λz=>?_) (λK=>?_);obtain⟨F,S,ca,J⟩:=z;dsimp only;refine ff.gl YN 0 ?_;refine gY ?_;refine mR gu 0 rfl rfl rfl rfl rfl X7 hi2 hz2 rfl hsz2 (by rw[hby2];omega) qI (λQ=>?_);refine gY ?_
  iterate 2 refine ff.gZ (oY 46 [] []) ?_
  refine ff.pick (pre:=[_,_,_,_,_,_,_,_,_]) (pre':=[(some Q,ob gu 3 (lS L 0) []),(some F,.cells (iE l ((some S).map aP) b.length ca ((none:ah).map aP) ([]:List SV).length 0) 26 (0,0)),(some S,jR 88 b J),(some E,ob Value.bool 4 s []),(some N,.cells (iE l A b.length cA B ss.length cB) 26 (0,0)),(some M,.cells (iE 0 none 0 0 none 0 0) 26 (0,0)),(some bs,ob U 43 (lh b L ss.length) sp),(none,oY 46 [] []),(none,oY 46 [] [])]) [2,3,4,5,6,7,8,0,1] aI (by rw[AQ,hL];rfl) ?_;refine ff.loop (σ:=Nat×(ah×Nat×List SV×ai)×(ah×Nat×List SV×ai)×Hl) (λz=>[(1,aQ N),(2,aQ M),(4,gx (some bs) ss.length cap),(7,.slice (aR E) ss.length ss.length),(11,aQ F),(12,gx z.2.2.1.1 z.2.2.1.2.2.1.length z.2.2.1.2.1),(13,.slice (aR Q) ss.length ss.length),(83,.slice B ss.length cB),(84,aS ss.length),(85,aS z.1)])
    (λz=>[(some Q,ob gu 3 (lS L z.1) []),(some F,.cells (iE l ((some S).map aP) b.length ca (z.2.1.1.map aP) z.2.1.2.2.1.length z.2.1.2.1) 26 (0,0)),(some S,jR 88 b J),(some E,ob Value.bool 4 s []),(some N,.cells (iE l A b.length cA B ss.length cB) 26 (0,0)),(some M,.cells (iE 0 none 0 0 none 0 0) 26 (0,0)),(some bs,ob U 43 (lh b L ss.length) sp),(z.2.1.1,oY 46 z.2.1.2.2.1 z.2.1.2.2.2),(z.2.2.1.1,oY 46 z.2.2.1.2.2.1 z.2.2.1.2.2.2)]++z.2.2.2)
    (λz=>z.1<=ss.length/\(z.2.1.1=none->z.2.1.2.2.1.length=0/\z.2.1.2.1=0)/\(z.2.1.2.2.1.flatMap SV.cells++z.2.1.2.2.2).length=z.2.1.2.1*5/\(z.2.2.1.1=none->z.2.2.1.2.2.1.length=0/\z.2.2.1.2.1=0)/\(z.2.2.1.2.2.1.flatMap SV.cells++z.2.2.1.2.2.2).length=z.2.2.1.2.1*5/\
      kJ z.2.1.2.2.1=uQ b L z.1/\z.2.2.1.2.2.1.map (λx=>x.d.set)=jl L z.1/\∀x∈z.2.1.2.2.1,x.yw 3 z.2.2.2/\x.d.fr.length<=maxLen)
    (λz=>ss.length - z.1) (0,(none,0,[],[]),(none,0,[],[]),[]) ⟨aG,λ_=>⟨rfl,rfl⟩,rfl,λ_=>⟨rfl,rfl⟩,rfl,rfl,rfl,λ_ h=>by cases h⟩ zT aD (λz hZ IH=>?_);obtain⟨i,⟨qo,co,os,Y⟩,⟨qw,cw,ws,spw⟩,H⟩:=z;obtain⟨hi,hqo,hco1,hqw,hcw,hos,hws,hin⟩:=hZ;dsimp only at hi hqo hco1 hqw hcw hos hws hin IH⊢;have hol:os.length=gq (iS L) i:=by rw[<-sr (b:=b) (show i<=L.length by omega),<-hos,iU]
  have hwl:ws.length=gq (iS L) i:=by rw[<-sJ (show i<=L.length by omega),<-hws,dY]
  have hcn:gq (iS L) i<=i:=yn;refine fy (λp:i<ss.length=>?_) λhge:¬i<ss.length=>?_;have hs:i<s.length:=aH;have hsu:i<(lh b L ss.length).length:=aH;have hpl:i<(lS L i).length:=by rw[vd];omega
  have hfr:=(hB.Ax ss[i] (dL p)).1;have hf2:=hfl i p;have hps:=nU (b:=b) (show i<L.length by omega);have hfs:jl L (i+1)=if iS L i=true then jl L i++[L[i].set]else jl L i:=by rw[jl,bJ aH]
  rw[hat p]at hps hfs;refine gY ?_;refine ff.v (fh.iT Yp Ya ⟨_,(hB).at_⟩ JB aI (i) ⟨rfl,p⟩) ?_;refine ff.v (fh.lE (cs:=SV.cells ss[i]) YK Ya (λw _ C=>Sl.many (enc:=SV.cells) (sz:=5) (hB.fD C.ext).at_ (λ_=>rfl) p)) ?_;refine ff.gO (λ_=>YP _) (λb15=>?_);refine gY ?_;refine ff.gl Ya 0 ?_;refine gY ?_;refine ff.v (fh.gk Yn Yd (i) ⟨rfl,p⟩) ?_;refine ff.v (fh.qR Value.bool false Yw 4 hs) ?_;refine fy (λhsi:sB s i=false=>?_) λhsi:sB s i=true=>?_;have hn:iS L i=false:=by rw[<-hnd i p];exact hsi
  rw[if_neg (by rw[hn];simp)]at hps hfs;refine kk ?_;refine gY ?_;exact IH (i+1,(qo,co,os,Y),(qw,cw,ws,spw),H) _ _ ⟨p,hqo,hco1,hqw,hcw,by dsimp only;rw[hps];exact hos,by dsimp only;rw[hfs];exact hws,hin⟩ aM zT (by dsimp only;rw[AR hn];exact .cons _ aD);have hn:iS L i=true:=by rw[<-hnd i p];exact hsi
  rw[if_pos hn]at hps hfs;have hNd:=me.1 hn;have hset:(lS L i).set i (os.length:Int)=lS L (i+1):=by rw[hol];exact Dj hn
  refine gY ?_;refine ff.v (fh.gk X7 X4 (i) ⟨rfl,p⟩) ?_;skip;refine ff.uV (Value.int .i64) _ rfl rfl rfl rfl X4 rfl 1 rfl hpl ?_;rw[hset];refine gY ?_;refine ff.gG (c:=[_,_,_,_,_]) Yp Ya YP (λb103=>?_);refine q7 (ss:=ws) (sp:=spw) (q:=qw) (nl:=ss[i]) rfl rfl rfl rfl rfl Yp hi3 hz3 hsz3 rfl hqw 10 rfl 0 rfl hcw qI (by rw[hby3];omega) (λbw T cw' hlw=>?_);refine gY ?_;refine ff.v (fh.gk X9 X8 (i) ⟨rfl,p⟩) ?_;skip;refine ff.v (ir U 0#64 rfl rfl rfl rfl Yi 8 rfl hsu) ?_;rw[hug p];refine gY ?_;refine ff.oW X8 1 ?_;refine gE (gS ?_);refine iz (α:=Unit) (λ_=>[(1,aQ N),(2,aQ M),(4,gx (some bs) ss.length cap),(7,.slice (aR E) ss.length ss.length),(11,aQ F),(12,gx (some bw) (ws++[ss[i]]).length cw'),(13,.slice (aR Q) ss.length ss.length),(83,.slice B ss.length cB),(84,aS ss.length),(85,aS i),(14,aS i),(15,aQ b15)]) (λ_=>[(some b15,.cells #[U (xv b L i),aS ss[i].d.fK,aS ss[i].d.on,aS (if ss[i].d.fK=1/\(nd b ss[i].d.on).op=2 then 0 else ss[i].d.e),.slice ss[i].fa ss[i].d.fr.length ss[i].fc] 46 (0,0)),(some Q,ob gu 3 (lS L (i+1)) []),(some F,.cells (iE l ((some S).map aP) b.length ca (qo.map aP) os.length co) 26 (0,0)),(some S,jR 88 b J),(some E,ob Value.bool 4 s []),(some N,.cells (iE l A b.length cA B ss.length cB) 26 (0,0)),(some M,.cells (iE 0 none 0 0 none 0 0) 26 (0,0)),(some bs,ob U 43 (lh b L ss.length) sp),(qo,oY 46 os Y),(some bw,oY 46 (ws++[ss[i]]) T)]++H) (λ_=>?_) (λK=>?_)
  refine gy call58 (λw _ C=>(by exact Mn ss[i].fa ss[i].fc ss[i].d.fr w (hfr.fD C.ext) aH)) ?_;rintro v w1 w2 Y' C he ho;obtain⟨qf,cf,spf,rfl,hqf,hcf,hS'⟩:=zo C he ho;refine⟨_,hS',?_⟩;refine gY ?_;refine ff.oW YG 1 ?_;refine gY ?_;rw[<-Ke (ss:=L) (fr:=ss[i].d.fr)];refine ff.loop (σ:=Nat) (λm=>[(1,aQ N),(2,aQ M),(4,gx (some bs) ss.length cap),(7,.slice (aR E) ss.length ss.length),(11,aQ F),(12,gx (some bw) (ws++[ss[i]]).length cw'),(13,.slice (aR Q) ss.length ss.length),(83,.slice B ss.length cB),(84,aS ss.length),(85,aS i),(14,aS i),(15,aQ b15),(129,gx qf ss[i].d.fr.length cf),(130,aS ss[i].d.fr.length),(131,aS m)]) (λm=>[(qf,ob gu 3 (EJ L ss[i].d.fr m) spf),(some b15,.cells #[U (xv b L i),aS ss[i].d.fK,aS ss[i].d.on,aS (if ss[i].d.fK=1/\(nd b ss[i].d.on).op=2 then 0 else ss[i].d.e),.slice (qf.map aP) ss[i].d.fr.length cf] 46 (0,0)),(some Q,ob gu 3 (lS L (i+1)) []),(some F,.cells (iE l ((some S).map aP) b.length ca (qo.map aP) os.length co) 26 (0,0)),(some S,jR 88 b J),(some E,ob Value.bool 4 s []),(some N,.cells (iE l A b.length cA B ss.length cB) 26 (0,0)),(some M,.cells (iE 0 none 0 0 none 0 0) 26 (0,0)),(some bs,ob U 43 (lh b L ss.length) sp),(qo,oY 46 os Y),(some bw,oY 46 (ws++[ss[i]]) T)]++H)
    (λm=>m<=ss[i].d.fr.length) (λm=>ss[i].d.fr.length - m) 0 aG zT aD (λm hm IH2=>?_);refine fy (λO:m<ss[i].d.fr.length=>?_) λhge:¬m<ss[i].d.fr.length=>?_;have hjb:=(P i p).uc (dL O);obtain⟨j,hj⟩:∃j:Nat,ss[i].d.fr[m]=(j:Int):=⟨ss[i].d.fr[m].toNat,aH⟩;have hjl:j<ss.length:=aH;have hjp:j<(lS L (i+1)).length:=by rw[vd];omega
  have hmr:m<(EJ L ss[i].d.fr m).length:=by rw[N1];exact O
  have hNj:Ic L j:=.fr (show i<L.length by omega) hNd (by rw[hat p,<-hj];exact dL O);have hgm:(EJ L ss[i].d.fr m).getD m 0=(j:Int):=by rw[Q9 O,hj]
  have hpj:(lS L (i+1)).getD j 0=(gq (iS L) j:Int):=Dk aH aH hNj;have hnx:(EJ L ss[i].d.fr m).set m (gq (iS L) j:Int)=EJ L ss[i].d.fr (m+1):=by rw[<-N0 O,hj];rfl
  obtain⟨bf,rfl⟩:∃b,qf=some b:=by
    cases qf with
    |none=>have:=(hqf rfl).1;omega
    |some b=>exact⟨b,rfl⟩
  refine gY ?_;refine ff.draw 12 mixed rfl ?_;refine rY ?_;refine fJ.v (fh.gk X7 X4 (m) ⟨rfl,O⟩) ?_;refine fJ.v (fh.qR gu 0 X5 0 hmr) ?_;refine fJ.v (fh.gk X7 X4 (j) ⟨hgm,hjl⟩) ?_;refine fJ.v (fh.qR gu 0 X5 2 hjp) ?_;refine fJ.v (fh.gk X7 X4 (m) ⟨rfl,O⟩) ?_;refine fJ.nil ?_;refine ff.uV (Value.int .i64) _ rfl rfl rfl rfl X4 rfl 0 rfl hmr ?_;refine gY ?_;exact IH2 (m+1) _ _ O aH zT (by rw[<-hnx,<-hpj];exact aD);obtain rfl:m=ss[i].d.fr.length:=aH;rw[N2];obtain⟨nl,hnl2⟩:∃nl:SV,nl=⟨m7 b L i ss[i].d,qf.map aP,cf⟩:=⟨_,rfl⟩;have hnd2:nl.d=m7 b L i ss[i].d:=by rw[hnl2]
  have hcl:SV.cells nl=[U (xv b L i),aS ss[i].d.fK,aS ss[i].d.on,aS (if ss[i].d.fK=1/\(nd b ss[i].d.on).op=2 then 0 else ss[i].d.e),.slice (qf.map aP) ss[i].d.fr.length cf]:=by
    rw[hnl2];simp[SV.cells,m7]
  refine kk ?_;refine gY ?_;refine ff.gG (c:=[_,_,_,_,_]) Yp Ya YP (λb150=>?_);refine q7 (ss:=os) (sp:=Y) (q:=qo) (nl:=nl) rfl rfl rfl rfl rfl Yp hi3 hz3 hsz3 rfl hqo 10 rfl 0 (by rw[hcl];rfl) hco1 qI (by rw[hby3];omega) (λbo spo' co' hlo=>?_);refine gY ?_;refine ff.oW sizeOf24 4 ?_;refine gY ?_;refine ff.kq (pre:=[_,_,_,_,_,_,_,_,_,_,_,_]) (pre':=[(some Q,ob gu 3 (lS L (i+1)) []),(some F,.cells (iE l ((some S).map aP) b.length ca ((some bo).map aP) (os++[nl]).length co') 26 (0,0)),(some S,jR 88 b J),(some E,ob Value.bool 4 s []),(some N,.cells (iE l A b.length cA B ss.length cB) 26 (0,0)),(some M,.cells (iE 0 none 0 0 none 0 0) 26 (0,0)),(some bs,ob U 43 (lh b L ss.length) sp),(some bo,oY 46 (os++[nl]) spo'),(some bw,oY 46 (ws++[ss[i]]) T),(qf,ob gu 3 (ss[i].d.fr.map (λj=>((gq (iS L) j.toNat:Nat):Int))) spf)]) H [3,4,5,6,7,8,9,10,11,1] aI rfl ?_;refine IH (i+1,(some bo,co',os++[nl],spo'),(some bw,cw',ws++[ss[i]],T),(qf,ob gu 3 (ss[i].d.fr.map (λj=>((gq (iS L) j.toNat:Nat):Int))) spf)::H) _ _ ⟨p,aK,hlo,aK,hlw,?_,?_,λx hx=>?_⟩ aM zT aD;dsimp only;rw[show kJ (os++[nl])=kJ os++[nl.d] by simp,hos,hps,hnd2];dsimp only;rw[ec,hws,hfs];rfl;dsimp only at hx⊢;rcases ed.1 hx with hx|hx;exact⟨(hin x hx).1.mono (cI _ _),(hin x hx).2⟩;rw[dn.1 hx,hnl2];exact⟨⟨qf,spf,aF,rfl,λe=>by simp only[m7,dY];exact(hqf e).1⟩,by simp only[m7,dY];unfold maxLen;omega⟩;refine fY 113 (λr1:ss[i].d.fK=1=>?_) λr1:¬ss[i].d.fK=1=>?_
  have hol2:0<=ss[i].d.on/\ss[i].d.on<b.length:=by
    rcases(FZ.1 ((FU (P i p).1 r1).1 (P i p))).2 with h|h;obtain⟨o,q1,q2,_⟩:=h.1.nat hb;omega;obtain⟨o,q1,_⟩:=mF.1 h.1;have:=h.2.1;omega
  obtain⟨o,ho⟩:∃o:Nat,ss[i].d.on=(o:Int):=⟨ss[i].d.on.toNat,aH⟩;have hob:o<b.length:=aH;have hnd3:nd b ss[i].d.on=b[o]:=by rw[ho,jU hob]
  refine gY ?_;refine ff.v (fh.iT Ye X6 ⟨_,(hA).at_⟩ uq aI (o) ⟨ho,hob⟩) ?_;refine ff.v (fh.ow Yb X4 ((o)*6+0)) ?_;refine ff.v (fh.iF X5 (λw _ C=>Sl.rJ (enc:=NV.cells) (sz:=6) ((hA).fD C.ext).at_ (λ_=>rfl) hob rfl)) ?_;refine fy (λh2:b[o].op=2=>?_) λh2:¬b[o].op=2=>?_;have hE:(if ss[i].d.fK=1/\(nd b ss[i].d.on).op=2 then 0 else ss[i].d.e)=0:=if_pos ⟨r1,by rw[hnd3];exact h2⟩;refine gY ?_;refine ff.oW X4 1 ?_;refine gE ?_;exact K () _ _ sF (λ_ _ C=>by rw[hE];exact C.js (.cons _ aD));have hE:(if ss[i].d.fK=1/\(nd b ss[i].d.on).op=2 then 0 else ss[i].d.e)=ss[i].d.e:=if_neg (λh=>h2 (by rw[<-hnd3];exact h.2));refine gK ?_;exact K () _ _ sF (λ_ _ C=>by rw[hE];exact C.js (.cons _ aD));have hE:(if ss[i].d.fK=1/\(nd b ss[i].d.on).op=2 then 0 else ss[i].d.e)=ss[i].d.e:=if_neg (λh=>r1 h.1);refine gY ?_;refine xu (gK ?_);exact K () _ _ sF (λ_ _ C=>by rw[hE];exact C.js (.cons _ aD));obtain rfl:i=ss.length:=aH;refine kk ?_;refine gY ?_;refine ff.gl YN 5 ?_;refine gY ?_;refine ff.kD Tryz.f27 func27 _ (fP.cell rfl isAgg26 YN (j:=5) rfl rfl (fP.tmp rfl fP.nil)) (λw' C=>?_);exact⟨C.ext,_,_,os,ws,rfl,⟨some S,qo,qw,ca,co,cw,J,Y,spw,H,rfl,rfl,aK,λe=>(hqo e).1,λe=>(hqw e).1,ld.of (C.kq (pre:=[_,_,_,_,_,_,_,_,_]) (pre':=[_,_,_]) (HR:=H) [2,7,8] aI rfl),hin⟩,by rw[hos,jD,hL],by rw[hws,hL]⟩
  refine ff.sP 4 9 [(some E,ob Value.bool 4 s []),(some N,.cells (iE l A b.length cA B ss.length cB) 26 (0,0)),(some M,.cells (iE 0 none 0 0 none 0 0) 26 (0,0)),(some bs,ob U 43 (lh b L ss.length) sp)] sL mixed rfl ?_;refine lg.v (fh.k0 rfl rfl rfl rfl underlying26 rfl (by exact X4) 0 rfl) ?_;refine lg.v (fh.mE rfl rfl rfl rfl X5 1 rfl rfl) ?_;refine lg.v (fh.k0 rfl rfl rfl rfl underlying26 rfl (by exact Yg) 1 rfl) ?_;refine lg.v (fh.mE rfl rfl rfl rfl Yl 1 rfl rfl) ?_;refine lg.nil ?_;refine Tl.two (d:=77) (d2:=11) rfl ?_ ?_;refine jq.call _ rfl rfl rfl rfl rfl call57 (λw _ C=>(by exact Ed A cA b w (hA.fD C.ext) hb0 aH)) ?_;rintro v w1 w2 Y' C he ho;obtain⟨qa,ca,J,rfl,hqa,hca,hS'⟩:=fR C he ho;obtain⟨S,rfl⟩:∃b,qa=some b:=by
    cases qa with
    |none=>have:=(hqa rfl).1;omega
    |some b=>exact⟨b,rfl⟩
  refine⟨_,hS',sL,?_⟩;refine Tl.two (d:=78) (d2:=11) rfl ?_ ?_;refine jq.v (fh.gX (bd26 (c:=[_,_,_]) rfl)) (λ_ h=>by cases h;rfl) ⟨by repeat(first|exact aD|exact aE|refine List.Sublist.cons_cons _ ?_|refine List.Sublist.cons _ ?_),?_⟩;refine Tl.one (d:=11) rfl ?_;refine jq.ML rfl rfl rfl (λ_=>YV _) (λF=>⟨by repeat(first|exact aD|exact aE|refine List.Sublist.cons_cons _ ?_|refine List.Sublist.cons _ ?_),?_⟩);refine Tl.sw [7] rfl rfl ?_;exact K (F,S,ca,J) _ _ sF (λ_ _ C=>C);refine jq.ML rfl rfl rfl (λ_=>YV _) (λF=>⟨by repeat(first|exact aD|exact aE|refine List.Sublist.cons_cons _ ?_|refine List.Sublist.cons _ ?_),?_⟩);refine Tl.one (d:=78) rfl ?_;refine jq.v (fh.gX (bd26 (c:=[_,_,_]) rfl)) (λ_ h=>by cases h;rfl) ⟨by repeat(first|exact aD|exact aE|refine List.Sublist.cons_cons _ ?_|refine List.Sublist.cons _ ?_),?_⟩;refine Tl.sw [7] rfl rfl ?_;exact K (F,S,ca,J) _ _ sF (λ_ _ C=>C);refine jq.ML rfl rfl rfl (λ_=>YV _) (λF=>⟨by repeat(first|exact aD|exact aE|refine List.Sublist.cons_cons _ ?_|refine List.Sublist.cons _ ?_),?_⟩);refine Tl.one (d:=77) rfl ?_;refine jq.call _ rfl rfl rfl rfl rfl call57 (λw _ C=>(by exact Ed A cA b w (hA.fD C.ext) hb0 aH)) ?_;rintro v w1 w2 Y' C he ho;obtain⟨qa,ca,J,rfl,hqa,hca,hS'⟩:=fR C he ho;obtain⟨S,rfl⟩:∃b,qa=some b:=by
    cases qa with
    |none=>have:=(hqa rfl).1;omega
    |some b=>exact⟨b,rfl⟩
  refine⟨_,hS',sL,?_⟩;refine Tl.one (d:=78) rfl ?_;refine jq.v (fh.gX (bd26 (c:=[_,_,_]) rfl)) (λ_ h=>by cases h;rfl) ⟨by repeat(first|exact aD|exact aE|refine List.Sublist.cons_cons _ ?_|refine List.Sublist.cons _ ?_),?_⟩;refine Tl.sw [7] rfl rfl ?_;exact K (F,S,ca,J) _ _ sF (λ_ _ C=>C.pick (pre:=[_,_,_,_,_,_]) (pre':=[_,_,_,_,_,_]) [1,0,2,3,4,5] aI rfl)
section
variable{k:Nat}{c:TC}{s:fi}
abbrev yB(l:List (SD×fi)):List SV:=l.map (λp=>⟨p.1,none,0⟩)
abbrev Ah(l:List (SD×fi)):List fi:=l.map (·.2)
theorem JO   (h:ga s k=true/\(c.n k).op=10):kK c s (k+1) 0=kK c s k 0++[(SD.mk s 6 k 0 [],bW (c.n k).x|||m4 c.l c.b s (c.n k).i)]:=by
 unfold kK;rw[yi,show Ti c s k=some _ from if_pos h];simp
theorem CS   (h:¬(ga s k=true/\(c.n k).op=10)):kK c s (k+1) 0=kK c s k 0:=by
 unfold kK;rw[yi,show Ti c s k=none from if_neg h];simp
theorem JM  {a:Nat}(h:c.ag.getLsbD a=true/\(c.l=1\/c.l=5)):kK c s k (a+1)=kK c s k a++[(SD.mk s 7 a 0 [],m4 c.l c.b s a)]:=by
 unfold kK;rw[yi,show Th c s a=some _ from if_pos h];simp
theorem JN  {a:Nat}(h:¬(c.ag.getLsbD a=true/\(c.l=1\/c.l=5))):kK c s k (a+1)=kK c s k a:=by
 unfold kK;rw[yi,show Th c s a=none from if_neg h];simp
structure Wg (q1:ah) (c1:Nat) (p1:ai) (q2:ah) (c2:Nat) (p2:ai) (L:List (SD×fi)):Prop where
  n1:q1=none->(yB L).length=0/\c1=0
  c1:((yB L).flatMap SV.cells++p1).length=c1*5
  n2:q2=none->(Ah L).length=0/\c2=0
  c2:((Ah L).map U++p2).length=c2
theorem Ij(x:Tx)(c:TC)(vp vs:aC)(s:fi)(w:aB)(hR:PY w x c vp vs)(hb:fS c.b)(hag:c.ag.toNat<16):Qqa 138 [aQ x.bs,U s] w
    (λv w'=>∃N c1 Q M c2 O,v=.tuple #[gx N (yB (jP c s)).length c1,gx M (Ah (jP c s)).length c2]/\Wg N c1 Q M c2 O (jP c s)/\ld w w' [(N,oY 46 (yB (jP c s)) Q),(M,ob U 43 (Ah (jP c s)) O)]):=by
  obtain⟨i3,hi3,hz3,T,X⟩:=info_parts B4;obtain⟨i4,hi4,hz4,S,W⟩:=info_parts FB;obtain⟨bs,hbs⟩:∃b,b=x.bs:=⟨_,rfl⟩;have HB:∀{w':aB} {j:Nat} {u:aC},Ex [] w w'->(xz c.l (gx x.qb c.b.length x.cb) (gx x.qn c.ng.length x.cn) c.ag x.mr x.mo vp vs)[j]?=some u->w'.cell? ⟨bs,j,none⟩=some u:=λe h=>Ex.cell e (hbs ▸ hR.jd) h;have ha:=hR.fa;have hcr:=λ(a:Int) w' (e:Ex [] w w')=>JZ x c vp vs s a w' (hR.ex e) hb;rw[<-hbs]at hcr;have hlen:=hb.len;have hwl:=λk a=>@JL c s k a;rw[<-hbs];refine gz func138 ?_;refine gY ?_;refine ff.v (fh.iF (p:=⟨bs,1,none⟩) Yl (λw _ C=>HB C.ext rfl)) ?_;refine gY ?_;refine ff.gZ (ob U 43 [] []) ?_;refine ff.gZ (oY 46 [] []) ?_;refine ff.loop (σ:=Nat×(ah×Nat×ai)×(ah×Nat×ai)) (λz=>[(0,aQ bs),(1,U s),(6,gx z.2.1.1 (yB (kK c s z.1 0)).length z.2.1.2.1),(7,gx z.2.2.1 (Ah (kK c s z.1 0)).length z.2.2.2.1),(14,gx x.qb c.b.length x.cb),(15,aS c.b.length),(16,aS z.1)])
    (λz=>[(z.2.1.1,oY 46 (yB (kK c s z.1 0)) z.2.1.2.2),(z.2.2.1,ob U 43 (Ah (kK c s z.1 0)) z.2.2.2.2)])
    (λz=>z.1<=c.b.length/\Wg z.2.1.1 z.2.1.2.1 z.2.1.2.2 z.2.2.1 z.2.2.2.1 z.2.2.2.2 (kK c s z.1 0)) (λz=>c.b.length - z.1) (0,(none,0,[]),(none,0,[])) ⟨aG,λ_=>⟨rfl,rfl⟩,rfl,λ_=>⟨rfl,rfl⟩,rfl⟩ zT aD (λz hI IH=>?_);obtain⟨k,⟨N,c1,Q⟩,M,c2,O⟩:=z;obtain⟨hk,hW⟩:=hI;dsimp only at hk hW IH⊢;have hw1:=hwl k 0;refine fy (λJ:k<c.b.length=>?_) λhge:¬k<c.b.length=>?_;have hnd:c.n k=c.b[k]:=jU J;have x0:0<=c.b[k].x:=by
    have ho:=(fA.1 hb.qA).nodes k J;cases e:ji c.b[k].op with
    |true=>exact(ho.x e).1
    |false=>rw[ho.x0 e];exact Int.le_refl _
  refine gY ?_;refine ff.v (fh.iT Ye X6 ⟨_,(ha).at_⟩ uq aI (k) ⟨rfl,J⟩) ?_;refine ff.v (fh.lE (cs:=NV.cells c.b[k]) Yk X6 (λw _ C=>Sl.many (enc:=NV.cells) (sz:=6) (ha.fD C.ext).at_ (λ_=>rfl) J)) ?_;refine ff.gO (λ_=>Yc _) (λb9=>?_);refine gY ?_;refine ff.gl X6 0 ?_;refine gF call136 (λw _ C=>(by exact rj s (k:Int) w)) ?_;refine mG 24 (λhc=>?_) λhc=>?_;have Y:ga s k=true:=hc;refine fy (λg2:c.b[k].op=10=>?_) λg2:¬c.b[k].op=10=>?_;have F:=JO (c:=c) (s:=s) (k:=k) ⟨Y,by rw[hnd];exact g2⟩;rw[hnd]at F;have e1:yB (kK c s k 0)++[⟨SD.mk s 6 k 0 [],none,0⟩]=yB (kK c s (k+1) 0):=by rw[F];simp
  have e2:Ah (kK c s k 0)++[bW c.b[k].x|||m4 c.l c.b s c.b[k].i]=Ah (kK c s (k+1) 0):=by rw[F];simp
  refine gY ?_;refine ff.v (fh.gX (bd46 (c:=[_,_,_,_,_]) rfl)) ?_;refine ff.gG (c:=[_,_,_,_,_]) Yp Ya YP (λb33=>?_);refine q7 (nl:=⟨SD.mk s 6 k 0 [],none,0⟩) (ss:=yB (kK c s k 0)) (q:=N) rfl rfl rfl rfl rfl Yp hi3 hz3 T rfl hW.n1 2 rfl 0 rfl hW.c1 (by rw[dY];unfold maxLen;omega) (by rw[dY,X];omega) (λb1' sp1 P D=>?_);rw[e1]at D⊢;refine gY ?_;refine ff.sP 8 14 [(some b9,.cells (NV.cells c.b[k]).toArray 88 (0,0))] sL mixed rfl ?_;refine lg.v (fh.mv rfl rfl rfl rfl) ?_;refine lg.v (fh.k0 rfl rfl rfl rfl Yb rfl (by exact X4) 4 rfl) ?_;refine lg.v (fh.mE rfl rfl rfl rfl X5 0 rfl rfl) ?_;refine lg.v (fh.bin (a:=U 1#64) rfl rfl rfl rfl (mJ c.b[k].x.toNat aH) rfl) ?_
  iterate 2 refine lg.v (fh.mv rfl rfl rfl rfl) ?_
  refine lg.v (fh.k0 rfl rfl rfl rfl Yb rfl (by exact X4) 1 rfl) ?_;refine lg.v (fh.mE rfl rfl rfl rfl X5 0 rfl rfl) ?_;refine lg.nil ?_;refine Tl.one (d:=43) rfl ?_;refine jq.call _ rfl rfl rfl rfl rfl call158 (λw _ C=>(by exact hcr c.b[k].i w C.ext)) ?_;rintro v w1 w2 Y' C he rfl;refine⟨_,C.later he,sL,?_⟩;refine Tl.one (d:=44) rfl ?_;refine jq.v (fh.bin rfl rfl rfl rfl PG rfl) (λ_ h=>by cases h;rfl) ⟨by repeat(first|exact aD|exact aE|refine List.Sublist.cons_cons _ ?_|refine List.Sublist.cons _ ?_),?_⟩;refine Tl.one (d:=45) rfl ?_;refine jq.gG (c:=[_]) X9 X8 YH (λb45=>⟨by repeat(first|exact aD|exact aE|refine List.Sublist.cons_cons _ ?_|refine List.Sublist.cons _ ?_),?_⟩);refine Tl.sw [11,12] rfl rfl ?_;refine iZ U (news:=[bW c.b[k].x|||m4 c.l c.b s c.b[k].i]) (spn:=[]) (xs:=Ah (kK c s k 0)) (sp:=O) (q:=M) rfl rfl rfl rfl rfl X9 hi4 hz4 S rfl hW.n2 4 rfl 0 rfl hW.c2 rfl aI (λ_=>rfl) (by simp only[dY];unfold maxLen;omega) (by simp only[dY];rw[W];omega) (λb' sp' cap' E=>?_);rw[e2]at E⊢;refine gY ?_;exact IH (k+1,(some b1',P,sp1),(some b',cap',sp')) _ _ ⟨J,aK,D,aK,E⟩ aM zT (.cons _ (.cons _ (.cons _ aD)));have F:=CS (c:=c) (s:=s) (k:=k) (λh=>g2 (by rw[<-hnd];exact h.2));refine gY ?_;exact IH (k+1,(N,c1,Q),(M,c2,O)) _ _ (by dsimp only;rw[F];exact⟨J,hW⟩) aM (by dsimp only;rw[F];exact zT) (by dsimp only;rw[F];exact .cons _ aD);have Y:¬ga s k=true:=by rw[show ga s k=false from hc];decide
  have F:=CS (c:=c) (s:=s) (k:=k) (λh=>Y h.1);refine gY ?_;refine xu ?_;refine gY ?_;exact IH (k+1,(N,c1,Q),(M,c2,O)) _ _ (by dsimp only;rw[F];exact⟨J,hW⟩) aM (by dsimp only;rw[F];exact zT) (by dsimp only;rw[F];exact .cons _ aD);obtain rfl:k=c.b.length:=aH;refine kk ?_;refine gY ?_;refine ff.loop (σ:=Nat×(ah×Nat×ai)×(ah×Nat×ai)) (λz=>[(0,aQ bs),(1,U s),(6,gx z.2.1.1 (yB (kK c s c.b.length z.1)).length z.2.1.2.1),(7,gx z.2.2.1 (Ah (kK c s c.b.length z.1)).length z.2.2.2.1),(48,aS z.1)])
    (λz=>[(z.2.1.1,oY 46 (yB (kK c s c.b.length z.1)) z.2.1.2.2),(z.2.2.1,ob U 43 (Ah (kK c s c.b.length z.1)) z.2.2.2.2)])
    (λz=>z.1<=4/\Wg z.2.1.1 z.2.1.2.1 z.2.1.2.2 z.2.2.1 z.2.2.2.1 z.2.2.2.2 (kK c s c.b.length z.1)) (λz=>4 - z.1) (0,(N,c1,Q),(M,c2,O)) ⟨aG,hW⟩ zT aD (λz hI IH=>?_);clear hW hw1;obtain⟨a,⟨N,c1,Q⟩,M,c2,O⟩:=z;obtain⟨hk,hW⟩:=hI;dsimp only at hk hW IH⊢;have hw1:=hwl c.b.length a;refine fy (λha4:a<4=>?_) λhge:¬a<4=>?_;refine gK (gS (gB (gS (gR ?_))));refine jk ?_;refine ij ?_;refine gE (gS ?_);refine ig (α:={p:Bool // p=true↔(c.ag.getLsbD a=true/\(c.l=1\/c.l=5))}) [] (λz=>[(0,aQ bs),(1,U s),(6,gx N (yB (kK c s c.b.length a)).length c1),(7,gx M (Ah (kK c s c.b.length a)).length c2),(10,aS a),(48,aS a),(72,.bool z.1)]) (λz=>[(N,oY 46 (yB (kK c s c.b.length a)) Q),(M,ob U 43 (Ah (kK c s c.b.length a)) O)]) (λz=>?_) (λK=>?_);obtain⟨p,hp⟩:=z;dsimp only at hp⊢;refine lJ (λhc=>?_) λhc=>?_;have h1:=hp.1 hc;have F:=JM (s:=s) (k:=c.b.length) h1;have e1:yB (kK c s c.b.length a)++[⟨SD.mk s 7 a 0 [],none,0⟩]=yB (kK c s c.b.length (a+1)):=by rw[F];simp
  have e2:Ah (kK c s c.b.length a)++[m4 c.l c.b s a]=Ah (kK c s c.b.length (a+1)):=by rw[F];simp
  refine gY ?_;refine ff.v (fh.gX (bd46 (c:=[_,_,_,_,_]) rfl)) ?_;refine ff.gG (c:=[_,_,_,_,_]) Yp Ya YP (λb77=>?_);refine q7 (nl:=⟨SD.mk s 7 a 0 [],none,0⟩) (ss:=yB (kK c s c.b.length a)) (q:=N) rfl rfl rfl rfl rfl Yp hi3 hz3 T rfl hW.n1 1 rfl 0 rfl hW.c1 (by rw[dY];unfold maxLen;omega) (by rw[dY,X];omega) (λb1' sp1 P D=>?_);rw[e1]at D⊢;refine gF call158 (λw _ C=>(by exact hcr (a:Int) w C.ext)) ?_;refine ff.gG (c:=[_]) X9 X8 YH (λb84=>?_);refine iZ U (news:=[m4 c.l c.b s a]) (spn:=[]) (xs:=Ah (kK c s c.b.length a)) (sp:=O) (q:=M) rfl rfl rfl rfl rfl X9 hi4 hz4 S rfl hW.n2 3 rfl 0 rfl hW.c2 rfl aI (λ_=>rfl) (by simp only[dY];unfold maxLen;omega) (by simp only[dY];rw[W];omega) (λb' sp' cap' E=>?_);rw[e2]at E⊢;refine gY ?_;exact IH (a+1,(some b1',P,sp1),(some b',cap',sp')) _ _ ⟨ha4,aK,D,aK,E⟩ aM zT (.cons _ (.cons _ aD));have F:=JN (c:=c) (s:=s) (k:=c.b.length) (a:=a) (λh=>by have:=hp.2 h;rw[show p=false from hc]at this;cases this);refine gY ?_;exact IH (a+1,(N,c1,Q),(M,c2,O)) _ _ (by dsimp only;rw[F];exact⟨ha4,hW⟩) aM (by dsimp only;rw[F];exact zT) (by dsimp only;rw[F];exact aD);refine gY ?_;refine ff.v (fh.iF (p:=⟨bs,3,none⟩) X5 (λw _ C=>HB C.ext rfl)) ?_;refine gY ?_;refine kR rfl rfl rfl rfl (U1 hag ha4) ?_;refine kR rfl rfl rfl rfl (U3 (a:=c.ag.toNat>>>a) (b:=1) (by have:=Nat.shiftRight_le c.ag.toNat a;omega) aH) ?_;refine mG 59 (λhc=>?_) λhc=>?_;have h0:((c.ag.toNat>>>a &&& 1:Nat):Int)=((1:Nat):Int):=eU.1 hc
  have Y:c.ag.getLsbD a=true:=QA.1 (Int.ofNat_inj.1 h0);refine gY ?_;refine ff.v (fh.iF (p:=⟨bs,0,none⟩) X5 (λw _ C=>HB C.ext rfl)) ?_;refine fY 65 (λg2:c.l=1=>?_) λg2:¬c.l=1=>?_
  iterate 5 refine ov ?_
  iterate 2 refine rH ?_
  exact K ⟨true,by simp[Y,g2]⟩ _ _ sF (λ_ _ C=>C);refine gY ?_;refine ff.v (fh.iF (p:=⟨bs,0,none⟩) X5 (λw _ C=>HB C.ext rfl)) ?_;refine jO rO ?_;refine qv ?_;refine rH ?_;exact K ⟨c.l==5,by simp[Y,g2]⟩ _ _ sF (λ_ _ C=>C);have Y:¬c.ag.getLsbD a=true:=λh=>by
    have h0:¬(((c.ag.toNat>>>a &&& 1:Nat):Int)=((1:Nat):Int)):=λe=>Bool.noConfusion (hc.symm.trans (eU.2 e));exact h0 (Int.ofNat_inj.2 (QA.2 h))
  iterate 12 refine ov ?_
  refine qv ?_;exact K ⟨false,by simp[Y]⟩ _ _ sF (λ_ _ C=>C);obtain rfl:a=4:=aH;rw[<-ur]at hW⊢;refine kk ?_;refine fz func138 λw' C=>?_;exact⟨C.ext,N,c1,Q,M,c2,O,rfl,hW,ld.of C⟩
end
theorem T7(a:ae)(F:Nat)(b:List fi)(u:fi)(w:aB)(ha:m6 w a b)(J:b.length<=maxLen):
    Qqa 89 [.slice a b.length F,U u] w (λv _=>∃r:Int,v=aS r/\((∃k:Nat,r=k/\b[k]?=some u/\∀j,j<k->b[j]?≠some u)\/(r=-1/\∀k:Nat,b[k]?≠some u))):=by
  have E:=J;unfold maxLen at E;refine gz func89 ?_;refine gY ?_;refine ff.loop (σ:=Nat) (λk=>[(0,.slice a b.length F),(1,U u),(7,aS b.length),(8,aS k)]) (λ_=>[]) (λk=>k<=b.length/\∀j,j<k->b[j]?≠some u) (λk=>b.length - k) 0 ⟨aG,λj hj=>absurd hj (ew _)⟩ zT aD (λk M N=>?_);obtain⟨hk,C⟩:=M;refine fy (λp:k<b.length=>?_) λK:¬k<b.length=>?_;refine gY ?_;refine ff.v (fM rfl rfl rfl rfl rfl X9 X8 ⟨_,ha⟩ aL (k) ⟨rfl,by simpa using p⟩) ?_;refine ff.v (fh.iF Yi (λw _ D=>(m6.fD ha D.ext).at (k) p)) ?_;refine lJ (λhc=>?_) λhc=>?_;have he:u=b[k]:=by simpa[bJ p]using hc
  refine fz func89 λw' D=>?_;exact⟨D.ext,_,rfl,.inl ⟨k,rfl,by rw[bJ p,he],C⟩⟩;have he:¬u=b[k]:=by simpa[bJ p]using hc
  refine gY ?_;exact N (k+1) _ _ ⟨p,λj hj=>by
  by_cases e:j=k;subst e;rw[bJ p];exact λh=>he (eA h).symm;exact C j aH⟩ aH zT aD
  obtain rfl:k=b.length:=aH;refine kk ?_;refine fz func89 λw' D=>?_;exact⟨D.ext,_,rfl,.inr ⟨rfl,λj h=>by
  by_cases e:j<b.length;exact C j e h;rw[cz aH]at h;cases h⟩⟩
def Jt(x:Tx):Prop:=x.tt=67/\x.tn=88/\x.ti=3/\x.tu=43/\x.ts=46
theorem G9:nG Tryz.prog 43 U qU:=nG.u64 underlying43
theorem ET(x:Tx)(hx:Jt x)(c:TC)(path:List fi)(σ:TS)(s:Tm)(y:SV)(w:aB)(N:wW x σ path s)(Q:pg σ.ss y.d.set=none)(hy:y.yw x.ti s.H/\y.d.fr.length<=maxLen)(S:σ.ss.length<=16777216):
  PW Tryz.prog x c path s 91 [aQ x.bs,.agg y.cells.toArray] w (aS (σ.ss.length:Int)) ⟨σ.ss++[y.d],σ.op⟩ path:=by
 obtain⟨i3,P,O,D,M⟩:=info_parts B4;obtain⟨tt,tn,ti,tu,ts,bs,mr,mo,qb,cb,sb,qn,cn,sn⟩:=x;obtain⟨h1,h2,X,W,T⟩:=hx;dsimp only at h1 h2 X W T;subst h1 h2 X W T;have K:=N.len;have p:=λ{b' cap':Nat} {sp':ai} (h)=>N.step (b':=b') (cap':=cap') (sp':=sp') Q hy h;have J:=N.m1;have E:=N.sn;have F:=N.sc;obtain⟨L1,L2,qp,cp,sp,qs,cs,ss,sq,H⟩:=s;dsimp only at K p J E F hy⊢;have e1:ss.flatMap SV.cells++SV.cells y=(ss++[y]).flatMap SV.cells:=uF.symm;have e2:ss.length+1=(ss++[y]).length:=by simp
 refine PW.of func91 rfl rfl ?_;refine gY ?_;refine ff.oE (λb3=>?_);refine gY ?_;refine ff.sP 6 12 [(some b3,.cells y.cells.toArray 46 (0,0)),(some bs,.cells (xz c.l (gx qb c.b.length cb) (gx qn c.ng.length cn) c.ag mr mo (gx qp path.length cp) (gx qs ss.length cs)) 67 (0,0))] sL mixed rfl ?_
 iterate 2 refine lg.v (fh.mv rfl rfl rfl rfl) ?_
 refine lg.v (fh.tZ rfl rfl rfl rfl) ?_;refine lg.v (fh.k0 rfl rfl rfl rfl underlying67 rfl (by exact sizeOf24) 7 rfl) ?_;refine lg.v (fh.mE rfl rfl rfl rfl isAgg24 1 rfl rfl) ?_;refine lg.v (fh.Al rfl rfl rfl rfl YK 0 rfl Ya rfl) ?_;refine lg.nil ?_;refine Tl.one (d:=11) rfl ?_;refine jq.gG (c:=[_,_,_,_,_]) Yp Ya YP (λb11=>⟨by repeat(first|exact aD|exact aE|refine List.Sublist.cons_cons _ ?_|refine List.Sublist.cons _ ?_),?_⟩);refine Tl.one (d:=12) rfl ?_;refine jq.app 5 (xs:=ss.flatMap SV.cells) (sp:=sq) (nx:=ss.length) (q:=qs) (news:=SV.cells y) (spn:=[]) rfl rfl rfl rfl rfl Yp P O D rfl E 8 rfl 0 rfl LK F rfl aI (λu hu=>by
  simp only[SV.cells,eH,dO,eX]at hu;rcases hu with rfl|rfl|rfl|rfl|rfl<;>rfl) qI (by rw[M];omega) (λb' sp' cap' C=>⟨.cons _ (.cons_cons _ (.cons_cons _ aE)),?_⟩);rw[e1]at C⊢;rw[e2];refine Tl.sw [8,9,10] rfl rfl ?_;refine gY ?_;refine ff.oW sizeOf24 2 ?_;refine gY ?_;refine ff.draw 12 mixed rfl ?_;refine rY ?_;refine fJ.v (fh.bin rfl rfl rfl rfl (mj (c:=(σ.ss.length:Int)) (by rw[di,cC];omega) aH) rfl) ?_;refine fJ.nil ?_;refine ff.uz G9 rfl (.inl rfl) rfl rfl rfl (a:=y.d.set) (v:=σ.ss.length) rfl rfl underlying64 5 rfl (by rw[J,Q]) ?_;refine gY ?_;refine kR rfl rfl rfl rfl (mj (c:=(σ.ss.length:Int)) (by rw[di,cC];omega) aH) ?_;refine fz func91 λw' Y=>?_;exact xy (pre:=[_,_]) rfl (p C) (λ_ h=>h) Y
section
variable{c:TC}{σ:TS}
def PZ(x:Tx)(c:TC)(k:Nat):Prop:=∀(path:List fi) (σ:TS) (u:fi) (n low:Int) (σ1:TS),ie c k path σ u=some ((n,low),σ1)->rP c σ.ss->path.Nodup->(∀p∈path,jw c.b p)->jw c.b u->∀(s:Tm) (w:aB),wW x σ path s->
 PW Tryz.prog x c path s 50 [aQ x.bs,U u] w (.tuple #[aS n,aS low]) σ1 path
theorem BE (hx:c.b.length<=24){ss:List SD}(h:rP c ss):ss.length<=16777216:=by
 have h1:=yK (b:=c.b) h.nd (λs hs=>by
  obtain⟨y,hy,rfl⟩:=eL.1 hs;obtain⟨k,hk,rfl⟩:=List.getElem_of_mem hy;exact(h.rf k hk).1);rw[dY]at h1;exact eM h1 (cS aI hx)
theorem Kt (hx:c.b.length<=24){path:List fi}(w:path.Nodup)(h:∀p∈path,jw c.b p):path.length<=16777216:=
 eM (yK w h) (cS aI hx)
theorem DI {path:List fi}{p:TS}(h:Kept c path σ p){u:fi}(hu:u∈path)(C:∀y∈σ.ss,y.set≠u):pg p.ss u=none:=by
 obtain⟨ys,e,hy⟩:=h.ext;refine Ol (λy hm w=>?_);rw[e]at hm;rcases ed.1 hm with hm|hm;exact C y hm w;exact hy y hm (by rw[w];exact hu)
structure WQ (qf:ah) (cf:Nat) (fr:ar) (sf:ai):Prop where
  nil:qf=none->fr.length=0/\cf=0
  cap:(fr.map gu++sf).length=cf
theorem Jp{rec:TS->fi->Option ((Int×Int)×TS)}{xs:List fi}{j:Nat}(hj:j<xs.length){fr:ar} {z}(h:pN rec (xs.drop j) fr σ=some z):∃n low p,rec σ xs[j]=some ((n,low),p)/\(n<0->z=(.inl low,p))/\(¬n<0->pN rec (xs.drop (j+1)) (fr++[n]) p=some z):=by
 rw[br hj,pN]at h;cases e:rec σ xs[j]with
 |none=>rw[e]at h;cases h
 |some q=>
  obtain⟨⟨n,low⟩,p⟩:=q;rw[e]at h;dsimp only at h;refine⟨n,low,p,rfl,λw=>?_,λw=>?_⟩;rw[if_pos w]at h;exact(eA h).symm;rw[if_neg w]at h;exact h
theorem Jo{rec:TS->fi->Option ((Int×Int)×TS)}{L:List (SD×fi)}{j:Nat}(hj:j<L.length){C:Int} {z}(h:pD rec (L.drop j) C σ=some z):∃n low p,rec σ L[j].2=some ((n,low),p)/\(0<=n->z=(.inr {L[j].1 with fr:=[n]},p))/\(¬0<=n->pD rec (L.drop (j+1)) (min C low) p=some z):=by
 rw[br hj,pD]at h;cases e:rec σ L[j].2 with
 |none=>rw[e]at h;cases h
 |some q=>
  obtain⟨⟨n,low⟩,p⟩:=q;rw[e]at h;dsimp only at h;refine⟨n,low,p,rfl,λw=>?_,λw=>?_⟩;rw[if_pos w]at h;exact(eA h).symm;rw[if_neg w]at h;exact h
theorem Ip(x:Tx)(hty:Jt x)(c:TC)(hx:Ju x c)(k:Nat)(hrec:PZ x c k)(path:List fi)(σ:TS)(u:fi)(d:Nat)(n low:Int)(D:TS)(hF:jH c (ie c k path) d u σ=some ((n,low),D))(hok:rP c σ.ss)(hnd:path.Nodup)(hpi:∀p∈path,jw c.b p)(hui:jw c.b u)(hup:u∈path)(hun:∀y∈σ.ss,y.set≠u)(hd:d<=16777216)(s:Tm)(w:aB)(hT:wW x σ path s):
    PW Tryz.prog x c path s 92 [aQ x.bs,U u,aS (d:Int)] w (.tuple #[aS n,aS low]) D path:=by
  obtain⟨i1,hi1,hz1,hsz1,hby1⟩:=info_parts zk;have hbo:=hx.ok.base;have hrok:=nX hx.ok k path;have hti:x.ti=3:=hty.2.2.1;refine PW.of func92 rfl rfl ?_;refine gy call137 (λw _ N=>(by exact JX x c _ _ u w (Q3 (pre:=[]) hx N) hbo hx.WA (λi hi h=>(hx.ok.kn i hi h).1))) ?_;rintro v w1 w2 Y' N he hlo;obtain⟨lo,xs,ql,hxs,rfl,hql,hnew,hlN⟩:∃(lo:Option (SD×List fi)) (xs:List fi) (ql:ah),lo=lD c u/\v=.tuple #[SZ ((lo.map (·.1)).getD JA),gx ql xs.length xs.length]/\(ql=none->xs.length=0)/\ld w1 w2 [(ql,ob U 43 xs [])]/\((lo=none/\xs=[])\/∃y,lo=some (y,xs)):=by
    rcases hlo with⟨y,xs,bl,h1,rfl,h2⟩|⟨h1,rfl⟩;exact⟨some (y,xs),xs,some bl,h1.symm,rfl,λe=>(by cases e),h2,.inr ⟨y,rfl⟩⟩;exact⟨none,[],none,h1.symm,rfl,λ_=>rfl,⟨(λp hp b hb=>by rw[dn.1 hp]at hb;cases hb),List.pairwise_singleton _ _⟩,.inl ⟨rfl,rfl⟩⟩
  refine⟨_,N.mM (pre:=[_]) he (HR:=[]) (by rw[dW];exact hnew),?_⟩;rw[dW];refine gY ?_;refine ff.gO (λ_=>YP _) (λb8=>?_);refine ff.gl Ya 0 ?_;refine fy (λX:0<xs.length=>?_) λX:¬0<xs.length=>?_;obtain⟨y,rfl⟩:∃y,lo=some (y,xs):=by
    rcases hlN with h|h;rw[h.2]at X;simp at X;exact h
  have S:lD c u=some (y,xs):=hxs.symm;obtain⟨hys,hxin,hycor⟩:=zf hx.ok hui S;obtain⟨hyn,_,hx2⟩:=DG S;obtain⟨z,hz⟩:∃z,pN (ie c k path) xs [] σ=some z:=by
    cases e:pN (ie c k path) xs [] σ with
    |none=>unfold jH at hF;rw[S]at hF;dsimp only at hF;rw[e]at hF;cases hF
    |some z=>exact⟨z,rfl⟩
  have hF2:∀lw s2,z=(.inl lw,s2)->n=-1/\low=lw/\D=s2:=λlw s2 e=>by
    unfold jH at hF;rw[S]at hF;dsimp only at hF;rw[hz,e]at hF;cases hF;exact⟨rfl,rfl,rfl⟩
  have hF3:∀fr s2,z=(.inr fr,s2)->n=(s2.ss.length:Int)/\low=(d:Int)/\D=⟨s2.ss++[{y with fr:=fr}],s2.op⟩:=λfr s2 e=>by
    unfold jH at hF;rw[S]at hF;dsimp only at hF;rw[hz,e]at hF;cases hF;exact⟨rfl,rfl,rfl⟩
  obtain⟨st,rl,o,e,fr0⟩:=y;obtain rfl:fr0=[]:=hyn;obtain⟨bl,rfl⟩:∃b,ql=some b:=by
    cases ql with
    |none=>have:=hql rfl;omega
    |some b=>exact⟨b,rfl⟩
  refine gY ?_;refine ff.gZ (ob gu 3 [] []) ?_;refine ff.loop (σ:=Nat×(ah×Nat×ar×ai)×TS×Tm) (λz=>[(0,aQ x.bs),(2,aS (d:Int)),(8,aQ b8),(29,gx (some bl) xs.length xs.length),(30,aS xs.length),(31,aS z.1)])
    (λz=>[(z.2.1.1,ob gu 3 z.2.1.2.2.1 z.2.1.2.2.2),(some b8,.cells (SV.cells ⟨⟨st,rl,o,e,z.2.1.2.2.1⟩,z.2.1.1.map aP,z.2.1.2.1⟩).toArray 46 (0,0)),(some bl,ob U 43 xs [])]++uO x c path z.2.2.2)
    (λq=>q.1<=xs.length/\q.2.1.2.2.1.length=q.1/\WQ q.2.1.1 q.2.1.2.1 q.2.1.2.2.1 q.2.1.2.2.2/\pN (ie c k path) (xs.drop q.1) q.2.1.2.2.1 q.2.2.1=some z/\Kept c path σ q.2.2.1/\wW x q.2.2.1 path q.2.2.2/\s.H⊆q.2.2.2.H)
    (λz=>xs.length - z.1) (0,(none,0,[],[]),σ,s) ⟨aG,rfl,⟨λ_=>⟨rfl,rfl⟩,rfl⟩,hz,.refl hok,hT,λ_ h=>h⟩ zT aD (λq hI IH=>?_);obtain⟨j,⟨qf,cf,fr,sf⟩,J,sj⟩:=q;obtain⟨hj,hfl,hL,K,E,T,hH⟩:=hI;dsimp only at hj hfl hL K E T hH IH⊢;refine fy (λF:j<xs.length=>?_) λhge:¬j<xs.length=>?_;obtain⟨n1,C,σ',hr,hneg,hpz⟩:=Jp F K;have Y:jw c.b xs[j]:=hxin _ (dL F);have hgj:xs.getD j 0#64=xs[j]:=by simp[F]
  obtain⟨k1,a1⟩:=hrok J xs[j] n1 C σ' E.ok Y hr;refine gY ?_;refine ff.v (fh.gk X9 X8 (j) ⟨rfl,F⟩) ?_;refine ff.v (ir U 0#64 rfl rfl rfl rfl Yi 2 rfl F) ?_;refine gY ?_;rw[hgj];refine ff.zQ (pre:=[_,_,_]) (x:=x) (c:=c) (path:=path) (s:=sj) (res:=.tuple #[aS n1,aS C]) (σ':=σ') (path':=path) rfl rfl rfl rfl rfl call50 (λw=>hrec path J xs[j] n1 C σ' hr E.ok hnd hpi Y sj w T) (λs' W P=>?_);refine fy (λQ:n1<0=>?_) λQ:¬n1<0=>?_;obtain⟨rfl,rfl,rfl⟩:=hF2 _ _ (hneg Q);refine fz func92 λw' N=>?_;exact xy (pre:=[_,_,_]) rfl W (λ_ h=>P (hH h)) N;refine gY ?_;refine ff.gG (c:=[_]) X7 X4 Yh (λb47=>?_);refine iZ gu (news:=[n1]) (spn:=[]) (xs:=fr) (sp:=sf) (q:=qf) rfl rfl rfl rfl rfl X7 hi1 hz1 hsz1 rfl hL.nil 1 rfl 0 rfl hL.cap rfl aI (λ_=>rfl) (by show fr.length+1<=maxLen;unfold maxLen;omega) (by show(fr.length+1)*i1.bytes<=_;rw[hby1];omega) (λb' sp' cap' hlen=>?_);refine gY ?_;refine ff.oW YG 2 ?_;refine gY ?_;exact IH (j+1,(some b',cap',fr++[n1],sp'),σ',s') _ _ ⟨F,by dsimp only;rw[di,cC,hfl],⟨λe=>(by cases e),hlen⟩,hpz Q,E.trans k1,W,λ_ h=>P (hH h)⟩ aM zT (.cons _ aD);obtain rfl:j=xs.length:=aH;rw[List.drop_length]at K;obtain⟨rfl,rfl,rfl⟩:=hF3 _ _ (eA K).symm;have hnr:=DI E hup hun;have hsu:st=u:=hys;subst hsu;refine kk ?_;refine gY ?_;refine jI (Fb (pre:=[_,_]) (s:=sj) (p:=(qf,ob gu 3 fr sf))) ?_
  refine ff.zQ (pre:=[_,_]) (x:=x) (c:=c) (path:=path) (s:=sj.pH (qf,ob gu 3 fr sf)) (res:=aS (J.ss.length:Int)) (σ':=⟨J.ss++[⟨st,rl,o,e,fr⟩],J.op⟩) (path':=path) rfl rfl rfl rfl rfl call91 (λw=>ET x hty c path J (sj.pH (qf,ob gu 3 fr sf)) ⟨⟨st,rl,o,e,fr⟩,qf.map aP,cf⟩ w (T.pH _) hnr ⟨⟨qf,sf,by rw[hti];exact aF,rfl,λe=>(hL.nil e).1⟩,by dsimp only;unfold maxLen;omega⟩ (BE hx.JF E.ok)) (λs' W P=>?_);refine fz func92 λw' N=>?_;exact xy (pre:=[_,_]) rfl W (λ_ h=>P (cM _ (hH h))) N;have S:lD c u=none:=by
    rcases hlN with⟨h,_⟩|⟨y,h⟩;rw[<-hxs,h];rw[h]at hxs;exact absurd (DG hxs.symm).2.1 X
  have hwF:jH c (ie c k path) d u σ=match pD (ie c k path) (jP c u) (d+1) σ with
      |none=>none
      |some (.inl low,D)=>some ((-1,low),D)
      |some (.inr y,D)=>some (((D.ss.length:Int),(d:Int)),⟨D.ss++[y],D.op⟩):=by
    unfold jH;rw[S];rfl
  obtain⟨z,hz⟩:∃z,pD (ie c k path) (jP c u) (d+1) σ=some z:=by
    cases e:pD (ie c k path) (jP c u) (d+1) σ with
    |none=>rw[hwF,e]at hF;cases hF
    |some z=>exact⟨z,rfl⟩
  have hF2:∀lw s2,z=(.inl lw,s2)->n=-1/\low=lw/\D=s2:=λlw s2 e=>by
    rw[hwF,hz,e]at hF;cases hF;exact⟨rfl,rfl,rfl⟩
  have hF3:∀y s2,z=(.inr y,s2)->n=(s2.ss.length:Int)/\low=(d:Int)/\D=⟨s2.ss++[y],s2.op⟩:=λy s2 e=>by
    rw[hwF,hz,e]at hF;cases hF;exact⟨rfl,rfl,rfl⟩
  refine gy call138 (λw _ N=>(by exact Ij x c _ _ u w (Q3 (pre:=[_,_]) hx N) hbo hx.ag)) ?_;rintro v w1 w2 Y' N he ⟨q1,c1,p1,q2,c2,p2,rfl,hW,hnew2⟩;refine⟨_,N.mM (pre:=[_,_]) he (HR:=[]) (by rw[dW];exact hnew2),?_⟩;rw[dW];refine gY ?_;obtain⟨L,hLd⟩:∃L,L=jP c u:=⟨_,rfl⟩;have hL0:∀p∈L,p.1.fr=[]/\p.1.set=u/\jw c.b p.2:=λp hp=>by
    rw[hLd]at hp;obtain⟨h1,h2,_⟩:=tf hx.ok hui (y:=p.1) (x:=p.2) hp;refine⟨?_,h1,h2⟩;unfold jP at hp;rcases ed.1 hp with hp|hp;obtain⟨i,_,hi⟩:=dk.1 hp;split at hi;cases hi;rfl;cases hi;obtain⟨i,_,hi⟩:=dk.1 hp;split at hi;cases hi;rfl;cases hi
  rw[<-hLd]at hW hz⊢;have hul:(Ah L).length=L.length:=by simp
  have hLl:L.length<=100:=by have:=@JL c u c.b.length 4;rw[<-ur,<-hLd]at this;have:=hx.JF;omega
  have hsl:(yB L).length=L.length:=by simp
  refine ff.loop (σ:=Nat×Int×TS×Tm) (λz=>[(0,aQ x.bs),(2,aS (d:Int)),(14,aS z.2.1),(15,gx q1 (yB L).length c1),(63,gx q2 (Ah L).length c2),(64,aS (Ah L).length),(65,aS z.1)])
    (λz=>[(q1,oY 46 (yB L) p1),(q2,ob U 43 (Ah L) p2)]++uO x c path z.2.2.2)
    (λq=>q.1<=L.length/\pD (ie c k path) (L.drop q.1) q.2.1 q.2.2.1=some z/\Kept c path σ q.2.2.1/\wW x q.2.2.1 path q.2.2.2/\s.H⊆q.2.2.2.H)
    (λz=>L.length - z.1) (0,(d+1:Int),σ,s) ⟨aG,hz,.refl hok,hT,λ_ h=>h⟩ zT (.cons_cons _ (.cons_cons _ (.cons _ (.cons _ aD)))) (λq hI IH=>?_);obtain⟨j,lw,J,sj⟩:=q;obtain⟨hj,K,E,T,hH⟩:=hI;dsimp only at hj K E T hH IH⊢;refine Lu (λhlu:j<(Ah L).length=>?_) λhc=>?_;have F:j<L.length:=aH;have hls:j<(yB L).length:=aH;obtain⟨hf0,hset,Y⟩:=hL0 _ (dL F);obtain⟨n1,C,σ',hr,hpz,hneg⟩:=Jo F K;have hgj:(Ah L).getD j 0#64=L[j].2:=by simp[F]
  obtain⟨k1,a1⟩:=hrok J L[j].2 n1 C σ' E.ok Y hr;obtain⟨bq1,rfl⟩:∃b,q1=some b:=by
    cases q1 with
    |none=>have:=(hW.n1 rfl).1;omega
    |some b=>exact⟨b,rfl⟩
  obtain⟨bq2,rfl⟩:∃b,q2=some b:=by
    cases q2 with
    |none=>have:=(hW.n2 rfl).1;omega
    |some b=>exact⟨b,rfl⟩
  refine gY ?_;refine ff.v (fh.gk X9 X8 (j) ⟨rfl,hlu⟩) ?_;refine ff.v (ir U 0#64 rfl rfl rfl rfl Yi 1 rfl hlu) ?_;refine gY ?_;rw[hgj];refine ff.zQ (pre:=[_,_]) (x:=x) (c:=c) (path:=path) (s:=sj) (res:=.tuple #[aS n1,aS C]) (σ':=σ') (path':=path) rfl rfl rfl rfl rfl call50 (λw=>hrec path J L[j].2 n1 C σ' hr E.ok hnd hpi Y sj w T) (λs' W P=>?_);refine fy (λQ:0<=n1=>?_) λQ:¬0<=n1=>?_;obtain⟨rfl,rfl,rfl⟩:=hF3 _ _ (hpz Q);have hk2:=E.trans k1;have hnr:=DI hk2 hup hun;obtain⟨yj,M⟩:∃yj:SD,yj={L[j].1 with fr:=[n1]}:=⟨_,rfl⟩;have hys:yj.set=u:=by rw[M];exact hset
  have hsj:(yB L)[j]=⟨L[j].1,none,0⟩:=by simp
  have hfl5:=@LK (yB L);refine gY ?_;refine ff.gG (c:=[_]) X7 X4 Yh (λO=>?_);refine ff.v (fh.gk Yp Ya (j) ⟨rfl,hls⟩) ?_;refine ff.v (fh.ow (a:=some ⟨bq1,0,none⟩) (o:=(j)*5) YO YG ((j)*5+4)) ?_;refine ff.oW (b:=bq1) (off:=0+(j*5+4)) YG 1 ?_ (hoff:=by rw[eT];simp only[List.size_toArray,di];rw[hfl5];omega);have hE:=MH (y:=⟨yj,some ⟨O,0,none⟩,1⟩) (sp:=p1) hls (by rw[hsj,M]) (by rw[hsj,M]) (by rw[hsj,M]) (by rw[hsj,M]);dsimp only at hE;rw[show yj.fr.length=1 from by rw[M];rfl]at hE;rw[eP (j*5+4),hE];refine gY ?_;refine ff.v (fh.gk Yp Ya (j) ⟨rfl,hls⟩) ?_;refine ff.v (fh.lE (cs:=SV.cells ⟨yj,some ⟨O,0,none⟩,1⟩) YK Ya (λw _ N=>by have:=Sl.many (enc:=SV.cells) (sz:=5) (xs:=(yB L).set j ⟨yj,some ⟨O,0,none⟩,1⟩) (a:=some ⟨bq1,0,none⟩) (Sl.jd (N.get (j:=1) rfl)) (λ_=>rfl) (j:=j) (by rw[dZ];exact hls);rwa[List.getElem_set_self]at this)) ?_;refine jI (Fb (pre:=[_,_]) (s:=s') (p:=(some O,ob gu 3 [n1] []))) ?_;refine ff.zQ (pre:=[_,_]) (x:=x) (c:=c) (path:=path) (s:=s'.pH (some O,ob gu 3 [n1] [])) (res:=aS (σ'.ss.length:Int)) (σ':=⟨σ'.ss++[yj],σ'.op⟩) (path':=path) rfl rfl rfl rfl rfl call91 (λw=>ET x hty c path σ' (s'.pH (some O,ob gu 3 [n1] [])) ⟨yj,some ⟨O,0,none⟩,1⟩ w (W.pH _) (by dsimp only;rw[hys];exact hnr) ⟨⟨some O,[],by rw[hti,M];exact aF,rfl,λe=>(by cases e)⟩,by dsimp only;rw[M];show 1<=maxLen;decide⟩ (BE hx.JF hk2.ok)) (λs3 hT3 hs3=>?_);refine fz func92 λw' N=>?_;rw[M]at hT3;exact xy (pre:=[_,_]) rfl hT3 (λ_ h=>hs3 (cM _ (P (hH h)))) N
  refine gY ?_;refine ff.v (fh.blt rfl rfl rfl (Pv (c:=min lw C) rfl) rfl) ?_;refine gY ?_;exact IH (j+1,min lw C,σ',s') _ _ ⟨F,hneg Q,E.trans k1,W,λ_ h=>P (hH h)⟩ aM zT aD;have hge:¬j<L.length:=by rw[hul]at hc;simpa using hc
  obtain rfl:j=L.length:=aH;rw[List.drop_length]at K;obtain⟨rfl,rfl,rfl⟩:=hF2 _ _ (eA K).symm;refine kk ?_;refine fz func92 λw' N=>?_;exact xy (pre:=[_,_]) rfl T hH N
end
theorem Ik(x:Tx)(O:Jt x)(c:TC)(hx:Ju x c)(k:Nat)(hrec:PZ x c k):PZ x c (k+1):=by
  obtain⟨i1,hi1,hz1,hsz1,hby1⟩:=info_parts FB;intro path σ u n low σ1 hF hok hnd hpi hui s w hT;have hpl:=Kt hx.JF hnd hpi;have hsl:=BE hx.JF hok;have hadd:=λ(σ:TS) (path:List fi) (s:Tm) (y:SV) (w:aB) hT hn hy hfew=>ET x O c path σ s y w hT hn hy hfew;have hexp:=Ip x O c hx k hrec;have hrok:=nX hx.ok k (path++[u]);have hcl:=λ(vp vs:aC) (w:aB) hR=>JY x c vp vs u w hR hx.ok.base hx.WA;have hti:x.ti=3:=O.2.2.1;have hxx:=hx;have hsr:=λ{w0 w:aB} {S:aq} {pre:Hl} {Y:List (Nat×Obj)} {path:List fi} {s:Tm} (D:St w0 S w (pre++uO x c path s) Y)=>Q3 hx D;obtain⟨tt,tn,ti,tu,ts,bs,mr,mo,qb,cb,sb,qn,cn,sn⟩:=x;obtain⟨h1,h2,h3,h4,h5⟩:=O;dsimp only at h1 h2 h3 h4 h5;subst h1 h2 h3 h4 h5;have K:=hT.m1 u;have hm2:=hT.m2 u;have hpn:=hT.pn;have hpc:=hT.pc;have M:=hT;obtain⟨L1,L2,qp,cp,sp,qs,cs,ss,sq,H⟩:=s;dsimp only at K hm2 hpn hpc hadd hexp hcl hsr⊢;rw[ie]at hF;refine PW.of func50 rfl rfl ?_;refine gY ?_;refine ff.v (sY (ev:=eI) (a:=u) (z:=aS 0) (L:=L1) G9 rfl rfl rfl rfl rfl underlying64 (λ_=>Yh _) 3 rfl) ?_;refine lJ (λhc=>?_) λhc=>?_;obtain⟨m,hm⟩:∃m,pg σ.ss u=some m:=by
    rw[K]at hc;cases e:pg σ.ss u with
    |none=>rw[e]at hc;cases hc
    |some m=>exact⟨m,rfl⟩
  rw[hm]at hF K;cases hF;refine fz func50 λw' D=>?_;exact xy (pre:=[]) (by rw[K];rfl) M (λ_ h=>h) D;have hm:pg σ.ss u=none:=by
    rw[K]at hc;cases e:pg σ.ss u with
    |none=>rfl
    |some m=>rw[e]at hc;cases hc
  rw[hm]at hF;dsimp only at hF;refine gY ?_;refine ff.v (Js (ev:=Value.bool) (a:=u) (z:=.bool false) (L:=L2) (v:=.bool (decide (u∈σ.op))) G9 rfl rfl rfl rfl rfl underlying65 (λ_=>zeroValue4 _) 4 rfl (by rw[hm2];by_cases e:u∈σ.op<;>simp[e])) ?_;refine fy (λho:u∈σ.op=>?_) λho:¬u∈σ.op=>?_;rw[if_pos ho]at hF;cases hF;refine fz func50 λw' D=>?_;exact xy (pre:=[]) rfl M (λ_ h=>h) D;rw[if_neg ho]at hF;refine gy call89 (λw _ D=>(by exact T7 (qp.map aP) cp path u w (Ty D 5 rfl (λe=>(hpn e).1)) qI)) ?_;rintro v w1 w2 Y' D he ⟨r,rfl,hr⟩;obtain⟨hr1,hr2⟩:=W9 hr;refine⟨_,D.later he,?_⟩;refine fy (λh0:0<=r=>?_) λh0:¬0<=r=>?_;obtain⟨h3,h4⟩:=hr1 h0;rw[h3]at hF;dsimp only at hF;rw[<-h4]at hF;cases hF;refine fz func50 λw' D=>?_;exact xy (pre:=[]) rfl M (λ_ h=>h) D;have h3:=hr2 h0;rw[h3]at hF;dsimp only at hF;have hup:u∉path:=λhm=>by
    rw[bt]at h3;have:=h3 u hm;simp at this
  refine gy call90 (λw _ D=>(by exact hcl _ _ w (hsr (pre:=[]) D))) ?_;rintro v w1 w2 Y' D he hcl2;obtain⟨X,N,rfl⟩:∃X,og c u=X/\v=.tuple #[SZ (X.getD JA),.bool X.isSome]:=by
    rcases hcl2 with⟨y,h1,rfl⟩|⟨h1,rfl⟩;exact⟨some y,h1,rfl⟩;exact⟨none,h1,rfl⟩
  rw[N]at hF;refine⟨_,D.later he,?_⟩;refine gY ?_;refine ff.gO (λ_=>YP _) (λb10=>?_);refine ff.gl Ya 0 ?_;refine lJ (λhc=>?_) λhc=>?_;obtain⟨y,rfl⟩:∃y,X=some y:=by
    cases X with
    |none=>cases hc
    |some y=>exact⟨y,rfl⟩
  cases hF;obtain⟨hys,hyc⟩:=Ec hxx.ok hui N σ.ss;have hyf:y.fr=[]:=by
    rw[tL]at N;obtain⟨i,_,hi⟩:=aT N;unfold Sk at hi;split at hi;split at hi;cases hi;rfl;split at hi;cases hi;rfl;cases hi;cases hi
  refine gY ?_;refine ff.gZ (ob gu 3 [] []) ?_;refine jI (Fb (pre:=[_]) (s:=⟨L1,L2,qp,cp,sp,qs,cs,ss,sq,H⟩) (x:=⟨67,88,3,43,46,bs,mr,mo,qb,cb,sb,qn,cn,sn⟩) (c:=c) (path:=path) (p:=(none,ob gu 3 [] []))) ?_;refine ff.zQ (pre:=[_]) (x:=⟨67,88,3,43,46,bs,mr,mo,qb,cb,sb,qn,cn,sn⟩) (c:=c) (path:=path) (s:=Tm.pH ⟨L1,L2,qp,cp,sp,qs,cs,ss,sq,H⟩ (none,ob gu 3 [] [])) (res:=aS (σ.ss.length:Int)) (σ':=⟨σ.ss++[y],σ.op⟩) (path':=path) rfl rfl rfl rfl rfl call91 (λw=>hadd σ path (Tm.pH ⟨L1,L2,qp,cp,sp,qs,cs,ss,sq,H⟩ (none,ob gu 3 [] [])) ⟨y,none,0⟩ w (M.pH _) (by dsimp only;rw[hys];exact hm) ⟨⟨none,[],by rw[hyf];exact aF,rfl,λ_=>by rw[hyf];rfl⟩,by dsimp only;rw[hyf];exact aG⟩ hsl) (λs' F Q=>?_);refine fz func50 λw' D=>?_;exact xy (pre:=[_]) rfl F (λ_ h=>Q (cM _ h)) D;obtain rfl:X=none:=by
    cases X with
    |none=>rfl
    |some y=>cases hc
  dsimp only at hF;obtain⟨n2,C,E,he2,hF⟩:∃n2 C E,jH c (ie c k (path++[u])) path.length u σ=some ((n2,C),E)/\some ((n2,C),if n2<0/\(path.length:Int)<=C then(⟨E.ss,E.op++[u]⟩:TS)else E)=some ((n,low),σ1):=by
    cases e:jH c (ie c k (path++[u])) path.length u σ with
    |none=>rw[e]at hF;cases hF
    |some q=>obtain⟨⟨n2,C⟩,E⟩:=q;rw[e]at hF;exact⟨n2,C,E,rfl,hF⟩
  simp only[dD,Prod.mk.injEq]at hF;obtain⟨⟨rfl,rfl⟩,J⟩:=hF;have hun:=AV hm;have hnd2:(path++[u]).Nodup:=by
    rw[dC];exact⟨hnd,by simp,λa ha b hb=>by rw[dn.1 hb];exact λe=>hup (e ▸ ha)⟩
  have hpi2:∀p∈path++[u],jw c.b p:=λp hp=>by
    rcases ed.1 hp with hp|hp;exact hpi p hp;rw[dn.1 hp];exact hui
  have hno2:¬u∈E.op:=λh=>ho (zy (λσ s z σ1 h=>yS k _ σ s h) he2 u aL h);refine gY ?_;refine ff.gG (c:=[_]) X9 X8 YH (λb64=>?_);refine iZ U (news:=[u]) (spn:=[]) (xs:=path) (sp:=sp) (q:=qp) rfl rfl rfl rfl rfl X9 hi1 hz1 hsz1 rfl hpn 7 rfl 0 rfl hpc rfl aI (λ_=>rfl) (by show path.length+1<=maxLen;unfold maxLen;omega) (by show(path.length+1)*i1.bytes<=_;rw[hby1];omega) (λb' sp' cap' hlen=>?_);refine gY ?_;refine ff.oW YM 2 ?_;refine gY ?_;have hT1:=M.push (u:=u) (b':=b') hlen;refine ff.zQ (pre:=[_,_]) (x:=⟨67,88,3,43,46,bs,mr,mo,qb,cb,sb,qn,cn,sn⟩) (c:=c) (path:=path++[u]) (s:=⟨L1,L2,some b',cap',sp',qs,cs,ss,sq,H⟩) (res:=.tuple #[aS n2,aS C]) (σ':=E) (path':=path++[u]) rfl rfl rfl rfl rfl call92 (λw=>hexp (path++[u]) σ u path.length n2 C E he2 hok hnd2 hpi2 hui aL hun hpl _ w hT1) (λs' F Q=>?_);have hpc2:=F.pc;have hpn2:=F.pn;have hm2':=F.m2 u;have T:=F.pop;have P:H⊆s'.H:=Q;clear F Q;obtain⟨M1,M2,qp2,W,tN,qs2,cs2,ss2,sq2,H2⟩:=s';dsimp only at hpc2 hpn2 hm2' T P⊢;have hcp:path.length<=W:=by simp at hpc2;omega
  rw[Nw];dsimp only;refine gY ?_;refine ff.v (Ab rfl rfl rfl rfl rfl X9 X8 rfl hcp) ?_;refine gY ?_;refine ff.oW YM 2 ?_;refine fY 86 (λhn0:n2<0=>?_) λhn0:¬n2<0=>?_;refine fy (λhl0:(path.length:Int)<=C=>?_) λhl0:¬(path.length:Int)<=C=>?_;rw[if_pos ⟨hn0,hl0⟩]at J;subst J;refine gY ?_;refine ff.uz G9 rfl (.inl rfl) rfl rfl rfl (a:=u) (v:=true) rfl rfl underlying65 6 rfl (by rw[hm2',if_neg hno2]) ?_;refine fz func50 λw' D=>?_;exact xy (pre:=[_,_]) (s':={L1:=M1,L2:=M2++[(u,true)],qp:=qp2,cp:=W,sp:=U u::tN,qs:=qs2,cs:=cs2,ss:=ss2,sq:=sq2,H:=H2}) rfl T.W1 P D;rw[if_neg (λh=>hl0 h.2)]at J;subst J;refine fz func50 λw' D=>?_;exact xy (pre:=[_,_]) (s':={L1:=M1,L2:=M2,qp:=qp2,cp:=W,sp:=U u::tN,qs:=qs2,cs:=cs2,ss:=ss2,sq:=sq2,H:=H2}) rfl T P D;rw[if_neg (λh=>hn0 h.1)]at J;subst J;refine gY ?_;refine xu ?_;refine fz func50 λw' D=>?_;exact xy (pre:=[_,_]) (s':={L1:=M1,L2:=M2,qp:=qp2,cp:=W,sp:=U u::tN,qs:=qs2,cs:=cs2,ss:=ss2,sq:=sq2,H:=H2}) rfl T P D
theorem AJ(x:Tx)(p:Jt x)(c:TC)(hx:Ju x c):∀k,PZ x c k
 |0=>λ_ _ _ _ _ _ h=>by cases h
 |k+1=>Ik x p c hx k (AJ x p c hx k)
theorem A2:∀{fr:ar} {s:ao},Ak false s fr=s
 |[],_=>rfl
 |j::fr,s=>by
  have h1:s.set j.toNat (sB s j.toNat||false)=s:=by
   rw[Bool.or_false];apply dK aL;intro i h1 h2;rw[List.getElem_set];split;rename_i e;subst e;unfold sB;simp[h2];rfl
  show Ak false (s.set j.toNat (sB s j.toNat||false)) fr=s;rw[h1];exact A2
theorem Io(A:ae)(cA:Nat)(ss:List SV)(m:Nat)(w:aB)(hB:Jw w A ss)(hm:m<ss.length)(hsl:ss.length<=16777216)(hfb:∀(k:Nat) (hk:k<ss.length),∀j∈ss[k].d.fr,0<=j/\j<k)(hfl:∀(k:Nat) (hk:k<ss.length),ss[k].d.fr.length<=2):
    Qqa 24 [.slice A ss.length cA,aS (m:Int)] w (λv w'=>∃q c sp H os,v=gx q os.length c/\(q=none->os.length=0/\c=0)/\ld w w' ((q,oY 46 os sp)::H)/\(∀x∈os,x.yw 3 H/\x.d.fr.length<=maxLen)/\kJ os=v5 ((kJ ss).take (m+1))):=by
  obtain⟨i1,hi1,hz1,hsz1,hby1⟩:=info_parts Ll;obtain⟨i2,hi2,hz2,hsz2,hby2⟩:=info_parts zj;obtain⟨i3,hi3,hz3,hsz3,hby3⟩:=info_parts B4;obtain⟨L,hLd⟩:∃L,L=(kJ ss).take (m+1):=⟨_,rfl⟩;have hL:L.length=m+1:=by rw[hLd,dN,iU];omega
  have hat:∀{k:Nat} (hk:k<m+1),L[k]'aH=ss[k].d:=λhk=>by subst hLd;rw[List.getElem_take];exact qz aH
  have hLb:∀(k:Nat) (hk:k<L.length),∀j∈L[k].fr,0<=j/\j<k:=λk hk j hj=>by rw[hat aH]at hj;exact hfb k aH j hj
  rw[<-hLd];refine gz func24 ?_;refine gS (gR ?_);refine ij ?_;refine gE (gS (gR ?_));refine jk ?_;refine kR rfl rfl rfl rfl (Qy (c:=((m+1:Nat):Int)) (by skip;omega) (by skip;omega)) ?_;refine mR Value.bool false rfl rfl rfl rfl rfl Yn hi1 hz1 rfl hsz1 (by rw[hby1];omega) qI (λK=>?_);refine ij ?_;refine gE (gS (gR ?_))
  iterate 2 refine jk ?_
  refine ff.v (jo rfl rfl rfl rfl rfl Yn Yd (m) ⟨rfl,aH⟩) ?_;refine ff.uV Value.bool _ rfl rfl rfl rfl Yd rfl 0 rfl aL ?_;refine gE (gS (gS (gR ?_)));refine jk ?_;refine ij ?_;refine gE (gB ?_);refine ff.loop (σ:=Nat×ao) (λz=>[(0,.slice A ss.length cA),(1,aS (m:Int)),(5,.slice (aR K) (m+1) (m+1)),(6,aS ((m:Int) - z.1))]) (λz=>[(some K,ob Value.bool 4 z.2 [])])
    (λz=>z.1<=m+1/\Nj L z.1 z.2) (λz=>m+1 - z.1) (0,(List.replicate (m+1) false).set m true) ⟨aG,by have:=Ey (ss:=L) aH;rw[hL]at this;exact this⟩ ⟨rfl,rfl,rfl,by dsimp only;rw[show(m:Int) - ((0:Nat):Int)=m by omega];rfl,eZ⟩ aD (λz hZ IH=>?_);obtain⟨i,s⟩:=z;obtain⟨hi,hU⟩:=hZ;dsimp only at hi hU IH⊢;refine gS (gS (gR ?_));refine jk ?_;refine jO HV ?_;refine gE ?_;refine r0 (λD:i<=m=>?_) λhge:¬i<=m=>?_;obtain⟨k,hkd⟩:∃k,k=m - i:=⟨_,rfl⟩;have hk:k<m+1:=aH;have O:k<ss.length:=aH;have hkI:(m:Int) - i=(k:Int):=aH;have hsl2:s.length=m+1:=by rw[hU.len,hL]
  have hks2:k<s.length:=aH;have C:=hU.step hLb (k:=k) aH;rw[hat hk]at C;rw[hkI];refine gK (gS (gB (gS (gR ?_))))
  iterate 2 refine jk ?_
  refine ff.v (jo rfl rfl rfl rfl rfl Yn Yd (k) ⟨rfl,hk⟩) ?_;refine ff.v (ir Value.bool false rfl rfl rfl rfl Yw 0 rfl hks2) ?_;refine gE ?_;refine r0 (λhsk:sB s k=true=>?_) λhsk:sB s k=false=>?_;rw[hsk]at C;have Q:=(hB.Ax ss[k] (dL O)).1;have hf2:=hfl k O;refine gS (gR ?_)
  iterate 2 refine jk ?_
  refine ff.v (l6 rfl rfl rfl rfl rfl Yp Ya ⟨_,(hB).at_⟩ JB aI (k) ⟨rfl,O⟩) ?_;refine ff.v (fh.zu rfl rfl rfl rfl YO rfl YG ((k)*5+4) rfl) ?_;refine ff.v (ic rfl rfl rfl rfl YL (λw _ J=>Sl.rJ (enc:=SV.cells) (sz:=5) ((hB).fD J.ext).at_ (λ_=>rfl) O rfl)) ?_;refine Aw X7 ?_;refine jk ?_;refine gE (gB ?_);refine ff.loop (σ:=Nat) (λq=>[(0,.slice A ss.length cA),(1,aS (m:Int)),(5,.slice (aR K) (m+1) (m+1)),(6,aS (k:Int)),(34,.slice ss[k].fa ss[k].d.fr.length ss[k].fc),(35,aS ss[k].d.fr.length),(36,aS q)]) (λq=>[(some K,ob Value.bool 4 (Ak true s (ss[k].d.fr.take q)) [])])
    (λq=>q<=ss[k].d.fr.length) (λq=>ss[k].d.fr.length - q) 0 aG zT aD (λq hq IH2=>?_);refine gS (gR ?_);refine jO AA ?_;refine gE (gS ?_);refine r0 (λp:q<ss[k].d.fr.length=>?_) λhge:¬q<ss[k].d.fr.length=>?_;have hjb:=hfb k O _ (dL p);obtain⟨j,hj⟩:∃j:Nat,ss[k].d.fr[q]=(j:Int):=⟨ss[k].d.fr[q].toNat,aH⟩;have hjl:j<m+1:=aH;have hjs:j<(Ak true s (ss[k].d.fr.take q)).length:=by rw[xY];omega
  have hnx:Ak true s (ss[k].d.fr.take (q+1))=(Ak true s (ss[k].d.fr.take q)).set j true:=by
    rw[aU p,Dw,hj,dy,Bool.or_true]
  refine gK (gS (gB (gS (gR ?_))));refine ff.v (fM rfl rfl rfl rfl rfl X7 X4 ⟨_,Q⟩ aL (q) ⟨rfl,by simpa using p⟩) ?_;refine ff.v (ic rfl rfl rfl rfl X5 (λw _ J=>(oD.fD Q J.ext).at (q) p)) ?_;refine ij ?_;refine gE (gR ?_)
  iterate 2 refine jk ?_
  refine ff.v (jo rfl rfl rfl rfl rfl Yn Yd (j) ⟨hj,hjl⟩) ?_;refine ff.uV Value.bool _ rfl rfl rfl rfl Yd rfl 0 rfl hjs ?_;refine gE (xg (gR ?_));refine mV ?_;refine jk ?_;refine gE ?_;exact IH2 (q+1) _ _ p aH zT (by rw[hnx];exact aD);obtain rfl:q=ss[k].d.fr.length:=aH;refine kk (xg (gR ?_));refine jk ?_;refine VL ?_;refine ij ?_;refine gE ?_;exact IH (i+1,Ak true s ss[k].d.fr) _ _ ⟨by dsimp only;omega,C⟩ aM ⟨rfl,rfl,rfl,by dsimp only;rw[show(m:Int) - ((i+1:Nat):Int)=(k:Int) - 1 by omega];rfl,eZ⟩ (by rw[dR];exact aD);rw[hsk,A2]at C;refine gK (xg (gR ?_));refine jk ?_;refine VL ?_;refine ij ?_;refine gE ?_;exact IH (i+1,s) _ _ ⟨by dsimp only;omega,C⟩ aM ⟨rfl,rfl,rfl,by dsimp only;rw[show(m:Int) - ((i+1:Nat):Int)=(k:Int) - 1 by omega];rfl,eZ⟩ aD;obtain rfl:i=m+1:=aH;have hnd:∀j,j<m+1->sB s j=iS L j:=λj hj=>by rw[<-hL]at hU;exact hU.done aH
  have hsl2:s.length=m+1:=by rw[hU.len,hL]
  refine kk (gS (gR ?_));refine ij ?_;refine gE (gS (gR ?_));refine jk ?_;refine kR rfl rfl rfl rfl (Qy (c:=((m+1:Nat):Int)) (by skip;omega) (by skip;omega)) ?_;refine mR gu 0 rfl rfl rfl rfl rfl X7 hi2 hz2 rfl hsz2 (by rw[hby2];omega) qI (λbM=>?_);refine ij ?_;refine gE (gS (gS (gR ?_)));refine jk ?_;refine Aw Yn ?_;refine jk ?_;refine gE (gB ?_);refine ff.gZ (oY 46 [] []) ?_;refine ff.pick (pre:=[_,_,_]) (pre':=[(some bM,ob gu 3 (lS L 0) []),(some K,ob Value.bool 4 s []),(none,oY 46 [] [])]) [1,2,0] aI (by rw[AQ,hL];rfl) ?_;refine ff.loop (σ:=Nat×(ah×Nat×List SV×ai)×Hl) (λz=>[(0,.slice A ss.length cA),(5,.slice (aR K) (m+1) (m+1)),(9,gx z.2.1.1 z.2.1.2.2.1.length z.2.1.2.1),(10,.slice (aR bM) (m+1) (m+1)),(47,.slice (aR K) (m+1) (m+1)),(48,aS ((m+1:Nat):Int)),(49,aS z.1)])
    (λz=>[(some bM,ob gu 3 (lS L z.1) []),(some K,ob Value.bool 4 s []),(z.2.1.1,oY 46 z.2.1.2.2.1 z.2.1.2.2.2)]++z.2.2)
    (λz=>z.1<=m+1/\(z.2.1.1=none->z.2.1.2.2.1.length=0/\z.2.1.2.1=0)/\(z.2.1.2.2.1.flatMap SV.cells++z.2.1.2.2.2).length=z.2.1.2.1*5/\kJ z.2.1.2.2.1=wx L z.1/\∀x∈z.2.1.2.2.1,x.yw 3 z.2.2/\x.d.fr.length<=maxLen)
    (λz=>m+1 - z.1) (0,(none,0,[],[]),[]) ⟨aG,λ_=>⟨rfl,rfl⟩,rfl,rfl,λ_ h=>by cases h⟩ zT aD (λz hZ IH=>?_);clear hU;obtain⟨i,⟨qo,co,os,W⟩,H⟩:=z;obtain⟨hi,X,S,N,P⟩:=hZ;dsimp only at hi X S N P IH⊢;have hol:os.length=gq (iS L) i:=by rw[<-sC (show i<=L.length by omega),<-N,iU]
  have hcn:gq (iS L) i<=i:=yn;refine gS (gR ?_);refine jO AA ?_;refine gE (gS ?_);refine r0 (λD:i<m+1=>?_) λhge:¬i<m+1=>?_;have E:i<ss.length:=aH;have hs:i<s.length:=aH;have hpl:i<(lS L i).length:=by rw[vd];omega
  have Q:=(hB.Ax ss[i] (dL E)).1;have hf2:=hfl i E;have M:=tG (show i<L.length by omega);rw[hat D]at M;refine gK (gS (gB (gS (gR ?_))));refine jk ?_;refine ij ?_;refine gE (gS (gS (gR ?_)))
  iterate 2 refine jk ?_
  refine ff.v (jo rfl rfl rfl rfl rfl Yn Yd (i) ⟨rfl,D⟩) ?_;refine ff.v (ir Value.bool false rfl rfl rfl rfl Yw 1 rfl hs) ?_;refine VK QQ ?_;refine gE ?_;refine r0 (λhsi:sB s i=false=>?_) λhsi:sB s i=true=>?_;have hn:iS L i=false:=by rw[<-hnd i D];exact hsi
  rw[if_neg (by rw[hn];simp)]at M;refine kk (gR ?_);refine mV ?_;refine jk ?_;refine gE ?_;exact IH (i+1,(qo,co,os,W),H) _ _ ⟨D,X,S,by dsimp only;rw[M];exact N,P⟩ aM zT (by dsimp only;rw[AR hn];exact aD);have hn:iS L i=true:=by rw[<-hnd i D];exact hsi
  rw[if_pos hn]at M;have hNd:=me.1 hn;have hset:(lS L i).set i (os.length:Int)=lS L (i+1):=by rw[hol];exact Dj hn
  obtain⟨F,hF⟩:∃F:Int->Int,F=λj=>((gq (iS L) j.toNat:Nat):Int):=⟨_,rfl⟩;refine gK (gS (gR ?_))
  iterate 2 refine jk ?_
  refine ff.v (l6 rfl rfl rfl rfl rfl Yp Ya ⟨_,(hB).at_⟩ JB aI (i) ⟨rfl,E⟩) ?_;refine ff.v (yv (cs:=SV.cells ss[i]) rfl rfl rfl rfl YK Ya (λw _ J=>Sl.many (enc:=SV.cells) (sz:=5) (hB.fD J.ext).at_ (λ_=>rfl) E)) ?_;refine ff.ML rfl rfl rfl (λ_=>YP _) (λb12=>?_);refine ff.qi rfl rfl rfl rfl Ya 0 rfl rfl rfl rfl ?_;refine gE (gS (gR ?_));refine oL YO YG 4 ?_;refine ff.st rfl rfl rfl rfl YG rfl 0 rfl rfl ?_;refine gE (gS (gS (gR ?_)))
  iterate 2 refine jk ?_
  refine ff.v (l6 rfl rfl rfl rfl rfl Yp Ya ⟨_,(hB).at_⟩ JB aI (i) ⟨rfl,E⟩) ?_;refine ff.v (fh.zu rfl rfl rfl rfl YO rfl YG ((i)*5+4) rfl) ?_;refine ff.v (ic rfl rfl rfl rfl YL (λw _ J=>Sl.rJ (enc:=SV.cells) (sz:=5) ((hB).fD J.ext).at_ (λ_=>rfl) E rfl)) ?_;refine Aw X7 ?_;refine jk ?_;refine gE (gB ?_);refine ff.gZ (ob gu 3 [] []) ?_;refine ff.loop (σ:=Nat×ah×Nat×ai) (λz=>[(0,.slice A ss.length cA),(5,.slice (aR K) (m+1) (m+1)),(9,gx qo os.length co),(10,.slice (aR bM) (m+1) (m+1)),(11,aS i),(12,aQ b12),(47,.slice (aR K) (m+1) (m+1)),(48,aS ((m+1:Nat):Int)),(49,aS i),(66,.slice ss[i].fa ss[i].d.fr.length ss[i].fc),(67,aS ss[i].d.fr.length),(68,aS z.1)])
    (λz=>[(z.2.1,ob gu 3 ((ss[i].d.fr.take z.1).map F) z.2.2.2),(some b12,.cells (SV.cells ⟨⟨ss[i].d.set,ss[i].d.fK,ss[i].d.on,ss[i].d.e,(ss[i].d.fr.take z.1).map F⟩,z.2.1.map aP,z.2.2.1⟩).toArray 46 (0,0)),(some bM,ob gu 3 (lS L i) []),(some K,ob Value.bool 4 s []),(qo,oY 46 os W)]++H)
    (λz=>z.1<=ss[i].d.fr.length/\WQ z.2.1 z.2.2.1 ((ss[i].d.fr.take z.1).map F) z.2.2.2) (λz=>ss[i].d.fr.length - z.1) (0,none,0,[]) ⟨aG,λ_=>⟨rfl,rfl⟩,rfl⟩ zT aD (λz hI IH2=>?_);obtain⟨q,qf,cf,sf⟩:=z;obtain⟨hq,T⟩:=hI;dsimp only at hq T IH2⊢;have Y:((ss[i].d.fr.take q).map F).length=q:=by simp;omega
  refine gS (gR ?_);refine jO AA ?_;refine gE (gS ?_);refine r0 (λp:q<ss[i].d.fr.length=>?_) λhge:¬q<ss[i].d.fr.length=>?_;have hjb:=hfb i E _ (dL p);obtain⟨j,hj⟩:∃j:Nat,ss[i].d.fr[q]=(j:Int):=⟨ss[i].d.fr[q].toNat,aH⟩;have hjl:j<m+1:=aH;have hjp:j<(lS L i).length:=by rw[vd];omega
  have hNj:Ic L j:=.fr (show i<L.length by omega) hNd (by rw[hat D,<-hj];exact dL p);have hpj:(lS L i).getD j 0=(gq (iS L) j:Int):=Dk aH aH hNj;have e1:(ss[i].d.fr.take q).map F++[(gq (iS L) j:Int)]=(ss[i].d.fr.take (q+1)).map F:=by
    rw[aU p,ec,hj,hF];rfl
  refine gK (gS (gB (gS (gR ?_))));refine ff.v (fM rfl rfl rfl rfl rfl X7 X4 ⟨_,Q⟩ aL (q) ⟨rfl,by simpa using p⟩) ?_;refine ff.v (ic rfl rfl rfl rfl X5 (λw _ J=>(oD.fD Q J.ext).at (q) p)) ?_;refine ij ?_;refine gE ?_;refine ff.sP 6 11 [(some b12,.cells (SV.cells ⟨⟨ss[i].d.set,ss[i].d.fK,ss[i].d.on,ss[i].d.e,(ss[i].d.fr.take q).map F⟩,qf.map aP,cf⟩).toArray 46 (0,0)),(some bM,ob gu 3 (lS L i) [])] sL mixed rfl ?_;refine lg.v (fh.k0 rfl rfl rfl rfl YO rfl (by exact YG) 4 rfl) ?_;refine lg.v (fh.mE rfl rfl rfl rfl YL 0 rfl rfl) ?_
  iterate 2 refine lg.v (fh.mv rfl rfl rfl rfl) ?_
  refine lg.v (jo rfl rfl rfl rfl rfl X7 X4 (j) ⟨hj,hjl⟩) ?_;refine lg.v (ir gu 0 rfl rfl rfl rfl X5 1 rfl hjp) ?_;refine lg.nil ?_;refine Tl.one (d:=78) rfl ?_;refine jq.An (c:=[_]) rfl rfl rfl rfl X7 X4 Yh rfl rfl (λb78=>⟨by repeat(first|exact aD|exact aE|refine List.Sublist.cons_cons _ ?_|refine List.Sublist.cons _ ?_),?_⟩);refine Tl.sw [7,8,9] rfl rfl ?_;rw[hpj];refine iZ gu (news:=[(gq (iS L) j:Int)]) (spn:=[]) (xs:=(ss[i].d.fr.take q).map F) (sp:=sf) (q:=qf) rfl rfl rfl rfl rfl X7 hi2 hz2 hsz2 rfl T.nil 1 rfl 0 rfl T.cap rfl aI (λ_=>rfl) (by show((ss[i].d.fr.take q).map F).length+1<=maxLen;rw[Y];unfold maxLen;omega) (by show(((ss[i].d.fr.take q).map F).length+1)*i2.bytes<=_;rw[Y,hby2];omega) (λb' sp' cap' hlen=>?_);rw[e1]at hlen⊢;refine oL YO YG 4 ?_;refine ff.st rfl rfl rfl rfl YG rfl 2 rfl rfl ?_;refine gE (xg (gR ?_));refine mV ?_;refine jk ?_;refine gE ?_;exact IH2 (q+1,some b',cap',sp') _ _ ⟨p,λe=>(by cases e),hlen⟩ aM zT (.cons _ aD);obtain rfl:q=ss[i].d.fr.length:=aH;rw[dR]at T Y⊢;obtain⟨nl,hnl⟩:∃nl:SV,nl=⟨JC L ss[i].d,qf.map aP,cf⟩:=⟨_,rfl⟩;have hcl:SV.cells nl=SV.cells ⟨⟨ss[i].d.set,ss[i].d.fK,ss[i].d.on,ss[i].d.e,ss[i].d.fr.map F⟩,qf.map aP,cf⟩:=by rw[hnl,hF];rfl
  rw[<-hcl];refine kk (gS (gR ?_))
  iterate 3 refine jk ?_
  refine Aw Yp ?_;refine ff.v (jo rfl rfl rfl rfl rfl X7 X4 (i) ⟨rfl,D⟩) ?_;skip;refine ff.uV (Value.int .i64) _ rfl rfl rfl rfl X4 rfl 2 rfl hpl ?_;rw[hset];refine gE (gR ?_);refine jk ?_;refine ff.v (fh.Al rfl rfl rfl rfl YK 1 rfl Ya rfl) ?_;refine ff.An (c:=[_,_,_,_,_]) rfl rfl rfl rfl Yp Ya YP rfl rfl (λb89=>?_);refine q7 (ss:=os) (sp:=W) (q:=qo) (nl:=nl) rfl rfl rfl rfl rfl Yp hi3 hz3 hsz3 rfl X 5 rfl 0 rfl S qI (by rw[hby3];omega) (λbo spo' co' hlo=>?_);refine ij ?_;refine gE (xg (gR ?_));refine mV ?_;refine jk ?_;refine gE ?_;refine ff.kq (pre:=[_,_,_,_,_,_]) (pre':=[(some bM,ob gu 3 (lS L (i+1)) []),(some K,ob Value.bool 4 s []),(some bo,oY 46 (os++[nl]) spo'),(qf,ob gu 3 (ss[i].d.fr.map F) sf)]) H [3,4,5,1] aI rfl ?_;refine IH (i+1,(some bo,co',os++[nl],spo'),(qf,ob gu 3 (ss[i].d.fr.map F) sf)::H) _ _ ⟨D,aK,hlo,?_,λx hx=>?_⟩ aM zT aD;dsimp only;rw[show kJ (os++[nl])=kJ os++[nl.d] by simp,N,M,hnl];dsimp only at hx⊢;rcases ed.1 hx with hx|hx;exact⟨(P x hx).1.mono (cI _ _),(P x hx).2⟩;rw[dn.1 hx,hnl];refine⟨⟨qf,sf,by rw[hF];exact aF,rfl,λe=>?_⟩,?_⟩;have:=(T.nil e).1;rw[Y]at this;simp only[JC,dY];exact this;simp only[JC,dY];unfold maxLen;omega;obtain rfl:i=m+1:=aH;refine kk (gS (gR ?_));refine jk ?_;refine ij ?_;refine gE ?_;refine gT func24 λw' J=>?_;exact⟨J.ext,qo,co,W,H,os,rfl,X,ld.of (J.kq (pre:=[_,_,_]) (pre':=[_]) (HR:=H) [2] aI rfl),P,by rw[N,v5,hL]⟩
def EA(w w':aB)(l:Int)(b:List NV)(v:aC)(os:List SV):Prop:=
 ∃(qa qo:ah) (ca co:Nat) (spa spo:ai) (H:Hl),v=.agg (iE l (qa.map aP) b.length ca (qo.map aP) os.length co)/\
  (qa=none->b.length=0)/\(qo=none->os.length=0)/\ld w w' ((qa,jR 88 b spa)::(qo,oY 46 os spo)::H)/\∀x∈os,x.yw 3 H/\x.d.fr.length<=maxLen
theorem AP{s:fi}{n:Nat}(h:∀k,s.getLsbD k=true->k<n):∀{m:Nat},n<=m->ll s m=ll s n
 |0,hm=>by rw[show n=0 by omega]
 |m+1,hm=>by
  by_cases e:n=m+1;rw[e];rw[pd,if_neg (λg=>by have:=h m g;omega),dW];exact AP h aH
theorem E1(l:Int)(A:ae)(cA:Nat)(b:List NV)(B:ae)(cB:Nat)(ss:List SV)(w:aB)(hA:FA w A b)(hB:Jw w B ss)(hl:b.length<=maxLen)(hsl:ss.length<=maxLen):
    Qqa 10 [.agg (iE l A b.length cA B ss.length cB)] w (λv w'=>∃v1,v=.tuple #[v1,aS (Aj l b (kJ ss))]/\(Aj l b (kJ ss)=0->∃gs,MW 88 22 w w' v1 gs/\gs.map FV.f=(iQ (gN (kJ ss) ((ss.length - 1:Nat):Int))).map (λi=>bT (fe b i)))):=by
  obtain⟨i1,hi1,hz1,O,X⟩:=info_parts Lj;refine gz func10 ?_;refine gY ?_;refine ff.oE (λb1=>?_);refine gF call8 (λw _ D=>(by exact AN l A cA b B cB ss w (hA.fD D.ext) (hB.fD D.ext) hl hsl)) ?_;refine fy (λh1:Aj l b (kJ ss)≠0=>?_) λh1:Aj l b (kJ ss)=0=>?_;refine fz func10 λw' D=>?_;exact⟨D.ext,_,rfl,λh=>absurd h h1⟩;have J:=qK.1 h1;have hb:=J.base;have hbl:=hb.len;have hp0:=J.pos;have hp4:=J.len;rw[iU]at hp0 hp4;have E:ss.length - 1<ss.length:=aH;have W:=J.rf (ss.length - 1) (by rw[iU];exact E);rw[qz E]at W;obtain⟨s,hs⟩:∃s,s=ss[ss.length - 1].d.set:=⟨_,rfl⟩;have hsS:gN (kJ ss) ((ss.length - 1:Nat):Int)=s:=by rw[jx (by rw[iU];exact E),qz E,hs]
  have S:jw b s:=by rw[hs];exact W.1
  rw[hsS];refine gy call31 (λw _ D=>(by exact C9 A cA b w (hA.fD D.ext) hb)) ?_;rintro v w1 w2 Y' D he ⟨fs,⟨qg,cg,N,Y,rfl,hqg,hcg,P,hin⟩,T⟩;have hfl:fs.length=b.length:=by have:=eV List.length T;simpa using this
  obtain⟨bg,rfl⟩:∃b,qg=some b:=by
    cases qg with
    |none=>have:=(hqg rfl).1;have:=(fA.1 hb.qA).pos;omega
    |some b=>exact⟨b,rfl⟩
  refine⟨_,D.mM he (pre:=[_]) P,?_⟩;refine gY ?_;refine ff.gZ (ob FV.v 22 [] []) ?_;refine ff.kq (pre:=[_,_,_]) (pre':=[(none,ob FV.v 22 [] []),(some b1,.cells (iE l A b.length cA B ss.length cB) 26 (0,0)),(some bg,ob FV.v 22 fs N)]) Y [0,2,1] aI rfl ?_;refine ff.loop (σ:=Nat×ah×Nat×List FV×ai) (λz=>[(1,aQ b1),(5,gx z.2.1 z.2.2.2.1.length z.2.2.1),(15,gx (some bg) fs.length cg),(16,aS fs.length),(17,aS z.1)])
    (λz=>[(z.2.1,ob FV.v 22 z.2.2.2.1 z.2.2.2.2),(some b1,.cells (iE l A b.length cA B ss.length cB) 26 (0,0)),(some bg,ob FV.v 22 fs N)]++Y)
    (λz=>z.1<=fs.length/\(z.2.1=none->z.2.2.2.1.length=0/\z.2.2.1=0)/\(z.2.2.2.1.map FV.v++z.2.2.2.2).length=z.2.2.1/\(∀g∈z.2.2.2.1,g∈fs)/\z.2.2.2.1.map FV.f=(ll s z.1).map (λi=>bT (fe b i)))
    (λz=>fs.length - z.1) (0,none,0,[],[]) ⟨aG,λ_=>⟨rfl,rfl⟩,rfl,(λ_ h=>by cases h),rfl⟩ zT aD (λz hI IH=>?_);obtain⟨k,q,cap,gs,sp⟩:=z;obtain⟨hk,hq,fB,C,F⟩:=hI;dsimp only at hk hq fB C F IH⊢;have hgl:gs.length<=k:=by
    have h1:=eV List.length F;have h2:=@qN s k;simp at h1;omega
  refine fy (λp:k<fs.length=>?_) λhge:¬k<fs.length=>?_;have hfk:fs[k].f=bT (fe b k):=by
    have:=eV (λl=>l[k]?) T;simpa[List.getElem?_range (show k<b.length by omega),p]using this
  have hgd:fs.getD k FV.z=fs[k]:=by simp[p]
  refine gY ?_;refine ff.v (fh.gk Yj Yg (k) ⟨rfl,p⟩) ?_;skip;refine ff.v (fh.qR FV.v FV.z Yl 2 p) ?_;rw[hgd];refine gY ?_;refine kR rfl rfl rfl rfl (mj (c:=((ss.length - 1:Nat):Int)) aH aH) ?_;refine ff.v (fh.iT Yp Ya ⟨_,(hB).at_⟩ JB aI ((ss.length - 1)) ⟨rfl,E⟩) ?_;refine ff.v (fh.ow YO X8 (((ss.length - 1))*5+0)) ?_;refine ff.v (fh.iF Yi (λw _ D=>Sl.rJ (enc:=SV.cells) (sz:=5) ((hB).fD D.ext).at_ (λ_=>rfl) E rfl)) ?_;refine gF call32 (λw _ D=>(by exact yI ss[ss.length - 1].d.set (k:Int) w)) ?_;refine lJ (λhc=>?_) λhc=>?_;have M:s.getLsbD k=true:=by rw[hs];exact sH.1 hc
  have K:ll s (k+1)=ll s k++[k]:=by rw[pd,if_pos M]
  refine gY ?_;refine ff.gG (c:=[_]) Yj Yg Ym (λb35=>?_);refine iZ FV.v (news:=[fs[k]]) (spn:=[]) (xs:=gs) (sp:=sp) (q:=q) rfl rfl rfl rfl rfl Yj hi1 hz1 O rfl hq 1 rfl 0 rfl fB rfl aI (λ_=>rfl) qI (by rw[X];omega) (λb' sp' cap' Q=>?_);refine gY ?_;refine ff.kq (pre:=[_,_,_,_]) (pre':=[_,_,_]) Y [1,2,3] aI rfl ?_;exact IH (k+1,some b',cap',gs++[fs[k]],sp') _ _ ⟨p,aK,Q,λg hg=>(by
    rcases ed.1 hg with hg|hg;exact C g hg;rw[dn.1 hg];exact dL p),by dsimp only;rw[ec,F,K,ec,List.map_singleton,hfk];rfl⟩ aM zT aD;have M:¬s.getLsbD k=true:=by rw[hs];exact λh=>by rw[sH.2 h]at hc;cases hc
  have K:ll s (k+1)=ll s k:=by rw[pd,if_neg M,dW]
  refine gY ?_;exact IH (k+1,q,cap,gs,sp) _ _ ⟨p,hq,fB,C,by dsimp only;rw[K];exact F⟩ aM zT aD;obtain rfl:k=fs.length:=aH;have hpt:ll s fs.length=iQ s:=by rw[hfl];exact(AP S (m:=64) aH).symm
  refine kk ?_;refine fz func10 λw' D=>?_;exact⟨D.ext,_,by rw[h1];rfl,λ_=>⟨gs,⟨q,cap,sp,Y,rfl,hq,fB,ld.of (D.kq (pre:=[_,_,_]) (pre':=[_]) (HR:=Y) [0] aI rfl),λg hg=>hin g (C g hg)⟩,by rw[<-hpt];exact F⟩⟩
theorem Cy{b:List NV}(hb:fS b):∀k,k<b.length->(nd b k).op=9\/(nd b k).op=10->0<=(nd b k).i/\(nd b k).i<4:=λo ho h2=>by
 have h:=hb.ok ho;rcases hb.node ho with⟨w,p⟩|⟨w,p⟩|⟨w,p⟩;omega;rw[p]at h;exact(tY h aH).1;omega
noncomputable abbrev NQ(l:Int)(f:List NV):Option ((Int×Int)×TS):=uW l (fF f) (mw (iG (fF f)) (iG (fF f)).length)
abbrev EH(f:List NV):Prop:=vY f/\(iG (fF f)).length<=24
theorem R7{l:Int}(p:0<=l/\l<=6){f:List NV}(h:EH f):CG (Na l (iG (fF f))):=F0 p (fA.1 h.1.1).top h.1.2.1 h.1.2.2.2.2.2
theorem Iq(l:Int)(hl:0<=l/\l<=6)(A:ae)(cA:Nat)(f:List NV)(w:aB)(hA:FA w A f)(hfl:f.length<=maxLen):
    Qqa 23 [aS l,.slice A f.length cA] w (λv w'=>∃(vp:aC) (n e:Int) (H:Hl),v=.tuple #[vp,aS n,aS e]/\ld w w' H/\(e≠0->¬EH f)/\(e=0->EH f/\∃(x:Tx) (s:Tm) (σ:TS) (low:Int),Jt x/\Ju x (Na l (iG (fF f)))/\vp=aQ x.bs/\NQ l f=some ((n,low),σ)/\wW x σ [] s/\H=uO x (Na l (iG (fF f))) [] s)):=by
  refine gz func23 ?_;refine mG 15 (λhc=>?_) λhc=>?_;have h1:l<0:=aJ;omega;skip;refine Lu (λh1:6<l=>?_) λhc=>?_;omega;skip;refine gy call48 (λw _ D=>(by exact NC A cA f w (hA.fD D.ext) hfl)) ?_;rintro v w1 w2 Y' D he ⟨sv,root,e,rfl,S,P,X⟩;obtain⟨ns,W,Y⟩:∃ns,fQ 88 w1 w2 sv ns/\(e=0->ns=iG (fF f)):=by
    by_cases e0:e=0;exact⟨_,(P e0).1,λ_=>rfl⟩;rw[X e0];exact⟨[],fQ.vj,λh=>absurd h e0⟩
  obtain⟨q,cap,sp,rfl,hq,fB,hS'⟩:=fR D he W;refine⟨_,hS',?_⟩;refine fy (λe0:e≠0=>?_) λe0:e=0=>?_;refine fz func23 λw' D=>?_;exact⟨D.ext,_,_,_,[],rfl,⟨λ_ h=>(by cases h),.nil⟩,λ_ h=>e0 (S.2 h.1),λh=>absurd h e0⟩;obtain rfl:=Y e0;have C:=S.1 e0;obtain⟨_,rfl⟩:=P e0;refine fy (λE:¬(iG (fF f)).length<=24=>?_) λE:(iG (fF f)).length<=24=>?_;refine fz func23 λw' D=>?_;exact⟨D.ext,_,_,_,[],rfl,⟨λ_ h=>(by cases h),.nil⟩,λ_ h=>E h.2,λh=>absurd h aI⟩;have F:EH f:=⟨C,E⟩;have O:=R7 hl F;have hb:fS (iG (fF f)):=O.base;have J:=(fA.1 C.1).top;have hpos:=(fA.1 hb.qA).pos;have Q:∀i,i<(iG (fF f)).length->0<=kU (iG (fF f)) i/\kU (iG (fF f)) i<(iG (fF f)).length:=λi hi=>HH J C.2.1 C.2.2.2.2.2 hi;obtain⟨K,rfl⟩:∃b,q=some b:=by
    cases q with
    |none=>have:=(hq rfl).1;omega
    |some b=>exact⟨b,rfl⟩
  obtain⟨⟨⟨n,low⟩,σ⟩,hz⟩:=It (ag:=mw (iG (fF f)) (iG (fF f)).length) hl J C.2.1 C.2.2.2.2.2;refine gY ?_;refine ff.nQ (h:=[(some K,jR 88 (iG (fF f)) sp)]) (hF:=[]) (fs:=[]) (cs:=[]) (λ_ v h'=>∃bs mr mo qn cn sn,v=aQ bs/\h'=uO (SX bs mr mo (some K) cap sp qn cn sn) (Na l (iG (fF f))) [] SY/\(qn=none->(iD (iG (fF f))).length=0)) rfl rfl rfl rfl rfl call49 (λw Y' D=>by
    exact QY l K cap (iG (fF f)) sp w hb E Q (Cy hb) (D.has.sub (bP _ _))) (λw v h' hv=>?_);obtain⟨bs,mr,mo,qn,cn,sn,rfl,rfl,T⟩:=hv;rw[dW];have M:Jt (SX bs mr mo (some K) cap sp qn cn sn):=⟨rfl,rfl,rfl,rfl,rfl⟩;have N:Ju (SX bs mr mo (some K) cap sp qn cn sn) (Na l (iG (fF f))):=⟨λe=>(by cases e),T,O,lu,E,CF (Cy hb) (eR _)⟩;refine gY ?_;refine ff.v (fh.bin (a:=U 1#64) rfl rfl rfl rfl (mJ (lk (fF f)) rfl) rfl) ?_;refine ff.zQ (pre:=[]) (x:=SX bs mr mo (some K) cap sp qn cn sn) (c:=Na l (iG (fF f))) (path:=[]) (s:=SY) (res:=.tuple #[aS n,aS low]) (σ':=σ) (path':=[]) rfl rfl rfl rfl rfl call50 (λw=>AJ _ M _ N _ [] ⟨[],[]⟩ (bW (lk (fF f):Nat)) n low σ hz ⟨λk hk=>(by simp at hk),by simp⟩ eE (λp hp=>(by cases hp)) (u4 J C.2.2.2.2.2) SY w Vu) (λs' hT' hs'=>?_);rw[eh];refine fz func23 λw' D=>?_;exact⟨D.ext,_,_,_,_,rfl,ld.of D,λh=>absurd rfl h,λ_=>⟨F,_,s',σ,low,M,N,rfl,hz,hT',rfl⟩⟩
def MQ(l:Int)(f:List NV)(L:List SD):Prop:=EH f/\∃n low σ,NQ l f=some ((n,low),σ)/\0<=n/\L=v5 (σ.ss.take (n.toNat+1))/\L.length<=4096
theorem MQ.ok{l:Int}(w:0<=l/\l<=6){f:List NV}{L:List SD}(h:MQ l f L):kQ l (iG (fF f)) L/\gN L (L.length - 1:Nat)=bW (lk (fF f):Nat):=by
 obtain⟨⟨hc,_⟩,n,low,σ,hz,p,rfl,hs⟩:=h;exact(NM w (fA.1 hc.1).top hc.2.1 hc.2.2.2.2.2 hz p hs).2
theorem we(l:Int)(hl:0<=l/\l<=6)(A:ae)(cA:Nat)(f:List NV)(w:aB)(hA:FA w A f)(hfl:f.length<=maxLen):
    Qqa 7 [aS l,.slice A f.length cA] w (λv w'=>∃(v1:aC) (e:Int),v=.tuple #[v1,aS e]/\(e=0->∃os,EA w w' l (iG (fF f)) v1 os/\MQ l f (kJ os))/\(e≠0->v1=.agg (iE 0 none 0 0 none 0 0))/\(EH f->∀n low σ,NQ l f=some ((n,low),σ)->(n<0->e=15)/\(0<=n->(v5 (σ.ss.take (n.toNat+1))).length<=4096->e=0))):=by
  refine gz func7 ?_;refine gY ?_;refine ff.gO (λ_=>YV _) (λb4=>?_);refine gy call23 (λw _ C=>(by exact Iq l hl A cA f w (hA.fD C.ext) hfl)) ?_;rintro v w1 w2 Y' C he ⟨vp,n,e,H,rfl,W,hno,hok⟩;refine⟨_,C.mM (pre:=[]) he W,?_⟩;rw[eh];refine fy (λe0:e≠0=>?_) λe0:e=0=>?_;refine gY ?_;refine ff.v (fh.gX (bd26 (c:=[_,_,_]) rfl)) ?_;refine gY ?_;refine ff.gl YN 0 ?_;refine gY ?_;refine ff.kD Tryz.f7 func7 _ (fP.cell rfl isAgg26 YN (j:=0) rfl rfl (fP.tmp rfl fP.nil)) (λw' C=>?_);exact⟨C.ext,_,_,rfl,λh=>absurd h e0,λ_=>rfl,λh=>absurd h (hno e0)⟩;obtain⟨F,x,s,σ,low,hty,Q,rfl,hz,hT,rfl⟩:=hok e0;have K:∀{P D:Int} {σ':TS},NQ l f=some ((P,D),σ')->P=n/\σ'=σ:=λh=>by rw[hz]at h;cases h;exact⟨rfl,rfl⟩
  have hcO:=F.1;have htk:=(fA.1 hcO.1).top;obtain⟨tt,tn,ti,tu,ts,bs,mr,mo,qb,cb,sb,qn,cn,sn⟩:=x;obtain⟨h1,h2,h3,h4,h5⟩:=hty;dsimp only at h1 h2 h3 h4 h5;subst h1 h2 h3 h4 h5;have S:=hT.sn;have E:=hT.Ax;have p:=hT.EN;have T:=Q.qb;obtain⟨L1,L2,qp,cp,sp,qs,cs,ss,sq,H⟩:=s;dsimp only at S E p T⊢;refine fy (λhn0:n<0=>?_) λhn0:0<=n=>?_;refine gY ?_;refine ff.v (fh.gX (bd26 (c:=[_,_,_]) rfl)) ?_;refine ff.gl YN 0 ?_;refine gY ?_;refine ff.kD Tryz.f7 func7 _ (fP.cell rfl isAgg26 YN (j:=0) rfl rfl (fP.tmp rfl fP.nil)) (λw' C=>?_);exact⟨C.ext,_,_,rfl,λh=>absurd h aI,λ_=>rfl,λ_ P D σ' h=>by obtain⟨rfl,rfl⟩:=K h;exact⟨λ_=>rfl,λh=>aH⟩⟩;obtain⟨m,rfl⟩:∃m:Nat,n=m:=⟨n.toNat,aH⟩;have hRO:=nX Q.ok _ [] _ _ _ _ _ (show rP (Na l (iG (fF f))) ([]:List SD)from⟨λk hk=>by simp at hk,by simp⟩) (u4 htk hcO.2.2.2.2.2) hz;have hTS:=hRO.1.ok;have hml:m<ss.length:=by
    have h1:ss.length=σ.ss.length:=by rw[<-p];simp
    rcases hRO.2 with h|h;omega;omega
  have J:∀(k:Nat) (hk:k<ss.length),jr l (iG (fF f)) σ.ss k ss[k].d:=λk hk=>by
    have h1:k<σ.ss.length:=by rw[<-p];simpa using hk
    have h2:=hTS.rf k h1;have h3:σ.ss[k]=ss[k].d:=by simp[<-p]
    rw[h3]at h2;exact h2
  have hss:ss.length<=16777216:=by
    have:=BE (c:=Na l (iG (fF f))) F.2 hTS;rw[<-p]at this;simpa using this
  have Y:∀(k:Nat) (hk:k<ss.length),ss[k].d.fr.length<=2:=λk hk=>by
    have h:=(J k hk).2;rcases h with⟨_,e,_⟩|⟨_,_,_,h⟩|⟨_,_,_,h⟩|⟨_,_,_,_,h⟩|⟨_,_,_,_,h⟩|⟨_,_,_,h⟩|⟨_,_,_,_,h⟩;rw[e];exact aG
    all_goals (rw[nh]at h;have:=h.1;simp at this;omega)
  refine gy call24 (λw _ C=>(by exact Io (qs.map aP) cs ss m w (C5 C 7 rfl (λe=>(S e).1) (λy hy=>⟨(E y hy).1.mono (λz hz=>by unfold uO;simp[hz]),(E y hy).2⟩)) hml hss (λk hk j hj=>(J k hk).uc hj) Y)) ?_;rintro v w1 w2 Y' C he ⟨qo,co,O,Ho,os,rfl,hqo,hnw,X,M⟩;refine⟨_,C.mM (pre:=[_]) he hnw,?_⟩;rw[show kJ ss=σ.ss from p]at M;refine fy (λN:¬os.length<=4096=>?_) λN:os.length<=4096=>?_;refine gY ?_;refine ff.v (fh.gX (bd26 (c:=[_,_,_]) rfl)) ?_;refine ff.gl YN 1 ?_;refine gY ?_;refine ff.kD Tryz.f7 func7 _ (fP.cell rfl isAgg26 YN (j:=1) rfl rfl (fP.tmp rfl fP.nil)) (λw' C=>?_);exact⟨C.ext,_,_,rfl,λh=>absurd h aI,λ_=>rfl,λ_ P D σ' h=>by
  obtain⟨rfl,rfl⟩:=K h;refine⟨λh=>aH,λ_ h=>?_⟩;rw[dy,<-M,iU]at h;exact absurd h N⟩
  refine gY ?_;refine ff.v (fh.gX (bd26 (c:=[_,_,_]) rfl)) ?_;refine ff.gl YN 1 ?_;refine gY ?_;refine ff.kD Tryz.f7 func7 _ (fP.cell rfl isAgg26 YN (j:=1) rfl rfl (fP.tmp rfl fP.nil)) (λw' C=>?_);refine⟨C.ext,_,0,rfl,λ_=>⟨os,⟨qb,qo,cb,co,sb,O,Ho,rfl,T,λe=>(hqo e).1,?_,X⟩,F,m,low,σ,hz,aH,by rw[dy];exact M,by rw[iU];exact N⟩,λh=>absurd rfl h,λ_ P D σ' h=>by obtain⟨rfl,rfl⟩:=K h;exact⟨λh=>aH,λ_ _=>rfl⟩⟩;exact(ld.of (C.kq (pre:=[_,_,_,_,_,_,_,_,_]) (pre':=[(qb,jR 88 (iG (fF f)) sb),(qo,oY 46 os O)]) (HR:=H++Ho) [3,0] aI rfl)).sub (.cons_cons _ (.cons_cons _ (bG _ _)))
end Go.Proofs.YtpbhoidjmpjfpaaGreatDoor
