/- Laws of walks, each under its own conditions. -/
import Derived.Test.YtaamcaiglooemaaGreatDoorXP30
import Derived.Test.YtaamcaiglooemaaGreatDoorXP27
set_option maxRecDepth 100000
set_option maxHeartbeats 40000000
namespace Go.Proofs.Wit
open Go Go.RowKit
section
variable{b:List NV}{s:fC}{ag:Int}{n:Nat}
theorem Ct{i:Nat}(hi:i<b.length)(h1:s.getLsbD i=true)(h2:(nd b i).op=9)(h3:(nd b i).i=ag)(h4:(nd b i).x=n)(hf:∀j,j<i->s.getLsbD j=true->(nd b j).op=9->(nd b j).i=ag->(nd b j).x≠n):jo b s ag n=i:=by
 rcases jX (b:=b) (s:=s) (ag:=ag) (n:=n)with⟨j,g1,g2,g3,g4,g5,g6,g7⟩|⟨_,g2⟩;rw[g1];by_cases e:j=i;exact e;by_cases hlt:j<i;exact absurd g6 (hf j hlt g3 g4 g5);exact absurd h4 (g7 i aH h1 h2 h3);exact absurd h4 (g2 i hi h1 h2 h3)
theorem Cs(hf:∀j,j<b.length->s.getLsbD j=true->(nd b j).op=9->(nd b j).i=ag->(nd b j).x≠n):jo b s ag n=n:=by
 rcases jX (b:=b) (s:=s) (ag:=ag) (n:=n)with⟨j,_,g2,g3,g4,g5,g6,_⟩|⟨g1,_⟩;exact absurd g6 (hf j g2 g3 g4 g5);exact g1
theorem Lg{k m:Nat}(hk:k<(jK s).length)(hm:m<(jK s).length)(h:k<m):(jK s)[k]<(jK s)[m]:=by
 have:(jK s).Pairwise (·<·):=List.Pairwise.filter _ List.pairwise_lt_range;exact bB.1 this k m hk hm h
theorem Bs{k j:Nat}(hk:k<(jK s).length)(hj:s.getLsbD j=true)(h:j<(jK s)[k]):∃(m:Nat) (hm:m<(jK s).length),m<k/\(jK s)[m]=j:=by
 obtain⟨m,hm,e⟩:=cG.1 (gZ.2 hj);refine⟨m,hm,?_,e⟩;rcases Nat.lt_trichotomy m k with h1|h1|h1;exact h1;subst h1;omega;have:=Lg hk hm h1;omega
def xm(b:List NV)(ag:Int)(n:Nat)(j:Nat):Prop:=(nd b j).op=9->(nd b j).i=ag->(nd b j).x≠n
end
section
variable{sp:ai}{fr:ar}
def wM(c:Bool)(s:ao)(fr:ar):ao:=fr.foldl (λs j=>s.set j.toNat (sB s j.toNat||c)) s
theorem Ip{s:ao}{i j:Nat}{v:Bool}(hi:i<s.length):sB (s.set i v) j=if j=i then v else sB s j:=by
 unfold sB;rw[aX,aX,List.getElem?_set];by_cases e:i=j;subst e;simp[hi];rw[if_neg e,if_neg (λh=>e h.symm)]
theorem vP{c:Bool}:∀{fr:ar} {s:ao},(wM c s fr).length=s.length
 |[],_=>rfl
 |j::fr,s=>by
  show(wM c _ fr).length=_;rw[vP,dN]
theorem Af{c:Bool}{s:ao} {j:Int}:wM c s (fr++[j])=(wM c s fr).set j.toNat (sB (wM c s fr) j.toNat||c):=by
 unfold wM;rw[List.foldl_append];rfl
theorem yJ{c:Bool}{k:Nat}:∀{fr:ar} {s:ao},(∀j∈fr,0<=j/\j<s.length)->sB (wM c s fr) k=(sB s k||(c && decide ((k:Int)∈fr)))
 |[],s,_=>by simp[wM]
 |j::fr,s,h=>by
  obtain⟨h1,h2⟩:=h j aF;have e:wM c s (j::fr)=wM c (s.set j.toNat (sB s j.toNat||c)) fr:=rfl;rw[e,yJ (λi hi=>by rw[dN];exact h i (cF _ hi)),Ip aH];by_cases ek:k=j.toNat;have:(k:Int)=j:=aH;rw[if_pos ek,<-ek];simp[this];cases sB s k<;>cases c<;>simp
  have:(k:Int)≠j:=aH;rw[if_neg ek];simp[this]
section
variable{l:Int}{b:List NV}{ss:List SD}{s:ao}{i k:Nat}
structure Ev (ss:List SD) (i:Nat) (s:ao):Prop where
  len:s.length=ss.length
  Jd:∀j,j<ss.length->(sB s j=true↔(j+1=ss.length\/∃k,∃hk:k<ss.length,ss.length<=k+i/\HO ss k/\(j:Int)∈ss[k].fr))
theorem Ev.init(h0:0<ss.length):Ev ss 0 ((List.replicate ss.length false).set (ss.length - 1) true):=by
 refine⟨by simp,λj hj=>?_⟩;rw[wu aN];constructor;intro h;by_cases e:j=ss.length - 1;exact .inl aH;rw[if_neg e]at h;simp[sB,aX,hj]at h;rintro (h|⟨k,hk,h1,_⟩);rw[if_pos aH];omega
theorem Ev.nd(h:Ev ss i s)(hf:∀(k:Nat) (hk:k<ss.length),∀j∈ss[k].fr,0<=j/\j<k)(hk:k+1+i=ss.length):sB s k=true↔HO ss k:=by
 rw[h.Jd k aH];constructor;rintro (h1|⟨q,hq,_,h2,h3⟩);exact .last h1;exact .fr hq h2 h3;intro hn;cases hn with
 |last e=>exact .inl e
 |@fr q _ hq hn hm=>exact .inr ⟨q,hq,by have:=hf q hq _ hm;omega,hn,hm⟩
theorem Ev.step(h:Ev ss i s)(hf:∀(k:Nat) (hk:k<ss.length),∀j∈ss[k].fr,0<=j/\j<k)(hk:k+1+i=ss.length):Ev ss (i+1) (wM (sB s k) s (ss[k]'aH).fr):=by
 have hkl:k<ss.length:=aH;have hnd:=h.nd hf hk;refine⟨by rw[vP];exact h.len,λj hj=>?_⟩;rw[yJ (λq hq=>by have:=hf k hkl q hq;rw[h.len];omega),dK,h.Jd j hj,dx,du,hnd];constructor;rintro ((h1|⟨q,hq,h1,h2⟩)|⟨h1,h2⟩);exact .inl h1;exact .inr ⟨q,hq,aH,h2⟩;exact .inr ⟨k,hkl,aH,h1,h2⟩;rintro (h1|⟨q,hq,h1,h2,h3⟩);exact .inl (.inl h1);by_cases e:q=k;subst e;exact .inr ⟨h2,h3⟩;exact .inl (.inr ⟨q,hq,aH,h2,h3⟩)
theorem Ev.done(h:Ev ss ss.length s){j:Nat}(hj:j<ss.length):sB s j=jz ss j:=by
 have key:sB s j=true↔HO ss j:=by
  rw[h.Jd j hj];constructor;rintro (h1|⟨q,hq,_,h2,h3⟩);exact .last h1;exact .fr hq h2 h3;intro hn;cases hn with
  |last e=>exact .inl e
  |@fr q _ hq hn hm=>exact .inr ⟨q,hq,aH,hn,hm⟩
 cases h1:jz ss j with
 |true=>exact key.2 (mY.1 h1)
 |false=>
  cases h2:sB s j with
  |false=>rfl
  |true=>rw[mY.2 (key.1 h2)]at h1;cases h1
noncomputable def og(ss:List SD)(i:Nat):ar:=(List.range ss.length).map (λj=>if j<i/\jz ss j=true then(gL (jz ss) j:Int)else 0)
theorem Aa:(og ss i).length=ss.length:=by simp[og]
theorem DW:og ss 0=List.replicate ss.length 0:=by
 apply dA (by simp[og]);intro j h1 h2;simp[og]
theorem DX(h:jz ss i=false):og ss (i+1)=og ss i:=by
 apply dA (by simp[og]);intro j h1 h2;simp only[og,List.getElem_map,List.getElem_range];by_cases e:j=i;subst e;simp[h];have:j<i+1↔j<i:=aH;simp only[this]
theorem Ft(h:jz ss i=true):(og ss i).set i (gL (jz ss) i:Int)=og ss (i+1):=by
 apply dA (by simp[og]);intro j h1 h2;rw[List.getElem_set];simp only[og,List.getElem_map,List.getElem_range];by_cases e:i=j;subst e;rw[if_pos rfl,if_pos ⟨aH,h⟩];rw[if_neg e];have:j<i+1↔j<i:=aH;simp only[this]
theorem Fu{y:Nat}(hy:y<i)(hi:i<=ss.length)(hn:HO ss y):(og ss i).getD y 0=(gL (jz ss) y:Int):=by
 unfold og;rw[aX,dn,List.getElem?_range aH];show(if _ then _ else _)=_;rw[if_pos ⟨aH,mY.2 hn⟩]
end
noncomputable def A6(ss:List SD)(fr:ar)(q:Nat):ar:=(fr.take q).map (λj=>((gL (jz ss) j.toNat:Nat):Int))++fr.drop q
theorem Fb{ss:List SD} :A6 ss fr 0=fr:=by simp[A6]
theorem Iv{ss:List SD} :A6 ss fr fr.length=fr.map (λj=>((gL (jz ss) j.toNat:Nat):Int)):=by simp[A6]
theorem Iu{ss:List SD} {q:Nat}:(A6 ss fr q).length=fr.length:=by simp[A6];omega
theorem Lf{ss:List SD} {q:Nat}(hq:q<fr.length):(A6 ss fr q).getD q 0=fr[q]:=by
 unfold A6;rw[aX,aY aN];have:q - ((fr.take q).map (λj=>((gL (jz ss) j.toNat:Nat):Int))).length=0:=by simp;omega
 rw[this];simp[hq]
theorem It{ss:List SD} {q:Nat}(hq:q<fr.length):(A6 ss fr q).set q ((gL (jz ss) fr[q].toNat:Nat):Int)=A6 ss fr (q+1):=by
 unfold A6;have hl:((fr.take q).map (λj=>((gL (jz ss) j.toNat:Nat):Int))).length=q:=by simp;omega
 rw[List.set_append_right _ _ aH,hl,eD,bj hq,List.set_cons_zero,aT hq,dO];simp
def oB(e:ax)(ss:List SV)(sp:ai):Obj:=.cells (ss.flatMap SV.cells++sp).toArray e (0,0)
theorem Oi{ss:List SV}:(ss.flatMap SV.cells).length=ss.length*5:=oX (enc:=SV.cells) (sz:=5) (λ_=>rfl)
def SV.vA(t:ax)(H:Hl)(x:SV):Prop:=∃q sp,(q,ob fD t x.d.fr sp)∈H/\x.fa=q.map aP/\(q=none->x.d.fr.length=0)
theorem SV.vA.mono{t:ax}{H H':Hl}{x:SV}(h:x.vA t H)(hs:H⊆H'):x.vA t H':=by
 obtain⟨q,sp,h1,h2,h3⟩:=h;exact⟨q,sp,hs h1,h2,h3⟩
theorem SV.vA.at{t:ax}{w0 w:aB}{S:aq}{h:Hl}{Y:List (Nat×Obj)}{x:SV}(g:x.vA t h)(s:St w0 S w h Y):oe w x.fa x.d.fr:=by
 obtain⟨q,sp,h1,h2,h3⟩:=g;obtain⟨j,hj⟩:=List.getElem?_of_mem h1;rw[h2];cases q with
 |none=>rw[aU (h3 rfl)];exact Sl.nil _ _
 |some b=>exact Sl.jh (s.get hj)
theorem Kb{w0 w:aB}{S:aq}{h:Hl}{Y:List (Nat×Obj)}(s:St w0 S w h Y)(j:Nat){q:ah}{ss:List SV}{e:ax} (hj:h[j]?=some (q,oB e ss sp))(hq:q=none->ss.length=0)
  {t:ax}(hin:∀x∈ss,x.vA t h/\x.d.fr.length<=maxLen):vz w (q.map aP) ss:=by
 refine⟨?_,λx hx=>⟨(hin x hx).1.at s,(hin x hx).2⟩⟩;cases q with
 |none=>rw[aU (hq rfl)];exact Sl.nil _ _
 |some b=>exact Sl.jh (s.get hj)
theorem St.pick{w0 w:aB}{S:aq}{pre pre':Hl}{Y:List (Nat×Obj)}(s:St w0 S w pre Y)(is:aq)(hn:is.Nodup)(e:is.map (λi=>pre[i]?)=pre'.map some):St w0 S w pre' Y:=by
 have:=St.iY (pre:=pre) (pre':=pre') (HR:=[]) (by rw[dL];exact s) is hn e;rwa[dL]at this
theorem Nw{w0 w:aB}{S:aq}{h:Hl}{Y:List (Nat×Obj)}(s:St w0 S w h Y)(j:Nat){q:ah}{xs:List fC}{e:ax} (hj:h[j]?=some (q,ob U e xs sp))(hq:q=none->xs.length=0):A2 w (q.map aP) xs:=by
 cases q with
 |none=>rw[aU (hq rfl)];exact Sl.nil _ _
 |some b=>exact Sl.jh (s.get hj)
section
variable{P:av}{r:ah}{f:ay}{R:aC->aB->Prop}{w0:aB}{S:aq}{Y:List (Nat×Obj)}{n:Nat}{k:al}{l:Fl}{h:Hl}
variable{ops:aj}{i d:Nat}{rest:aq}{ty:ax}{pos:aA}{aft:ak}{g:Option (Nat×Bool)}
theorem w4{ss:List SV}{x:SV}:(ss++[x]).flatMap SV.cells=ss.flatMap SV.cells++SV.cells x:=by simp
theorem sh{t e:ax}{x y:au}{inf:TypeInfo}{z:aC}{q:ah}{ss:List SV} {cap:Nat}{bn:Nat}{nl:SV}{en:ax}{frn:Nat×Nat}
  (ho:ops[i]?=some ⟨some d,.call ⟨.builtin .append,#[x,y],#[t,t]⟩,ty,pos,aft,g⟩)(hw:fg ops l g=true)(hx:fW l x=some (fZ q ss.length cap))(hy:fW l y=some (.slice (aR bn) 1 1))(hd:Nat.blt d n=true)
  (hu:P.underlying t=some (.slice e))(hi:P.info? e=some inf)(hz:inf.zero=some z)(hsz:inf.size=5)(hz1:z.cells.size=5)
  (hq:q=none->ss.length=0/\cap=0)(j:Nat)(hj:h[j]?=some (q,oB e ss sp))(jn:Nat)(hjn:h[jn]?=some (some bn,.cells (SV.cells nl++[]).toArray en frn))
  (eV:(ss.flatMap SV.cells++sp).length=cap*5)(hmx:ss.length+1<=maxLen)(hbytes:(ss.length+1)*inf.bytes<=140737488355328)
  (hk:∀b' sp' cap',((ss++[nl]).flatMap SV.cells++sp').length=cap'*5->eQ P r f R w0 S Y n (.inRegion ops rest::k) ((d,fZ (some b') (ss++[nl]).length cap')::l) (h.set j (some b',oB e (ss++[nl]) sp'))):eQ P r f R w0 S Y n (.inRegion ops (i::rest)::k) l h:=
 .app 5 (xs:=ss.flatMap SV.cells) (sp:=sp) (nx:=ss.length) (q:=q) (news:=SV.cells nl) (spn:=[]) ho hw hx hy hd hu hi hz hsz hz1 hq j hj jn hjn Oi eV rfl aI (λu hu=>by
  simp only[SV.cells,ew,dE,eM]at hu;rcases hu with rfl|rfl|rfl|rfl|rfl<;>rfl) hmx hbytes (λb' sp' cap' hlen=>by
  have:=hk b' sp' cap' (by rw[w4];exact hlen);rw[dc,List.length_singleton,oB,w4]at this;exact this)
end
def OO(tn ts ti:ax)(w w':aB)(l:Int)(b:List NV)(v u:aC)(os ws:List SV):Prop:=
 ∃(qa qo qw:ah) (ca co cw:Nat) (spa spo spw:ai) (H:Hl),v=.agg (fE l (qa.map aP) b.length ca (qo.map aP) os.length co)/\u=fZ qw ws.length cw/\
  (qa=none->b.length=0)/\(qo=none->os.length=0)/\(qw=none->ws.length=0)/\lq w w' ((qa,iC tn b spa)::(qo,oB ts os spo)::(qw,oB ts ws spw)::H)/\∀x∈os,x.vA ti H/\x.d.fr.length<=maxLen
end
structure Ws where
  q:ah
  cap:Nat
  ls:List LV
  sp:ai
  H:Hl
def Nl(tw tl:ax)(er:aC)(bw:Nat)(s:Ws):Hl:=[(some bw,.cells #[fZ s.q s.ls.length s.cap,er] tw (0,0)),(s.q,By tl s.ls s.sp)]
def gD(tw tl:ax)(er:aC)(bw:Nat)(s:Ws):Hl:=(some bw,.cells #[fZ s.q s.ls.length s.cap,er] tw (0,0))::(s.q,By tl s.ls s.sp)::s.H
theorem HU{tw tl:ax}{er:aC}{bw:Nat}{s:Ws}:(Nl tw tl er bw s).Sublist (gD tw tl er bw s):=.cons_cons _ (.cons_cons _ aE)
def Ws.zt(s:Ws)(p:ah×Obj):Ws:={s with H:=p::s.H}
structure jP (tn:ax) (Γ:List FV) (σ:Sg) (s:Ws):Prop where
  nil:s.q=none->s.ls.length=0/\s.cap=0
  cap:(s.ls.flatMap LV.cells++s.sp).length=s.cap*5
  GQ:s.ls.map LV.d=σ.ls.map (λx=>x.v.d)
  Mw:s.ls.length<=400
  ctx:∀x∈Γ,x.vA tn s.H/\x.f.length<=maxLen
  HK:∀x∈s.ls,x.f∈Γ
  Lt:∀x∈σ.ls,x.t.ok
section
variable{tn tw tl:ax}{er:aC}{bw:Nat}{Γ:List FV}{σ:Sg}{s:Ws}
theorem jP.len(h:jP tn Γ σ s):s.ls.length=σ.ls.length:=by have:=eK List.length h.GQ;simpa using this
theorem jP.at(h:jP tn Γ σ s){k:Nat}(hk:k<s.ls.length):s.ls[k].f.f=bT (l6 σ k)/\(l6 σ k).ok/\s.ls[k].f∈Γ:=by
 have hk2:k<σ.ls.length:=by rw[<-h.len];exact hk
 have h1:s.ls[k].d=(σ.ls[k]).v.d:=by
  have:=eK (λl=>l[k]?) h.GQ;simpa[hk,hk2]using this
 have ht:l6 σ k=(σ.ls[k]).t:=by simp[l6,aX,hk2]
 refine⟨?_,by rw[ht];exact h.Lt _ (dB hk2),h.HK _ (dB hk)⟩;rw[ht];exact eK LD.f h1
theorem jP.fa(h:jP tn Γ σ s){x:FV}(hx:x∈Γ){w0 w:aB}{S:aq}{pre:Hl}{Y:List (Nat×Obj)}(hS:St w0 S w (pre++gD tw tl er bw s) Y):FA w x.a x.f:=
 ((h.ctx x hx).1.mono (λ_ hp=>bZ _ (cF _ (cF _ hp)))).at hS
theorem jP.add(h:jP tn Γ σ s){q:ah}{f:List NV}{cap:Nat}{sp:ai}(hq:q=none->f.length=0/\cap=0)(hl:f.length<=maxLen):jP tn (⟨q.map aP,cap,f⟩::Γ) σ (s.zt (q,iC tn f sp)):=
 ⟨h.nil,h.cap,h.GQ,h.Mw,λx hx=>by
  rcases ew.1 hx with rfl|hx;exact⟨⟨q,sp,aF,rfl,λe=>(hq e).1⟩,hl⟩;exact⟨(h.ctx x hx).1.mono (cm _ _),(h.ctx x hx).2⟩,λx hx=>cF _ (h.HK x hx),h.Lt⟩
def FV.Z(x:FV):Prop:=x.f=[]->x.a=none
theorem jP.Pj(h:jP tn Γ σ s){x:FV}(hx:x∈Γ)(hz:x.Z):x.a=none↔x.f=[]:=by
 refine⟨λe=>?_,hz⟩;obtain⟨q,sp,_,h2,h3⟩:=(h.ctx x hx).1;cases q with
 |none=>exact aU (h3 rfl)
 |some b=>rw[h2]at e;cases e
end
theorem lU.stay{w0 w1:aB}{h0 hR pre h1:Hl}{Y:List (Nat×Obj)}(g:lU w0 (h0++hR))(s:St w0 (ir h0) w1 (pre++h1) Y):lU w1 (h1++(pre++hR)):=by
 have hap:=cK.1 g.apart;have hkeep:∀p∈hR,∀b,p.1=some b->w1.heap[b]?=some p.2/\b<w0.heap.size/\b∉ir h0:=λp hp b hb=>by
  have h2:=(g.own p (bZ _ hp) b hb).1;have hlt:=(aW.1 h2).1;have hn:b∉ir h0:=λhm=>by
   obtain⟨o,ho⟩:=mj.1 hm;exact hap.2.2 _ ho p hp b rfl hb
  exact⟨by rw[s.ext.block b hlt hn];exact h2,hlt,hn⟩
 have hs:=cK.1 s.apart;have hcross:∀p∈pre++h1,∀q∈hR,tu p q:=λp hp q hq b hb hqb=>by
  obtain⟨_,hlt,hn⟩:=hkeep q hq b hqb;rcases(s.own p hp b hb).2.2 with h|h;omega;exact hn h
 refine⟨λp hp b hb=>?_,?_⟩;rcases dP.1 hp with hp|hp;exact⟨(s.own p (bZ _ hp) b hb).1,(s.own p (bZ _ hp) b hb).2.1⟩;rcases dP.1 hp with hp|hp;exact⟨(s.own p (cD _ hp) b hb).1,(s.own p (cD _ hp) b hb).2.1⟩;exact⟨(hkeep p hp b hb).1,(g.own p (bZ _ hp) b hb).2⟩;refine cK.2 ⟨hs.2.1,cK.2 ⟨hs.1,hap.2.1,λp hp q hq=>hcross p (cD _ hp) q hq⟩,λp hp q hq=>?_⟩;rcases dP.1 hq with hq|hq;exact λb hb hqb=>hs.2.2 q hq p hp b hqb hb;exact hcross p (bZ _ hp) q hq
def sr(P:av)(tn tw tl:ax)(ef:Bool->aC)(bw:Nat)(Γ:List FV)(σ:Sg)(gf:ay)(args:ai)(w:aB)(hR:Hl)(r:Nat×Sg):Prop:=
 ∀s,jP tn Γ σ s->lU w (gD tw tl (ef σ.bad) bw s++hR)->pQ P gf args w (gD tw tl (ef σ.bad) bw s) (λv h'=>∃s' Γ',v=aS (r.1:Int)/\h'=gD tw tl (ef r.2.bad) bw s'/\jP tn Γ' r.2 s'/\Γ⊆Γ')
section
variable{P:av}{tn tw tl:ax}{er:aC}{ef:Bool->aC}{bw:Nat}{Γ:List FV}{σ:Sg}{s:Ws}
variable{r:ah}{f:ay}{R:aC->aB->Prop}{w0:aB}{S:aq}{Y:List (Nat×Obj)}{n:Nat}{k:al}{l:Fl}{ops:aj}{i d:Nat}{rest:aq}{ty:ax}{pos:aA}{aft:ak}{g:Option (Nat×Bool)}
variable{az:aa}{ts:ab}{cal:au}{gf:ay}{vs:ai}{u:Tr}
theorem lh{q:ah}{f:List NV}{cap:Nat}:fZ q f.length cap=FV.v ⟨q.map aP,cap,f⟩:=by cases q<;>rfl
theorem mP{t:Tr}:(bT t).length<=maxLen:=fJ rfl
theorem rq{p:ah×Obj}{pre:Hl}:(p::(pre++gD tw tl er bw s)).Perm (pre++gD tw tl er bw (s.zt p)):=by
 refine(List.perm_middle (l₁:=pre) (a:=p)).symm.trans (List.Perm.append_left pre ?_);unfold gD Ws.zt;exact(List.Perm.swap _ _ _).trans (List.Perm.cons _ (List.Perm.swap _ _ _))
theorem eQ.vO{pre:Hl}(hW:jP tn Γ σ s)(ho:ops[i]?=some ⟨some d,.call ⟨.value cal,az,ts⟩,ty,pos,aft,g⟩)(hw:fg ops l g=true)
  (hc:fW l cal=some (.func (.func gf) #[] #[]))(hx:iT l az.toList=some vs)(hd:Nat.blt d n=true)(hcf:∀args w,(callFunc gf args).run P w=.ok (.enter gf args) w)
  (hcall:∀w Y',St w0 S w (pre++gD tw tl er bw s) Y'->Cn P gf vs w (λv w'=>mu tn w w' v (bT u)))
  (hk:∀x s',x.f=bT u->x.Z->jP tn (x::Γ) σ s'->eQ P r f R w0 S Y n (.inRegion ops rest::k) ((d,x.v)::l) (pre++gD tw tl er bw s')):
  eQ P r f R w0 S Y n (.inRegion ops (i::rest)::k) l (pre++gD tw tl er bw s):=by
 refine eQ.rG (λw v w'=>mu tn w w' v (bT u)) ho hw hc hx hd hcf hcall (λv w w' Y' hS he hO=>?_);obtain⟨ho,hz⟩:=hO;obtain⟨q,cap,sp,rfl,hq,eV,hS'⟩:=fy hS he ho;refine⟨_,hS'.perm rq,?_⟩;rw[lh];refine hk _ _ rfl (λe=>?_) (hW.add hq mP);have:=hz e;cases q with
 |none=>rfl
 |some b=>cases this
theorem eQ.ng{pre:Hl}(hW:jP tn Γ σ s)(hcf:∀args w,(callFunc gf args).run P w=.ok (.enter gf args) w)(hcall:∀w Y',St w0 S w (pre++gD tw tl er bw s) Y'->Cn P gf vs w (λv w'=>mu tn w w' v (bT u)))(hk:∀x s',x.f=bT u->x.Z->jP tn (x::Γ) σ s'->eQ P r f R w0 S Y n (.inRegion ops rest::k) ((d,x.v)::l) (pre++gD tw tl er bw s'))(ho:ops[i]?=some ⟨some d,.call ⟨.value cal,az,ts⟩,ty,pos,aft,g⟩:=by exact rfl)(hw:fg ops l g=true:=by exact rfl)(hc:fW l cal=some (.func (.func gf) #[] #[]):=by exact rfl)(hx:iT l az.toList=some vs:=by exact rfl)(hd:Nat.blt d n=true:=by exact rfl):eQ P r f R w0 S Y n (.inRegion ops (i::rest)::k) l (pre++gD tw tl er bw s):=eQ.vO (hW:=hW) (ho:=ho) (hw:=hw) (hc:=hc) (hx:=hx) (hd:=hd) (hcf:=hcf) (hcall:=hcall) (hk:=hk)
theorem eQ.sV{pre:Hl}(hW:jP tn Γ σ s)(ho:ops[i]?=some ⟨some d,.call ⟨.value cal,az,ts⟩,ty,pos,aft,g⟩)(hw:fg ops l g=true)
  (hc:fW l cal=some (.func (.func gf) #[] #[]))(hx:iT l az.toList=some vs)(hd:Nat.blt d n=true)(hcf:∀args w,(callFunc gf args).run P w=.ok (.enter gf args) w)
  (hcall:∀w Y',St w0 S w (pre++gD tw tl er bw s) Y'->Cn P gf vs w (λv w'=>fi tn w w' v (bT u)))
  (hk:∀x s',x.f=bT u->jP tn (x::Γ) σ s'->eQ P r f R w0 S Y n (.inRegion ops rest::k) ((d,x.v)::l) (pre++gD tw tl er bw s')):
  eQ P r f R w0 S Y n (.inRegion ops (i::rest)::k) l (pre++gD tw tl er bw s):=by
 refine eQ.rG (λw v w'=>fi tn w w' v (bT u)) ho hw hc hx hd hcf hcall (λv w w' Y' hS he hO=>?_);obtain⟨q,cap,sp,rfl,hq,eV,hS'⟩:=fy hS he hO;refine⟨_,hS'.perm rq,?_⟩;rw[lh];exact hk _ _ rfl (hW.add hq mP)
theorem eQ.kG{pre:Hl}(hW:jP tn Γ σ s)(hcf:∀args w,(callFunc gf args).run P w=.ok (.enter gf args) w)(hcall:∀w Y',St w0 S w (pre++gD tw tl er bw s) Y'->Cn P gf vs w (λv w'=>fi tn w w' v (bT u)))(hk:∀x s',x.f=bT u->jP tn (x::Γ) σ s'->eQ P r f R w0 S Y n (.inRegion ops rest::k) ((d,x.v)::l) (pre++gD tw tl er bw s'))(ho:ops[i]?=some ⟨some d,.call ⟨.value cal,az,ts⟩,ty,pos,aft,g⟩:=by exact rfl)(hw:fg ops l g=true:=by exact rfl)(hc:fW l cal=some (.func (.func gf) #[] #[]):=by exact rfl)(hx:iT l az.toList=some vs:=by exact rfl)(hd:Nat.blt d n=true:=by exact rfl):eQ P r f R w0 S Y n (.inRegion ops (i::rest)::k) l (pre++gD tw tl er bw s):=eQ.sV (hW:=hW) (ho:=ho) (hw:=hw) (hc:=hc) (hx:=hx) (hd:=hd) (hcf:=hcf) (hcall:=hcall) (hk:=hk)
theorem eQ.iK{pre hR hR':Hl}{s0:Ws}{er0:aC}{res:Nat×Sg}(h0:lU w0 (gD tw tl er0 bw s0++hR))(hW:jP tn Γ σ s)(hsub:hR'.Sublist (pre++hR))(ho:ops[i]?=some ⟨some d,.call ⟨.value cal,az,ts⟩,ty,pos,aft,g⟩)(hw:fg ops l g=true)
  (hc:fW l cal=some (.func (.func gf) #[] #[]))(hx:iT l az.toList=some vs)(hd:Nat.blt d n=true)(hcf:∀args w,(callFunc gf args).run P w=.ok (.enter gf args) w)
  (hcall:∀w Y',St w0 (ir (gD tw tl er0 bw s0)) w (pre++gD tw tl (ef σ.bad) bw s) Y'->sr P tn tw tl ef bw Γ σ gf vs w hR' res)
  (hk:∀s' Γ',jP tn Γ' res.2 s'->Γ⊆Γ'->eQ P r f R w0 (ir (gD tw tl er0 bw s0)) Y n (.inRegion ops rest::k) ((d,aS (res.1:Int))::l) (pre++gD tw tl (ef res.2.bad) bw s')):
  eQ P r f R w0 (ir (gD tw tl er0 bw s0)) Y n (.inRegion ops (i::rest)::k) l (pre++gD tw tl (ef σ.bad) bw s):=by
 refine eQ.mW (h':=gD tw tl (ef σ.bad) bw s++pre) cd ?_;refine eQ.kE (h:=gD tw tl (ef σ.bad) bw s) (hF:=pre) (fs:=[]) (cs:=[]) (λ_ v h'=>∃s' Γ',v=aS (res.1:Int)/\h'=gD tw tl (ef res.2.bad) bw s'/\jP tn Γ' res.2 s'/\Γ⊆Γ') ho hw hc hx hd hcf (λw Y' hS=>?_) (λw v h' hR2=>?_);rw[dR,dL];have hS2:=hS.perm (cd (l₁:=gD tw tl (ef σ.bad) bw s) (l₂:=pre));exact hcall w _ hS2 s hW ((h0.stay hS2).sub (cN aD hsub));obtain⟨s',Γ',rfl,rfl,hW',hs⟩:=hR2;exact eQ.mW cd (hk s' Γ' hW' hs)
theorem eQ.gp{pre hR hR':Hl}{s0:Ws}{er0:aC}{res:Nat×Sg}(h0:lU w0 (gD tw tl er0 bw s0++hR))(hW:jP tn Γ σ s)(hsub:hR'.Sublist (pre++hR))(hcf:∀args w,(callFunc gf args).run P w=.ok (.enter gf args) w)(hcall:∀w Y',St w0 (ir (gD tw tl er0 bw s0)) w (pre++gD tw tl (ef σ.bad) bw s) Y'->sr P tn tw tl ef bw Γ σ gf vs w hR' res)(hk:∀s' Γ',jP tn Γ' res.2 s'->Γ⊆Γ'->eQ P r f R w0 (ir (gD tw tl er0 bw s0)) Y n (.inRegion ops rest::k) ((d,aS (res.1:Int))::l) (pre++gD tw tl (ef res.2.bad) bw s'))(ho:ops[i]?=some ⟨some d,.call ⟨.value cal,az,ts⟩,ty,pos,aft,g⟩:=by exact rfl)(hw:fg ops l g=true:=by exact rfl)(hc:fW l cal=some (.func (.func gf) #[] #[]):=by exact rfl)(hx:iT l az.toList=some vs:=by exact rfl)(hd:Nat.blt d n=true:=by exact rfl):eQ P r f R w0 (ir (gD tw tl er0 bw s0)) Y n (.inRegion ops (i::rest)::k) l (pre++gD tw tl (ef σ.bad) bw s):=eQ.iK (h0:=h0) (hW:=hW) (hsub:=hsub) (ho:=ho) (hw:=hw) (hc:=hc) (hx:=hx) (hd:=hd) (hcf:=hcf) (hcall:=hcall) (hk:=hk)
end
section
variable{P:av}{tn tw tl:ax}{er:aC}{ef:Bool->aC}{bw:Nat}{Γ:List FV}{σ:Sg}{s:Ws}
variable{r:ah}{f:ay}{R:aC->aB->Prop}{w0:aB}{S:aq}{Y:List (Nat×Obj)}{n:Nat}{k:al}{l:Fl}{ops:aj}{i d:Nat}{ty:ax}{pos:aA}{aft:ak}{g:Option (Nat×Bool)}
variable{az:aa}{ts:ab}{cal:au}{gf:ay}{vs:ai}{u:Tr}{hb:Hl}{q:Nat}{Dn:aq}
theorem K1{pre:Hl}(hs:hb.Sublist (pre++Nl tw tl er bw s)){s':Ws}(e:Nl tw tl er bw s'=Nl tw tl er bw s):hb.Sublist (pre++gD tw tl er bw s'):=hs.trans (cN aD (by rw[<-e];exact HU))
theorem fz.vO{pre:Hl}(hW:jP tn Γ σ s)(hs:hb.Sublist (pre++Nl tw tl er bw s))(h1:fw ops Dn=[i])(ho:ops[i]?=some ⟨some d,.call ⟨.value cal,az,ts⟩,ty,pos,aft,g⟩)(hw:fg ops l g=true)
  (hc:fW l cal=some (.func (.func gf) #[] #[]))(hx:iT l az.toList=some vs)(hd:Nat.blt d n=true)(hcf:∀args w,(callFunc gf args).run P w=.ok (.enter gf args) w)
  (hcall:∀w Y',St w0 S w (pre++gD tw tl er bw s) Y'->Cn P gf vs w (λv w'=>mu tn w w' v (bT u)))
  (hk:∀x p,x.f=bT u->x.Z->jP tn (x::Γ) σ (s.zt p)->fz P r f R w0 S Y n k ops hb q (i::Dn) ((d,x.v)::l) (pre++gD tw tl er bw (s.zt p))):
  fz P r f R w0 S Y n k ops hb (q+1) Dn l (pre++gD tw tl er bw s):=by
 refine fz.call (λw v w'=>mu tn w w' v (bT u)) h1 ho hw hc hx hd hcf hcall (λv w w' Y' hS he hO=>?_);obtain⟨ho,hz⟩:=hO;obtain⟨q,cap,sp,rfl,hq,eV,hS'⟩:=fy hS he ho;refine⟨_,hS'.perm rq,K1 hs rfl,?_⟩;rw[lh];refine hk _ _ rfl (λe=>?_) (hW.add hq mP);have:=hz e;cases q with
 |none=>rfl
 |some b=>cases this
theorem fz.iK{pre hR hR':Hl}{s0:Ws}{er0:aC}{res:Nat×Sg}(h0:lU w0 (gD tw tl er0 bw s0++hR))(hW:jP tn Γ σ s)(hsub:hR'.Sublist (pre++hR))(hs:hb.Sublist pre)(h1:fw ops Dn=[i])(ho:ops[i]?=some ⟨some d,.call ⟨.value cal,az,ts⟩,ty,pos,aft,g⟩)(hw:fg ops l g=true)
  (hc:fW l cal=some (.func (.func gf) #[] #[]))(hx:iT l az.toList=some vs)(hd:Nat.blt d n=true)(hcf:∀args w,(callFunc gf args).run P w=.ok (.enter gf args) w)
  (hcall:∀w Y',St w0 (ir (gD tw tl er0 bw s0)) w (pre++gD tw tl (ef σ.bad) bw s) Y'->sr P tn tw tl ef bw Γ σ gf vs w hR' res)
  (hk:∀s' Γ',jP tn Γ' res.2 s'->Γ⊆Γ'->fz P r f R w0 (ir (gD tw tl er0 bw s0)) Y n k ops hb q (i::Dn) ((d,aS (res.1:Int))::l) (pre++gD tw tl (ef res.2.bad) bw s')):
  fz P r f R w0 (ir (gD tw tl er0 bw s0)) Y n k ops hb (q+1) Dn l (pre++gD tw tl (ef σ.bad) bw s):=by
 refine fz.kE (hC:=gD tw tl (ef σ.bad) bw s) (hF:=pre) (fs:=[]) (cs:=[]) cd (λ_ v h'=>∃s' Γ',v=aS (res.1:Int)/\h'=gD tw tl (ef res.2.bad) bw s'/\jP tn Γ' res.2 s'/\Γ⊆Γ') h1 ho hw hc hx hd hcf (λw Y' hS=>?_) (λw v h' hR2=>?_);rw[dR,dL];have hS2:=hS.perm (cd (l₁:=gD tw tl (ef σ.bad) bw s) (l₂:=pre));exact hcall w _ hS2 s hW ((h0.stay hS2).sub (cN aD hsub));obtain⟨s',Γ',rfl,rfl,hW',hs'⟩:=hR2;exact⟨_,cd,hs.trans (bK _ _),hk s' Γ' hW' hs'⟩
theorem sr.of{gf:ay}{fn:Func}{c:Code}{args:ai}{w:aB}{hR:Hl}{res:Nat×Sg}(hf:P.funcs[gf]?=some fn)(hb:fn.body=some c)(hn:Nat.ble args.length fn.ntmps=true)
  (hgo:∀s,jP tn Γ σ s->lU w (gD tw tl (ef σ.bad) bw s++hR)->eQ P none gf (λv w'=>∃h',(∃s' Γ',v=aS (res.1:Int)/\h'=gD tw tl (ef res.2.bad) bw s'/\jP tn Γ' res.2 s'/\Γ⊆Γ')/\St w (ir (gD tw tl (ef σ.bad) bw s)) w' h' []) w (ir (gD tw tl (ef σ.bad) bw s)) [] fn.ntmps [.code c] (Ac 0 args) (gD tw tl (ef σ.bad) bw s)):
  sr P tn tw tl ef bw Γ σ gf args w hR res:=λs hW hH=>pQ.of (hH.sub (bK _ _)) hf hb hn (hgo s hW hH)
end
theorem O4{tn tw tl:ax}{ef:Bool->aC}{bw:Nat}{Γ Γ':List FV}{res:Nat×Sg}{s':Ws}{w w':aB}{S:aq}{pre:Hl}{v:aC}(hv:v=aS (res.1:Int))(hW:jP tn Γ' res.2 s')(hg:Γ⊆Γ')(hS:St w S w' (pre++gD tw tl (ef res.2.bad) bw s') []):
  ∃h',(∃s' Γ',v=aS (res.1:Int)/\h'=gD tw tl (ef res.2.bad) bw s'/\jP tn Γ' res.2 s'/\Γ⊆Γ')/\St w S w' h' []:=⟨_,⟨s',Γ',hv,rfl,hW,hg⟩,hS.ij (bC _ _)⟩
theorem jP.bad{tn:ax}{Γ:List FV}{σ:Sg}{s:Ws}{b:Bool}(h:jP tn Γ σ s):jP tn Γ ⟨σ.ls,b⟩ s:=⟨h.nil,h.cap,h.GQ,h.Mw,h.ctx,h.HK,h.Lt⟩
theorem iy{tn tw tl:ax}{ef:Bool->aC}{bw:Nat}{Γ Γ':List FV}{res res':Nat×Sg}{s':Ws}{w w':aB}{S:aq}{pre:Hl}{v:aC}(he:res=res')(hv:v=aS (res'.1:Int))(hW:jP tn Γ' res'.2 s')(hg:Γ⊆Γ')(hS:St w S w' (pre++gD tw tl (ef res'.2.bad) bw s') []):
  ∃h',(∃s' Γ',v=aS (res.1:Int)/\h'=gD tw tl (ef res.2.bad) bw s'/\jP tn Γ' res.2 s'/\Γ⊆Γ')/\St w S w' h' []:=by subst he;exact O4 hv hW hg hS
structure KH (S:aq) (w:aB) (a:ae) (xs:ar):Prop where
  at_:oe w a xs
  sep:∀b o,a=some ⟨b,o,none⟩->b∉S
theorem KH.eY{S:aq}{w0 w:aB}{a:ae}{xs:ar}(h:KH S w0 a xs)(e:Ex S w0 w):oe w a xs:=oe.eY h.at_ e h.sep
theorem lU.read{w:aB}{h0 hR:Hl}(g:lU w (h0++hR)){b:Nat}{o:Obj}(hm:(some b,o)∈hR):w.heap[b]?=some o/\b∉ir h0:=by
 refine⟨(g.own _ (bZ _ hm) b rfl).1,λhb=>?_⟩;obtain⟨o',ho⟩:=mj.1 hb;exact(cK.1 g.apart).2.2 _ ho _ hm b rfl rfl
theorem lU.NC{w:aB}{h0 hR:Hl}(g:lU w (h0++hR)){q:ah}{xs:ar}{e:ax}{sp:ai}(hm:(q,ob fD e xs sp)∈hR)(hq:q=none->xs=[]):KH (ir h0) w (q.map aP) xs:=by
 cases q with
 |none=>rw[hq rfl];exact⟨Sl.nil _ _,λb o e=>by cases e⟩
 |some b=>exact⟨Sl.jh (g.read hm).1,λb' o e=>by cases e;exact(g.read hm).2⟩
theorem jP.put{tn:ax}{Γ:List FV}{σ:Sg}{s:Ws}(h:jP tn Γ σ s){x:FV}(h1:x.vA tn s.H)(h2:x.f.length<=maxLen):jP tn (x::Γ) σ s:=⟨h.nil,h.cap,h.GQ,h.Mw,λy hy=>by
  rcases ew.1 hy with rfl|hy;exact⟨h1,h2⟩;exact h.ctx y hy,λy hy=>cF _ (h.HK y hy),h.Lt⟩
theorem lU.fR{w:aB}{h:Hl}(g:lU w h)(o:Obj):lU w (h++[(none,o)]):=by
 constructor;intro p hp b hb;rcases dP.1 hp with hp|hp;exact g.own p hp b hb;rw[de.1 hp]at hb;cases hb;refine cK.2 ⟨g.apart,List.pairwise_singleton _ _,λp _ q hq b _ hqb=>?_⟩;rw[de.1 hq]at hqb;cases hqb
section
variable{P:av}{tn tw tl:ax}{ef:Bool->aC}{bw:Nat}{Γ:List FV}{σ:Sg}{s:Ws}
variable{r:ah}{f:ay}{R:aC->aB->Prop}{w0:aB}{S:aq}{Y:List (Nat×Obj)}{n:Nat}{k:al}{l:Fl}{ops:aj}{i d:Nat}{rest:aq}{ty:ax}{pos:aA}{aft:ak}{g:Option (Nat×Bool)}
variable{az:aa}{ts:ab}{cal:au}{gf:ay}{vs:ai}
theorem eQ.tj{pre hR':Hl}{res:Nat×Sg}(hW:jP tn Γ σ s)(hsub:hR'.Sublist pre)(ho:ops[i]?=some ⟨some d,.call ⟨.value cal,az,ts⟩,ty,pos,aft,g⟩)(hw:fg ops l g=true)
  (hc:fW l cal=some (.func (.func gf) #[] #[]))(hx:iT l az.toList=some vs)(hd:Nat.blt d n=true)(hcf:∀args w,(callFunc gf args).run P w=.ok (.enter gf args) w)
  (hcall:∀w Y',St w0 S w (pre++gD tw tl (ef σ.bad) bw s) Y'->sr P tn tw tl ef bw Γ σ gf vs w hR' res)
  (hk:∀s' Γ',jP tn Γ' res.2 s'->Γ⊆Γ'->eQ P r f R w0 S Y n (.inRegion ops rest::k) ((d,aS (res.1:Int))::l) (pre++gD tw tl (ef res.2.bad) bw s')):
  eQ P r f R w0 S Y n (.inRegion ops (i::rest)::k) l (pre++gD tw tl (ef σ.bad) bw s):=by
 refine eQ.mW (h':=gD tw tl (ef σ.bad) bw s++pre) cd ?_;refine eQ.kE (h:=gD tw tl (ef σ.bad) bw s) (hF:=pre) (fs:=[]) (cs:=[]) (λ_ v h'=>∃s' Γ',v=aS (res.1:Int)/\h'=gD tw tl (ef res.2.bad) bw s'/\jP tn Γ' res.2 s'/\Γ⊆Γ') ho hw hc hx hd hcf (λw Y' hS=>?_) (λw v h' hR2=>?_);rw[dR,dL];have hS2:=hS.perm (cd (l₁:=gD tw tl (ef σ.bad) bw s) (l₂:=pre));exact hcall w _ hS2 s hW (hS.has.sub (cN aD hsub));obtain⟨s',Γ',rfl,rfl,hW',hs⟩:=hR2;exact eQ.mW cd (hk s' Γ' hW' hs)
end
theorem jP.own{tn tw tl:ax}{Γ:List FV}{σ:Sg}{s:Ws}{er:aC}{bw:Nat}{w0 w:aB}{pre:Hl}{Y:List (Nat×Obj)}(h:jP tn Γ σ s)(hS:St w0 [] w (pre++gD tw tl er bw s) Y):me tn tl w0 w (fZ s.q s.ls.length s.cap) s.ls:=
 ⟨s.q,s.cap,s.sp,s.H,rfl,h.nil,h.cap,(lq.of hS).sub ((List.sublist_cons_self _ _).trans (bC pre _)),λx hx=>h.ctx _ (h.HK x hx)⟩
theorem jP.start{tn:ax}:jP tn [] ⟨[],false⟩ ⟨none,0,[],[],[]⟩:=by
 refine⟨λ_=>⟨rfl,rfl⟩,rfl,rfl,aG,?_,?_,?_⟩<;>(intro _ h;cases h)
structure xn (b:List NV):Prop where
  nG:fX b=0
  IU:∀n∈b,jD b n
section
variable{b:List NV}
theorem xn.x(h:xn b){i:Nat}(hi:i<b.length)(hX:4<=(nd b i).op):0<=(nd b i).x/\(nd b i).x<i:=by
 rw[gN hi]at*;have ho:=(fA.1 h.nG).nodes i hi;have h1:=h.IU _ (dB hi);have hu:jd b[i].op=true:=by unfold jd;unfold jD at h1;simp;omega
 have:=ho.x hu;omega
theorem xn.y(h:xn b){i:Nat}(hi:i<b.length)(hX:(nd b i).op=5\/(nd b i).op=6):0<=(nd b i).y/\(nd b i).y<i:=by
 rw[gN hi]at*;have ho:=(fA.1 h.nG).nodes i hi;have hu:iH b[i].op=true:=by unfold iH;rcases hX with e|e<;>rw[e]<;>rfl
 have:=ho.y hu;omega
theorem xn.node(h:xn b){i:Nat}(hi:i<b.length):((nd b i).op<=3/\eP b i=.leaf (nd b i).op (nd b i).i (nd b i).e (nd b i).g)\/(((nd b i).op=4\/(nd b i).op=9\/(nd b i).op=10)/\eP b i=.un (nd b i).op (nd b i).i (nd b i).e (nd b i).g (eP b (nd b i).x.toNat))\/(((nd b i).op=5\/(nd b i).op=6)/\eP b i=.bin (nd b i).op (nd b i).i (nd b i).e (nd b i).g (eP b (nd b i).x.toNat) (eP b (nd b i).y.toNat)):=by
 rw[gN hi];have hO:=(fA.1 h.nG).nodes;have hn:=h.IU _ (dB hi);unfold jD at hn;have hX:jd b[i].op=true↔4<=b[i].op:=by
  unfold jd;simp;omega
 have hY:iH b[i].op=true↔b[i].op=5\/b[i].op=6:=by
  unfold iH;simp;omega
 rcases iB hi hO with⟨h1,h2⟩|⟨h1,h2,h3⟩|⟨h1,h2⟩;refine .inl ⟨?_,h2⟩;have:¬4<=b[i].op:=λe=>by rw[hX.2 e]at h1;cases h1
 omega;refine .inr (.inl ⟨?_,h3⟩);have:=hX.1 h1;have:¬(b[i].op=5\/b[i].op=6):=λe=>by rw[hY.2 e]at h2;cases h2
 omega;exact .inr (.inr ⟨hY.1 h1,h2⟩)
theorem xn.nf(h:xn b):∀(i:Nat),i<b.length->uz (eP b i):=by
 intro i
 induction i using Nat.strongRecOn with
 |_ i ih=>
 intro hi;rcases h.node hi with⟨h1,h2⟩|⟨h1,h2⟩|⟨h1,h2⟩;rw[h2];exact h1;have hx:=h.x hi aH;rw[h2];by_cases h4:(nd b i).op=4;have hn:=h.IU _ (dB hi);unfold jD at hn;rw[<-gN hi]at hn;have h3:(nd b (nd b i).x).op=3:=aH;obtain⟨k,hk⟩:∃k:Nat,(nd b i).x=k:=⟨(nd b i).x.toNat,aH⟩;rw[hk]at h3⊢;have hkl:k<b.length:=aH;rcases h.node hkl with⟨g1,g2⟩|⟨g1,g2⟩|⟨g1,g2⟩;rw[di,g2,h3];exact .inl ⟨h4,_,_,_,rfl⟩;omega;omega;exact .inr ⟨aH,ih _ aH aH⟩;have hx:=h.x hi aH;have hy:=h.y hi h1;rw[h2];exact⟨h1,ih _ aH aH,ih _ aH aH⟩
theorem xn.top(h:xn b):uz (gA b):=by
 have hp:=(fA.1 h.nG).pos;rw[jt];exact h.nf _ aH
end
open Classical in
noncomputable def yd(ei:Bool)(f:List NV):Int:=if fX f≠0 then fX f else if ¬∀n∈eT f,jD (eT f) n then 10 else if (fF eR ei (gA f) ⟨[],false⟩).2.bad=true then 8 else 0
noncomputable def LP(ei:Bool)(f:List NV):List LD:=(fF eR ei (gA f) ⟨[],false⟩).2.ls.map (λx=>x.v.d)
structure SP where
  bw:Nat
  bs:Nat
  l:Int
  A:ae
  cA:Nat
  b:List NV
  B:ae
  cB:Nat
  tl:List SV
  x:SV
  full:fC
  Z:ae
  cZ:Nat
  last:aq
def SP.cs(p:SP):af:=#[aQ p.bw,aS p.l,.slice p.A p.b.length p.cA,.slice p.B p.tl.length p.cB,U p.x.d.set,aS p.x.d.eW,aS p.x.d.on,aS p.x.d.e,.slice p.x.fa p.x.d.fr.length p.x.fc,U p.full,.slice p.Z p.last.length p.cZ]
structure SP.At (p:SP) (t:ax) (w:aB):Prop where
  jh:w.heap[p.bs]?=some (.cells p.cs t (0,0))
  fa:FA w p.A p.b
  sa:Sl w p.B (p.tl.flatMap SV.cells)
  Ey:oe w p.x.fa p.x.d.fr
  LK:oe w p.Z (p.last.map (λj:Nat=>(j:Int)))
structure SP.R (p:SP) (t:ax) (S:aq) (w:aB):Prop where
  at_:p.At t w
  s1:p.bs∉S
  s2:∀b o,p.A=some ⟨b,o,none⟩->b∉S
  s3:∀b o,p.B=some ⟨b,o,none⟩->b∉S
  s4:∀b o,p.x.fa=some ⟨b,o,none⟩->b∉S
  s5:∀b o,p.Z=some ⟨b,o,none⟩->b∉S
theorem SP.R.ex{p:SP}{t:ax}{S:aq}{w w':aB}(h:p.R t S w)(e:Ex S w w'):p.At t w':=by
 refine⟨?_,h.at_.fa.eY e h.s2,Sl.ex h.at_.sa e h.s3,oe.eY h.at_.Ey e h.s4,oe.eY h.at_.LK e h.s5⟩;have h1:=h.at_.jh;rw[e.block p.bs (aW.1 h1).1 h.s1];exact h1
theorem SP.At.eY{p:SP}{t:ax}{w w':aB}(h:p.At t w)(e:Ex [] w w'):p.At t w':=⟨e.nh h.jh,h.fa.eY e,Sl.ex h.sa e aL,h.Ey.eY e,h.LK.eY e⟩
structure SP.In (p:SP) (t tn ts ti:ax) (hR:Hl):Prop where
  jh:(some p.bs,.cells p.cs t (0,0))∈hR
  fa:∃q sp,(q,iC tn p.b sp)∈hR/\p.A=q.map aP/\(q=none->p.b.length=0)
  sa:∃q sp,(q,oB ts p.tl sp)∈hR/\p.B=q.map aP/\(q=none->p.tl.length=0)
  Ey:∃q sp,(q,ob fD ti p.x.d.fr sp)∈hR/\p.x.fa=q.map aP/\(q=none->p.x.d.fr.length=0)
  LK:∃q sp,(q,ob fD ti (p.last.map (λj:Nat=>(j:Int))) sp)∈hR/\p.Z=q.map aP/\(q=none->p.last.length=0)
theorem SP.In.mono{p:SP}{t tn ts ti:ax}{hR hR':Hl}(h:p.In t tn ts ti hR)(hs:hR⊆hR'):p.In t tn ts ti hR':=by
 obtain⟨h1,⟨q2,s2,a2,b2⟩,⟨q3,s3,a3,b3⟩,⟨q4,s4,a4,b4⟩,⟨q5,s5,a5,b5⟩⟩:=h;exact⟨hs h1,⟨q2,s2,hs a2,b2⟩,⟨q3,s3,hs a3,b3⟩,⟨q4,s4,hs a4,b4⟩,⟨q5,s5,hs a5,b5⟩⟩
theorem SP.In.r{p:SP}{t tn ts ti:ax}{hR h0:Hl}{w:aB}(h:p.In t tn ts ti hR)(g:lU w (h0++hR)):p.R t (ir h0) w:=by
 obtain⟨h1,⟨q2,s2,a2,b2,c2⟩,⟨q3,s3,a3,b3,c3⟩,⟨q4,s4,a4,b4,c4⟩,⟨q5,s5,a5,b5,c5⟩⟩:=h;obtain⟨k1,k2⟩:=g.read h1;have hsep:∀{a:ae} {q:ah} {o':Obj},(q,o')∈hR->a=q.map (λb=>(⟨b,0,none⟩:Addr))->∀b o,a=some ⟨b,o,none⟩->b∉ir h0:=λhm e b o e2=>by
  rename_i a q o';subst e;cases q with
  |none=>cases e2
  |some b'=>cases e2;exact(g.read hm).2
 refine⟨⟨k1,?_,?_,?_,?_⟩,k2,hsep a2 b2,hsep a3 b3,hsep a4 b4,hsep a5 b5⟩;rw[b2];cases q2 with
 |none=>rw[aU (c2 rfl)];exact⟨Sl.nil _ _⟩
 |some b=>exact⟨Sl.jh (g.read a2).1⟩
 rw[b3];cases q3 with
 |none=>rw[aU (c3 rfl)];exact Sl.nil _ _
 |some b=>exact Sl.jh (g.read a3).1
 rw[b4];cases q4 with
 |none=>rw[aU (c4 rfl)];exact Sl.nil _ _
 |some b=>exact Sl.jh (g.read a4).1
 rw[b5];cases q5 with
 |none=>rw[aU (c5 rfl)];exact Sl.nil _ _
 |some b=>exact Sl.jh (g.read a5).1
theorem SP.At.part{p:SP}{t:ax}{w:aB}(h:p.At t w){o:Nat}{cs:ai}(hc:∀j,j<cs.length->p.cs[o+j]?=cs[j]?):∀j v,cs[j]?=some v->w.cell? ((⟨p.bs,o,none⟩:Addr).add j)=some v:=λj v hv=>by
 have hj:=(bA.1 hv).1;have e1:(⟨p.bs,o,none⟩:Addr).add j=⟨p.bs,o+j,none⟩:=by
  unfold Addr.add;split;rename_i h0;rw[h0];rfl;rfl
 rw[e1];exact Ex.cell (Ex.refl _ _) h.jh (by rw[hc j hj];exact hv)
structure OM (S:aq) (w:aB) (a:ae) (xs:ai):Prop where
  at_:Sl w a xs
  sep:∀b o,a=some ⟨b,o,none⟩->b∉S
theorem OM.eY{S:aq}{w0 w:aB}{a:ae}{xs:ai}(h:OM S w0 a xs)(e:Ex S w0 w):OM S w a xs:=⟨Sl.ex h.at_ e h.sep,h.sep⟩
theorem SP.R.NG{p:SP}{t:ax}{S:aq}{w:aB}(h:p.R t S w):OM S w p.B (p.tl.flatMap SV.cells):=⟨h.at_.sa,h.s3⟩
theorem SP.R.te{p:SP}{t:ax}{S:aq}{w:aB}(h:p.R t S w):Ce S w p.A p.b:=⟨h.at_.fa.at_,h.s2⟩
def SP.ag(p:SP):Int:=if p.x.d.eW=7 then p.x.d.on else(nd p.b p.x.d.on).i
def SP.S0(p:SP):fC:=jk (iJ p.tl) (p.x.d.fr.getD 0 0)
def SP.own(p:SP):aq:=if p.x.d.eW=6 then jK (p.S0 &&& ~~~ bW (nd p.b p.x.d.on).x)else jK p.S0
def SP.ns(p:SP):aq:=if p.x.d.eW=6 then p.own else p.own.dropLast
def SP.tg(p:SP):Nat:=if p.x.d.eW=6 then(nd p.b p.x.d.on).x.toNat else p.own.getLastD 0
def SP.line(p:SP):Nat:=p.last.getD (p.x.d.fr.getD 0 0).toNat 0
structure SP.Ok (p:SP) (k:Nat):Prop where
  base:fY p.b
  full:lJ p.b p.full
  ou:jJ p.l p.b (iJ p.tl) k p.x.d
  Ps:k<p.tl.length
  I7:p.last.length=k
  wj:∀j:Nat,j<p.tl.length->lJ p.b (jk (iJ p.tl) (j:Int))
  ne:∀j:Nat,j<p.tl.length->jK (jk (iJ p.tl) (j:Int))≠[]
  PH:p.x.d.eW=6\/p.x.d.eW=7->∀n∈p.own,jo p.b p.full p.ag n=n->(nd p.b n).op=9\/(nd p.b n).op=10
  PS:p.x.d.eW=6\/p.x.d.eW=7->0<=p.ag/\p.ag<4
noncomputable def N6(p:SP)(G:Tr)(σ:Sg):Nat×Sg:=ru eR p.b G p.full p.ag p.ns p.tg p.own (decide (p.x.d.eW=6)) p.line σ
theorem IE{s u:fC}{n:Nat}(h:n∈jK (s &&& u)):n∈jK s:=gZ.2 (by
 have:=gZ.1 h;rw[cS,dx]at this;exact this.1)
theorem SP.tL{p:SP}{n:Nat}(h:n∈p.own):n∈jK p.S0:=by
 unfold SP.own at h;split at h;exact IE h;exact h
theorem SP.FH{p:SP}{n:Nat}(h:n∈p.ns):n∈p.own:=by
 unfold SP.ns at h;split at h;exact h;exact(List.dropLast_sublist _).subset h
theorem IF{s:fC}:(jK s).length<=64:=by
 have:=List.length_filter_le (λi=>s.getLsbD i) (List.range 64);simpa[jK]using this
theorem SP.CJ{p:SP}:p.own.length<=64:=by unfold SP.own;split<;>exact IF
theorem SP.CP{p:SP}:p.own.take p.ns.length=p.ns:=by
 unfold SP.ns;split;exact dG;rw[List.length_dropLast,List.dropLast_eq_take]
theorem SP.Kl{p:SP}:p.ns.length<=p.own.length:=by
 unfold SP.ns;split;exact eG _;rw[List.length_dropLast];omega
section
variable{P:av}{tn tw tl:ax}{er:aC}{bw:Nat}{Γ:List FV}{σ:Sg}{s:Ws}
variable{r:ah}{f:ay}{R:aC->aB->Prop}{w0:aB}{S:aq}{Y:List (Nat×Obj)}{n:Nat}{k:al}{l:Fl}{ops:aj}{i d:Nat}{rest:aq}{ty:ax}{pos:aA}{aft:ak}{g:Option (Nat×Bool)}
variable{az:aa}{ts:ab}{cal:au}{gf:ay}{vs:ai}{u:Tr}
theorem eQ.HJ{pre:Hl}{y:FV}(hW:jP tn Γ σ s)(hy:y∈Γ)(hyz:y.Z)(ho:ops[i]?=some ⟨some d,.call ⟨.value cal,az,ts⟩,ty,pos,aft,g⟩)(hw:fg ops l g=true)
  (hc:fW l cal=some (.func (.func gf) #[] #[]))(hx:iT l az.toList=some vs)(hd:Nat.blt d n=true)(hcf:∀args w,(callFunc gf args).run P w=.ok (.enter gf args) w)
  (hcall:∀w Y',St w0 S w (pre++gD tw tl er bw s) Y'->Cn P gf vs w (λv w'=>(v=y.v/\y.f=bT u)\/mu tn w w' v (bT u)))
  (hk:∀x s' Γ',x∈Γ'->Γ⊆Γ'->x.f=bT u->x.Z->jP tn Γ' σ s'->eQ P r f R w0 S Y n (.inRegion ops rest::k) ((d,x.v)::l) (pre++gD tw tl er bw s')):
  eQ P r f R w0 S Y n (.inRegion ops (i::rest)::k) l (pre++gD tw tl er bw s):=by
 refine eQ.rG (λw v w'=>(v=y.v/\y.f=bT u)\/mu tn w w' v (bT u)) ho hw hc hx hd hcf hcall (λv w w' Y' hS he hO=>?_);rcases hO with⟨rfl,hf⟩|⟨ho,hz⟩;exact⟨_,hS.later he,hk y s Γ hy (λ_ h=>h) hf hyz hW⟩;obtain⟨q,cap,sp,rfl,hq,eV,hS'⟩:=fy hS he ho;refine⟨_,hS'.perm rq,?_⟩;rw[lh];refine hk _ _ _ aF (λ_ h=>cF _ h) rfl (λe=>?_) (hW.add hq mP);have:=hz e;cases q with
 |none=>rfl
 |some b=>cases this
end
section
variable{P:av}{tn tw tl:ax}{er:aC}{ef:Bool->aC}{bw:Nat}{Γ:List FV}{σ:Sg}{s:Ws}
variable{r:ah}{f:ay}{R:aC->aB->Prop}{w0:aB}{S:aq}{Y:List (Nat×Obj)}{n:Nat}{k:al}{l:Fl}{ops:aj}{i d:Nat}{ty:ax}{pos:aA}{aft:ak}{g:Option (Nat×Bool)}
variable{az:aa}{ts:ab}{cal:au}{gf:ay}{vs:ai}{u:Tr}{hb:Hl}{q:Nat}{Dn:aq}{h:Hl}
theorem fz.two{i j d e:Nat}(h1:fw ops Dn=[i,j])(hi:ik P w0 S n h ops i l d (λv h'=>hb.Sublist h'/\fz P r f R w0 S Y n k ops hb q (i::Dn) ((d,v)::l) h'))(hd:Nat.blt d n=true)(hj:ik P w0 S n h ops j l e (λv h'=>hb.Sublist h'/\fz P r f R w0 S Y n k ops hb q (j::Dn) ((e,v)::l) h'))(he:Nat.blt e n=true):fz P r f R w0 S Y n k ops hb (q+1) Dn l h:=by
 intro t hF;rw[Dt];refine .inr ⟨by rw[h1];simp,λm hm=>?_⟩;rw[h1]at hm;simp only[ew,dE,eM]at hm;rcases hm with rfl|rfl;exact kF.of hi hF (λv h' ⟨e1,e2⟩=>⟨e1,e2 _ (hF.put v hd)⟩);exact kF.of hj hF (λv h' ⟨e1,e2⟩=>⟨e1,e2 _ (hF.put v he)⟩)
theorem ik.HJ{K:aC->Hl->Prop}{pre:Hl}{y:FV}(hW:jP tn Γ σ s)(hy:y∈Γ)(hyz:y.Z)(ho:ops[i]?=some ⟨some d,.call ⟨.value cal,az,ts⟩,ty,pos,aft,g⟩)(hw:fg ops l g=true)
  (hc:fW l cal=some (.func (.func gf) #[] #[]))(hx:iT l az.toList=some vs)(hd:Nat.blt d n=true)(hcf:∀args w,(callFunc gf args).run P w=.ok (.enter gf args) w)
  (hcall:∀w Y',St w0 S w (pre++gD tw tl er bw s) Y'->Cn P gf vs w (λv w'=>(v=y.v/\y.f=bT u)\/mu tn w w' v (bT u)))
  (hk:∀x s' Γ',x∈Γ'->Γ⊆Γ'->x.f=bT u->x.Z->jP tn Γ' σ s'->K x.v (pre++gD tw tl er bw s')):ik P w0 S n (pre++gD tw tl er bw s) ops i l d K:=by
 refine ik.call (λw v w'=>(v=y.v/\y.f=bT u)\/mu tn w w' v (bT u)) ho hw hc hx hd hcf hcall (λv w w' Y' hS he hO=>?_);rcases hO with⟨rfl,hf⟩|⟨ho,hz⟩;exact⟨_,hS.later he,hk y s Γ hy (λ_ h=>h) hf hyz hW⟩;obtain⟨q,cap,sp,rfl,hq,eV,hS'⟩:=fy hS he ho;refine⟨_,hS'.perm rq,?_⟩;rw[lh];refine hk _ _ _ aF (λ_ h=>cF _ h) rfl (λe=>?_) (hW.add hq mP);have:=hz e;cases q with
 |none=>rfl
 |some b=>cases this
theorem ik.vO{K:aC->Hl->Prop}{pre:Hl}(hW:jP tn Γ σ s)(ho:ops[i]?=some ⟨some d,.call ⟨.value cal,az,ts⟩,ty,pos,aft,g⟩)(hw:fg ops l g=true)
  (hc:fW l cal=some (.func (.func gf) #[] #[]))(hx:iT l az.toList=some vs)(hd:Nat.blt d n=true)(hcf:∀args w,(callFunc gf args).run P w=.ok (.enter gf args) w)
  (hcall:∀w Y',St w0 S w (pre++gD tw tl er bw s) Y'->Cn P gf vs w (λv w'=>mu tn w w' v (bT u)))
  (hk:∀x s',x.f=bT u->x.Z->jP tn (x::Γ) σ s'->K x.v (pre++gD tw tl er bw s')):ik P w0 S n (pre++gD tw tl er bw s) ops i l d K:=by
 refine ik.call (λw v w'=>mu tn w w' v (bT u)) ho hw hc hx hd hcf hcall (λv w w' Y' hS he hO=>?_);obtain⟨ho,hz⟩:=hO;obtain⟨q,cap,sp,rfl,hq,eV,hS'⟩:=fy hS he ho;refine⟨_,hS'.perm rq,?_⟩;rw[lh];refine hk _ _ rfl (λe=>?_) (hW.add hq mP);have:=hz e;cases q with
 |none=>rfl
 |some b=>cases this
theorem ik.sV{K:aC->Hl->Prop}{pre:Hl}(hW:jP tn Γ σ s)(ho:ops[i]?=some ⟨some d,.call ⟨.value cal,az,ts⟩,ty,pos,aft,g⟩)(hw:fg ops l g=true)
  (hc:fW l cal=some (.func (.func gf) #[] #[]))(hx:iT l az.toList=some vs)(hd:Nat.blt d n=true)(hcf:∀args w,(callFunc gf args).run P w=.ok (.enter gf args) w)
  (hcall:∀w Y',St w0 S w (pre++gD tw tl er bw s) Y'->Cn P gf vs w (λv w'=>fi tn w w' v (bT u)))
  (hk:∀x s',x.f=bT u->jP tn (x::Γ) σ s'->K x.v (pre++gD tw tl er bw s')):ik P w0 S n (pre++gD tw tl er bw s) ops i l d K:=by
 refine ik.call (λw v w'=>fi tn w w' v (bT u)) ho hw hc hx hd hcf hcall (λv w w' Y' hS he hO=>?_);obtain⟨q,cap,sp,rfl,hq,eV,hS'⟩:=fy hS he hO;refine⟨_,hS'.perm rq,?_⟩;rw[lh];exact hk _ _ rfl (hW.add hq mP)
theorem ik.iK{K:aC->Hl->Prop}{pre hR hR':Hl}{s0:Ws}{er0:aC}{res:Nat×Sg}(h0:lU w0 (gD tw tl er0 bw s0++hR))(hW:jP tn Γ σ s)(hsub:hR'.Sublist (pre++hR))(ho:ops[i]?=some ⟨some d,.call ⟨.value cal,az,ts⟩,ty,pos,aft,g⟩)(hw:fg ops l g=true)
  (hc:fW l cal=some (.func (.func gf) #[] #[]))(hx:iT l az.toList=some vs)(hd:Nat.blt d n=true)(hcf:∀args w,(callFunc gf args).run P w=.ok (.enter gf args) w)
  (hcall:∀w Y',St w0 (ir (gD tw tl er0 bw s0)) w (pre++gD tw tl (ef σ.bad) bw s) Y'->sr P tn tw tl ef bw Γ σ gf vs w hR' res)
  (hk:∀s' Γ',jP tn Γ' res.2 s'->Γ⊆Γ'->K (aS (res.1:Int)) (pre++gD tw tl (ef res.2.bad) bw s')):ik P w0 (ir (gD tw tl er0 bw s0)) n (pre++gD tw tl (ef σ.bad) bw s) ops i l d K:=by
 have hp:(pre++gD tw tl (ef σ.bad) bw s).Perm (gD tw tl (ef σ.bad) bw s++pre):=cd;refine⟨_,ho,rfl,rfl,rfl,hd,.inl ⟨hw,λt w Ds Y' hF' hS=>.inr ⟨gf,vs.toArray,λv w'=>∃h',(∃s' Γ',v=aS (res.1:Int)/\h'=gD tw tl (ef res.2.bad) bw s'/\jP tn Γ' res.2 s'/\Γ⊆Γ')/\St w (ir (gD tw tl (ef σ.bad) bw s)) w' h' [],?_,?_,λv w' ⟨h',h1,h2⟩=>?_⟩⟩⟩;have e1:=lO (P:=P) (ty:=ty) (ts:=ts) (Ds:=Ds) (w:=w) (first:=#[]) (captured:=#[]) hF' hc hx;simp only[execOp,Sem.run_bind,e1,Result.andThen_ok,invoke,hcf];simp;have:=hcall w Y' hS s hW ((h0.stay hS).sub (cN aD hsub));exact Calls.mono this (λe w' ⟨v,h',e1,e2,e3⟩=>⟨v,e1,h',e2,e3⟩);obtain⟨s',Γ',rfl,rfl,hW',hs'⟩:=h1;exact⟨_,((hS.perm hp).frame h2).perm cd,hk s' Γ' hW' hs'⟩
end
theorem Cw{w:aB}{a:ae}{xs:ai}(h:Sl w a xs)(n:Nat):Sl w a (xs.take n):=by
 refine⟨λhp=>h.isSome (by rw[dD]at hp;omega),λj hj=>?_⟩;rw[dD]at hj;rw[h.cell j aH];simp[aX,show j<n by omega]
end Go.Proofs.Wit
