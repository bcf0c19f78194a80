/- Laws of walks, each under its own conditions. -/
import Derived.Test.YtpbhoidjmpjfpaaGreatDoorXT01
set_option maxRecDepth 100000
set_option maxHeartbeats 40000000
namespace Go.Proofs.Wit
open Go Go.RowKit
section
variable{j:Int}{α:Type}{inf:TypeInfo}{a:ae}{sp:ai}{x y:au}{kd:aw}
def Bi(w:aB)(a:ae)(xs:List eF):Prop:=Sl w a (xs.map U)
theorem Bi.eQ{w0 w:aB} {xs:List eF}(h:Bi w0 a xs){S:aq}(e:Ex S w0 w)(hS:∀b o,a=some ⟨b,o,none⟩->b∉S:=by simp):Bi w a xs:=Sl.ex h e hS
theorem Bi.at{w:aB} {xs:List eF}(h:Bi w a xs)(k:Nat)(hk:k<xs.length):w.cell? (qT a k)=some (U (xs.getD k 0#64)):=by
 rw[Sl.cell h k (by simpa using hk)];simp[hk]
def Ao{σ:Type}(f:Nat->σ->σ)(s:σ):Nat->σ
 |0=>s
 |k+1=>f k (Ao f s k)
section
variable{P:av}{r:ah}{f:ay}{R:aC->aB->Prop}{w0:aB}{S:aq}{Y:List (Nat×Obj)}{n:Nat}{k:al}{l:Fl}{h:Hl}
variable{ops:aj}{i d:Nat}{rest:aq}{ty:ax}{pos:aA}{aft:ak}{g:Option (Nat×Bool)}
theorem E0{t e:ax}{len:Nat}(hu:P.underlying t=some (.array len e))(he:∀w,(sizeOf e).run P w=.ok 1 w)(b o:Nat)(kd:aw)(j:Nat)(hj:j<len)(w':aB):
  (Instr.indexAt t (.pointer (some ⟨b,o,none⟩)) (.int kd j)).run P w'=.ok (.pointer (some ⟨b,o+j,none⟩)) w':=by
 simp only[Instr.indexAt,asIntOf,Sem.run_bind,Sem.run_pure,Result.andThen_ok,run_underlying hu,Instr.sureAddr];rw[if_pos ⟨aH,aH⟩];simp only[Sem.run_bind,he,Result.andThen_ok,Sem.run_pure,Addr.add,ec,c7];split;rename_i h0;rw[h0];rfl;rfl
theorem oG{t e:ax} {b o len:Nat}  (ho:ops[i]?=some ⟨some d,.indexAddr t x y,ty,pos,aft,g⟩)(hw:eL ops l g=true)
  (hx:eZ l x=some (.pointer (some ⟨b,o,none⟩)))(hy:eZ l y=some (.int kd j))(hd:Nat.blt d n=true)(hu:P.underlying t=some (.array len e))(he:∀w,(sizeOf e).run P w=.ok 1 w)
  (j':Nat)(hj:j=j')(hlt:j'<len):eD P w0 S n h ops i l d (.pointer (some ⟨b,o+j',none⟩)):=by
 subst hj;exact .of ho hw rfl rfl hd (λt w Ds _ hF _=>⟨.value (.pointer (some ⟨b,o+j',none⟩)),by
  simp only[execOp,hF.eZ hx,hF.eZ hy,Sem.run_bind,E0 hu he b o kd j' hlt w];rfl,rfl⟩)
end
abbrev ob{α:Type}(enc:α->aC)(e:ax)(xs:List α)(sp:ai):Obj:=.cells (xs.map enc++sp).toArray e (0,0)
section
variable{P:av}{r:ah}{f:ay}{R:aC->aB->Prop}{w0:aB}{S:aq}{Y:List (Nat×Obj)}{n:Nat}{k:al}{l:Fl}{h:Hl}
variable{ops:aj}{i d:Nat}{rest:aq}{ty:ax}{pos:aA}{aft:ak}{g:Option (Nat×Bool)}
theorem zz{t e:ax}(hu:P.underlying t=some (.slice e)){sz:Nat}(he:∀w,(sizeOf e).run P w=.ok sz w)(b o m cap:Nat)(kd:aw)(j:Nat)(hj:j<m)(w':aB):
  (Instr.indexAt t (.slice (some ⟨b,o,none⟩) m cap) (.int kd j)).run P w'=.ok (.pointer (some ⟨b,o+j*sz,none⟩)) w':=by
 simp only[Instr.indexAt,asIntOf,Sem.run_bind,Sem.run_pure,Result.andThen_ok,run_underlying hu];rw[if_pos ⟨aH,aH⟩];simp only[Sem.run_bind,he,Result.andThen_ok,Sem.run_pure,Addr.add,c7];split;rename_i h0;rw[h0];rfl;rfl
theorem kh{t e:ax} {b o m cap:Nat}  (ho:ops[i]?=some ⟨some d,.indexAddr t x y,ty,pos,aft,g⟩)(hw:eL ops l g=true)
  (hx:eZ l x=some (.slice (some ⟨b,o,none⟩) m cap))(hy:eZ l y=some (.int kd j))(hd:Nat.blt d n=true)(hu:P.underlying t=some (.slice e)){sz:Nat}(he:∀w,(sizeOf e).run P w=.ok sz w)
  (j':Nat)(hj:j=j'/\j'<m):eD P w0 S n h ops i l d (.pointer (some ⟨b,o+j'*sz,none⟩)):=by
 obtain⟨rfl,hlt⟩:=hj;exact .of ho hw rfl rfl hd (λt w Ds _ hF _=>⟨.value (.pointer (some ⟨b,o+j'*sz,none⟩)),by
  simp only[execOp,hF.eZ hx,hF.eZ hy,Sem.run_bind,zz hu he b o m cap kd j' hlt w];rfl,rfl⟩)
theorem eD.ga{t e:ax} {b o m cap:Nat}  (hu:P.underlying t=some (.slice e)){sz:Nat}(he:∀w,(sizeOf e).run P w=.ok sz w)(j':Nat)(hj:j=j'/\j'<m)(ho:ops[i]?=some ⟨some d,.indexAddr t x y,ty,pos,aft,g⟩:=by exact rfl)(hw:eL ops l g=true:=by exact rfl)(hx:eZ l x=some (.slice (some ⟨b,o,none⟩) m cap):=by exact rfl)(hy:eZ l y=some (.int kd j):=by exact rfl)(hd:Nat.blt d n=true:=by exact rfl):eD P w0 S n h ops i l d (.pointer (some ⟨b,o+j'*sz,none⟩)):=kh (ho:=ho) (hw:=hw) (hx:=hx) (hy:=hy) (hd:=hd) (hu:=hu) (he:=he) (j':=j') (hj:=hj)
theorem Kd {enc:α->aC}{xs:List α} {q:Nat}(hq:q<xs.length):(xs.map enc++sp).toArray[0+q*1]?=some (enc xs[q]):=by
 rw[dX,ec];simp[List.getElem?_append,hq]
theorem lu (enc:α->aC)(dflt:α){t:ax} {b q:Nat}{xs:List α} {e:ax}(ho:ops[i]?=some ⟨some d,.load t x,ty,pos,aft,g⟩)(hw:eL ops l g=true)
  (hx:eZ l x=some (.pointer (some ⟨b,0+q*1,none⟩)))(hd:Nat.blt d n=true)(ha:∀w,(isAgg t).run P w=.ok false w)(j:Nat)(hj:h[j]?=some (some b,ob enc e xs sp))(hq:q<xs.length):
  eD P w0 S n h ops i l d (enc (xs.getD q dflt)):=
 eD.ux ho hw hx hd ha j hj (by rw[Kd hq];simp[hq])
theorem eD.nZ (enc:α->aC)(dflt:α){t:ax} {b q:Nat}{xs:List α} {e:ax}(ha:∀w,(isAgg t).run P w=.ok false w)(j:Nat)(hq:q<xs.length)(ho:ops[i]?=some ⟨some d,.load t x,ty,pos,aft,g⟩:=by exact rfl)(hw:eL ops l g=true:=by exact rfl)(hx:eZ l x=some (.pointer (some ⟨b,0+q*1,none⟩)):=by exact rfl)(hd:Nat.blt d n=true:=by exact rfl)(hj:h[j]?=some (some b,ob enc e xs sp):=by exact rfl):eD P w0 S n h ops i l d (enc (xs.getD q dflt)):=lu (enc:=enc) (dflt:=dflt) (ho:=ho) (hw:=hw) (hx:=hx) (hd:=hd) (ha:=ha) (j:=j) (hj:=hj) (hq:=hq)
theorem eB.Ah (enc:α->aC)(v:α){t:ax} {b q:Nat}{xs:List α} {e:ax}(ho:ops[i]?=some ⟨none,.store t x y,ty,pos,aft,g⟩)(hw:eL ops l g=true)
  (hx:eZ l x=some (.pointer (some ⟨b,0+q*1,none⟩)))(hy:eZ l y=some (enc v))(hz:∀w,(sizeOf t).run P w=.ok 1 w)(hv:(enc v).oneCell'=true)(j:Nat)(hj:h[j]?=some (some b,ob enc e xs sp))(hq:q<xs.length)
  (hk:eB P r f R w0 S Y n (.inRegion ops rest::k) l (h.set j (some b,ob enc e (xs.set q v) sp))):eB P r f R w0 S Y n (.inRegion ops (i::rest)::k) l h:=by
 refine eB.st ho hw hx hy hz hv j hj (by rw[ed];simp;omega) ?_;have:((xs.map enc++sp).toArray.setIfInBounds (0+q*1) (enc v))=((xs.set q v).map enc++sp).toArray:=by
  rw[dX,ec,List.map_set];have hq2:q<(xs.map enc).length:=by simpa using hq
  simp[List.set_append_left _ _ hq2]
 rw[this];exact hk
end
theorem St.fresh{w0 w:aB}{h:Hl}{Y:List (Nat×Obj)}(s:St w0 [] w h Y){j b:Nat}{o:Obj}(hj:h[j]?=some (some b,o)):w0.heap.size<=b:=by
 rcases(s.own _ (cD hj) b rfl).2.2 with h1|h1;exact h1;cases h1
section
variable{P:av}{r:ah}{f:ay}{R:aC->aB->Prop}{w0:aB}{S:aq}{Y:List (Nat×Obj)}{n:Nat}{k:al}{l:Fl}{h:Hl}
variable{ops:aj}{i d:Nat}{rest:aq}{ty:ax}{pos:aA}{aft:ak}{g:Option (Nat×Bool)}
theorem mS (enc:α->aC)(z:α){t e:ax} {kx ky:aw}{m:Nat} (ho:ops[i]?=some ⟨some d,.makeSlice t x y,ty,pos,aft,g⟩)(hw:eL ops l g=true)(hx:eZ l x=some (.int kx m))(hy:eZ l y=some (.int ky m))(hd:Nat.blt d n=true)
  (hu:P.underlying t=some (.slice e))(hi:P.info? e=some inf)(hz:inf.zero=some (enc z))(hz1:(enc z).cells=#[enc z])(hs:inf.size=1)(hb:inf.bytes*m<=281474976710656)(hm:m<=maxLen)
  (hk:∀b,eB P r f R w0 S Y n (.inRegion ops rest::k) ((d,.slice (aR b) m m)::l) ((some b,ob enc e (List.replicate m z) [])::h)):eB P r f R w0 S Y n (.inRegion ops (i::rest)::k) l h:=
 .P2 ho hw hx hy hd hu hi hz hz1 hs hb hm (λb=>by
  have:=hk b;simp only[ob,List.map_replicate]at this;exact this)
theorem gX (enc:α->aC){t e:ax}  {z:aC}{q:ah}{xs:List α} {cap:Nat}{bn m c:Nat}{news:List α}{spn:ai}{en:ax}
  (ho:ops[i]?=some ⟨some d,.call ⟨.builtin .append,#[x,y],#[t,t]⟩,ty,pos,aft,g⟩)(hw:eL ops l g=true)(hx:eZ l x=some (fL q xs.length cap))(hy:eZ l y=some (.slice (aR bn) m c))(hd:Nat.blt d n=true)
  (hu:P.underlying t=some (.slice e))(hi:P.info? e=some inf)(hz:inf.zero=some z)(hsz:inf.size=1)(hz1:z.cells.size=1)
  (hq:q=none->xs.length=0/\cap=0)(j:Nat)(hj:h[j]?=some (q,ob enc e xs sp))(jn:Nat)(hjn:h[jn]?=some (some bn,ob enc en news spn))
  (eK:(xs.map enc++sp).length=cap)(hl:news.length=m)(hm0:0<m)(h1:∀u,(enc u).oneCell'=true)(hmx:xs.length+m<=maxLen)(hbytes:(xs.length+m)*inf.bytes<=140737488355328)
  (hk:∀b' sp' cap',((xs++news).map enc++sp').length=cap'->eB P r f R w0 S Y n (.inRegion ops rest::k) ((d,fL (some b') (xs++news).length cap')::l) (h.set j (some b',ob enc e (xs++news) sp'))):eB P r f R w0 S Y n (.inRegion ops (i::rest)::k) l h:=by
 refine .app 1 ho hw hx hy hd hu hi hz hsz hz1 hq j hj jn hjn aL (by rw[eK,ec]) (by simp[hl]) hm0 (λu hu=>?_) hmx hbytes (λb' sp' cap' hlen=>?_);obtain⟨a,_,rfl⟩:=dU.1 hu;exact h1 a;have e1:xs.map enc++news.map enc=(xs++news).map enc:=by simp
 have e2:xs.length+m=(xs++news).length:=by simp[hl]
 rw[e1,e2];exact hk b' sp' cap' (by rw[<-e1,hlen,ec])
end
section
variable{P:av}{r:ah}{f:ay}{R:aC->aB->Prop}{w0:aB}{S:aq}{Y:List (Nat×Obj)}{n:Nat}{k:al}{l:Fl}{h:Hl}
variable{ops:aj}{i d:Nat}{rest:aq}{ty:ax}{pos:aA}{aft:ak}{g:Option (Nat×Bool)}
theorem Gm (enc:α->aC){t e:ax}  {z:aC}{q:ah}{xs:List α} {cap:Nat}{an:ae}{m c:Nat}(news:List α)
  (ho:ops[i]?=some ⟨some d,.call ⟨.builtin .append,#[x,y],#[t,t]⟩,ty,pos,aft,g⟩)(hw:eL ops l g=true)(hx:eZ l x=some (fL q xs.length cap))(hy:eZ l y=some (.slice an m c))(hd:Nat.blt d n=true)
  (hu:P.underlying t=some (.slice e))(hi:P.info? e=some inf)(hz:inf.zero=some z)(hsz:inf.size=1)(hz1:z.cells.size=1)
  (hq:q=none->xs.length=0/\cap=0)(j:Nat)(hj:h[j]?=some (q,ob enc e xs sp))(hsl:∀w Y',St w0 S w h Y'->Sl w an (news.map enc))
  (eK:(xs.map enc++sp).length=cap)(hl:m=news.length)(hm0:0<m)(h1:∀u,(enc u).oneCell'=true)(hmx:xs.length+m<=maxLen)(hbytes:(xs.length+m)*inf.bytes<=140737488355328)
  (hk:∀b' sp' cap',((xs++news).map enc++sp').length=cap'->eB P r f R w0 S Y n (.inRegion ops rest::k) ((d,fL (some b') (xs++news).length cap')::l) (h.set j (some b',ob enc e (xs++news) sp'))):eB P r f R w0 S Y n (.inRegion ops (i::rest)::k) l h:=
 .mem ho hw rfl rfl hd (λt' w Ds Y' hF hS=>by
  have hs:=hsl w Y' hS;obtain⟨bn,o,rfl,_⟩:=hs.isSome aN;have hnews:∀j u,(news.map enc)[j]?=some u->w.cell? ((⟨bn,o,none⟩:Addr).add j)=some u:=by
   intro j u hv;have hjl:=(bu.1 hv).1;have e1:(⟨bn,o,none⟩:Addr).add j=qT (some ⟨bn,o,none⟩) j:=by
    unfold Addr.add qT;split;rename_i h0;rw[h0];rfl;rfl
   rw[e1,hs.cell j hjl];rw[aY,hv];rfl
  subst hl;obtain⟨b',sp',cap',w',hrun,hlen,hS'⟩:=uU hu hi hz hsz hz1 hS (xs:=xs.map enc) (nx:=xs.length) aL (by rw[eK,ec]) hq hj (c:=c) (m:=news.length) (news:=news.map enc) aL hm0 hnews (λu hu=>by obtain⟨a,_,rfl⟩:=dU.1 hu;exact h1 a) hmx hbytes ty;have e2:xs.map enc++news.map enc=(xs++news).map enc:=by simp
  have e3:xs.length+news.length=(xs++news).length:=by simp
  rw[e2]at hlen hS';rw[e3]at hrun;refine⟨_,w',_,?_,hS',hk b' sp' cap' (by rw[hlen,ec])⟩;have e1:(#[x,y]:aa).map (Act.eval ⟨t',Ds.map mark⟩)=#[fL q xs.length cap,.slice (some ⟨bn,o,none⟩) news.length c]:=by simp[hF.eZ hx,hF.eZ hy]
  simp only[execOp,resolve,e1,Sem.run_bind,Sem.run_pure,Result.andThen_ok,invoke,builtin,hrun])
theorem FR{t e:ax} (hu:P.underlying t=some (.slice e))(hi:P.info? e=some inf){b:ae}{m cap c:Nat}(hm:m<=cap):Om P .append #[t,t] ty [.slice a m cap,.slice b 0 c] (.slice a m cap):=by
 intro cs w;have hf:(Builtin.firstCells inf.size 0 (.slice b 0 c)).run P w=.ok #[] w:=by
  cases b<;>simp[Builtin.firstCells,loadCells,loadCellsFrom]
 have hin:P.underlying t≠some (.int .i64):=by rw[hu];simp
 simp only[builtin,Builtin.append_];cases a<;>simp[run_underlying hu,sizeOf,typeInfo,hi,Builtin.lenOf,hm,hf,storeCells]
theorem CC (enc:α->aC){t e:ax} (ho:ops[i]?=some ⟨some d,.buildSlice t 0 #[],ty,pos,aft,g⟩)(hw:eL ops l g=true)(hd:Nat.blt d n=true)
  (hu:P.underlying t=some (.slice e))(hi:P.info? e=some inf)
  (hk:∀b,eB P r f R w0 S Y n (.inRegion ops rest::k) ((d,fL (some b) ([]:List α).length 0)::l) ((some b,ob enc e [] [])::h)):eB P r f R w0 S Y n (.inRegion ops (i::rest)::k) l h:=
 .mem ho hw rfl rfl hd (λt' w Ds _ hF hS=>⟨.slice (aR w.heap.size) 0 0,w.alloc (.cells #[] e),_,by
  simp[execOp,Instr.buildSlice,run_underlying hu,sizeOf,typeInfo,hi,Instr.fill,newRow];rw[show Array.range 0=#[]from aI];simp,hS.alloc rfl,hk _⟩)
theorem Bd{t e:ax}(hu:P.underlying t=some (.slice e)) {m c m' c':Nat}:nE P .eql t (.slice a m c) (.slice none m' c') (.bool a.isNone):=by
 intro x y w;have h0:eqGuard .eql t x y (.slice a m c) (.slice none m' c')=pure ():=by unfold eqGuard;rfl
 rw[h0];have h1:∀dd,(Op.equalIn (dd+1) t (.slice a m c) (.slice none m' c')).run P w=.ok a.isNone w:=by
  intro dd;simp only[Op.equalIn,Sem.run_bind,run_underlying hu,Result.andThen_ok];cases a<;>rfl
 show(do pure (Value.bool (<-Op.equal t (.slice a m c) (.slice none m' c'))):Sem aC).run P w=_;rw[Sem.run_bind,show(Op.equal t (.slice a m c) (.slice none m' c')).run P w=_ from h1 9999];rfl
end
def N0(g:Nat)(w:aB):Prop:=g<w.heap.size/\∀i:Nat,i<64->w.cell? ⟨g,i,none⟩=some (.int .u8 (ND.getD i 0))
end
def Gc(n:Nat):eF:=if 64<=n then 18446744073709551615#64 else(1#64<<<n) - 1#64
def Rl(r:List eF)(w v:Nat):Prop:=(r.getD w 0#64).getLsbD v=true
structure DB (r:List eF):Prop where
  len:r.length<=64
  lt:∀w v,Rl r w v->v<r.length
def AI(r:List eF)(s:eF):eF:=(jd s).foldl (λo w=>o|||r.getD w 0#64) 0#64
def Ox(w:Nat)(s:eF)(out:List eF):List eF:=(jd s).foldl (λout v=>out.set v (out.getD v 0#64|||1#64<<<w)) out
def Oy(r:List eF):List eF:=Ao (λw out=>Ox w (r.getD w 0#64) out) (List.replicate r.length 0#64) r.length
end Go.Proofs.Wit
namespace Go.Proofs.Wit
end Go.Proofs.Wit
namespace Go.Proofs.Wit
open Go Go.RowKit
structure Le (r s:List eF):Prop where
  len:r.length=s.length
  sub:∀u v,Rl r u v->Rl s u v
structure PK (g:List eF->List eF) (F:List eF->Prop):Prop where
  val:∀{l},DB l->DB (g l)
  P7:∀{l},DB l->Le l (g l)
  mono:∀{l m},DB l->DB m->Le l m->Le (g l) (g m)
  fix:∀{l},DB l->(g l=l↔F l)
structure PJ (F:List eF->Prop) (r out:List eF):Prop where
  val:DB out
  le:Le r out
  has:F out
  least:∀c,DB c->Le r c->F c->Le out c
def Mi(l:List eF):Prop:=∀u v x,Rl l u v->Rl l v x->Rl l u x
def NB(l:List eF):Prop:=∀u v x,Rl l u v->Rl l u x->Rl l v x
end Go.Proofs.Wit
namespace Go.Proofs.Wit
end Go.Proofs.Wit
namespace Go.Proofs.Wit
open Go Go.RowKit
def QE(P:av)(gf:ay)(args:ai)(w:aB)(q:ah)(Rc:aC->aB->Prop):Prop:=
 Calls P gf args.toArray w λe w'=>∃v,e=.returned v/\Ex q.toList w w'/\Rc v w'
section
variable{w0 w w':aB}{S:aq}{h:Hl}{Y:List (Nat×Obj)}
variable{P:av}{f:ay}{R:aC->aB->Prop}{r:ah}{n:Nat}{k:al}{l:Fl}{fn:Func}
variable{ops:aj}{i d:Nat}{rest:aq}{ty:ax}{pos:aA}{aft:ak}{g:Option (Nat×Bool)}
end
section
variable{P:av}{r:ah}{f:ay}{R:aC->aB->Prop}{w0:aB}{S:aq}{Y:List (Nat×Obj)}{n:Nat}{k:al}{l:Fl}{h:Hl}
variable{ops:aj}{i d:Nat}{rest:aq}{ty:ax}{pos:aA}{aft:ak}{g:Option (Nat×Bool)}
end
theorem eB.gi{P:av}{r:ah}{f:ay}{R:aC->aB->Prop}{w0:aB}{S:aq}{Y:List (Nat×Obj)}{n:Nat}{k:al}{l:Fl}{h:Hl}(o:Obj)
  (hg:eB P r f R w0 S Y n k l ((none,o)::h)):eB P r f R w0 S Y n k l h:=λt w Ds hF hS=>hg t w Ds hF (hS.none o)
section
variable{P:av}{r:ah}{f:ay}{R:aC->aB->Prop}{w0:aB}{S:aq}{Y:List (Nat×Obj)}{n:Nat}{k:al}{l:Fl}{h:Hl}
variable{ops:aj}{i d:Nat}{rest:aq}{ty:ax}{pos:aA}{aft:ak}{g:Option (Nat×Bool)}
end
section
variable{P:av}{t:ax}{a b:Int}{x y:eF}{v:Bool}
theorem wi{k:aw}(e:(a==b)=v):nE P .eql t (.int k a) (.int k b) (.bool v):=e ▸ Ct
theorem uB{k:aw}(e:(a !=b)=v):nE P .neq t (.int k a) (.int k b) (.bool v):=e ▸ Du
theorem NR{k:aw}(e:decide (a<b)=v):nE P .lss t (.int k a) (.int k b) (.bool v):=e ▸ IJ
theorem IK{k:aw}(e:decide (a>b)=v):nE P .gtr t (.int k a) (.int k b) (.bool v):=e ▸ NS
theorem NQ(e:(x !=y)=v):nE P .neq t (U x) (U y) (.bool v):=e ▸ IG
end
def Kq(r:List eF)(t:eF):Nat->eF
 |0=>t
 |k+1=>AI (Oy r) (Kq r t k)
structure PF (r:List eF) (f t:eF) (k:Nat):Prop where
  one:1<=k
  ne:f &&& Kq r t k≠0#64
  least:∀j,1<=j->j<k->f &&& Kq r t j=0#64
section
variable{r:List eF}{t:eF}
end
theorem qB{α:Type}{p q:α->Bool}:∀{l:List α},(∀x∈l,p x=true->q x=true)->(∃x∈l,q x=true/\p x=false)->l.countP p<l.countP q
 |[],_,⟨_,h,_⟩=>by cases h
 |a::l,h,⟨x,hx,h1,h2⟩=>by
  have hle:l.countP p<=l.countP q:=List.countP_mono_left (λy hy=>h y (cy _ hy));rw[List.countP_cons,List.countP_cons];rcases dS.1 hx with rfl|hx;rw[h1,h2];simp;omega;have:=qB (λy hy=>h y (cy _ hy)) ⟨x,hx,h1,h2⟩;have h3:=h a aF;cases hp:p a with
  |false=>simp;split<;>omega
  |true=>rw[h3 hp];omega
section
variable{h:Hl}{Y:List (Nat×Obj)}{α:Type}{w w' w0:aB}{S:aq}
structure jR (w w':aB) (H:Hl):Prop where
  own:∀p∈H,∀b,p.1=some b->w'.heap[b]?=some p.2/\tZ p.2=false/\w.heap.size<=b
  apart:H.Pairwise rn
theorem jR.of   (s:St w [] w' h Y):jR w w' h:=
 ⟨λp hp b hb=>by
  obtain⟨h1,h2,h3⟩:=s.own p hp b hb;exact⟨h1,h2,h3.resolve_right aL⟩,s.apart⟩
theorem jR.sub {H H':Hl}(g:jR w w' H)(hs:H'.Sublist H):jR w w' H':=⟨λp hp=>g.own p (hs.subset hp),g.apart.sublist hs⟩
theorem St.kE    (s:St w0 S w h Y)(e:Ex [] w w'){H:Hl}(g:jR w w' H):St w0 S w' (H++h) Y:=by
 have s':=s.later e;refine⟨s'.ext,λp hp b hb=>?_,cH.2 ⟨g.apart,s.apart,λp hp q hq b hb hqb=>?_⟩,s'.sys,s'.CD⟩;rcases dG.1 hp with hp|hp;obtain⟨h1,h2,h3⟩:=g.own p hp b hb;exact⟨h1,h2,.inl (dV s.ext.size h3)⟩;exact s'.own p hp b hb;have h1:=(g.own p hp b hb).2.2;have h2:=(aX.1 (s.own q hq b hqb).1).1;omega
theorem St.jq  {pre pre' HR:Hl} (s:St w0 S w (pre++HR) Y)(is:aq)(hn:is.Nodup)(e:is.map (λi=>pre[i]?)=pre'.map some):St w0 S w (pre'++HR) Y:=by
 have hlen:is.length=pre'.length:=by have:=eh List.length e;simpa using this
 have hat:∀j (hj:j<pre'.length),∃i,is[j]?=some i/\pre[i]?=some pre'[j]:=λj hj=>by
  have h1:=eh (λl=>l[j]?) e;have hj2:j<is.length:=aH;simp only[dc,bH hj,bH hj2,dL,df]at h1;exact⟨is[j],bH hj2,h1⟩
 have hmem:∀p∈pre',p∈pre:=λp hp=>by
  obtain⟨j,hj,rfl⟩:=cz.1 hp;obtain⟨i,_,h2⟩:=hat j hj;exact cD h2
 have hap:=cH.1 s.apart;refine⟨s.ext,λp hp=>?_,cH.2 ⟨?_,hap.2.1,λp hp q hq=>hap.2.2 p (hmem p hp) q hq⟩,s.sys,s.CD⟩;rcases dG.1 hp with hp|hp;exact s.own p (cx _ (hmem p hp));exact s.own p (bX _ hp);rw[bC];intro j j' hj hj' hlt;obtain⟨i,h1,h2⟩:=hat j hj;obtain⟨i',h1',h2'⟩:=hat j' hj';have hne:i≠i':=by
  rintro rfl;obtain⟨a1,a2⟩:=bu.1 h1;obtain⟨b1,b2⟩:=bu.1 h1';have:=(List.nodup_iff_pairwise_ne.1 hn);exact absurd (a2.trans b2.symm) (bC.1 this j j' a1 b1 hlt)
 obtain⟨a1,a2⟩:=bu.1 h2;obtain⟨b1,b2⟩:=bu.1 h2';rw[<-a2,<-b2];rcases Nat.lt_or_gt_of_ne hne with hx|hx;exact bC.1 hap.1 i i' a1 b1 hx;exact ug (bC.1 hap.1 i' i b1 a1 hx)
theorem eB.jq{P:av}{r:ah}{f:ay}{R:aC->aB->Prop}{w0:aB}{S:aq}{Y:List (Nat×Obj)}{n:Nat}{k:al}{l:Fl}{pre pre':Hl}(HR:Hl)(is:aq)(hn:is.Nodup)(e:is.map (λi=>pre[i]?)=pre'.map some)
  (hg:eB P r f R w0 S Y n k l (pre'++HR)):eB P r f R w0 S Y n k l (pre++HR):=λt w Ds hF hS=>hg t w Ds hF (hS.jq is hn e)
theorem eB.pick{P:av}{r:ah}{f:ay}{R:aC->aB->Prop}   {n:Nat}{k:al}{l:Fl}{pre pre':Hl}(is:aq)(hn:is.Nodup)(e:is.map (λi=>pre[i]?)=pre'.map some)
  (hg:eB P r f R w0 S Y n k l pre'):eB P r f R w0 S Y n k l pre:=by
 have:=eB.jq (pre:=pre) (pre':=pre') [] is hn e (by rw[dC];exact hg);rwa[dC]at this
def Ol{α:Type}(enc:α->aC)(H:Hl)(a:ae)(xs:List α):Prop:=
 xs=[]\/∃b e sp,a=some ⟨b,0,none⟩/\(some b,ob enc e xs sp)∈H
structure Row where
  a:ae
  cap:Nat
  xs:List eF
def Row.v(r:Row):aC:=.slice r.a r.xs.length r.cap
structure Row.At (r:Row) (w:aB):Prop where
  at_:Bi w r.a r.xs
  len:r.xs.length<=maxLen
  cap:r.xs.length<=r.cap
structure MV where
  n:Int
  ra:ae
  rc:Nat
  rows:List Row
  va:ae
  vc:Nat
  val:List eF
abbrev MV.cs(m:MV):af:=#[aS m.n,.slice m.va m.val.length m.vc,.slice m.ra m.rows.length m.rc]
def MV.v(m:MV):aC:=.agg #[aS m.n,.slice m.va m.val.length m.vc,.slice m.ra m.rows.length m.rc]
def MV.rel(m:MV):List (List eF):=m.rows.map Row.xs
def PE(w:aB)(a:ae)(rs:List Row):Prop:=Sl w a (rs.map Row.v)
structure MV.At (m:MV) (w:aB):Prop where
  rel:PE w m.ra m.rows
  row:∀r∈m.rows,r.At w
  val:Bi w m.va m.val
  lr:m.rows.length<=maxLen
  lv:m.val.length<=maxLen
  cr:m.rows.length<=m.rc
  cv:m.val.length<=m.vc
theorem Sl.at {enc:α->aC} {a:ae}{xs:List α}(h:Sl w a (xs.map enc))(k:Nat)(hk:k<xs.length):w.cell? (qT a k)=some (enc xs[k]):=by
 rw[Sl.cell h k (by simpa using hk)];simp[hk]
theorem Ex.lM (e:Ex [] w w'){b:Nat}{o:Obj}(h:w.heap[b]?=some o):w'.heap[b]?=some o:=by
 rw[e.block b (aX.1 h).1 aL];exact h
theorem Ex.cell{w w':aB}(e:Ex [] w w'){b j:Nat}{cs:af}{t:ax}{fr:Nat×Nat}{v:aC}(h:w.heap[b]?=some (.cells cs t fr))(hv:cs[j]?=some v):w'.cell? ⟨b,j,none⟩=some v:=by
 rw[cell_of_row w' b j cs t fr (e.lM h),hv]
abbrev fH:Int->aC:=Value.int .i64
def mJ(w:aB)(a:ae)(xs:ar):Prop:=Sl w a (xs.map fH)
theorem mJ.eQ {a:ae}{xs:ar}(h:mJ w0 a xs) (e:Ex S w0 w)(hS:∀b o,a=some ⟨b,o,none⟩->b∉S:=by simp):mJ w a xs:=Sl.ex h e hS
theorem mJ.at{w:aB}{a:ae}{xs:ar}(h:mJ w a xs)(k:Nat)(hk:k<xs.length):w.cell? (qT a k)=some (aS xs[k]):=Sl.at h k hk
def sT{α:Type}(enc:α->aC)(e:ax)(w w':aB)(v:aC)(xs:List α):Prop:=
 ∃q cap sp,v=fL q xs.length cap/\(q=none->xs.length=0/\cap=0)/\(xs.map enc++sp).length=cap/\∀b,q=some b->w.heap.size<=b/\w'.heap[b]?=some (ob enc e xs sp)
theorem xk {enc:α->aC}{t:ax}    (s:St w0 S w h Y)(e:Ex [] w w'){v:aC}{xs:List α}(ho:sT enc t w w' v xs):
  ∃q cap sp,v=fL q xs.length cap/\(q=none->xs.length=0/\cap=0)/\(xs.map enc++sp).length=cap/\St w0 S w' ((q,ob enc t xs sp)::h) Y:=by
 obtain⟨q,cap,sp,h1,h2,h3,h4⟩:=ho;refine⟨q,cap,sp,h1,h2,h3,?_⟩;cases q with
 |none=>exact(s.later e).none _
 |some b=>exact s.Ib e (h4 b rfl).2 rfl (h4 b rfl).1
theorem sT.mk {enc:α->aC}{t:ax}   (s:St w0 [] w h Y)(j:Nat){q:ah}{xs:List α}{sp:ai}{cap m:Nat}(hj:h[j]?=some (q,ob enc t xs sp))(hm:m=xs.length)
  (hq:q=none->xs.length=0/\cap=0)(eK:(xs.map enc++sp).length=cap):sT enc t w0 w (fL q m cap) xs:=by
 subst hm;refine⟨q,cap,sp,rfl,hq,eK,λb hb=>?_⟩;subst hb;exact⟨s.fresh hj,s.get hj⟩
theorem Ms    (s:St w0 S w h Y)(j:Nat){q:ah}{xs:ar}{e:ax}{sp:ai}(hj:h[j]?=some (q,ob fH e xs sp))(hq:q=none->xs.length=0):mJ w (q.map aP) xs:=by
 cases q with
 |none=>rw[aV (hq rfl)];exact Sl.nil _ _
 |some b=>exact Sl.ie (s.get hj)
structure MV.In (m:MV) (H:Hl):Prop where
  rel:Ol Row.v H m.ra m.rows
  row:∀r∈m.rows,Ol U H r.a r.xs/\r.xs.length<=maxLen/\r.xs.length<=r.cap
  val:Ol U H m.va m.val
  lr:m.rows.length<=maxLen
  lv:m.val.length<=maxLen
  cr:m.rows.length<=m.rc
  cv:m.val.length<=m.vc
end
end Go.Proofs.Wit
namespace Go.Proofs.Wit
def J8(e:Bool)(w u:Nat):Nat:=if e=true then u else w
def Hs(e:Bool)(w u:Nat):Nat:=if e=true then w else u
def Qe(e:Bool)(w u:Nat)(l:List eF):Prop:=Rl l w u->∀x,Rl l (Hs e w u) x->Rl l (J8 e w u) x
def O1(e:Bool)(l:List eF):Prop:=if e=true then NB l else Mi l
structure Pass (e:Bool) (r o0 out:List eF) (again:Bool) (k j:Nat):Prop where
  val:DB out
  le:Le r out
  min:∀c,DB c->Le r c->O1 e c->Le out c
  up:Le o0 out
  yes:again=true->o0≠out
  no:again=false->out=o0/\∀w u,(w<k\/(w=k/\u<j))->Qe e w u out
end Go.Proofs.Wit
namespace Go.Proofs.Wit
open Go Go.RowKit
def J9(n:Nat)(l:List eF):Bool:=l.any (λs=>s &&& ~~~ Gc n !=0#64)
def FL(n:Int)(val:List eF)(rel:List (List eF)):Int:=
 if n<1\/64<n then 2 else if 4<rel.length\/8<val.length then 8 else if rel.any (λr=>(r.length:Int) !=n)then 3 else if J9 n.toNat val||rel.any (J9 n.toNat)then 2 else 0
structure NY (n:Int) (val:List eF) (rel:List (List eF)):Prop where
  n1:1<=n
  P1:n<=64
  Bg:rel.length<=4
  facts:val.length<=8
  len:∀r∈rel,(r.length:Int)=n
  uw:∀r∈rel,DB r
  out:J9 n.toNat val=false
section
variable{c cs:ai}{x y:au}
section
variable{P:av}{r:ah}{f:ay}{R:aC->aB->Prop}{w0:aB}{S:aq}{Y:List (Nat×Obj)}{n:Nat}{k:al}{l:Fl}{h:Hl}
variable{ops:aj}{i d:Nat}{rest:aq}{ty:ax}{pos:aA}{aft:ak}{g:Option (Nat×Bool)}
theorem pU(b o q:Nat):(⟨b,o,none⟩:Addr).add q=⟨b,o+q,none⟩:=by
 unfold Addr.add;split;rename_i h0;subst h0;rfl;rfl
theorem yG(a:ae)(i q:Nat):(qT a i).add q=qT a (i+q):=by
 unfold qT;rw[pU,Nat.add_assoc]
theorem eD.lV{s:ax} {b o q:Nat}{fs:Array Field}{fd:Field}{sz:Nat}(ho:ops[i]?=some ⟨some d,.fieldAddr s x q,ty,pos,aft,g⟩)(hw:eL ops l g=true)
  (hx:eZ l x=some (.pointer (some ⟨b,o,none⟩)))(hd:Nat.blt d n=true)(hu:P.underlying s=some (.struct fs))(hq:fs[q]?=some fd)(he:∀w,(sizeOf fd.type).run P w=.ok (sz+1) w)(o':Nat)(hO:o+fd.offset=o'):
  eD P w0 S n h ops i l d (.pointer (some ⟨b,o',none⟩)):=by
 subst hO;exact .of ho hw rfl rfl hd (λt w Ds _ hF hS=>⟨.value (.pointer (some ⟨b,o+fd.offset,none⟩)),by
  simp only[execOp,hF.eZ hx,Instr.fieldAt,Sem.run_bind,run_underlying hu,Result.andThen_ok,hq,Instr.sureAddr,Sem.run_pure,fieldPlace,he];rw[if_neg aH];simp[pU],rfl⟩)
theorem eD.pq{s:ax} {q:Nat}{cs:af}{fs:Array Field}{fd:Field}{v:aC}(ho:ops[i]?=some ⟨some d,.field s x q,ty,pos,aft,g⟩)(hw:eL ops l g=true)
  (hx:eZ l x=some (.agg cs))(hd:Nat.blt d n=true)(hu:P.underlying s=some (.struct fs))(hq:fs[q]?=some fd)(ha:∀w,(isAgg fd.type).run P w=.ok false w)(hv:cs[fd.offset]?=some v):
  eD P w0 S n h ops i l d v:=
 .of ho hw rfl rfl hd (λt w Ds _ hF hS=>⟨.value v,by
  simp only[execOp,hF.eZ hx,Instr.field,Sem.run_bind,run_underlying hu,Result.andThen_ok,hq,asAgg,Sem.run_pure,part,ha,hv];rfl,rfl⟩)
theorem tX{t:ax}{w:aB}{a:Addr} (ha:∀w,(isAgg t).run P w=.ok true w)(hz:∀w,(sizeOf t).run P w=.ok cs.length w)(hc:∀j v,cs[j]?=some v->w.cell? (a.add j)=some v):
  (Instr.loadAt t (.pointer (some a))).run P w=.ok (.agg cs.toArray) w:=by
 simp only[Instr.loadAt,Instr.sureAddr,loadVar,Sem.run_bind,Sem.run_pure,Result.andThen_ok,ha,hz,ew,run_loadCells_list w a cs hc]
theorem yJ{t:ax} {p:Addr} (ho:ops[i]?=some ⟨some d,.load t x,ty,pos,aft,g⟩)(hw:eL ops l g=true)
  (hx:eZ l x=some (.pointer (some p)))(hd:Nat.blt d n=true)(ha:∀w,(isAgg t).run P w=.ok true w)(hz:∀w,(sizeOf t).run P w=.ok cs.length w)(hc:∀w Y',St w0 S w h Y'->∀j v,cs[j]?=some v->w.cell? (p.add j)=some v):eD P w0 S n h ops i l d (.agg cs.toArray):=
 .of ho hw rfl rfl hd (λt w Ds _ hF hS=>⟨.value (.agg cs.toArray),by
  simp only[execOp,hF.eZ hx,Sem.run_bind,tX ha hz (hc w _ hS)];rfl,rfl⟩)
theorem eD.kM{t:ax} {p:Addr} (ha:∀w,(isAgg t).run P w=.ok true w)(hz:∀w,(sizeOf t).run P w=.ok cs.length w)(hc:∀w Y',St w0 S w h Y'->∀j v,cs[j]?=some v->w.cell? (p.add j)=some v)(ho:ops[i]?=some ⟨some d,.load t x,ty,pos,aft,g⟩:=by exact rfl)(hw:eL ops l g=true:=by exact rfl)(hx:eZ l x=some (.pointer (some p)):=by exact rfl)(hd:Nat.blt d n=true:=by exact rfl):eD P w0 S n h ops i l d (.agg cs.toArray):=yJ (ho:=ho) (hw:=hw) (hx:=hx) (hd:=hd) (ha:=ha) (hz:=hz) (hc:=hc)
theorem eD.Of{t:ax} {b:Nat}{cs:af}{e:ax}{fr:Nat×Nat}{m:Nat}(ho:ops[i]?=some ⟨some d,.load t x,ty,pos,aft,g⟩)(hw:eL ops l g=true)
  (hx:eZ l x=some (aQ b))(hd:Nat.blt d n=true)(ha:∀w,(isAgg t).run P w=.ok true w)(j:Nat)(hj:h[j]?=some (some b,.cells cs e fr))(hz:∀w,(sizeOf t).run P w=.ok m w)(hm:cs.size=m):eD P w0 S n h ops i l d (.agg cs):=by
 subst hm;have:=yJ (P:=P) (w0:=w0) (S:=S) (h:=h) (cs:=cs.toList) ho hw hx hd ha (λw=>by rw[hz];simp) (λw Y' hS q v hv=>by
  rw[pU,dX];simp[World.cell?,hS.get hj]at hv⊢;exact hv);rw[Array.toArray_toList]at this;exact this
theorem eB.I5{t:ax} {b:Nat}{cs:af}{e:ax}{v:aC}{m:Nat}(ho:ops[i]?=some ⟨none,.store t x y,ty,pos,aft,g⟩)(hw:eL ops l g=true)
  (hx:eZ l x=some (aQ b))(hy:eZ l y=some v)(hz:∀w,(sizeOf t).run P w=.ok m w)(j:Nat)(hj:h[j]?=some (some b,.cells cs e (0,0)))(hm:cs.size=m)(hv:v.cells.size=m)(h1:v.cells.toList.all Value.oneCell'=true)
  (hk:eB P r f R w0 S Y n (.inRegion ops rest::k) l (h.set j (some b,.cells v.cells e (0,0)))):eB P r f R w0 S Y n (.inRegion ops (i::rest)::k) l h:=
 .OS ho hw rfl rfl (λt' w Ds _ hF hS=>by
  have hb:=hS.get hj;have hrun:=run_storeCells_at (P:=P) b 0 e v.cells.toList 0 cs w hb aN (λu hu=>dk.1 h1 u hu);have hrow:(cs.toList.take (0+0)++v.cells.toList++cs.toList.drop (0+0+v.cells.toList.length)).toArray=v.cells:=by
   rw[<-dh];simp;omega
  rw[hrow]at hrun;refine⟨w.setRow b v.cells,_,?_,hS.uq hj (o':=.cells v.cells e (0,0)) rfl rfl rfl rfl (by simp[World.setRow]) (setRow_heap w b _ _ e _ hb) (λq _ hq=>setRow_other w b q _ hq),hk⟩;simp only[execOp,hF.eZ hx,hF.eZ hy,Sem.run_bind,Instr.storeAt,Instr.sureAddr,storeVar,Sem.run_pure,Result.andThen_ok,hz,hv];simp only[ne_eq,not_true_eq_false,ej,hrun];rfl)
theorem eB.fA{t:ax} {b:Nat}{cs:af}{e:ax}{v:aC}{m:Nat}(hz:∀w,(sizeOf t).run P w=.ok m w)(j:Nat)(hk:eB P r f R w0 S Y n (.inRegion ops rest::k) l (h.set j (some b,.cells v.cells e (0,0))))(ho:ops[i]?=some ⟨none,.store t x y,ty,pos,aft,g⟩:=by exact rfl)(hw:eL ops l g=true:=by exact rfl)(hx:eZ l x=some (aQ b):=by exact rfl)(hy:eZ l y=some v:=by exact rfl)(hj:h[j]?=some (some b,.cells cs e (0,0)):=by exact rfl)(hm:cs.size=m:=by exact rfl)(hv:v.cells.size=m:=by exact rfl)(h1:v.cells.toList.all Value.oneCell'=true:=by exact rfl):eB P r f R w0 S Y n (.inRegion ops (i::rest)::k) l h:=eB.I5 (ho:=ho) (hw:=hw) (hx:=hx) (hy:=hy) (hz:=hz) (j:=j) (hj:=hj) (hm:=hm) (hv:=hv) (h1:=h1) (hk:=hk)
def setAt(cells:ai)(off:Nat)(vs:ai):ai:=cells.take off++vs++cells.drop (off+vs.length)
def qR(place:Nat->Option (Nat×Nat))(cells:ai):List (Nat×aC)->Option ai
 |[]=>some cells
 |(i,v)::rest=>match place i with
  |none=>none
  |some (off,size)=>match Nat.beq v.cells.toList.length size && Nat.ble (off+size) cells.length with
   |true=>qR place (setAt cells off v.cells.toList) rest
   |false=>none
theorem xo:∀(vs:ai) (cs:ai) (off j:Nat),off+j+vs.length<=cs.length->
  (vs.zipIdx j).foldl (λ(cs:af) (c:aC×Nat)=>cs.setIfInBounds (off+c.2) c.1) cs.toArray=(setAt cs (off+j) vs).toArray
 |[],cs,off,j,_=>by simp[setAt]
 |v::vs,cs,off,j,hl=>by
  simp only[dt]at hl;rw[List.zipIdx_cons,List.foldl_cons];have h1:cs.toArray.setIfInBounds (off+j) v=(cs.set (off+j) v).toArray:=by simp
  rw[h1,xo vs (cs.set (off+j) v) off (j+1) aN]
  congr 1
  have hlt:off+j<cs.length:=aH;have hset:cs.set (off+j) v=cs.take (off+j)++v::cs.drop (off+j+1):=by
   rw[List.set_eq_take_append_cons_drop,if_pos hlt]
  have hlen:(cs.take (off+j)).length=off+j:=by simp;omega
  have t1:(cs.set (off+j) v).take (off+(j+1))=cs.take (off+j)++[v]:=by
   rw[hset,List.take_append,bR aH,hlen,show off+(j+1) - (off+j)=1 from aH];simp
  have t2:(cs.set (off+j) v).drop (off+(j+1)+vs.length)=cs.drop (off+j+(vs.length+1)):=by
   rw[hset,List.drop_append,List.drop_eq_nil_of_le aH,hlen,show off+(j+1)+vs.length - (off+j)=vs.length+1 from aH];simp[Nat.add_assoc,Nat.add_comm 1]
  unfold setAt;rw[t1,t2];simp
theorem fill_eq{place:Nat->Option (Nat×Nat)}:∀{ps:List (Nat×aC)} {cells c:ai},qR place cells ps=some c->Instr.fill place cells.toArray ps=some c.toArray
 |[],cells,c,e=>by cases e;rfl
 |(i,v)::rest,cells,c,e=>by
  unfold qR at e;unfold Instr.fill;split at e;cases e;rename_i off size hp;rw[hp];split at e;rename_i hb;rw[di,Nat.beq_eq,Nat.ble_eq]at hb;obtain⟨h1,h2⟩:=hb;rw[Array.length_toList]at h1;simp only;rw[if_neg aN];have h3:=xo v.cells.toList cells off 0 aN;rw[Nat.add_zero]at h3;have h4:v.cells.zipIdx.foldl (λcs (x:aC×Nat)=>cs.setIfInBounds (off+x.2) x.1) cells.toArray=(setAt cells off v.cells.toList).toArray:=by
   rw[<-h3,<-Array.foldl_toList];simp
  rw[h4];exact fill_eq e;cases e
def Jy(P:av):List Field->aq->Prop
 |[],[]=>True
 |f::fs,s::ss=>(∀w,(sizeOf f.type).run P w=.ok s w)/\Jy P fs ss
 |_,_=>False
theorem Jy.nil:Jy P [] []:=ez
theorem Jy.cons{f:Field}{fs:List Field}{s:Nat}{ss:aq}(h:∀w,(sizeOf f.type).run P w=.ok s w)(hs:Jy P fs ss):Jy P (f::fs) (s::ss):=⟨h,hs⟩
theorem Br:∀{fs:List Field} {ss:aq},Jy P fs ss->∀w,(fs.mapM (m:=Sem) λf=>do pure (f.offset,<-sizeOf f.type)).run P w=.ok ((fs.zip ss).map λx=>(x.1.offset,x.2)) w
 |[],[],_,w=>rfl
 |f::fs,s::ss,hs,w=>by
  rw[List.mapM_cons];simp only[Sem.run_bind,Sem.run_pure,Result.andThen_ok,hs.1,Br hs.2];rfl
 |[],_::_,hs,_=>hs.elim
 |_::_,[],hs,_=>hs.elim
def On(P:av)(t:ax)(ps:List (Nat×aC))(v:aC):Prop:=∀w,(Instr.build t ps.toArray).run P w=.ok v w
theorem IC{t:ax}{fs:Array Field}{ss:aq}{z:aC}{ps:List (Nat×aC)}{c:ai}(hu:P.underlying t=some (.struct fs))(hs:Jy P fs.toList ss)(hz:∀w,(zeroValue t).run P w=.ok z w)
  (hf:qR (λi=>((fs.toList.zip ss)[i]?).map λx=>(x.1.offset,x.2)) z.cells.toList ps=some c):On P t ps (.agg c.toArray):=by
 intro w;have h1:=fill_eq hf;rw[Array.toArray_toList]at h1;simp only[Instr.build,Sem.run_bind,hz,Result.andThen_ok,run_underlying hu];rw[Array.mapM_eq_mapM_toList];simp only[Sem.run_map,Br hs];have h2:(λ(i:Nat)=>(List.map (λx=>(x.1.offset,x.2)) (fs.toList.zip ss)).toArray[i]?)=λi=>((fs.toList.zip ss)[i]?).map λx=>(x.1.offset,x.2):=by
  funext i;simp
 show((match Instr.fill (λ(i:Nat)=>(List.map (λx=>(x.1.offset,x.2)) (fs.toList.zip ss)).toArray[i]?) z.cells ps with
  |some cells=>pure (.agg cells)
  | _ => stuck "build: no such field, or a part of the wrong size" : Sem Value)).run P w = _;rw [h2,h1];rfl
def nX(l:Fl):List (Nat×au)->Option (List (Nat×aC))
 |[]=>some []
 |(q,x)::xs=>match Wit.eZ l x,nX l xs with
  |some v,some vs=>some ((q,v)::vs)
  |_,_=>none
theorem om.parts{t:af}(hF:om n t l)(ds:List Deferred):∀{xs:List (Nat×au)} {vs:List (Nat×aC)},nX l xs=some vs->xs.map (λx=>(x.1,Act.eval ⟨t,ds⟩ x.2))=vs
 |[],vs,e=>by cases e;rfl
 |(q,x)::xs,vs,e=>by
  simp only[nX]at e;split at e;rename_i v us hx hxs;cases e;rw[dR,hF.eZ hx,hF.parts ds hxs];cases e
theorem eD.IC{t:ax}{az:Array (Nat×au)}{ps:List (Nat×aC)}{v:aC}(ho:ops[i]?=some ⟨some d,.build t az,ty,pos,aft,g⟩)(hw:eL ops l g=true)(hx:nX l az.toList=some ps)(hd:Nat.blt d n=true)(hb:On P t ps v):
  eD P w0 S n h ops i l d v:=
 .of ho hw rfl rfl hd (λt w Ds _ hF hS=>⟨.value v,by
  have e1:az.map (λ(x:Nat×au)=>(x.1,Act.eval ⟨t,Ds.map mark⟩ x.2))=ps.toArray:=by rw[<-dh];simp[hF.parts (Ds.map mark) hx]
  have:=hb w;rw[<-e1]at this;simp only[execOp,Sem.run_bind];refine(eh (λx=>Result.andThen x _) this).trans ?_;rfl,rfl⟩)
theorem eD.fU{t:ax}{az:Array (Nat×au)}{ps:List (Nat×aC)}{v:aC}(hb:On P t ps v)(ho:ops[i]?=some ⟨some d,.build t az,ty,pos,aft,g⟩:=by exact rfl)(hw:eL ops l g=true:=by exact rfl)(hx:nX l az.toList=some ps:=by exact rfl)(hd:Nat.blt d n=true:=by exact rfl):eD P w0 S n h ops i l d v:=eD.IC (ho:=ho) (hw:=hw) (hx:=hx) (hd:=hd) (hb:=hb)
theorem Cq{t e:ax}{len:Nat}{az:Array (Nat×au)}{ps:List (Nat×aC)}{z:aC}{size:Nat} {t':af}(hF:om n t' l)(hx:nX l az.toList=some ps)
  (hu:P.underlying t=some (.slice e))(hs:∀w,(sizeOf e).run P w=.ok size w)(hz:∀w,(zeroValue e).run P w=.ok z w)(hm:Nat.ble (len*size) 16777216=true)
  (hf:qR (λi=>some (i*size,size)) ((List.range (len*size)).map λi=>z.cells.toList.getD (i%z.cells.toList.length) default) ps=some c)(Ds:aq)(w:aB):
  (execOp (Act.eval ⟨t',Ds.map mark⟩) ⟨some d,.buildSlice t len az,ty,pos,aft,g⟩).run P w=.ok (.value (.slice (aR w.heap.size) len len)) (w.alloc (.cells (c++[]).toArray e)):=by
 have e1:az.map (λ(x:Nat×au)=>(x.1,Act.eval ⟨t',Ds.map mark⟩ x.2))=ps.toArray:=by rw[<-dh];simp[hF.parts (Ds.map mark) hx]
 have h1:=fill_eq hf;have h2:(Array.range (len*size)).map (λi=>(if len*size=0 then #[]else z.cells)[i%(if len*size=0 then #[]else z.cells).size]!)=((List.range (len*size)).map λi=>z.cells.toList.getD (i%z.cells.toList.length) default).toArray:=by
  by_cases h0:len*size=0;rw[h0];simp;rw[if_neg h0,<-dh];simp;intro a _;rw[getElem!_def];cases z.cells[a%z.cells.size]?<;>rfl
 rw[<-h2]at h1;have hrun:(Instr.buildSlice t len ps.toArray).run P w=.ok (.slice (aR w.heap.size) len len) (w.alloc (.cells (c++[]).toArray e)):=by
  have hm':¬len*size>2^24:=by have:=Nat.le_of_ble_eq_true hm;omega
  by_cases h0:len*size=0;simp only[if_pos h0]at h1;simp only[Instr.buildSlice,Sem.run_bind,run_underlying hu,Result.andThen_ok,hs,if_neg hm',if_pos h0,Sem.run_pure];rw[h1];simp[newRow];simp only[if_neg h0]at h1;simp only[Instr.buildSlice,Sem.run_bind,run_underlying hu,Result.andThen_ok,hs,if_neg hm',if_neg h0,Sem.run_pure,hz];rw[h1];simp[newRow]
 rw[<-e1]at hrun;simp only[execOp,Sem.run_bind];refine(eh (λx=>Result.andThen x _) hrun).trans ?_;rfl
theorem eB.xv{t e:ax}{len:Nat}{az:Array (Nat×au)}{ps:List (Nat×aC)}{z:aC}{size:Nat} (ho:ops[i]?=some ⟨some d,.buildSlice t len az,ty,pos,aft,g⟩)(hw:eL ops l g=true)(hx:nX l az.toList=some ps)(hd:Nat.blt d n=true)
  (hu:P.underlying t=some (.slice e))(hs:∀w,(sizeOf e).run P w=.ok size w)(hz:∀w,(zeroValue e).run P w=.ok z w)(hm:Nat.ble (len*size) 16777216=true)
  (hf:qR (λi=>some (i*size,size)) ((List.range (len*size)).map λi=>z.cells.toList.getD (i%z.cells.toList.length) default) ps=some c)
  (hk:∀b,eB P r f R w0 S Y n (.inRegion ops rest::k) ((d,.slice (aR b) len len)::l) ((some b,.cells (c++[]).toArray e)::h)):eB P r f R w0 S Y n (.inRegion ops (i::rest)::k) l h:=
 .mem ho hw rfl rfl hd (λ_ w Ds _ hF hS=>⟨.slice (aR w.heap.size) len len,w.alloc (.cells (c++[]).toArray e),_,Cq hF hx hu hs hz hm hf Ds w,hS.alloc rfl,hk _⟩)
theorem eB.fR{t e:ax}{len:Nat}{az:Array (Nat×au)}{ps:List (Nat×aC)}{z:aC}{size:Nat} (hu:P.underlying t=some (.slice e))(hs:∀w,(sizeOf e).run P w=.ok size w)(hz:∀w,(zeroValue e).run P w=.ok z w)(hk:∀b,eB P r f R w0 S Y n (.inRegion ops rest::k) ((d,.slice (aR b) len len)::l) ((some b,.cells (c++[]).toArray e)::h))(ho:ops[i]?=some ⟨some d,.buildSlice t len az,ty,pos,aft,g⟩:=by exact rfl)(hw:eL ops l g=true:=by exact rfl)(hx:nX l az.toList=some ps:=by exact rfl)(hd:Nat.blt d n=true:=by exact rfl)(hm:Nat.ble (len*size) 16777216=true:=by exact rfl)(hf:qR (λi=>some (i*size,size)) ((List.range (len*size)).map λi=>z.cells.toList.getD (i%z.cells.toList.length) default) ps=some c:=by exact rfl):eB P r f R w0 S Y n (.inRegion ops (i::rest)::k) l h:=eB.xv (ho:=ho) (hw:=hw) (hx:=hx) (hd:=hd) (hu:=hu) (hs:=hs) (hz:=hz) (hm:=hm) (hf:=hf) (hk:=hk)
theorem wq{t e:ax} {a:ae}{m cap hi:Nat}{kd:aw}{j:Int}{sz:Nat}(ho:ops[i]?=some ⟨some d,.slice t x none (some y) none,ty,pos,aft,g⟩)(hw:eL ops l g=true)
  (hx:eZ l x=some (.slice a m cap))(hy:eZ l y=some (.int kd j))(hd:Nat.blt d n=true)(hu:P.underlying t=some (.slice e))(he:∀w,(sizeOf e).run P w=.ok sz w)(hj:j=hi)(hc:hi<=cap):
  eD P w0 S n h ops i l d (.slice a hi cap):=
 .of ho hw rfl rfl hd (λt w Ds _ hF hS=>⟨.value (.slice a hi cap),by
  subst hj;simp only[execOp,hF.eZ hx,hF.eZ hy,dL,Option.map_none,Instr.sliceAt,Sem.run_bind,run_underlying hu,Result.andThen_ok,Instr.slice,Instr.sliceBounds,Instr.sliceBound,asIntOf,Sem.run_pure];rw[if_pos ⟨aH,aH⟩];simp only[Sem.run_pure,Result.andThen_ok,he,c7];cases a<;>simp[Addr.add_zero'],rfl⟩)
theorem eB.NJ{az:aa}{ts:ab}{cal:au}{gf:ay}{fs vs:ai}(Rc:aB->aC->aB->Prop)(ho:ops[i]?=some ⟨some d,.call ⟨.value cal,az,ts⟩,ty,pos,aft,g⟩)(hw:eL ops l g=true)
  (hc:eZ l cal=some (.func (.func gf) fs.toArray cs.toArray))(hx:iw l az.toList=some vs)(hd:Nat.blt d n=true)(hcf:∀args w,(callFunc gf args).run P w=.ok (.enter gf args) w)
  (hcall:∀w Y',St w0 S w h Y'->Cn P gf (fs++vs++cs) w (Rc w))
  (hk:∀v w w' Y',St w0 S w h Y'->Ex [] w w'->Rc w v w'->∃h',St w0 S w' h' Y'/\eB P r f R w0 S Y n (.inRegion ops rest::k) ((d,v)::l) h'):eB P r f R w0 S Y n (.inRegion ops (i::rest)::k) l h:=
 .Cp ho hw hc hx hd hcf (λw Ds hS=>⟨λu w'=>Ex [] w w'/\Rc w u w',by
  have:=hcall w Ds hS;unfold Cn at this;simpa using this,λu w' ⟨he,hu⟩=>hk u w w' Ds hS he hu⟩)
theorem eB.A9{az:aa}{ts:ab}{cal:au}{gf:ay}{fs vs:ai}{v:aC}(ho:ops[i]?=some ⟨some d,.call ⟨.value cal,az,ts⟩,ty,pos,aft,g⟩)(hw:eL ops l g=true)
  (hc:eZ l cal=some (.func (.func gf) fs.toArray cs.toArray))(hx:iw l az.toList=some vs)(hd:Nat.blt d n=true)(hcf:∀args w,(callFunc gf args).run P w=.ok (.enter gf args) w)
  (hcall:∀w Y',St w0 S w h Y'->Cn P gf (fs++vs++cs) w (λu _=>u=v))
  (hk:eB P r f R w0 S Y n (.inRegion ops rest::k) ((d,v)::l) h):eB P r f R w0 S Y n (.inRegion ops (i::rest)::k) l h:=
 .NJ (λ_ u _=>u=v) ho hw hc hx hd hcf hcall (λ_ _ _ _ hS he e=>⟨h,hS.later he,e ▸ hk⟩)
end
def eS(P:av)(l:Fl)(h:Hl):List ResultVar->ai->Prop
 |[],[]=>True
 |.tmp t::rs,v::vs=>look l t=some v/\eS P l h rs vs
 |.cell a ty::rs,v::vs=>(∃b,look l a=some (aQ b)/\∃(j:Nat) (cs:af) (e:ax) (fr:Nat×Nat),h[j]?=some (some b,Obj.cells cs e fr)/\
  ((∀w,(isAgg ty).run P w=.ok true w)/\(∀w,(sizeOf ty).run P w=.ok cs.size w)/\v=.agg cs\/(∀w,(isAgg ty).run P w=.ok false w)/\cs[0]?=some v))/\eS P l h rs vs
 |_,_=>False
section
variable{P:av}{f:ay}{R:aC->aB->Prop}{w0:aB}{S:aq}{Y:List (Nat×Obj)}{n:Nat}{k:al}{l:Fl}{h:Hl}{fn:Func}
theorem eS.nil:eS P l h [] []:=ez
theorem eS.tmp{t:Tmp}{v:aC}{rs:List ResultVar}{vs:ai}(hv:look l t=some v)(hr:eS P l h rs vs):eS P l h (.tmp t::rs) (v::vs):=⟨hv,hr⟩
theorem eS.cell{a:Tmp}{ty:ax}{b m j:Nat}{cs:af}{e:ax}{fr:Nat×Nat}{rs:List ResultVar}{vs:ai}(ha:look l a=some (aQ b))(h1:∀w,(isAgg ty).run P w=.ok true w)(h2:∀w,(sizeOf ty).run P w=.ok m w)(hj:h[j]?=some (some b,Obj.cells cs e fr))(hm:cs.size=m)(hr:eS P l h rs vs):eS P l h (.cell a ty::rs) (.agg cs::vs):=
 ⟨⟨b,ha,j,cs,e,fr,hj,.inl ⟨h1,λw=>by rw[h2,hm],rfl⟩⟩,hr⟩
theorem tE{w:aB}{t:af}(hF:om n t l)(hS:St w0 S w h Y):∀{rs:List ResultVar} {vs:ai},eS P l h rs vs->
  (rs.mapM (m:=Sem) λ|.tmp t'=>pure (t.getD t' undef)|.cell a ty=>do loadVar ty (<-asAddr (t.getD a undef))).run P w=.ok vs w
 |[],[],_=>rfl
 |.tmp q::rs,v::vs,⟨hv,hr⟩=>by
  rw[List.mapM_cons];simp only[Sem.run_bind,Sem.run_pure,Result.andThen_ok,tE hF hS hr,hF.2 _ _ hv]
 |.cell a ty::rs,v::vs,⟨⟨b,ha,j,cs,e,fr,hj,hv⟩,hr⟩=>by
  rw[List.mapM_cons];have hl2:(loadVar ty ⟨b,0,none⟩).run P w=.ok v w:=by
   rcases hv with⟨hag,hsz,rfl⟩|⟨hag,hv⟩;have hl:=tX (P:=P) (w:=w) (a:=⟨b,0,none⟩) (cs:=cs.toList) hag (λw=>by rw[hsz];simp) (λq v hv=>by
    rw[pU,dX];simp[World.cell?,hS.get hj]at hv⊢;exact hv);rw[Array.toArray_toList]at hl;simpa only[Instr.loadAt,Instr.sureAddr,Sem.run_bind,Sem.run_pure,Result.andThen_ok]using hl;have hc:=cell_of_row w b 0 cs e fr (hS.get hj);rw[hv]at hc;simp[loadVar,hag,hc]
  have hA:(asAddr (t.getD a undef)).run P w=.ok ⟨b,0,none⟩ w:=by rw[hF.2 _ _ ha];rfl
  simp only[Sem.run_bind,Sem.run_pure,Result.andThen_ok,hA,hl2,tE hF hS hr]
 |[],_::_,hr=>hr.elim
 |.tmp _::_,[],hr=>hr.elim
 |.cell _ _::_,[],hr=>hr.elim
theorem eB.js(fn:Func)(hf:P.funcs[f]?=some fn)(vs:ai)(hres:eS P l h fn.results.toList vs)(hR:∀w,St w0 S w h Y->R (mn vs) w):eB P none f R w0 S Y n (.code .ret::k) l h:=λt w Ds hF hS=>by
 refine xj hf hS (λcs=>by rw[iG];exact stepR_ret rfl) ?_ (hR _ hS.shut);unfold results;rw[Array.mapM_eq_mapM_toList];have hm:=tE (P:=P) hF hS.shut hres;simp only[Sem.run_bind,Sem.run_map,Sem.run_pure];refine(eh (λx=>(x.andThen λa w'=>Result.ok a.toArray w').andThen λa w'=>Result.ok (if h:a.size=1 then a[0]else Value.tuple a) w') hm).trans ?_;simp only[Result.andThen_ok];cases vs with
 |nil=>rfl
 |cons v us=>cases us with
  |nil=>rfl
  |cons u us=>simp[mn]
end
end
section
variable{a:ae}{x:au}
def B4{α:Type}(f:Nat->Option α):Nat->Option α
 |0=>none
 |k+1=>match B4 f k with
  |some x=>some x
  |none=>f k
theorem vV{α:Type}{enc:α->ai}{sz:Nat}(hsz:∀x,(enc x).length=sz):∀{xs:List α} {j i:Nat} (hj:j<xs.length),i<sz->(xs.flatMap enc)[j*sz+i]?=(enc xs[j])[i]?
 |[],j,i,hj,_=>by simp at hj
 |x::xs,0,i,_,hi=>by
  rw[List.flatMap_cons,Nat.zero_mul,dX,bt (by rw[hsz];exact hi)];rfl
 |x::xs,j+1,i,hj,hi=>by
  rw[List.flatMap_cons,aZ (by rw[hsz,Nat.add_mul];omega),hsz];rw[show(j+1)*sz+i - sz=j*sz+i from by rw[Nat.add_mul];omega];exact vV hsz (by simpa using hj) hi
theorem oC{α:Type}{enc:α->ai}{sz:Nat}(hsz:∀x,(enc x).length=sz):∀{xs:List α},(xs.flatMap enc).length=xs.length*sz
 |[]=>by simp
 |x::xs=>by rw[List.flatMap_cons,cQ,hsz,oC hsz,dt,Nat.add_mul];omega
section
variable{P:av}{r:ah}{f:ay}{R:aC->aB->Prop}{w0:aB}{S:aq}{Y:List (Nat×Obj)}{n:Nat}{k:al}{l:Fl}{h:Hl}
variable{ops:aj}{i d:Nat}{rest:aq}{ty:ax}{pos:aA}{aft:ak}{g:Option (Nat×Bool)}
theorem mB{t e:ax}{y:au} {m cap sz:Nat}{kd:aw}{j:Int}{xs:ai}(ho:ops[i]?=some ⟨some d,.indexAddr t x y,ty,pos,aft,g⟩)(hw:eL ops l g=true)
  (hx:eZ l x=some (.slice a m cap))(hy:eZ l y=some (.int kd j))(hd:Nat.blt d n=true)(hu:P.underlying t=some (.slice e))(he:∀w,(sizeOf e).run P w=.ok sz w)
  (hs:∃w,Sl w a xs)(hm:xs.length=m*sz)(hsz:0<sz)(j':Nat)(hj:j=j'/\j'<m):eD P w0 S n h ops i l d (.pointer (some (qT a (j'*sz)))):=by
 obtain⟨w1,hs⟩:=hs;obtain⟨rfl,hj⟩:=hj;have h0:0<xs.length:=by rw[hm];exact Nat.mul_pos aH hsz
 obtain⟨b,o,rfl,_⟩:=hs.isSome h0;exact .of ho hw rfl rfl hd (λt' w Ds _ hF hS=>⟨.value (.pointer (some ⟨b,o+j'*sz,none⟩)),by
  simp only[execOp,hF.eZ hx,hF.eZ hy,Sem.run_bind,zz hu he b o m cap kd j' hj w];rfl,rfl⟩)
theorem eD.gN{t e:ax}{y:au} {m cap sz:Nat}{kd:aw}{j:Int}{xs:ai}(hu:P.underlying t=some (.slice e))(he:∀w,(sizeOf e).run P w=.ok sz w)(hs:∃w,Sl w a xs)(hm:xs.length=m*sz)(hsz:0<sz)(j':Nat)(hj:j=j'/\j'<m)(ho:ops[i]?=some ⟨some d,.indexAddr t x y,ty,pos,aft,g⟩:=by exact rfl)(hw:eL ops l g=true:=by exact rfl)(hx:eZ l x=some (.slice a m cap):=by exact rfl)(hy:eZ l y=some (.int kd j):=by exact rfl)(hd:Nat.blt d n=true:=by exact rfl):eD P w0 S n h ops i l d (.pointer (some (qT a (j'*sz)))):=mB (ho:=ho) (hw:=hw) (hx:=hx) (hy:=hy) (hd:=hd) (hu:=hu) (he:=he) (hs:=hs) (hm:=hm) (hsz:=hsz) (j':=j') (hj:=hj)
theorem Sl.many{α:Type}{enc:α->ai}{sz:Nat}{w:aB} {xs:List α}(hs:Sl w a (xs.flatMap enc))(hsz:∀x,(enc x).length=sz){j:Nat}(hj:j<xs.length):∀q v,(enc xs[j])[q]?=some v->w.cell? ((qT a (j*sz)).add q)=some v:=by
 intro q v hv;have hq:q<sz:=by have:=(bu.1 hv).1;rwa[hsz]at this
 have h1:=vV hsz hj hq;rw[hv]at h1;obtain⟨h2,h3⟩:=bu.1 h1;rw[yG,hs.cell _ h2,aY,h1];rfl
theorem Sl.pq{α:Type}{enc:α->ai}{sz:Nat}{w:aB} {xs:List α}(hs:Sl w a (xs.flatMap enc))(hsz:∀x,(enc x).length=sz){j:Nat}(hj:j<xs.length){q:Nat}{v:aC}(hv:(enc xs[j])[q]?=some v):w.cell? (qT a (j*sz+q))=some v:=by
 have:=Sl.many hs hsz hj q v hv;rwa[yG]at this
theorem eD.yn{s:ax}  {o q:Nat}{fs:Array Field}{fd:Field}{sz:Nat}(ho:ops[i]?=some ⟨some d,.fieldAddr s x q,ty,pos,aft,g⟩)(hw:eL ops l g=true)
  (hx:eZ l x=some (.pointer (some (qT a o))))(hd:Nat.blt d n=true)(hu:P.underlying s=some (.struct fs))(hq:fs[q]?=some fd)(he:∀w,(sizeOf fd.type).run P w=.ok (sz+1) w)(o':Nat)(hO:o+fd.offset=o'):
  eD P w0 S n h ops i l d (.pointer (some (qT a o'))):=by
 subst hO;exact .of ho hw rfl rfl hd (λt w Ds _ hF hS=>⟨.value (.pointer (some (qT a (o+fd.offset)))),by
  simp only[execOp,hF.eZ hx,Instr.fieldAt,Sem.run_bind,run_underlying hu,Result.andThen_ok,hq,Instr.sureAddr,Sem.run_pure,fieldPlace,he];rw[if_neg aH];simp[yG],rfl⟩)
theorem eD.kq{s:ax}  {o q:Nat}{fs:Array Field}{fd:Field}{sz:Nat}(hu:P.underlying s=some (.struct fs))(he:∀w,(sizeOf fd.type).run P w=.ok (sz+1) w)(o':Nat)(ho:ops[i]?=some ⟨some d,.fieldAddr s x q,ty,pos,aft,g⟩:=by exact rfl)(hw:eL ops l g=true:=by exact rfl)(hx:eZ l x=some (.pointer (some (qT a o))):=by exact rfl)(hd:Nat.blt d n=true:=by exact rfl)(hq:fs[q]?=some fd:=by exact rfl)(hO:o+fd.offset=o':=by exact rfl):eD P w0 S n h ops i l d (.pointer (some (qT a o'))):=eD.yn (ho:=ho) (hw:=hw) (hx:=hx) (hd:=hd) (hu:=hu) (hq:=hq) (he:=he) (o':=o') (hO:=hO)
end
end
structure DV where
  Ju:Int
  prop:Int
  a:ae
  cap:Nat
  ws:ar
def DV.cells(d:DV):ai:=[aS d.Ju,aS d.prop,.slice d.a d.ws.length d.cap]
def DV.plain(d:DV):Int×Int×ar:=(d.Ju,d.prop,d.ws)
structure DV.At (d:DV) (w:aB):Prop where
  at_:mJ w d.a d.ws
  len:d.ws.length<=maxLen
structure Pk (w:aB) (a:ae) (ds:List DV):Prop where
  at_:Sl w a (ds.flatMap DV.cells)
  len:ds.length<=maxLen
  each:∀d∈ds,d.At w
structure Pj (H:Hl) (a:ae) (ds:List DV):Prop where
  at_:ds=[]\/∃b e sp,a=some ⟨b,0,none⟩/\(some b,Obj.cells (ds.flatMap DV.cells++sp).toArray e (0,0))∈H
  len:ds.length<=maxLen
  each:∀d∈ds,Ol fH H d.a d.ws/\d.ws.length<=maxLen
end Go.Proofs.Wit
namespace Go.Proofs.Wit
structure NV where
  op:Int
  i:Int
  e:Int
  g:Int
  x:Int
  y:Int
deriving DecidableEq
def NV.cells(n:NV):ai:=[fH n.op,fH n.i,fH n.e,fH n.g,fH n.x,fH n.y]
def iX(op:Int):Bool:=decide (4<=op) && decide (op<=21)
def ij(op:Int):Bool:=decide (5<=op) && decide (op<=8)||op==13||op==14||op==16||op==19||op==21
def uV(op:Int):Bool:=op==9||op==10||op==14||op==15
def qG(op:Int):Bool:=decide (11<=op) && decide (op<=13)
theorem jz{op:Int}(h:ij op=true):iX op=true:=by
 simp only[ij,iX,dB,di,dg,eg]at h⊢;omega
inductive Tr where
  |leaf (op i e g:Int)
  |un (op i e g:Int) (a:Tr)
  |bin (op i e g:Int) (a b:Tr)
deriving DecidableEq
def Tr.op:Tr->Int
 |.leaf op _ _ _=>op
 |.un op _ _ _ _=>op
 |.bin op _ _ _ _ _=>op
def kids:Tr->List Tr
 |.leaf ..=>[]
 |.un _ _ _ _ a=>[a]
 |.bin _ _ _ _ a b=>[a,b]
def Tr.wf:Tr->Prop
 |.leaf op _ _ _=>iX op=false
 |.un op _ _ _ a=>iX op=true/\ij op=false/\a.wf
 |.bin op _ _ _ a b=>ij op=true/\a.wf/\b.wf
def qJ:Tr:=.leaf 0 0 0 0
def zj(n:NV)(a b:Tr):Tr:=if ij n.op=true then .bin n.op n.i n.e n.g a b else if iX n.op=true then .un n.op n.i n.e n.g a else .leaf n.op n.i n.e n.g
theorem lj{n:NV}{a b:Tr}(h:iX n.op=false):zj n a b=.leaf n.op n.i n.e n.g:=by
 unfold zj;rw[if_neg (by intro h2;rw[jz h2]at h;cases h),if_neg (by rw[h];simp)]
theorem nY{n:NV}{a b:Tr}(h:iX n.op=true)(h2:ij n.op=false):zj n a b=.un n.op n.i n.e n.g a:=by
 unfold zj;rw[if_neg (by rw[h2];simp),if_pos h]
theorem mj{n:NV}{a b:Tr}(h:ij n.op=true):zj n a b=.bin n.op n.i n.e n.g a b:=by
 unfold zj;rw[if_pos h]
theorem Kr{n:NV}{a b:Tr}(ha:a.wf)(hb:b.wf):(zj n a b).wf:=by
 unfold zj;split;rename_i h;exact⟨h,ha,hb⟩;rename_i h;split;rename_i h2;exact⟨h2,by simpa using h,ha⟩;rename_i h2;show iX n.op=false;simpa using h2
theorem D2:qJ.wf:=by show iX 0=false;decide
def Gt(acc:List Tr):List NV->List Tr
 |[]=>acc
 |n::ns=>Gt (acc++[zj n (acc.getD n.x.toNat qJ) (acc.getD n.y.toNat qJ)]) ns
def trees(f:List NV):List Tr:=Gt [] f
theorem yV:∀{ns:List NV} {acc:List Tr} {n:NV},Gt acc (ns++[n])=Gt acc ns++[zj n ((Gt acc ns).getD n.x.toNat qJ) ((Gt acc ns).getD n.y.toNat qJ)]
 |[],_,_=>rfl
 |m::ns,acc,n=>by rw[List.cons_append,Gt,yV,Gt]
theorem kA{f:List NV}{n:NV}:trees (f++[n])=trees f++[zj n ((trees f).getD n.x.toNat qJ) ((trees f).getD n.y.toNat qJ)]:=yV
theorem lH{α:Type}{p:List α->Prop}(h0:p [])(h1:∀l a,p l->p (l++[a]))(l:List α):p l:=by
 have:∀n (l:List α),l.length=n->p l:=by
  intro n
  induction n with
  |zero=>intro l h;rw[aV h];exact h0
  |succ n C=>
   intro l h;have w:l≠[]:=by rintro rfl;simp at h
   rw[<-List.dropLast_concat_getLast w];exact h1 _ _ (C _ (by simp[h]))
 exact this _ l rfl
theorem fW(f:List NV):(trees f).length=f.length:=by
 induction f using lH with
 |h0=>rfl
 |h1 f n h=>rw[kA];simp[h]
theorem u9(f:List NV)(k:Nat):(trees f).take k=trees (f.take k):=by
 induction f using lH with
 |h0=>simp[trees,Gt]
 |h1 f n h=>
  by_cases hk:k<=f.length;rw[kA,List.take_append_of_le_length (by rw[fW];exact hk),List.take_append_of_le_length hk,h];rw[bR (by rw[fW];simp;omega),bR aN]
theorem CH{f:List NV}{k:Nat}(hk:k<f.length):(trees f)[k]'(by rw[fW];exact hk)=zj f[k] (((trees f).take k).getD f[k].x.toNat qJ) (((trees f).take k).getD f[k].y.toNat qJ):=by
 have h1:f.take (k+1)=f.take k++[f[k]]:=aU hk;have h2:=u9 f (k+1);rw[h1,kA,<-u9]at h2;have h:((trees f).take (k+1))[k]?=some (zj f[k] (((trees f).take k).getD f[k].x.toNat qJ) (((trees f).take k).getD f[k].y.toNat qJ)):=by
  rw[h2,aZ (by rw[du,fW];omega),du,fW,Nat.min_eq_left aH,dW];rfl
 rw[List.getElem?_take,if_pos aH,bH (by rw[fW];exact hk)]at h;exact dM h
theorem u7(f:List NV):∀t∈trees f,t.wf:=by
 induction f using lH with
 |h0=>intro t h;cases h
 |h1 f n p=>
  have hd:∀k,((trees f).getD k qJ).wf:=λk=>by
   by_cases hk:k<(trees f).length;rw[show(trees f).getD k qJ=(trees f)[k]from by simp[hk]];exact p _ (dq hk);rw[show(trees f).getD k qJ=qJ from by simp[List.getElem?_eq_none (Nat.le_of_not_lt hk)]];exact D2
  intro t h;rw[kA]at h;rcases dG.1 h with h|h;exact p t h;rw[cS.1 h];exact Kr (hd _) (hd _)
def visit:Tr->List Tr->List Tr
 |.leaf op i e g,ts=>if Tr.leaf op i e g∈ts then ts else ts++[.leaf op i e g]
 |.un op i e g a,ts=>if Tr.un op i e g a∈ts then ts else visit a ts++[.un op i e g a]
 |.bin op i e g a b,ts=>if Tr.bin op i e g a b∈ts then ts else visit b (visit a ts)++[.bin op i e g a b]
def mK(ts:List Tr):Prop:=∀(k:Nat) (hk:k<ts.length),∀c∈kids ts[k],c∈ts.take k
theorem mK.nil:mK []:=λ_k hk=>absurd hk (dK _)
theorem mK.snoc{ts:List Tr}{t:Tr}(h:mK ts)(w:∀c∈kids t,c∈ts):mK (ts++[t]):=λk hk c hc=>by
 rw[cQ,bV]at hk;by_cases p:k<ts.length;rw[bJ p]at hc;rw[List.take_append_of_le_length aH];exact h k p c hc;obtain rfl:k=ts.length:=aH;rw[bB (dZ _)]at hc;simp only[dW,List.getElem_cons_zero]at hc;rw[List.take_left'];exact w c hc;rfl
theorem mK.mem{ts:List Tr}(h:mK ts){t:Tr}(p:t∈ts):∀c∈kids t,c∈ts:=λc hc=>by
 obtain⟨k,hk,rfl⟩:=cz.1 p;exact cG (h k hk c hc)
def size:Tr->Nat
 |.leaf ..=>1
 |.un _ _ _ _ a=>size a+1
 |.bin _ _ _ _ a b=>size a+size b+1
theorem mT(t:Tr):∀{ts:List Tr} {u:Tr},u∈visit t ts->u∈ts\/size u<=size t:=by
 induction t with
 |leaf op i e g=>
  intro ts u h;rw[visit]at h;split at h;exact .inl h;rcases dG.1 h with h|h;exact .inl h;rw[cS.1 h];exact .inr (dZ _)
 |un op i e g a p=>
  intro ts u h;rw[visit]at h;split at h;exact .inl h;rcases dG.1 h with h|h;rcases p h with h|h;exact .inl h;exact .inr (by simp only[size];omega);rw[cS.1 h];exact .inr (dZ _)
 |bin op i e g a b p w=>
  intro ts u h;rw[visit]at h;split at h;exact .inl h;rcases dG.1 h with h|h;rcases w h with h|h;rcases p h with h|h;exact .inl h;exact .inr (by simp only[size];omega);exact .inr (by simp only[size];omega);rw[cS.1 h];exact .inr (dZ _)
structure O8 (t:Tr) (ts us:List Tr):Prop where
  pP:mK us
  nd:us.Nodup
  pre:ts<+:us
  mem:t∈us
theorem m9{ts:List Tr}{t:Tr}(h:ts.Nodup)(p:t∉ts):(ts++[t]).Nodup:=by
 rw[de];exact⟨h,by simp,λa ha b hb=>by rw[cS.1 hb];rintro rfl;exact p ha⟩
theorem kz(t:Tr):∀{ts:List Tr},mK ts->ts.Nodup->O8 t ts (visit t ts):=by
 induction t with
 |leaf op i e g=>
  intro ts hc C;rw[visit];split;rename_i h;exact⟨hc,C,dw _,h⟩;rename_i h;exact⟨hc.snoc (λc hc=>by cases hc),m9 C h,cU _ _,by simp⟩
 |un op i e g a D=>
  intro ts hc C;rw[visit];split;rename_i h;exact⟨hc,C,dw _,h⟩;rename_i h;obtain⟨h1,h2,J,F⟩:=D hc C;have p:Tr.un op i e g a∉visit a ts:=λhm=>by
   rcases mT a hm with w|w;exact h w;simp only[size]at w;omega
  exact⟨h1.snoc (λc hc=>by rw[cS.1 hc];exact F),m9 h2 p,J.trans (cU _ _),by simp⟩
 |bin op i e g a b D E=>
  intro ts hc C;rw[visit];split;rename_i h;exact⟨hc,C,dw _,h⟩;rename_i h;obtain⟨h1,h2,J,F⟩:=D hc C;obtain⟨O,N,K,M⟩:=E h1 h2;have p:Tr.bin op i e g a b∉visit b (visit a ts):=λhm=>by
   rcases mT b hm with w|w;rcases mT a w with w|w;exact h w;simp only[size]at w;omega;simp only[size]at w;omega
  refine⟨O.snoc (λc hc=>?_),m9 N p,(J.trans K).trans (cU _ _),by simp⟩;simp only[kids,dS,dv,ep]at hc;rcases hc with rfl|rfl;exact K.subset F;exact M
def fM(ts:List Tr):Tr->NV
 |.leaf op i e g=>⟨op,i,e,g,0,0⟩
 |.un op i e g a=>⟨op,i,e,g,(ts.idxOf a:Int),0⟩
 |.bin op i e g a b=>⟨op,i,e,g,(ts.idxOf a:Int),(ts.idxOf b:Int)⟩
def eJ(ts:List Tr):List NV:=ts.map (fM ts)
theorem jC{ts:List Tr}:(eJ ts).length=ts.length:=by simp[eJ]
theorem oW{ts us:List Tr}(h:ts<+:us){t:Tr}(p:t∈ts):us.idxOf t=ts.idxOf t:=by
 obtain⟨vs,rfl⟩:=h;rw[List.idxOf_append,if_pos p]
theorem vE{ts us:List Tr}(h:ts<+:us){t:Tr}(p:∀c∈kids t,c∈ts):fM us t=fM ts t:=by
 cases t with
 |leaf=>rfl
 |un op i e g a=>simp only[fM];rw[oW h (p a (by simp[kids]))]
 |bin op i e g a b=>simp only[fM];rw[oW h (p a (by simp[kids])),oW h (p b (by simp[kids]))]
theorem mP{ts:List Tr}(hc:mK ts){t:Tr}(h:∀c∈kids t,c∈ts):eJ (ts++[t])=eJ ts++[fM ts t]:=by
 unfold eJ;rw[dF,List.map_singleton,vE (cU _ _) h]
 congr 1
 exact cK (λu hu=>vE (cU _ _) (hc.mem hu))
theorem yh{ts:List Tr}{a b:Tr}(ha:a∈ts)(hb:b∈ts)(h:ts.idxOf a=ts.idxOf b):a=b:=by
 have h1:=List.getElem_idxOf (bK.2 ha);have h2:=List.getElem_idxOf (bK.2 hb);rw[<-h1,<-h2]
 congr 1
theorem vF{ts:List Tr}{t u:Tr}(w:t.wf)(hu:u.wf)(h1:∀c∈kids t,c∈ts)(h2:∀c∈kids u,c∈ts)(h:fM ts t=fM ts u):t=u:=by
 cases t with
 |leaf op i e g=>
  cases u with
  |leaf p i' D C=>simp only[fM,NV.mk.injEq]at h;obtain⟨rfl,rfl,rfl,rfl,_⟩:=h;rfl
  |un p i' D C E=>simp only[fM,NV.mk.injEq]at h;obtain⟨rfl,_⟩:=h;simp only[Tr.wf]at w hu;rw[w]at hu;cases hu.1
  |bin p i' D C E b'=>simp only[fM,NV.mk.injEq]at h;obtain⟨rfl,_⟩:=h;simp only[Tr.wf]at w hu;rw[jz hu.1]at w;cases w
 |un op i e g a=>
  cases u with
  |leaf p i' D C=>simp only[fM,NV.mk.injEq]at h;obtain⟨rfl,_⟩:=h;simp only[Tr.wf]at w hu;rw[w.1]at hu;cases hu
  |un p i' D C E=>
   simp only[fM,NV.mk.injEq]at h;obtain⟨rfl,rfl,rfl,rfl,hx,_⟩:=h;rw[yh (h1 a (by simp[kids])) (h2 E (by simp[kids])) aH]
  |bin p i' D C E b'=>simp only[fM,NV.mk.injEq]at h;obtain⟨rfl,_⟩:=h;simp only[Tr.wf]at w hu;rw[hu.1]at w;cases w.2.1
 |bin op i e g a b=>
  cases u with
  |leaf p i' D C=>simp only[fM,NV.mk.injEq]at h;obtain⟨rfl,_⟩:=h;simp only[Tr.wf]at w hu;rw[jz w.1]at hu;cases hu
  |un p i' D C E=>simp only[fM,NV.mk.injEq]at h;obtain⟨rfl,_⟩:=h;simp only[Tr.wf]at w hu;rw[w.1]at hu;cases hu.2.1
  |bin p i' D C E b'=>
   simp only[fM,NV.mk.injEq]at h;obtain⟨rfl,rfl,rfl,rfl,hx,hy⟩:=h;rw[yh (h1 a (by simp[kids])) (h2 E (by simp[kids])) aH,yh (h1 b (by simp[kids])) (h2 b' (by simp[kids])) aH]
theorem BB{ts:List Tr}(hc:mK ts)(D:ts.Nodup)(hw:∀u∈ts,u.wf){t:Tr}(C:t∈ts):
  (eJ ts)[ts.idxOf t]?=some (fM ts t)/\∀k,k<ts.idxOf t->(eJ ts)[k]?≠some (fM ts t):=by
 have w:=bK.2 C;refine⟨by rw[eJ,dc,bH w,List.getElem_idxOf w];rfl,λk hk h=>?_⟩;have p:k<ts.length:=aH;rw[eJ,dc,bH p,dL,df]at h;have h1:=vF (hw _ (dq p)) (hw t C) (hc.mem (dq p)) (hc.mem C) h;have h2:ts.idxOf t=k:=by rw[<-h1];exact D.idxOf_getElem k p
 omega
theorem BC{ts:List Tr}(hc:mK ts)(hw:∀u∈ts,u.wf){t:Tr}(p:t.wf)(hk:∀c∈kids t,c∈ts)(w:t∉ts):∀k:Nat,(eJ ts)[k]?≠some (fM ts t):=λk h=>by
 rw[eJ,dc]at h;obtain⟨u,hu,he⟩:=Option.map_eq_some_iff.1 h;have hm:=cD hu;rw[vF (hw u hm) p (hc.mem hm) hk he]at hm;exact w hm
theorem D0(t:Tr)(w:t.wf):∀{ts:List Tr},(∀u∈ts,u.wf)->∀u∈visit t ts,u.wf:=by
 induction t with
 |leaf op i e g=>
  intro ts h u hu;rw[visit]at hu;split at hu;exact h u hu;rcases dG.1 hu with hu|hu;exact h u hu;rw[cS.1 hu];exact w
 |un op i e g a p=>
  intro ts h u hu;rw[visit]at hu;split at hu;exact h u hu;rcases dG.1 hu with hu|hu;exact p w.2.2 h u hu;rw[cS.1 hu];exact w
 |bin op i e g a b p C=>
  intro ts h u hu;rw[visit]at hu;split at hu;exact h u hu;rcases dG.1 hu with hu|hu;exact C w.2.2 (p w.2.1 h) u hu;rw[cS.1 hu];exact w
theorem qI{ts:List Tr}(hc:mK ts)(hw:∀u∈ts,u.wf):trees (eJ ts)=ts:=by
 induction ts using lH with
 |h0=>rfl
 |h1 ts t D=>
  have hk:∀c∈kids t,c∈ts:=λc h=>by
   have:=hc ts.length aL c (by simpa using h);rwa[List.take_left' rfl]at this
  have C:mK ts:=λk hk c h=>by
   have:=hc k aN c (by rw[bJ hk];exact h);rwa[List.take_append_of_le_length aH]at this
  rw[mP C hk,kA,D C (λu hu=>hw u (cx _ hu))]
  congr 2
  have p:=hw t aL;have hg:∀c∈ts,ts.getD ((ts.idxOf c:Int)).toNat qJ=c:=λc h=>by
   have w:=bK.2 h;rw[c7,aY,bH w,List.getElem_idxOf w];rfl
  cases t with
  |leaf op i e g=>exact(lj (n:=⟨op,i,e,g,0,0⟩) p)
  |un op i e g a=>
   refine(nY (n:=⟨op,i,e,g,(ts.idxOf a:Int),0⟩) p.1 p.2.1).trans ?_;dsimp only[fM];rw[hg a (hk a (by simp[kids]))]
  |bin op i e g a b=>
   refine(mj (n:=⟨op,i,e,g,(ts.idxOf a:Int),(ts.idxOf b:Int)⟩) p.1).trans ?_;dsimp only[fM];rw[hg a (hk a (by simp[kids])),hg b (hk b (by simp[kids]))]
theorem lA(t:Tr):∀{ts us:List Tr},mK us->t∈us->ts⊆us->visit t ts⊆us:=by
 induction t with
 |leaf op i e g=>
  intro ts us hc h hs;rw[visit];split;exact hs;exact List.append_subset.2 ⟨hs,by simpa using h⟩
 |un op i e g a p=>
  intro ts us hc h hs;rw[visit];split;exact hs;exact List.append_subset.2 ⟨p hc (hc.mem h a (by simp[kids])) hs,by simpa using h⟩
 |bin op i e g a b p w=>
  intro ts us hc h hs;rw[visit];split;exact hs;exact List.append_subset.2 ⟨w hc (hc.mem h b (by simp[kids])) (p hc (hc.mem h a (by simp[kids])) hs),by simpa using h⟩
def gk(t:Tr):List Tr:=visit t []
def gv(t:Tr):List NV:=eJ (gk t)
theorem jA(t:Tr):O8 t [] (gk t):=kz t mK.nil dP
theorem G0{t:Tr}(h:t.wf):∀u∈gk t,u.wf:=D0 t h (λu hu=>by cases hu)
theorem mZ{t:Tr}(h:t.wf):trees (gv t)=gk t:=qI (jA t).pP (G0 h)
theorem ke{t:Tr}:(gv t).length=(gk t).length:=jC
theorem ov(t:Tr):∃l,gk t=l++[t]:=by
 cases t with
 |leaf op i e g=>exact⟨[],by simp[gk,visit]⟩
 |un op i e g a=>exact⟨visit a [],by simp[gk,visit]⟩
 |bin op i e g a b=>exact⟨visit b (visit a []),by simp[gk,visit]⟩
def eP(f:List NV):Tr:=(trees f).getD (f.length - 1) qJ
theorem mV{t:Tr}(h:t.wf):eP (gv t)=t:=by
 unfold eP;rw[mZ h,ke];obtain⟨l,p⟩:=ov t;rw[p];simp
section
variable{f:List NV}{i:Nat}
def OA:NV:=⟨0,0,0,0,0,0⟩
def zh(used:Bool)(v at_:Int):Bool:=used && decide (0<=v) && decide (v<at_)||!used && v==0
def iO(op:Int):Bool:=op==3||uV op||op==17
def jH(op i e g:Int):Int:=
 if (!iO op && i !=0||op !=17 && e !=0||!qG op && g !=0)=true then 3
 else if (op==3 && !(decide (0<=i) && decide (i<8))||uV op && !(decide (0<=i) && decide (i<4))||op==17 && !(decide (0<=i) && decide (i<8) && decide (0<=e) && decide (e<8))||qG op && !(decide (1<=g) && decide (g<16)))=true then 2 else 0
def kO(n:NV)(at_:Int):Int:=
 if ¬(1<=n.op/\n.op<=21)then 10
 else if ¬(zh (iX n.op) n.x at_=true/\zh (ij n.op) n.y at_=true)then 3 else jH n.op n.i n.e n.g
def kF(e:Nat->Int):Nat->Int
 |0=>0
 |n+1=>if kF e n≠0 then kF e n else e n
theorem nQ{e:Nat->Int}:∀{n:Nat},kF e n=0↔∀i,i<n->e i=0
 |0=>by simp[kF]
 |n+1=>by
  rw[kF];constructor;intro h i hi;split at h;rename_i h2;exact absurd h h2;rename_i h2;rcases Nat.lt_succ_iff_lt_or_eq.1 hi with hi|rfl;exact nQ.1 (Classical.not_not.1 h2) i hi;exact h;intro h;have h1:kF e n=0:=nQ.2 (λi hi=>h i (Nat.lt_succ_of_lt hi));rw[if_neg (by simp[h1])];exact h n (dy n)
theorem zK{e:Nat->Int}{n:Nat}(h:kF e n≠0):∀m,n<=m->kF e m=kF e n:=λm hm=>by
 obtain⟨k,rfl⟩:∃k,m=n+k:=⟨m - n,aH⟩;clear hm
 induction k with
 |zero=>rfl
 |succ k p=>rw[<-Nat.add_assoc,kF,if_pos (by rw[p];exact h),p]
theorem AU{e:Nat->Int}{n m:Nat}(h:kF e n=0)(he:e n≠0)(hm:n<m):kF e m=e n:=by
 have h1:kF e (n+1)=e n:=by rw[kF,if_neg (by simp[h])]
 rw[zK (n:=n+1) (by rw[h1];exact he) m hm,h1]
def Dg(f:List NV)(i:Nat):Int:=kO (f.getD i OA) i
def fK(f:List NV):Int:=if f.length=0 then 3 else if 200<f.length then 8 else kF (Dg f) f.length
structure DO (f:List NV):Prop where
  pos:0<f.length
  len:f.length<=200
  node:∀(i:Nat) (hi:i<f.length),kO f[i] i=0
theorem eO :fK f=0↔DO f:=by
 unfold fK;have hg:∀(i:Nat) (hi:i<f.length),Dg f i=kO f[i] i:=λi hi=>by simp[Dg,hi]
 constructor;intro h;split at h;cases h;rename_i h1;split at h;cases h;rename_i h2;exact⟨aH,aH,λi hi=>by rw[<-hg i hi];exact nQ.1 h i hi⟩;rintro ⟨h1,h2,p⟩;rw[if_neg aH,if_neg aH];exact nQ.2 (λi hi=>by rw[hg i hi];exact p i hi)
structure GF (n:NV) (at_:Int):Prop where
  op:1<=n.op/\n.op<=21
  x:iX n.op=true->0<=n.x/\n.x<at_
  x0:iX n.op=false->n.x=0
  y:ij n.op=true->0<=n.y/\n.y<at_
  y0:ij n.op=false->n.y=0
  pq:jH n.op n.i n.e n.g=0
theorem rV{h:Bool}{v at_:Int}:zh h v at_=true↔(h=true->0<=v/\v<at_)/\(h=false->v=0):=by
 cases h<;>simp[zh]
theorem lx{n:NV}{at_:Int}:kO n at_=0↔GF n at_:=by
 unfold kO;constructor;intro h;split at h;cases h;rename_i h1;split at h;cases h;rename_i h2;obtain⟨F,E⟩:=Classical.not_not.1 h2;obtain⟨D,C⟩:=rV.1 F;obtain⟨w,p⟩:=rV.1 E;exact⟨Classical.not_not.1 h1,D,C,w,p,h⟩;rintro ⟨h1,D,C,w,p,h⟩;rw[if_neg (by simp[h1]),if_neg (by simp[rV.2 ⟨D,C⟩,rV.2 ⟨w,p⟩])];exact h
theorem DO.at (h:DO f)(i:Nat)(hi:i<f.length):GF f[i] i:=lx.1 (h.node i hi)
def eA(f:List NV)(i:Nat):Tr:=(trees f).getD i qJ
theorem ju  (hi:i<f.length):eA f i=(trees f)[i]'(by rw[fW];exact hi):=by
 simp[eA,show i<(trees f).length from by rw[fW];exact hi]
theorem pD  (hi:i<f.length)(hx:iX f[i].op=true->f[i].x.toNat<i)(hy:ij f[i].op=true->f[i].y.toNat<i):
  eA f i=zj f[i] (eA f f[i].x.toNat) (eA f f[i].y.toNat):=by
 rw[ju hi,CH hi];have h:∀k,k<i->((trees f).take i).getD k qJ=eA f k:=λk hk=>by
  unfold eA;simp[hk]
 by_cases h1:ij f[i].op=true;rw[mj h1,mj h1,h _ (hx (jz h1)),h _ (hy h1)];by_cases h2:iX f[i].op=true;rw[nY h2 (by simpa using h1),nY h2 (by simpa using h1),h _ (hx h2)];rw[lj (by simpa using h2),lj (by simpa using h2)]
theorem td(f:List NV)(i:Nat):(eA f i).wf:=by
 unfold eA;by_cases hi:i<(trees f).length;rw[show(trees f).getD i qJ=(trees f)[i]from by simp[hi]];exact u7 f _ (dq hi);rw[show(trees f).getD i qJ=qJ from by simp[List.getElem?_eq_none (Nat.le_of_not_lt hi)]];exact D2
def yM(f:List NV):Prop:=∀(i:Nat) (hi:i<f.length),(iX f[i].op=true->0<=f[i].x/\f[i].x<i)/\(ij f[i].op=true->0<=f[i].y/\f[i].y<i)
theorem DO.ord (h:DO f):yM f:=λi hi=>⟨(h.at i hi).x,(h.at i hi).y⟩
theorem yM.pP (h:yM f):mK (trees f):=λk hk c hc=>by
 rw[fW]at hk;obtain⟨hx,hy⟩:=h k hk;have h1:=pD hk (λhu=>by have:=hx hu;omega) (λhu=>by have:=hy hu;omega);rw[<-ju hk,h1]at hc;have p:∀j,j<k->eA f j∈(trees f).take k:=λj hj=>by
  rw[ju (by omega:j<f.length)];rw[List.mem_take_iff_getElem];exact⟨j,by rw[fW];omega,rfl⟩
 by_cases h2:ij f[k].op=true;rw[mj h2]at hc;simp only[kids,dS,dv,ep]at hc;rcases hc with rfl|rfl;exact p _ (by have:=hx (jz h2);omega);exact p _ (by have:=hy h2;omega);by_cases w:iX f[k].op=true;rw[nY w (by simpa using h2)]at hc;rw[cS.1 hc];exact p _ (by have:=hx w;omega);rw[lj (by simpa using w)]at hc;cases hc
theorem tP (h:yM f) (hi:i<f.length):(gv (eA f i)).length<=i+1:=by
 have p:mK ((trees f).take (i+1)):=λk hk c hc=>by
  rw[du]at hk;rw[List.getElem_take]at hc;have:=h.pP k aH c hc;rw[List.take_take,Nat.min_eq_left aH];exact this
 have hm:eA f i∈(trees f).take (i+1):=by
  rw[ju hi,List.mem_take_iff_getElem];exact⟨i,by rw[fW];omega,rfl⟩
 have hs:=lA (eA f i) (ts:=[]) p hm (List.nil_subset _);have C:=(jA (eA f i)).nd;rw[ke];have w:=C.length_le_of_subset hs;rw[du]at w;omega
end
section
variable{a e g i op:Int}{n:NV}
theorem Ew  (h:¬(1<=n.op/\n.op<=21)):kO n a=10:=if_pos h
theorem HD  (h:1<=n.op/\n.op<=21)(hb:zh (iX n.op) n.x a=false):kO n a=3:=by
 rw[kO,if_neg (by simp[h]),if_pos (by rw[hb];simp)]
theorem HC  (h:1<=n.op/\n.op<=21)(hb:zh (ij n.op) n.y a=false):kO n a=3:=by
 rw[kO,if_neg (by simp[h]),if_pos (by rw[hb];simp)]
theorem oT  (h:1<=n.op/\n.op<=21)(hx:zh (iX n.op) n.x a=true)(hy:zh (ij n.op) n.y a=true):kO n a=jH n.op n.i n.e n.g:=by
 rw[kO,if_neg (by simp[h]),if_neg (by rw[hx,hy];simp)]
theorem KX (h:(!iO op && i !=0||op !=17 && e !=0||!qG op && g !=0)=true):jH op i e g=3:=if_pos h
theorem vU (h:(!iO op && i !=0||op !=17 && e !=0||!qG op && g !=0)=false)(h2:(op==3 && !(decide (0<=i) && decide (i<8))||uV op && !(decide (0<=i) && decide (i<4))||op==17 && !(decide (0<=i) && decide (i<8) && decide (0<=e) && decide (e<8))||qG op && !(decide (1<=g) && decide (g<16)))=true):jH op i e g=2:=by
 rw[jH,if_neg (by rw[h];simp),if_pos h2]
theorem KY (h:(!iO op && i !=0||op !=17 && e !=0||!qG op && g !=0)=false)(h2:(op==3 && !(decide (0<=i) && decide (i<8))||uV op && !(decide (0<=i) && decide (i<4))||op==17 && !(decide (0<=i) && decide (i<8) && decide (0<=e) && decide (e<8))||qG op && !(decide (1<=g) && decide (g<16)))=false):jH op i e g=0:=by
 rw[jH,if_neg (by rw[h];simp),if_neg (by rw[h2];simp)]
end
end Go.Proofs.Wit
namespace Go.Proofs.Wit
open Go Go.RowKit
def reach(ops:aj):Nat->aq->aq
 |0,acc=>acc
 |j+1,acc=>reach ops j (cond (acc.any λz=>(gZ ops z).contains j) (j::acc) acc)
def below(ops:aj)(x:Nat):aq:=reach ops x [x]
def forced(ops:aj):aq->aq->Bool
 |listed,[]=>(eR ops listed).isEmpty
 |listed,x::rest=>(eR ops listed==[x]) && forced ops (x::listed) rest
def xL(ops:aj)(_l:Fl)(m:Nat):Bool:=
 Nat.ble m ops.size &&
 (List.range ops.size).all (λi=>(gZ ops i).all (λj=>Nat.blt j i)) &&
 (List.range m).all (λi=>match ops[i]? with
  |none=>false
  |some o=>kU o.op && match o.dst with
   |none=>false
   |some d=>(List.range ops.size).all (λj=>Nat.beq j i||!(gh ops j==some d)) &&
    (lW ops o).all (λs=>(List.range ops.size).all (λj=>!(gh ops j==some s)||(gZ ops i).contains j||(Nat.ble m j && (below ops j).contains i)))) &&
 (List.range' m (ops.size - m)).all (λi=>match ops[i]? with
  |none=>false
  |some o=>(lW ops o).all (λs=>(List.range m).all (λj=>!(gh ops j==some s)||(gZ ops i).contains j)))
section
variable{P:av}{r:ah}{f:ay}{R:aC->aB->Prop}{w0:aB}{S:aq}{Y:List (Nat×Obj)}{n:Nat}{k:al}{l:Fl}{h:Hl}{ops:aj}
def ik(P:av)(w0:aB)(S:aq)(n:Nat)(h:Hl)(ops:aj)(i:Nat)(l:Fl)(d:Nat)(K:aC->Hl->Prop):Prop:=
 ∃o,ops[i]?=some o/\o.dst=some d/\ko o.op=false/\kU o.op=true/\Nat.blt d n=true/\
  ((eL ops l o.guard=true/\∀(t:af) (w:aB) (Ds:aq) (Y':List (Nat×Obj)),om n t l->St w0 S w h Y'->
   (∃v w' h',(execOp (Act.eval ⟨t,Ds.map mark⟩) o).run P w=.ok (.value v) w'/\St w0 S w' h' Y'/\K v h')\/
   (∃gf args,∃Rc:aC->aB->Prop,(execOp (Act.eval ⟨t,Ds.map mark⟩) o).run P w=.ok (.enter gf args) w/\(Calls P gf args w λe w'=>∃v,e=.returned v/\Rc v w')/\∀v w',Rc v w'->∃h',St w0 S w' h' Y'/\K v h'))\/
  (qM ops l o.guard=true/\K undef h))
theorem ik.v{i d:Nat}{v:aC}{K:aC->Hl->Prop}(hv:eD P w0 S n h ops i l d v)(hsel:∀o,ops[i]?=some o->kU o.op=true)(hk:K v h):ik P w0 S n h ops i l d K:=by
 obtain⟨o,ho,hw,hdst,hnd,hd,hr⟩:=hv;exact⟨o,ho,hdst,hnd,hsel o ho,hd,.inl ⟨hw,λt w Ds Y' hF hS=>.inl (by
  obtain⟨nx,h1,rfl⟩:=hr t w Ds Y' hF hS;exact⟨v,w,h,h1,hS,hk⟩)⟩⟩
section
variable{i d:Nat}{ty:ax}{pos:aA}{aft:ak}{g:Option (Nat×Bool)}{K:aC->Hl->Prop}
theorem ik.GB{e:ax}{z:aC}(ho:ops[i]?=some ⟨some d,.alloc e,ty,pos,aft,g⟩)(hw:eL ops l g=true)(hd:Nat.blt d n=true)(hz:∀w,(zeroValue e).run P w=.ok z w)
  (hk:∀b,K (aQ b) ((some b,.cells z.cells e)::h)):ik P w0 S n h ops i l d K:=
 ⟨_,ho,rfl,rfl,rfl,hd,.inl ⟨hw,λt w Ds Y' hF hS=>.inl ⟨aQ w.heap.size,w.alloc (.cells z.cells e),_,by
  simp[execOp,Instr.alloc,hz,newVar,newRow],hS.alloc rfl,hk _⟩⟩⟩
theorem ik.bx{e:ax}{x:au}{v:aC}(ho:ops[i]?=some ⟨some d,.box e x,ty,pos,aft,g⟩)(hw:eL ops l g=true)(hx:eZ l x=some v)(hd:Nat.blt d n=true)
  (hk:∀b,K (aQ b) ((some b,.cells v.cells e)::h)):ik P w0 S n h ops i l d K:=
 ⟨_,ho,rfl,rfl,rfl,hd,.inl ⟨hw,λt w Ds Y' hF hS=>.inl ⟨aQ w.heap.size,w.alloc (.cells v.cells e),_,by
  simp[execOp,Instr.box,hF.eZ hx,newVar,newRow],hS.alloc rfl,hk _⟩⟩⟩
theorem ik.xv{t e:ax}{len:Nat}{az:Array (Nat×au)}{ps:List (Nat×aC)}{z:aC}{size:Nat}{c:ai}(ho:ops[i]?=some ⟨some d,.buildSlice t len az,ty,pos,aft,g⟩)(hw:eL ops l g=true)(hx:nX l az.toList=some ps)(hd:Nat.blt d n=true)
  (hu:P.underlying t=some (.slice e))(hs:∀w,(sizeOf e).run P w=.ok size w)(hz:∀w,(zeroValue e).run P w=.ok z w)(hm:Nat.ble (len*size) 16777216=true)
  (hf:qR (λi=>some (i*size,size)) ((List.range (len*size)).map λi=>z.cells.toList.getD (i%z.cells.toList.length) default) ps=some c)
  (hk:∀b,K (.slice (aR b) len len) ((some b,.cells (c++[]).toArray e)::h)):ik P w0 S n h ops i l d K:=
 ⟨_,ho,rfl,rfl,rfl,hd,.inl ⟨hw,λ_ w Ds _ hF hS=>.inl ⟨.slice (aR w.heap.size) len len,w.alloc (.cells (c++[]).toArray e),_,
  Cq hF hx hu hs hz hm hf Ds w,hS.alloc rfl,hk _⟩⟩⟩
theorem ik.fR{t e:ax}{len:Nat}{az:Array (Nat×au)}{ps:List (Nat×aC)}{z:aC}{size:Nat}{c:ai}(hu:P.underlying t=some (.slice e))(hs:∀w,(sizeOf e).run P w=.ok size w)(hz:∀w,(zeroValue e).run P w=.ok z w)(hk:∀b,K (.slice (aR b) len len) ((some b,.cells (c++[]).toArray e)::h))(ho:ops[i]?=some ⟨some d,.buildSlice t len az,ty,pos,aft,g⟩:=by exact rfl)(hw:eL ops l g=true:=by exact rfl)(hx:nX l az.toList=some ps:=by exact rfl)(hd:Nat.blt d n=true:=by exact rfl)(hm:Nat.ble (len*size) 16777216=true:=by exact rfl)(hf:qR (λi=>some (i*size,size)) ((List.range (len*size)).map λi=>z.cells.toList.getD (i%z.cells.toList.length) default) ps=some c:=by exact rfl):ik P w0 S n h ops i l d K:=ik.xv (ho:=ho) (hw:=hw) (hx:=hx) (hd:=hd) (hu:=hu) (hs:=hs) (hz:=hz) (hm:=hm) (hf:=hf) (hk:=hk)
theorem ik.sP{az:aa}{ts:ab}{cal:au}{gf:ay}{fs cs vs:ai}(Rc:aB->aC->aB->Prop)(ho:ops[i]?=some ⟨some d,.call ⟨.value cal,az,ts⟩,ty,pos,aft,g⟩)(hw:eL ops l g=true)
  (hc:eZ l cal=some (.func (.func gf) fs.toArray cs.toArray))(hx:iw l az.toList=some vs)(hd:Nat.blt d n=true)(hcf:∀args w,(callFunc gf args).run P w=.ok (.enter gf args) w)
  (hcall:∀w Y',St w0 S w h Y'->Cn P gf (fs++vs++cs) w (Rc w))
  (hk:∀v w w' Y',St w0 S w h Y'->Ex [] w w'->Rc w v w'->∃h',St w0 S w' h' Y'/\K v h'):ik P w0 S n h ops i l d K:=
 ⟨_,ho,rfl,rfl,rfl,hd,.inl ⟨hw,λt w Ds Y' hF hS=>.inr ⟨gf,(fs++vs++cs).toArray,λu w'=>Ex [] w w'/\Rc w u w',by
  have e1:=mq (P:=P) (ty:=ty) (ts:=ts) (Ds:=Ds) (w:=w) hF hc hx;simp only[execOp,Sem.run_bind,e1,Result.andThen_ok,invoke,hcf];simp,hcall w Y' hS,λu w' ⟨he,hu⟩=>hk u w w' Y' hS he hu⟩⟩⟩
end
theorem ik.call{i d:Nat}{ty:ax}{pos:aA}{aft:ak}{g:Option (Nat×Bool)}{K:aC->Hl->Prop}{az:aa}{ts:ab}{cal:au}{gf:ay}{vs:ai}(Rc:aB->aC->aB->Prop)(ho:ops[i]?=some ⟨some d,.call ⟨.value cal,az,ts⟩,ty,pos,aft,g⟩)(hw:eL ops l g=true)
  (hc:eZ l cal=some (.func (.func gf) #[] #[]))(hx:iw l az.toList=some vs)(hd:Nat.blt d n=true)(hcf:∀args w,(callFunc gf args).run P w=.ok (.enter gf args) w)
  (hcall:∀w Y',St w0 S w h Y'->Cn P gf vs w (Rc w))
  (hk:∀v w w' Y',St w0 S w h Y'->Ex [] w w'->Rc w v w'->∃h',St w0 S w' h' Y'/\K v h'):ik P w0 S n h ops i l d K:=
 .sP (fs:=[]) (cs:=[]) Rc ho hw hc hx hd hcf (λw Y' hS=>by rw[dI,dC];exact hcall w Y' hS) hk
def Ac(ops:aj)(m:Nat):aq->Bool
 |[]=>true
 |x::_=>(List.range m).all (λi=>(below ops x).contains i && !(Nat.beq i x))
def Tl(P:av)(r:ah)(f:ay)(R:aC->aB->Prop)(w0:aB)(S:aq)(Y:List (Nat×Obj))(n:Nat)(k:al)(ops:aj)(m:Nat)(hb:Hl):Nat->aq->Fl->Hl->Prop
 |0,_,_,_=>False
 |q+1,TL,l,h=>
  (∃rest,forced ops (TL++List.range m) rest=true/\Ac ops m rest=true/\eB P r f R w0 S Y n (.inRegion ops rest::k) l h)\/
  (eR ops (TL++List.range m)≠[]/\∀i∈eR ops (TL++List.range m),∃d,ik P w0 S n h ops i l d (λv h'=>hb.Sublist h'/\Tl P r f R w0 S Y n k ops m hb q (i::TL) ((d,v)::l) h'))
def jX(P:av)(w0:aB)(S:aq)(n:Nat)(ops:aj)(h:Hl)(F:Fl->Prop)(i m:Nat)(l:Fl):Prop:=
 ∀t,om n t l->L8 P w0 S n h ops (λt'=>∃l',om n t' l'/\F l') i m t
theorem jX.nil{F:Fl->Prop}{i:Nat}(hg:F l):jX P w0 S n ops h F i 0 l:=λ_ hF=>⟨l,hF,hg⟩
theorem jX.v{F:Fl->Prop}{i m d:Nat}{v:aC}(hv:eD P w0 S n h ops i l d v)(hg:jX P w0 S n ops h F (i+1) m ((d,v)::l)):jX P w0 S n ops h F i (m+1) l:=by
 intro t hF;obtain⟨o,ho,hw,hdst,hnd,hd,hr⟩:=hv
 exact⟨d,v,⟨o,ho,hdst,by simpa[ed]using hd,hnd,.inl ⟨jV hF hw,λw Ds Y' hS=>by
  obtain⟨nx,h1,rfl⟩:=hr t w Ds Y' hF hS;exact .inl h1⟩⟩,hg _ (hF.put v hd)⟩
theorem xg{x:Nat}{listed:aq}(hc:∀j∈listed,∀e∈gZ ops j,e∈listed)(hx:∀e∈gZ ops x,e∈listed):∀{j:Nat} {acc:aq},(∀z∈acc,z=x\/z∈listed)->∀y∈reach ops j acc,y=x\/y∈listed
 |0,_,ha,y,hy=>ha y hy
 |j+1,acc,ha,y,hy=>by
  rw[reach]at hy;refine xg hc hx (acc:=cond (acc.any λz=>(gZ ops z).contains j) (j::acc) acc) (λz hz=>?_) y hy;cases hb:acc.any λz=>(gZ ops z).contains j with
  |false=>rw[hb]at hz;exact ha z hz
  |true=>
   rw[hb]at hz;rcases dS.1 hz with rfl|hz;obtain⟨u,hu,hd⟩:=List.any_eq_true.1 hb;have hd:=bS.1 hd;rcases ha u hu with rfl|h;exact .inr (hx _ hd);exact .inr (hc u h _ hd);exact ha z hz
theorem xh{x:Nat}{listed:aq}(hc:∀j∈listed,∀e∈gZ ops j,e∈listed)(hx:∀e∈gZ ops x,e∈listed):∀y∈below ops x,y=x\/y∈listed:=
 xg hc hx (λ_ hz=>.inl (cS.1 hz))
theorem gl{listed:aq}{i:Nat}:i∈eR ops listed↔i<ops.size/\i∉listed/\∀e∈gZ ops i,e∈listed:=by
 simp[eR]
structure xB (ops:aj) (m:Nat):Prop where
  size:m<=ops.size
  lt:∀i,i<ops.size->∀j∈gZ ops i,j<i
  Gv:∀i,i<m->∀o,ops[i]?=some o->kU o.op=true
  inj:∀i j d,i<m->j<ops.size->gh ops i=some d->gh ops j=some d->i=j
  LZ:∀i,i<m->∀o,ops[i]?=some o->∀s∈lW ops o,∀j,j<ops.size->gh ops j=some s->j∈gZ ops i\/(m<=j/\i∈below ops j)
  OI:∀i,m<=i->∀o,ops[i]?=some o->∀s∈lW ops o,∀j,j<m->gh ops j=some s->j∈gZ ops i
theorem rF{m:Nat}(hc:xL ops l m=true):xB ops m:=by
 simp only[xL,di,dk,dO,List.mem_range'_1,ed,Nat.ble_eq]at hc;obtain⟨⟨⟨hsz,hlt⟩,hr⟩,ht⟩:=hc;have hat:∀i,i<m->∃o d,ops[i]?=some o/\o.dst=some d/\kU o.op=true/\(∀j,j<ops.size->j=i\/gh ops j≠some d)/\(∀s∈lW ops o,∀j,j<ops.size->(gh ops j≠some s\/j∈gZ ops i)\/(m<=j/\i∈below ops j)):=by
  intro i hi;have:=hr i hi;cases ho:ops[i]? with
  |none=>simp[ho]at this
  |some o=>
   cases hd:o.dst with
   |none=>simp[ho,hd]at this
   |some d=>
    simp only[ho,hd,di,dk,dO,dB,Nat.beq_eq,c6,beq_eq_false_iff_ne,bS,Nat.ble_eq]at this;exact⟨o,d,rfl,hd,this.1,this.2.1,this.2.2⟩
 refine⟨hsz,hlt,λi hi o ho=>?_,λi j d hi hj h1 h2=>?_,λi hi o ho s hs j hj hd=>?_,λi hi o ho s hs j hj hd=>?_⟩;obtain⟨o',d,h1,_,h3,_⟩:=hat i hi;rw[ho]at h1;cases h1;exact h3;obtain⟨o,d',e1,e2,_,e5,_⟩:=hat i hi;have:d'=d:=by simp[gh,e1,e2]at h1;exact h1
 subst this;rcases e5 j hj with e|e;exact e.symm;exact absurd h2 e;obtain⟨o',d,e1,_,_,_,e6⟩:=hat i hi;rw[ho]at e1;cases e1;rcases e6 s hs j hj with(e|e)|e;exact absurd hd e;exact .inl e;exact .inr e;have hiN:=(aX.1 ho).1;have:=ht i ⟨hi,aH⟩;simp only[ho,dk,dB,c6,beq_eq_false_iff_ne,bS,dO]at this;rcases this s hs j hj with e|e;exact absurd hd e;exact e
theorem rQ{a b:aq}(h:∀j,j∈a↔j∈b):eR ops a=eR ops b:=by
 have:∀j,a.contains j=b.contains j:=λj=>by rw[dA];simp[h j]
 unfold eR;simp only[this]
theorem xn:∀{rest listed:aq} {fuel τ:Nat} {arr:Array Bool},forced ops listed rest=true->arr.size=ops.size->(∀j,arr.getD j false=listed.contains j)->rest.length<=fuel->
  Region.linearise.go .any ops fuel τ arr []=rest
 |[],listed,fuel,τ,arr,hf,hs,h,_=>by
  have h0:eR ops listed=[]:=by simpa[forced]using hf
  cases fuel with
  |zero=>rfl
  |succ fuel=>
   simp only[Region.linearise.go];change (match (Region.ready .any ops arr)[_%(Region.ready .any ops arr).length]? with
    |some i=>_
    |none=>[].reverse)=[];rw[ox hs h,h0];rfl
 |x::rest,listed,0,τ,arr,hf,hs,h,hl=>by simp at hl
 |x::rest,listed,fuel+1,τ,arr,hf,hs,h,hl=>by
  simp only[forced,di,eg]at hf;simp only[Region.linearise.go];change (match (Region.ready .any ops arr)[_%(Region.ready .any ops arr).length]? with
   |some i=>Region.linearise.go .any ops fuel (τ / (Region.ready .any ops arr).length) (arr.setIfInBounds i true) [i]
   |none=>[].reverse)=_;rw[ox hs h,hf.1];simp only[bV,Nat.mod_one,List.getElem?_cons_zero];rw[linearise_go_acc,List.reverse_singleton,List.singleton_append];have hx:x∈eR ops listed:=by rw[hf.1];simp
  have hxl:=(gl.1 hx).1;rw[xn (listed:=x::listed) hf.2 (by simpa using hs) (λj=>?_) (by simpa using hl)];rw[fQ aH,h j,List.contains_cons];split;rename_i e;subst e;simp;rename_i e;rw[beq_false_of_ne (Ne.symm e)];rfl
theorem vS:∀{rest listed:aq},forced ops listed rest=true->rest.length<=(List.range ops.size).countP (λj=>!listed.contains j)
 |[],_,_=>aG
 |x::rest,listed,hf=>by
  simp only[forced,di,eg]at hf;have hx:x∈eR ops listed:=by rw[hf.1];simp
  obtain⟨h1,h2,_⟩:=gl.1 hx;have ih:=vS hf.2;have:=qB (l:=List.range ops.size) (p:=λj=>!(x::listed).contains j) (q:=λj=>!listed.contains j) (λy _ hy=>by simp at hy⊢;exact hy.2) ⟨x,by simpa using h1,by simpa using h2,by simp⟩;simp only[dt];omega
theorem px.P8{i d:Nat}{v:aC}{t:af}{rest:aq}{w:aB}{Ds:aq}{hb:Hl}(ho:px P w0 S n hb ops i t d v)(hs:hb.Sublist h)(hS:St w0 S w h (uM Ds++Y))
  (hk:∀w',St w0 S w' h (uM Ds++Y)->jK P r f R (.inRegion ops rest::k) (t.setIfInBounds d v) (Ds.map mark) w'):jK P r f R (.inRegion ops (i::rest)::k) t (Ds.map mark) w:=by
 obtain⟨o,h1,h2,h3,h4,h5⟩:=ho;rcases h5 with⟨a,b⟩|⟨a,rfl⟩;rcases b w Ds _ (hS.iV hs)with hb|⟨gf,args,hb,hcall⟩;refine jK.op h1 a (iy h4) hb (.inl rfl) ?_;rw[h2];exact hk w hS;refine jK.call h1 a (iy h4) hb hcall (λu w2 hu=>?_);obtain⟨he,rfl⟩:=hu;rw[h2];exact hk w2 (hS.later he);refine mh h1 a ?_;rw[h2];exact hk w hS
theorem oN{o:Oper}{t t':af}(hs:t'.size=t.size)(he:∀s∈lW ops o,t'.getD s undef=t.getD s undef):Region.wanted o (yielded ops t')=Region.wanted o (yielded ops t):=by
 unfold Region.wanted;cases hg:o.guard with
 |none=>rfl
 |some p=>
  obtain⟨j,want⟩:=p;have:yielded ops t' j=yielded ops t j:=by
   unfold yielded;cases hd:(ops[j]?).bind (·.dst)with
   |none=>rfl
   |some dj=>
    simp only[Option.bind_some];rw[nM hs (he dj (by simp[lW,hg,gh,hd]))]
  simp only[this]
theorem ik.go{i d:Nat}{K:aC->Hl->Prop}{T t:af}{rest:aq}{w:aB}{Ds:aq}(hm:ik P w0 S n h ops i l d K)(hF:om n T l)(hs:t.size=T.size)
  (he:∀o,ops[i]?=some o->∀s∈lW ops o,t.getD s undef=T.getD s undef)(hS:St w0 S w h (uM Ds++Y))
  (hk:∀v w' h',K v h'->St w0 S w' h' (uM Ds++Y)->jK P r f R (.inRegion ops rest::k) (t.setIfInBounds d v) (Ds.map mark) w'):jK P r f R (.inRegion ops (i::rest)::k) t (Ds.map mark) w:=by
 obtain⟨o,ho,hdst,hnd,hsel,hd,hr⟩:=hm;have hw:=oN (ops:=ops) (o:=o) hs (he o ho);rcases hr with⟨hwant,hr⟩|⟨hskip,hK⟩;have hexec:execOp (Act.eval ⟨t,Ds.map mark⟩) o=execOp (Act.eval ⟨T,Ds.map mark⟩) o:=execOp_congr (ρ':=Act.eval ⟨T,Ds.map mark⟩) o (λcs bb e=>by rw[e]at hsel;cases hsel) (λx hx=>by
  cases x with
  |tmp s=>exact he o ho s (by
    simp only[lW,dG];exact .inr (cR.2 ⟨.tmp s,by simpa using hx,rfl⟩))
  |const v=>rfl
  |global g=>rfl
  |func g=>rfl);rcases hr T w Ds _ hF hS with⟨v,w',h',h1,h2,h3⟩|⟨gf,args,Rc,h1,h2,h3⟩;refine jK.op ho (hw.trans (jV hF hwant)) (iy hnd) (by rw[hexec];exact h1) (.inl rfl) ?_;rw[hdst];exact hk v w' h' h3 h2;refine jK.call ho (hw.trans (jV hF hwant)) (iy hnd) (by rw[hexec];exact h1) h2 (λu w2 hu=>?_);obtain⟨h',h4,h5⟩:=h3 u w2 hu;rw[hdst];exact hk u w2 h' h5 h4;refine mh ho (hw.trans (rK hF hskip)) ?_;rw[hdst];exact hk undef w h hK hS
theorem wR{m:Nat}(hf:xB ops m){D:Nat->Nat}{V:Nat->aC}{t0:af}{hB:Hl}(ht0:t0.size=n)
  (hout:∀j,j<m->px P w0 S n hB ops j (yU D V t0 j) (D j) (V j)):
  ∀(fuel τ:Nat) (arr:Array Bool) (TL:aq) (q:Nat) (l:Fl) (h:Hl) (t T:af),arr.size=ops.size->(∀j,arr.getD j false=true->∀e∈gZ ops j,arr.getD e false=true)->
   (∀j,m<=j->(arr.getD j false=true↔j∈TL))->(∀j∈TL,m<=j)->om n T l->Tl P r f R w0 S Y n k ops m hB q TL l h->hB.Sublist h->t.size=n->
   (∀j,j<m->T.getD (D j) undef=V j)->(∀s,(∀j,j<m->arr.getD j false=false->D j≠s)->t.getD s undef=T.getD s undef)->(∀s,(∀j,j<m->D j≠s)->(∀j,m<=j->j<ops.size->gh ops j=some s->arr.getD j false=false)->T.getD s undef=t0.getD s undef)->
   (List.range ops.size).countP (λj=>!arr.getD j false)<=fuel->∀w Ds,St w0 S w h (uM Ds++Y)->jK P r f R (.inRegion ops (Region.linearise.go .any ops fuel τ arr [])::k) t (Ds.map mark) w:=by
 have hDst:∀j,j<m->gh ops j=some (D j):=λj hj=>by
  obtain⟨o,h1,h2,_⟩:=hout j hj;simp[gh,h1,h2]
 have hDlt:∀j,j<m->D j<t0.size:=λj hj=>by
  obtain⟨o,_,_,h3,_⟩:=hout j hj;omega
 have hmN:=hf.size;have hDinj:∀i j,i<m->j<m->D i=D j->i=j:=λi j hi hj e=>hf.inj i j (D i) hi aH (hDst i hi) (by rw[hDst j hj,e]);have hsw:∀{fuel τ:Nat} {arr:Array Bool} {TL rest:aq} {l:Fl} {h:Hl} {t T:af},arr.size=ops.size->(∀j,m<=j->(arr.getD j false=true↔j∈TL))->(∀j∈TL,m<=j)->om n T l->t.size=n->
   (∀s,(∀j,j<m->arr.getD j false=false->D j≠s)->t.getD s undef=T.getD s undef)->(∀j,j<m->arr.getD j false=true)->forced ops (TL++List.range m) rest=true->
   eB P r f R w0 S Y n (.inRegion ops rest::k) l h->(List.range ops.size).countP (λj=>!arr.getD j false)<=fuel->∀w Ds,St w0 S w h (uM Ds++Y)->jK P r f R (.inRegion ops (Region.linearise.go .any ops fuel τ arr [])::k) t (Ds.map mark) w:=by
  intro fuel τ arr TL rest l h t T hls hTL hTm hF hts hb hall hfo hg hc w Ds hS;have hcont:∀j,arr.getD j false=(TL++List.range m).contains j:=λj=>by
   rw[dA,bS,dG,dO];rcases Nat.lt_or_ge j m with hj|hj;exact⟨λ_=>.inr hj,λ_=>hall j hj⟩;exact⟨λx=>.inl ((hTL j hj).1 x),λx=>(hTL j hj).2 (by rcases x with x|x;exact x;omega)⟩
  have hlen:=vS hfo;have e1:(λj=>!(TL++List.range m).contains j)=λj=>!arr.getD j false:=by funext j;rw[hcont]
  rw[e1]at hlen;rw[xn hfo hls hcont aH];have ht:t=T:=Array.ext_getElem? (λs=>nM (by rw[hts,hF.1]) (hb s (λj hj hu=>by rw[hall j hj]at hu;cases hu)));rw[ht];exact hg T w Ds hF hS
 intro fuel
 induction fuel with
 |zero=>
  intro τ arr TL q l h t T hls hcl hTL hTm hF htl hsub hts ha hb hcb hc w Ds hS;have hl:∀j,j<ops.size->arr.getD j false=true:=λj hj=>by
   have:=List.countP_eq_zero.1 (Nat.le_zero.1 hc) j (by simpa using hj);simpa using this
  cases q with
  |zero=>exact htl.elim
  |succ q=>
   rcases htl with⟨rest,h1,_,h3⟩|⟨hne,_⟩;exact hsw hls hTL hTm hF hts hb (λj hj=>hl j aH) h1 h3 hc w Ds hS;exfalso;apply hne;rw[List.eq_nil_iff_forall_not_mem];intro j hj;obtain⟨a1,a2,_⟩:=gl.1 hj;apply a2;rw[dG,dO];rcases Nat.lt_or_ge j m with hj|hj;exact .inr hj;exact .inl ((hTL j hj).1 (hl j a1))
 |succ fuel ih=>
  intro τ arr TL q l h t T hls hcl hTL hTm hF htl hsub hts ha hb hcb hc w Ds hS;have hready:(∃j,j<ops.size/\arr.getD j false=false)->Region.ready .any ops arr≠[]:=by
   rintro ⟨j,hj,hu⟩;have key:∀q,q<ops.size->arr.getD q false=false->Region.ready .any ops arr≠[]:=by
    intro q
    induction q using Nat.strongRecOn with
    |_ q ihq=>
     intro hq hqu;by_cases hb:∃e∈gZ ops q,arr.getD e false=false;obtain⟨e,he,heu⟩:=hb;have hlt:=hf.lt q hq e he;exact ihq e hlt aH heu;obtain⟨o,ho⟩:∃o,ops[q]?=some o:=⟨ops[q],bd hq⟩;have:q∈Region.ready .any ops arr:=by
      rw[mem_ready];refine⟨by rw[sr aH];exact hqu,o,ho,λe he hbd=>?_⟩;cases hx:arr.getD e.on false with
      |true=>rfl
      |false=>exact absurd ⟨e.on,(r8 ho).2 ⟨e,he,hbd,rfl⟩,hx⟩ hb
     exact List.ne_nil_of_mem this
   exact key j hj hu
  have hrT:∀i,m<=i->i<ops.size->arr.getD i false=false->(∀e∈gZ ops i,arr.getD e false=true)->i∈eR ops (TL++List.range m):=λi him hiN hu hd=>by
   rw[gl];refine⟨hiN,λhx=>?_,λe he=>?_⟩;rw[dG,dO]at hx;rcases hx with hx|hx;rw[(hTL i him).2 hx]at hu;cases hu;omega;rw[dG,dO];rcases Nat.lt_or_ge e m with hj|hj;exact .inr hj;exact .inl ((hTL e hj).1 (hd e he))
  by_cases hdone:∃rest,forced ops (TL++List.range m) rest=true/\eB P r f R w0 S Y n (.inRegion ops rest::k) l h/\∀j,j<m->arr.getD j false=true;obtain⟨rest,h1,h2,h3⟩:=hdone;exact hsw hls hTL hTm hF hts hb h3 h1 h2 hc w Ds hS;simp only[Region.linearise.go];change jK P r f R (.inRegion ops (match (Region.ready .any ops arr)[τ%(Region.ready .any ops arr).length]? with
   |some i=>Region.linearise.go .any ops fuel (τ / (Region.ready .any ops arr).length) (arr.setIfInBounds i true) [i]
   |none=>[].reverse)::k) t (Ds.map mark) w;cases hi:(Region.ready .any ops arr)[τ%(Region.ready .any ops arr).length]? with
  |none=>
   exfalso;have hnil:Region.ready .any ops arr=[]:=by
    cases hr:Region.ready .any ops arr with
    |nil=>rfl
    |cons x xs=>
     rw[hr]at hi;have hlt:τ%(x::xs).length<(x::xs).length:=Nat.mod_lt _ aL;rw[bH hlt]at hi;cases hi
   have hl:∀j,j<ops.size->arr.getD j false=true:=λj hj=>by
    cases hx:arr.getD j false with
    |true=>rfl
    |false=>exact absurd hnil (hready ⟨j,hj,hx⟩)
   cases q with
   |zero=>exact htl.elim
   |succ q=>
    rcases htl with⟨rest,h1,_,h3⟩|⟨hne,_⟩;exact hdone ⟨rest,h1,h3,λj hj=>hl j aH⟩;apply hne;rw[List.eq_nil_iff_forall_not_mem];intro j hj;obtain⟨a1,a2,_⟩:=gl.1 hj;apply a2;rw[dG,dO];rcases Nat.lt_or_ge j m with hj|hj;exact .inr hj;exact .inl ((hTL j hj).1 (hl j a1))
  |some i=>
   have hmem:=cD hi;rw[mem_ready]at hmem;obtain⟨hu,o,ho,hdep⟩:=hmem;have hiN:i<ops.size:=(aX.1 ho).1;rw[sr aH]at hu;simp only[];rw[linearise_go_acc,List.reverse_singleton,List.singleton_append];have hdl:∀e∈gZ ops i,arr.getD e false=true:=λe he=>by
    obtain⟨e',he',hb,rfl⟩:=(r8 ho).1 he;exact hdep e' he' hb
   have hcl':∀j,(arr.setIfInBounds i true).getD j false=true->∀e∈gZ ops j,(arr.setIfInBounds i true).getD e false=true:=by
    intro j hj e he;rw[fQ aH]at hj⊢;split;rfl;split at hj;rename_i hij;subst hij;exact hdl e he;exact hcl j hj e he
   have hcnt:=count_set (listed:=arr) hls hiN hu;by_cases him:i<m;have hgo:=hout i him;have hDi:D i<t.size:=by rw[hts,<-ht0];exact hDlt i him
   have heq:px P w0 S n hB ops i t (D i) (V i):=by
    refine hgo.congr (hf.Gv i him) (by rw[hts,pC,ht0]) (λo' ho' s hs=>?_);obtain⟨g1,g2⟩:=qm hDlt hDinj i aH;by_cases hx:∃j,j<m/\D j=s;obtain⟨j,hj,rfl⟩:=hx;have hjd:=(hf.LZ i him o' ho' (D j) hs j aH (hDst j hj)).resolve_right (λx=>aH);rw[g1 j (hf.lt i hiN j hjd),hb (D j) (λj' hj' hu' e=>by
     have:=hDinj j' j hj' hj e;subst this;rw[hdl j' hjd]at hu';cases hu'),ha j hj];rw[hb s (λj hj _ e=>hx ⟨j,hj,e⟩),g2 s (λj hj e=>hx ⟨j,aH,e⟩)];refine hcb s (λj hj e=>hx ⟨j,hj,e⟩) (λj hmj hj hd=>?_);rcases hf.LZ i him o' ho' s hs j hj hd with hjd|⟨_,hjb⟩;have hjl:=hf.lt i hiN j hjd;omega;cases hja:arr.getD j false with
    |false=>rfl
    |true=>
     exfalso;have:=xh (ops:=ops) (listed:=(List.range ops.size).filter (λj=>arr.getD j false)) (x:=j) (λj hj e he=>by
      rw[dH,dO]at hj⊢;have hlt:=hf.lt j hj.1 e he;exact⟨aH,hcl j hj.2 e he⟩) (λe he=>by
      rw[dH,dO];have hlt:=hf.lt j hj e he;exact⟨aH,hcl j hja e he⟩) i hjb;rcases this with h|h;omega;rw[(dH.1 h).2]at hu;cases hu
   refine heq.P8 hsub hS (λw hS=>?_);refine ih _ _ TL q l h _ T (by simpa using hls) hcl' (λj hj=>?_) hTm hF htl hsub (by simpa using hts) ha (λs hs=>?_) (λs hs1 hs2=>hcb s hs1 (λj hj hjN hd=>by
    have:=hs2 j hj hjN hd;rwa[fQ aH,if_neg aH]at this)) aH w Ds hS;rw[fQ aH,if_neg aH];exact hTL j hj;rw[jN hDi];split;rename_i e;subst e;exact(ha i him).symm;rename_i e;refine hb s (λj hj hu'=>?_);by_cases e2:i=j;subst e2;exact e;exact hs j hj (by rw[fQ aH,if_neg e2];exact hu')
   -- of the tail
   have him':m<=i:=aH;have hir:=hrT i him' hiN hu hdl;cases q with
   |zero=>exact htl.elim
   |succ q=>
    rcases htl with⟨rest,h1,hbel,h3⟩|⟨_,hop⟩;exfalso;cases rest with
    |nil=>
     have h0:eR ops (TL++List.range m)=[]:=by simpa[forced]using h1
     rw[h0]at hir;cases hir
    |cons x rest=>
     have hx:eR ops (TL++List.range m)=[x]:=by
      simp only[forced,di,eg]at h1;exact h1.1
     rw[hx]at hir;obtain rfl:=cS.1 hir;refine hdone ⟨i::rest,h1,h3,λj hj=>?_⟩;have hmem:j∈below ops i/\j≠i:=by
      have:=dk.1 hbel j (by simpa using hj);rw[di,bS,c6]at this;exact⟨this.1,λe=>by rw[e,Nat.beq_refl]at this;cases this.2⟩
     have:=xh (ops:=ops) (listed:=(List.range ops.size).filter (λj=>arr.getD j false)) (x:=i) (λj hj e he=>by
      rw[dH,dO]at hj⊢;have hlt:=hf.lt j hj.1 e he;exact⟨aH,hcl j hj.2 e he⟩) (λe he=>by
      rw[dH,dO];have hlt:=hf.lt i hiN e he;exact⟨aH,hdl e he⟩) j hmem.1;exact(dH.1 (this.resolve_left hmem.2)).2
    obtain⟨d,hmop⟩:=hop i hir;have hdi:gh ops i=some d:=by
     obtain⟨o',e1,e2,_⟩:=hmop;simp[gh,e1,e2]
    have hdn:d<n:=by
     obtain⟨o',_,_,_,_,hd,_⟩:=hmop;simpa[ed]using hd
    refine hmop.go hF (by rw[hts,hF.1]) (λo' ho' s hs=>?_) hS (λv w' h' hK hS'=>?_);refine hb s (λj hj hu' e=>?_);subst e;have hjd:=hf.OI i him' o' ho' (D j) hs j hj (hDst j hj);rw[hdl j hjd]at hu';cases hu';obtain⟨hsub',htl'⟩:=hK;refine ih _ _ (i::TL) q ((d,v)::l) h' _ (T.setIfInBounds d v) (by simpa using hls) hcl' (λj hj=>?_) (λj hj=>?_) (hF.put v (by simpa[ed]using hdn)) htl' hsub' (by simpa using hts) (λj hj=>?_) (λs hs=>?_) (λs hs1 hs2=>?_) aH w' Ds hS';rw[fQ aH,dS];split;rename_i e;subst e;simp;rename_i e;rw[hTL j hj];exact⟨.inr,λx=>x.resolve_left (Ne.symm e)⟩;rcases dS.1 hj with rfl|hj;exact him';exact hTm j hj;rw[jN (by rw[hF.1];exact hdn)];split;rename_i e;have:=hf.inj j i d hj hiN (by rw[hDst j hj,e]) hdi;omega;exact ha j hj;rw[jN (by rw[hts];exact hdn),jN (by rw[hF.1];exact hdn)];split;rfl;refine hb s (λj hj hu'=>hs j hj ?_);rw[fQ aH,if_neg aH];exact hu';rw[jN (by rw[hF.1];exact hdn)];split;rename_i e;have:=hs2 i him' hiN (by rw[hdi,e]);rw[fQ aH,if_pos rfl]at this;cases this;refine hcb s hs1 (λj hj hjN hd=>?_);have:=hs2 j hj hjN hd;rw[fQ aH]at this;split at this;cases this;exact this
theorem eB.Jl{id:Nat}(m q:Nat)(hmix:P.follows .mixedOrders=true)(hc:xL ops l m=true)(hg:jX P w0 S n ops h (λl'=>Tl P r f R w0 S Y n k ops m h q [] l' h) 0 m l):eB P r f R w0 S Y n (.code (.region id ops true)::k) l h:=by
 intro t w Ds hF hS;have hf:=rF hc;refine .m6 (λτ=>?_);obtain⟨D,V,hout,l',hF',htl⟩:=(hg t hF).seq;simp only[dX]at hout;simp only[Region.schedule,hmix,Bool.true_or,ew,Region.linearise];have hDst:∀j,j<m->gh ops j=some (D j):=λj hj=>by
  obtain⟨o,h1,h2,_⟩:=hout j hj;simp[gh,h1,h2]
 have hDlt:∀j,j<m->D j<t.size:=λj hj=>by
  obtain⟨o,_,_,h3,_⟩:=hout j hj;rw[hF.1];exact h3
 have hmN:=hf.size;have hDinj:∀i j,i<m->j<m->D i=D j->i=j:=λi j hi hj e=>hf.inj i j (D i) hi aH (hDst i hi) (by rw[hDst j hj,e]);obtain⟨g1,g2⟩:=qm hDlt hDinj m (dZ _);have harr:∀j,(Array.replicate ops.size false).getD j false=false:=λj=>by
  simp[bG];split<;>simp
 refine wR hf hF.1 hout ops.size τ _ [] q l' h t _ aL (λj hj=>?_) (λj _=>?_) aL hF' htl aD hF.1 g1 (λs hs=>?_) (λs hs _=>?_) ?_ _ Ds hS.drew;rw[harr]at hj;cases hj;rw[harr];simp;rw[g2 s (λj hj=>hs j hj (harr j))];exact g2 s (λj hj e=>hs j hj e);exact dV (List.countP_le_length) aL
theorem Tl.sw{m q:Nat}{hb:Hl}{TL:aq}(rest:aq)(h1:forced ops (TL++List.range m) rest=true)(h2:Ac ops m rest=true)
  (hg:eB P r f R w0 S Y n (.inRegion ops rest::k) l h):Tl P r f R w0 S Y n k ops m hb (q+1) TL l h:=.inl ⟨rest,h1,h2,hg⟩
theorem Tl.one{m q i d:Nat}{hb:Hl}{TL:aq}(h1:eR ops (TL++List.range m)=[i])(hm:ik P w0 S n h ops i l d (λv h'=>hb.Sublist h'/\Tl P r f R w0 S Y n k ops m hb q (i::TL) ((d,v)::l) h')):Tl P r f R w0 S Y n k ops m hb (q+1) TL l h:=
 .inr ⟨by rw[h1];simp,λj hj=>by rw[h1]at hj;obtain rfl:=cS.1 hj;exact⟨d,hm⟩⟩
theorem Tl.two{m q i d i2 d2:Nat}{hb:Hl}{TL:aq}(h1:eR ops (TL++List.range m)=[i,i2])(hm:ik P w0 S n h ops i l d (λv h'=>hb.Sublist h'/\Tl P r f R w0 S Y n k ops m hb q (i::TL) ((d,v)::l) h'))
  (hm2:ik P w0 S n h ops i2 l d2 (λv h'=>hb.Sublist h'/\Tl P r f R w0 S Y n k ops m hb q (i2::TL) ((d2,v)::l) h')):Tl P r f R w0 S Y n k ops m hb (q+1) TL l h:=
 .inr ⟨by rw[h1];simp,λj hj=>by
  rw[h1]at hj;rcases dS.1 hj with rfl|hj;exact⟨d,hm⟩;obtain rfl:=cS.1 hj;exact⟨d2,hm2⟩⟩
end
theorem eB.Mo{P:av}{r:ah}{f:ay}{R:aC->aB->Prop}{w0:aB}{S:aq}{Y:List (Nat×Obj)}{n:Nat}{k:al}{l l':Fl}{h h':Hl}(hg:eB P r f R w0 S Y n k l' h')(hl:lY l' l)(hh:∀w Y',St w0 S w h Y'->St w0 S w h' Y'):eB P r f R w0 S Y n k l h:=
 λt w Ds hF hS=>hg t w Ds (hF.sub hl) (hh w _ hS)
theorem gq{P:av}{r:ah}{f:ay}{R:aC->aB->Prop}{w0:aB}{S:aq}{Y:List (Nat×Obj)}{n:Nat}{k:al}{l:Fl}{h:Hl}{ops:aj}{id:Nat}{dr:Bool}{α:Type}(restc:aq)(lf:α->Fl)(hf:α->Hl)
  (hK:∀a,eB P r f R w0 S Y n (.inRegion ops restc::k) (lf a) (hf a))
  (hg:(∀a l h,lY (lf a) l->(∀w Y',St w0 S w h Y'->St w0 S w (hf a) Y')->eB P r f R w0 S Y n (.inRegion ops restc::k) l h)->eB P r f R w0 S Y n (.code (.region id ops dr)::k) l h):eB P r f R w0 S Y n (.code (.region id ops dr)::k) l h:=
 hg (λa _ _ hl hh=>(hK a).Mo hl hh)
section
variable{P:av}{r:ah}{f:ay}{R:aC->aB->Prop}{w0:aB}{S:aq}{Y:List (Nat×Obj)}{n:Nat}{k:al}{l:Fl}{h:Hl}{ops:aj}
end
end Go.Proofs.Wit
