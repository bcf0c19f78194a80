/- Laws of walks, each under its own conditions. -/
import Derived.Test.YtaamcaiglooemaaGreatDoorXP01
set_option maxRecDepth 100000
set_option maxHeartbeats 40000000
namespace Go.Proofs.Wit
open Go Go.RowKit
section
variable{j:Int}{α:Type}{inf:TypeInfo}{a:ae}{sp:ai}{x y:au}{kd:aw}
def A2(w:aB)(a:ae)(xs:List fC):Prop:=Sl w a (xs.map U)
theorem A2.eY{w0 w:aB} {xs:List fC}(h:A2 w0 a xs){S:aq}(e:Ex S w0 w)(hS:∀b o,a=some ⟨b,o,none⟩->b∉S:=by simp):A2 w a xs:=Sl.ex h e hS
theorem A2.at{w:aB} {xs:List fC}(h:A2 w a xs)(k:Nat)(hk:k<xs.length):w.cell? (sK a k)=some (U (xs.getD k 0#64)):=by
 rw[Sl.cell h k (by simpa using hk)];simp[aX,hk]
def Ba{σ:Type}(f:Nat->σ->σ)(s:σ):Nat->σ
 |0=>s
 |k+1=>f k (Ba f s k)
section
variable{P:av}{r:ah}{f:ay}{R:aC->aB->Prop}{w0:aB}{S:aq}{Y:List (Nat×Obj)}{n:Nat}{k:al}{l:Fl}{h:Hl}
variable{ops:aj}{i d:Nat}{rest:aq}{ty:ax}{pos:aA}{aft:ak}{g:Option (Nat×Bool)}
theorem Gj{t e:ax}{len:Nat}(hu:P.underlying t=some (.array len e))(he:∀w,(sizeOf e).run P w=.ok 1 w)(b o:Nat)(kd:aw)(j:Nat)(hj:j<len)(w':aB):
  (Instr.indexAt t (.pointer (some ⟨b,o,none⟩)) (.int kd j)).run P w'=.ok (.pointer (some ⟨b,o+j,none⟩)) w':=by
 simp only[Instr.indexAt,asIntOf,Sem.run_bind,Sem.run_pure,Result.andThen_ok,run_underlying hu,Instr.sureAddr];rw[if_pos ⟨aH,aH⟩];simp only[Sem.run_bind,he,Result.andThen_ok,Sem.run_pure,Addr.add,eH,di];split;rename_i h0;rw[h0];rfl;rfl
theorem qC{t e:ax} {b o len:Nat}  (ho:ops[i]?=some ⟨some d,.indexAddr t x y,ty,pos,aft,g⟩)(hw:fg ops l g=true)
  (hx:fW l x=some (.pointer (some ⟨b,o,none⟩)))(hy:fW l y=some (.int kd j))(hd:Nat.blt d n=true)(hu:P.underlying t=some (.array len e))(he:∀w,(sizeOf e).run P w=.ok 1 w)
  (j':Nat)(hj:j=j')(hlt:j'<len):eS P w0 S n h ops i l d (.pointer (some ⟨b,o+j',none⟩)):=by
 subst hj;exact .of ho hw rfl rfl hd (λt w Ds _ hF _=>⟨.value (.pointer (some ⟨b,o+j',none⟩)),by
  simp only[execOp,hF.fW hx,hF.fW hy,Sem.run_bind,Gj hu he b o kd j' hlt w];rfl,rfl⟩)
end
abbrev ob{α:Type}(enc:α->aC)(e:ax)(xs:List α)(sp:ai):Obj:=.cells (xs.map enc++sp).toArray e (0,0)
section
variable{P:av}{r:ah}{f:ay}{R:aC->aB->Prop}{w0:aB}{S:aq}{Y:List (Nat×Obj)}{n:Nat}{k:al}{l:Fl}{h:Hl}
variable{ops:aj}{i d:Nat}{rest:aq}{ty:ax}{pos:aA}{aft:ak}{g:Option (Nat×Bool)}
theorem Ax{t e:ax}(hu:P.underlying t=some (.slice e)){sz:Nat}(he:∀w,(sizeOf e).run P w=.ok sz w)(b o m cap:Nat)(kd:aw)(j:Nat)(hj:j<m)(w':aB):
  (Instr.indexAt t (.slice (some ⟨b,o,none⟩) m cap) (.int kd j)).run P w'=.ok (.pointer (some ⟨b,o+j*sz,none⟩)) w':=by
 simp only[Instr.indexAt,asIntOf,Sem.run_bind,Sem.run_pure,Result.andThen_ok,run_underlying hu];rw[if_pos ⟨aH,aH⟩];simp only[Sem.run_bind,he,Result.andThen_ok,Sem.run_pure,Addr.add,di];split;rename_i h0;rw[h0];rfl;rfl
theorem iV{t e:ax} {b o m cap:Nat}  (ho:ops[i]?=some ⟨some d,.indexAddr t x y,ty,pos,aft,g⟩)(hw:fg ops l g=true)
  (hx:fW l x=some (.slice (some ⟨b,o,none⟩) m cap))(hy:fW l y=some (.int kd j))(hd:Nat.blt d n=true)(hu:P.underlying t=some (.slice e)){sz:Nat}(he:∀w,(sizeOf e).run P w=.ok sz w)
  (j':Nat)(hj:j=j'/\j'<m):eS P w0 S n h ops i l d (.pointer (some ⟨b,o+j'*sz,none⟩)):=by
 obtain⟨rfl,hlt⟩:=hj;exact .of ho hw rfl rfl hd (λt w Ds _ hF _=>⟨.value (.pointer (some ⟨b,o+j'*sz,none⟩)),by
  simp only[execOp,hF.fW hx,hF.fW hy,Sem.run_bind,Ax hu he b o m cap kd j' hlt w];rfl,rfl⟩)
theorem eS.gh{t e:ax} {b o m cap:Nat}  (hu:P.underlying t=some (.slice e)){sz:Nat}(he:∀w,(sizeOf e).run P w=.ok sz w)(j':Nat)(hj:j=j'/\j'<m)(ho:ops[i]?=some ⟨some d,.indexAddr t x y,ty,pos,aft,g⟩:=by exact rfl)(hw:fg ops l g=true:=by exact rfl)(hx:fW l x=some (.slice (some ⟨b,o,none⟩) m cap):=by exact rfl)(hy:fW l y=some (.int kd j):=by exact rfl)(hd:Nat.blt d n=true:=by exact rfl):eS P w0 S n h ops i l d (.pointer (some ⟨b,o+j'*sz,none⟩)):=iV (ho:=ho) (hw:=hw) (hx:=hx) (hy:=hy) (hd:=hd) (hu:=hu) (he:=he) (j':=j') (hj:=hj)
theorem Lx {enc:α->aC}{xs:List α} {q:Nat}(hq:q<xs.length):(xs.map enc++sp).toArray[0+q*1]?=some (enc xs[q]):=by
 rw[eE,eH];simp[List.getElem?_append,hq]
theorem j7 (enc:α->aC)(dflt:α){t:ax} {b q:Nat}{xs:List α} {e:ax}(ho:ops[i]?=some ⟨some d,.load t x,ty,pos,aft,g⟩)(hw:fg ops l g=true)
  (hx:fW l x=some (.pointer (some ⟨b,0+q*1,none⟩)))(hd:Nat.blt d n=true)(ha:∀w,(isAgg t).run P w=.ok false w)(j:Nat)(hj:h[j]?=some (some b,ob enc e xs sp))(hq:q<xs.length):
  eS P w0 S n h ops i l d (enc (xs.getD q dflt)):=
 eS.wQ ho hw hx hd ha j hj (by rw[Lx hq];simp[aX,hq])
theorem eS.kS (enc:α->aC)(dflt:α){t:ax} {b q:Nat}{xs:List α} {e:ax}(ha:∀w,(isAgg t).run P w=.ok false w)(j:Nat)(hq:q<xs.length)(ho:ops[i]?=some ⟨some d,.load t x,ty,pos,aft,g⟩:=by exact rfl)(hw:fg ops l g=true:=by exact rfl)(hx:fW l x=some (.pointer (some ⟨b,0+q*1,none⟩)):=by exact rfl)(hd:Nat.blt d n=true:=by exact rfl)(hj:h[j]?=some (some b,ob enc e xs sp):=by exact rfl):eS P w0 S n h ops i l d (enc (xs.getD q dflt)):=j7 (enc:=enc) (dflt:=dflt) (ho:=ho) (hw:=hw) (hx:=hx) (hd:=hd) (ha:=ha) (j:=j) (hj:=hj) (hq:=hq)
theorem eQ.xK (enc:α->aC)(v:α){t:ax} {b q:Nat}{xs:List α} {e:ax}(ho:ops[i]?=some ⟨none,.store t x y,ty,pos,aft,g⟩)(hw:fg ops l g=true)
  (hx:fW l x=some (.pointer (some ⟨b,0+q*1,none⟩)))(hy:fW l y=some (enc v))(hz:∀w,(sizeOf t).run P w=.ok 1 w)(hv:(enc v).oneCell'=true)(j:Nat)(hj:h[j]?=some (some b,ob enc e xs sp))(hq:q<xs.length)
  (hk:eQ P r f R w0 S Y n (.inRegion ops rest::k) l (h.set j (some b,ob enc e (xs.set q v) sp))):eQ P r f R w0 S Y n (.inRegion ops (i::rest)::k) l h:=by
 refine eQ.st ho hw hx hy hz hv j hj (by rw[eI];simp;omega) ?_;have:((xs.map enc++sp).toArray.setIfInBounds (0+q*1) (enc v))=((xs.set q v).map enc++sp).toArray:=by
  rw[eE,eH,List.map_set];have hq2:q<(xs.map enc).length:=by simpa using hq
  simp[List.set_append_left _ _ hq2]
 rw[this];exact hk
end
theorem St.fresh{w0 w:aB}{h:Hl}{Y:List (Nat×Obj)}(s:St w0 [] w h Y){j b:Nat}{o:Obj}(hj:h[j]?=some (some b,o)):w0.heap.size<=b:=by
 rcases(s.own _ (cH hj) b rfl).2.2 with h1|h1;exact h1;cases h1
section
variable{P:av}{r:ah}{f:ay}{R:aC->aB->Prop}{w0:aB}{S:aq}{Y:List (Nat×Obj)}{n:Nat}{k:al}{l:Fl}{h:Hl}
variable{ops:aj}{i d:Nat}{rest:aq}{ty:ax}{pos:aA}{aft:ak}{g:Option (Nat×Bool)}
theorem eQ.EA (enc:α->aC)(z:α){t e:ax} {kx ky:aw}{m:Nat} (ho:ops[i]?=some ⟨some d,.makeSlice t x y,ty,pos,aft,g⟩)(hw:fg ops l g=true)(hx:fW l x=some (.int kx m))(hy:fW l y=some (.int ky m))(hd:Nat.blt d n=true)
  (hu:P.underlying t=some (.slice e))(hi:P.info? e=some inf)(hz:inf.zero=some (enc z))(hz1:(enc z).cells=#[enc z])(hs:inf.size=1)(hb:inf.bytes*m<=281474976710656)(hm:m<=maxLen)
  (hk:∀b,eQ P r f R w0 S Y n (.inRegion ops rest::k) ((d,.slice (aR b) m m)::l) ((some b,ob enc e (List.replicate m z) [])::h)):eQ P r f R w0 S Y n (.inRegion ops (i::rest)::k) l h:=
 .QJ ho hw hx hy hd hu hi hz hz1 hs hb hm (λb=>by
  have:=hk b;simp only[ob,List.map_replicate]at this;exact this)
theorem gl (enc:α->aC){t e:ax}  {z:aC}{q:ah}{xs:List α} {cap:Nat}{bn m c:Nat}{news:List α}{spn:ai}{en:ax}
  (ho:ops[i]?=some ⟨some d,.call ⟨.builtin .append,#[x,y],#[t,t]⟩,ty,pos,aft,g⟩)(hw:fg ops l g=true)(hx:fW l x=some (fZ q xs.length cap))(hy:fW l y=some (.slice (aR bn) m c))(hd:Nat.blt d n=true)
  (hu:P.underlying t=some (.slice e))(hi:P.info? e=some inf)(hz:inf.zero=some z)(hsz:inf.size=1)(hz1:z.cells.size=1)
  (hq:q=none->xs.length=0/\cap=0)(j:Nat)(hj:h[j]?=some (q,ob enc e xs sp))(jn:Nat)(hjn:h[jn]?=some (some bn,ob enc en news spn))
  (eV:(xs.map enc++sp).length=cap)(hl:news.length=m)(hm0:0<m)(h1:∀u,(enc u).oneCell'=true)(hmx:xs.length+m<=maxLen)(hbytes:(xs.length+m)*inf.bytes<=140737488355328)
  (hk:∀b' sp' cap',((xs++news).map enc++sp').length=cap'->eQ P r f R w0 S Y n (.inRegion ops rest::k) ((d,fZ (some b') (xs++news).length cap')::l) (h.set j (some b',ob enc e (xs++news) sp'))):eQ P r f R w0 S Y n (.inRegion ops (i::rest)::k) l h:=by
 refine .app 1 ho hw hx hy hd hu hi hz hsz hz1 hq j hj jn hjn aL (by rw[eV,eH]) (by simp[hl]) hm0 (λu hu=>?_) hmx hbytes (λb' sp' cap' hlen=>?_);obtain⟨a,_,rfl⟩:=eA.1 hu;exact h1 a;have e1:xs.map enc++news.map enc=(xs++news).map enc:=by simp
 have e2:xs.length+m=(xs++news).length:=by simp[hl]
 rw[e1,e2];exact hk b' sp' cap' (by rw[<-e1,hlen,eH])
end
section
variable{P:av}{r:ah}{f:ay}{R:aC->aB->Prop}{w0:aB}{S:aq}{Y:List (Nat×Obj)}{n:Nat}{k:al}{l:Fl}{h:Hl}
variable{ops:aj}{i d:Nat}{rest:aq}{ty:ax}{pos:aA}{aft:ak}{g:Option (Nat×Bool)}
theorem Hz (enc:α->aC){t e:ax}  {z:aC}{q:ah}{xs:List α} {cap:Nat}{an:ae}{m c:Nat}(news:List α)
  (ho:ops[i]?=some ⟨some d,.call ⟨.builtin .append,#[x,y],#[t,t]⟩,ty,pos,aft,g⟩)(hw:fg ops l g=true)(hx:fW l x=some (fZ q xs.length cap))(hy:fW l y=some (.slice an m c))(hd:Nat.blt d n=true)
  (hu:P.underlying t=some (.slice e))(hi:P.info? e=some inf)(hz:inf.zero=some z)(hsz:inf.size=1)(hz1:z.cells.size=1)
  (hq:q=none->xs.length=0/\cap=0)(j:Nat)(hj:h[j]?=some (q,ob enc e xs sp))(hsl:∀w Y',St w0 S w h Y'->Sl w an (news.map enc))
  (eV:(xs.map enc++sp).length=cap)(hl:m=news.length)(hm0:0<m)(h1:∀u,(enc u).oneCell'=true)(hmx:xs.length+m<=maxLen)(hbytes:(xs.length+m)*inf.bytes<=140737488355328)
  (hk:∀b' sp' cap',((xs++news).map enc++sp').length=cap'->eQ P r f R w0 S Y n (.inRegion ops rest::k) ((d,fZ (some b') (xs++news).length cap')::l) (h.set j (some b',ob enc e (xs++news) sp'))):eQ P r f R w0 S Y n (.inRegion ops (i::rest)::k) l h:=
 .mem ho hw rfl rfl hd (λt' w Ds Y' hF hS=>by
  have hs:=hsl w Y' hS;obtain⟨bn,o,rfl,_⟩:=hs.isSome aN;have hnews:∀j u,(news.map enc)[j]?=some u->w.cell? ((⟨bn,o,none⟩:Addr).add j)=some u:=by
   intro j u hv;have hjl:=(bA.1 hv).1;have e1:(⟨bn,o,none⟩:Addr).add j=sK (some ⟨bn,o,none⟩) j:=by
    unfold Addr.add sK;split;rename_i h0;rw[h0];rfl;rfl
   rw[e1,hs.cell j hjl];rw[aX,hv];rfl
  subst hl;obtain⟨b',sp',cap',w',hrun,hlen,hS'⟩:=v8 hu hi hz hsz hz1 hS (xs:=xs.map enc) (nx:=xs.length) aL (by rw[eV,eH]) hq hj (c:=c) (m:=news.length) (news:=news.map enc) aL hm0 hnews (λu hu=>by obtain⟨a,_,rfl⟩:=eA.1 hu;exact h1 a) hmx hbytes ty;have e2:xs.map enc++news.map enc=(xs++news).map enc:=by simp
  have e3:xs.length+news.length=(xs++news).length:=by simp
  rw[e2]at hlen hS';rw[e3]at hrun;refine⟨_,w',_,?_,hS',hk b' sp' cap' (by rw[hlen,eH])⟩;have e1:(#[x,y]:aa).map (Act.eval ⟨t',Ds.map mark⟩)=#[fZ q xs.length cap,.slice (some ⟨bn,o,none⟩) news.length c]:=by simp[hF.fW hx,hF.fW hy]
  simp only[execOp,resolve,e1,Sem.run_bind,Sem.run_pure,Result.andThen_ok,invoke,builtin,hrun])
theorem G4{t e:ax} (hu:P.underlying t=some (.slice e))(hi:P.info? e=some inf){b:ae}{m cap c:Nat}(hm:m<=cap):P7 P .append #[t,t] ty [.slice a m cap,.slice b 0 c] (.slice a m cap):=by
 intro cs w;have hf:(Builtin.firstCells inf.size 0 (.slice b 0 c)).run P w=.ok #[] w:=by
  cases b<;>simp[Builtin.firstCells,loadCells,loadCellsFrom]
 have hin:P.underlying t≠some (.int .i64):=by rw[hu];simp
 simp only[builtin,Builtin.append_];cases a<;>simp[run_underlying hu,sizeOf,typeInfo,hi,Builtin.lenOf,hm,hf,storeCells]
theorem DC (enc:α->aC){t e:ax} (ho:ops[i]?=some ⟨some d,.buildSlice t 0 #[],ty,pos,aft,g⟩)(hw:fg ops l g=true)(hd:Nat.blt d n=true)
  (hu:P.underlying t=some (.slice e))(hi:P.info? e=some inf)
  (hk:∀b,eQ P r f R w0 S Y n (.inRegion ops rest::k) ((d,fZ (some b) ([]:List α).length 0)::l) ((some b,ob enc e [] [])::h)):eQ P r f R w0 S Y n (.inRegion ops (i::rest)::k) l h:=
 .mem ho hw rfl rfl hd (λt' w Ds _ hF hS=>⟨.slice (aR w.heap.size) 0 0,w.alloc (.cells #[] e),_,by
  simp[execOp,Instr.buildSlice,run_underlying hu,sizeOf,typeInfo,hi,Instr.fill,newRow];rw[show Array.range 0=#[]from aI];simp,hS.alloc rfl,hk _⟩)
theorem B7{t e:ax}(hu:P.underlying t=some (.slice e)) {m c m' c':Nat}:pD P .eql t (.slice a m c) (.slice none m' c') (.bool a.isNone):=by
 intro x y w;have h0:eqGuard .eql t x y (.slice a m c) (.slice none m' c')=pure ():=by unfold eqGuard;rfl
 rw[h0];have h1:∀dd,(Op.equalIn (dd+1) t (.slice a m c) (.slice none m' c')).run P w=.ok a.isNone w:=by
  intro dd;simp only[Op.equalIn,Sem.run_bind,run_underlying hu,Result.andThen_ok];cases a<;>rfl
 show(do pure (Value.bool (<-Op.equal t (.slice a m c) (.slice none m' c'))):Sem aC).run P w=_;rw[Sem.run_bind,show(Op.equal t (.slice a m c) (.slice none m' c')).run P w=_ from h1 9999];rfl
end
def OJ(g:Nat)(w:aB):Prop:=g<w.heap.size/\∀i:Nat,i<64->w.cell? ⟨g,i,none⟩=some (.int .u8 (Oo.getD i 0))
end
def Hm(n:Nat):fC:=if 64<=n then 18446744073709551615#64 else(1#64<<<n) - 1#64
def Rl(r:List fC)(w v:Nat):Prop:=(r.getD w 0#64).getLsbD v=true
structure Eu (r:List fC):Prop where
  len:r.length<=64
  lt:∀w v,Rl r w v->v<r.length
def BD(r:List fC)(s:fC):fC:=(jK s).foldl (λo w=>o|||r.getD w 0#64) 0#64
def O9(w:Nat)(s:fC)(out:List fC):List fC:=(jK s).foldl (λout v=>out.set v (out.getD v 0#64|||1#64<<<w)) out
def Pa(r:List fC):List fC:=Ba (λw out=>O9 w (r.getD w 0#64) out) (List.replicate r.length 0#64) r.length
end Go.Proofs.Wit
namespace Go.Proofs.Wit
end Go.Proofs.Wit
namespace Go.Proofs.Wit
open Go Go.RowKit
structure Le (r s:List fC):Prop where
  len:r.length=s.length
  sub:∀u v,Rl r u v->Rl s u v
structure Qs (g:List fC->List fC) (F:List fC->Prop):Prop where
  val:∀{l},Eu l->Eu (g l)
  QM:∀{l},Eu l->Le l (g l)
  mono:∀{l m},Eu l->Eu m->Le l m->Le (g l) (g m)
  fix:∀{l},Eu l->(g l=l↔F l)
structure Qr (F:List fC->Prop) (r out:List fC):Prop where
  val:Eu out
  le:Le r out
  has:F out
  least:∀c,Eu c->Le r c->F c->Le out c
def Nq(l:List fC):Prop:=∀u v x,Rl l u v->Rl l v x->Rl l u x
def Om(l:List fC):Prop:=∀u v x,Rl l u v->Rl l u x->Rl l v x
end Go.Proofs.Wit
namespace Go.Proofs.Wit
end Go.Proofs.Wit
namespace Go.Proofs.Wit
open Go Go.RowKit
def Rg(P:av)(gf:ay)(args:ai)(w:aB)(q:ah)(Rc:aC->aB->Prop):Prop:=
 Calls P gf args.toArray w λe w'=>∃v,e=.returned v/\Ex q.toList w w'/\Rc v w'
section
variable{w0 w w':aB}{S:aq}{h:Hl}{Y:List (Nat×Obj)}
variable{P:av}{f:ay}{R:aC->aB->Prop}{r:ah}{n:Nat}{k:al}{l:Fl}{fn:Func}
variable{ops:aj}{i d:Nat}{rest:aq}{ty:ax}{pos:aA}{aft:ak}{g:Option (Nat×Bool)}
end
section
variable{P:av}{r:ah}{f:ay}{R:aC->aB->Prop}{w0:aB}{S:aq}{Y:List (Nat×Obj)}{n:Nat}{k:al}{l:Fl}{h:Hl}
variable{ops:aj}{i d:Nat}{rest:aq}{ty:ax}{pos:aA}{aft:ak}{g:Option (Nat×Bool)}
end
theorem eQ.fR{P:av}{r:ah}{f:ay}{R:aC->aB->Prop}{w0:aB}{S:aq}{Y:List (Nat×Obj)}{n:Nat}{k:al}{l:Fl}{h:Hl}(o:Obj)
  (hg:eQ P r f R w0 S Y n k l ((none,o)::h)):eQ P r f R w0 S Y n k l h:=λt w Ds hF hS=>hg t w Ds hF (hS.none o)
section
variable{P:av}{r:ah}{f:ay}{R:aC->aB->Prop}{w0:aB}{S:aq}{Y:List (Nat×Obj)}{n:Nat}{k:al}{l:Fl}{h:Hl}
variable{ops:aj}{i d:Nat}{rest:aq}{ty:ax}{pos:aA}{aft:ak}{g:Option (Nat×Bool)}
end
section
variable{P:av}{t:ax}{a b:Int}{x y:fC}{v:Bool}
theorem AX{k:aw}(e:(a==b)=v):pD P .eql t (.int k a) (.int k b) (.bool v):=e ▸ xj
theorem qA{k:aw}(e:(a !=b)=v):pD P .neq t (.int k a) (.int k b) (.bool v):=e ▸ A8
theorem G9{k:aw}(e:decide (a<b)=v):pD P .lss t (.int k a) (.int k b) (.bool v):=e ▸ B9
theorem PL{k:aw}(e:decide (a>b)=v):pD P .gtr t (.int k a) (.int k b) (.bool v):=e ▸ PM
theorem Hd(e:(x==y)=v):pD P .eql t (U x) (U y) (.bool v):=e ▸ xB
end
def LG(r:List fC)(t:fC):Nat->fC
 |0=>t
 |k+1=>BD (Pa r) (LG r t k)
structure Qo (r:List fC) (f t:fC) (k:Nat):Prop where
  one:1<=k
  ne:f &&& LG r t k≠0#64
  least:∀j,1<=j->j<k->f &&& LG r t j=0#64
section
variable{r:List fC}{t:fC}
end
theorem se{α:Type}{p q:α->Bool}:∀{l:List α},(∀x∈l,p x=true->q x=true)->(∃x∈l,q x=true/\p x=false)->l.countP p<l.countP q
 |[],_,⟨_,h,_⟩=>by cases h
 |a::l,h,⟨x,hx,h1,h2⟩=>by
  have hle:l.countP p<=l.countP q:=List.countP_mono_left (λy hy=>h y (cF _ hy));rw[List.countP_cons,List.countP_cons];rcases ew.1 hx with rfl|hx;rw[h1,h2];simp;omega;have:=se (λy hy=>h y (cF _ hy)) ⟨x,hx,h1,h2⟩;have h3:=h a aF;cases hp:p a with
  |false=>simp;split<;>omega
  |true=>rw[h3 hp];omega
section
variable{h:Hl}{Y:List (Nat×Obj)}{α:Type}{w w' w0:aB}{S:aq}
structure lq (w w':aB) (H:Hl):Prop where
  own:∀p∈H,∀b,p.1=some b->w'.heap[b]?=some p.2/\vf p.2=false/\w.heap.size<=b
  apart:H.Pairwise tu
theorem lq.of   (s:St w [] w' h Y):lq w w' h:=
 ⟨λp hp b hb=>by
  obtain⟨h1,h2,h3⟩:=s.own p hp b hb;exact⟨h1,h2,h3.resolve_right aL⟩,s.apart⟩
theorem lq.sub {H H':Hl}(g:lq w w' H)(hs:H'.Sublist H):lq w w' H':=⟨λp hp=>g.own p (hs.subset hp),g.apart.sublist hs⟩
theorem St.kL    (s:St w0 S w h Y)(e:Ex [] w w'){H:Hl}(g:lq w w' H):St w0 S w' (H++h) Y:=by
 have s':=s.later e;refine⟨s'.ext,λp hp b hb=>?_,cK.2 ⟨g.apart,s.apart,λp hp q hq b hb hqb=>?_⟩,s'.sys,s'.DD⟩;rcases dP.1 hp with hp|hp;obtain⟨h1,h2,h3⟩:=g.own p hp b hb;exact⟨h1,h2,.inl (eB s.ext.size h3)⟩;exact s'.own p hp b hb;have h1:=(g.own p hp b hb).2.2;have h2:=(aW.1 (s.own q hq b hqb).1).1;omega
theorem St.iY  {pre pre' HR:Hl} (s:St w0 S w (pre++HR) Y)(is:aq)(hn:is.Nodup)(e:is.map (λi=>pre[i]?)=pre'.map some):St w0 S w (pre'++HR) Y:=by
 have hlen:is.length=pre'.length:=by have:=eK List.length e;simpa using this
 have hat:∀j (hj:j<pre'.length),∃i,is[j]?=some i/\pre[i]?=some pre'[j]:=λj hj=>by
  have h1:=eK (λl=>l[j]?) e;have hj2:j<is.length:=aH;simp only[dn,bG hj,bG hj2,dW,dt]at h1;exact⟨is[j],bG hj2,h1⟩
 have hmem:∀p∈pre',p∈pre:=λp hp=>by
  obtain⟨j,hj,rfl⟩:=cG.1 hp;obtain⟨i,_,h2⟩:=hat j hj;exact cH h2
 have hap:=cK.1 s.apart;refine⟨s.ext,λp hp=>?_,cK.2 ⟨?_,hap.2.1,λp hp q hq=>hap.2.2 p (hmem p hp) q hq⟩,s.sys,s.DD⟩;rcases dP.1 hp with hp|hp;exact s.own p (cD _ (hmem p hp));exact s.own p (bZ _ hp);rw[bB];intro j j' hj hj' hlt;obtain⟨i,h1,h2⟩:=hat j hj;obtain⟨i',h1',h2'⟩:=hat j' hj';have hne:i≠i':=by
  rintro rfl;obtain⟨a1,a2⟩:=bA.1 h1;obtain⟨b1,b2⟩:=bA.1 h1';have:=(List.nodup_iff_pairwise_ne.1 hn);exact absurd (a2.trans b2.symm) (bB.1 this j j' a1 b1 hlt)
 obtain⟨a1,a2⟩:=bA.1 h2;obtain⟨b1,b2⟩:=bA.1 h2';rw[<-a2,<-b2];rcases Nat.lt_or_gt_of_ne hne with hx|hx;exact bB.1 hap.1 i i' a1 b1 hx;exact vj (bB.1 hap.1 i' i b1 a1 hx)
theorem eQ.iY{P:av}{r:ah}{f:ay}{R:aC->aB->Prop}{w0:aB}{S:aq}{Y:List (Nat×Obj)}{n:Nat}{k:al}{l:Fl}{pre pre':Hl}(HR:Hl)(is:aq)(hn:is.Nodup)(e:is.map (λi=>pre[i]?)=pre'.map some)
  (hg:eQ P r f R w0 S Y n k l (pre'++HR)):eQ P r f R w0 S Y n k l (pre++HR):=λt w Ds hF hS=>hg t w Ds hF (hS.iY is hn e)
theorem eQ.pick{P:av}{r:ah}{f:ay}{R:aC->aB->Prop}   {n:Nat}{k:al}{l:Fl}{pre pre':Hl}(is:aq)(hn:is.Nodup)(e:is.map (λi=>pre[i]?)=pre'.map some)
  (hg:eQ P r f R w0 S Y n k l pre'):eQ P r f R w0 S Y n k l pre:=by
 have:=eQ.iY (pre:=pre) (pre':=pre') [] is hn e (by rw[dL];exact hg);rwa[dL]at this
def O2{α:Type}(enc:α->aC)(H:Hl)(a:ae)(xs:List α):Prop:=
 xs=[]\/∃b e sp,a=some ⟨b,0,none⟩/\(some b,ob enc e xs sp)∈H
structure Row where
  a:ae
  cap:Nat
  xs:List fC
def Row.v(r:Row):aC:=.slice r.a r.xs.length r.cap
structure Row.At (r:Row) (w:aB):Prop where
  at_:A2 w r.a r.xs
  len:r.xs.length<=maxLen
  cap:r.xs.length<=r.cap
structure MV where
  n:Int
  ra:ae
  rc:Nat
  rows:List Row
  va:ae
  vc:Nat
  val:List fC
abbrev MV.cs(m:MV):af:=#[aS m.n,.slice m.va m.val.length m.vc,.slice m.ra m.rows.length m.rc]
def MV.v(m:MV):aC:=.agg #[aS m.n,.slice m.va m.val.length m.vc,.slice m.ra m.rows.length m.rc]
def MV.rel(m:MV):List (List fC):=m.rows.map Row.xs
def Qn(w:aB)(a:ae)(rs:List Row):Prop:=Sl w a (rs.map Row.v)
structure MV.At (m:MV) (w:aB):Prop where
  rel:Qn w m.ra m.rows
  row:∀r∈m.rows,r.At w
  val:A2 w m.va m.val
  lr:m.rows.length<=maxLen
  lv:m.val.length<=maxLen
  cr:m.rows.length<=m.rc
  cv:m.val.length<=m.vc
theorem Sl.at {enc:α->aC} {a:ae}{xs:List α}(h:Sl w a (xs.map enc))(k:Nat)(hk:k<xs.length):w.cell? (sK a k)=some (enc xs[k]):=by
 rw[Sl.cell h k (by simpa using hk)];simp[aX,hk]
theorem Ex.nh (e:Ex [] w w'){b:Nat}{o:Obj}(h:w.heap[b]?=some o):w'.heap[b]?=some o:=by
 rw[e.block b (aW.1 h).1 aL];exact h
theorem Ex.cell{w w':aB}(e:Ex [] w w'){b j:Nat}{cs:af}{t:ax}{fr:Nat×Nat}{v:aC}(h:w.heap[b]?=some (.cells cs t fr))(hv:cs[j]?=some v):w'.cell? ⟨b,j,none⟩=some v:=by
 rw[cell_of_row w' b j cs t fr (e.nh h),hv]
abbrev fD:Int->aC:=Value.int .i64
def oe(w:aB)(a:ae)(xs:ar):Prop:=Sl w a (xs.map fD)
theorem oe.eY {a:ae}{xs:ar}(h:oe w0 a xs) (e:Ex S w0 w)(hS:∀b o,a=some ⟨b,o,none⟩->b∉S:=by simp):oe w a xs:=Sl.ex h e hS
theorem oe.at{w:aB}{a:ae}{xs:ar}(h:oe w a xs)(k:Nat)(hk:k<xs.length):w.cell? (sK a k)=some (aS xs[k]):=Sl.at h k hk
def ux{α:Type}(enc:α->aC)(e:ax)(w w':aB)(v:aC)(xs:List α):Prop:=
 ∃q cap sp,v=fZ q xs.length cap/\(q=none->xs.length=0/\cap=0)/\(xs.map enc++sp).length=cap/\∀b,q=some b->w.heap.size<=b/\w'.heap[b]?=some (ob enc e xs sp)
theorem yj {enc:α->aC}{t:ax}    (s:St w0 S w h Y)(e:Ex [] w w'){v:aC}{xs:List α}(ho:ux enc t w w' v xs):
  ∃q cap sp,v=fZ q xs.length cap/\(q=none->xs.length=0/\cap=0)/\(xs.map enc++sp).length=cap/\St w0 S w' ((q,ob enc t xs sp)::h) Y:=by
 obtain⟨q,cap,sp,h1,h2,h3,h4⟩:=ho;refine⟨q,cap,sp,h1,h2,h3,?_⟩;cases q with
 |none=>exact(s.later e).none _
 |some b=>exact s.Gq e (h4 b rfl).2 rfl (h4 b rfl).1
theorem ux.mk {enc:α->aC}{t:ax}   (s:St w0 [] w h Y)(j:Nat){q:ah}{xs:List α}{sp:ai}{cap m:Nat}(hj:h[j]?=some (q,ob enc t xs sp))(hm:m=xs.length)
  (hq:q=none->xs.length=0/\cap=0)(eV:(xs.map enc++sp).length=cap):ux enc t w0 w (fZ q m cap) xs:=by
 subst hm;refine⟨q,cap,sp,rfl,hq,eV,λb hb=>?_⟩;subst hb;exact⟨s.fresh hj,s.get hj⟩
theorem NB    (s:St w0 S w h Y)(j:Nat){q:ah}{xs:ar}{e:ax}{sp:ai}(hj:h[j]?=some (q,ob fD e xs sp))(hq:q=none->xs.length=0):oe w (q.map aP) xs:=by
 cases q with
 |none=>rw[aU (hq rfl)];exact Sl.nil _ _
 |some b=>exact Sl.jh (s.get hj)
structure MV.In (m:MV) (H:Hl):Prop where
  rel:O2 Row.v H m.ra m.rows
  row:∀r∈m.rows,O2 U H r.a r.xs/\r.xs.length<=maxLen/\r.xs.length<=r.cap
  val:O2 U H m.va m.val
  lr:m.rows.length<=maxLen
  lv:m.val.length<=maxLen
  cr:m.rows.length<=m.rc
  cv:m.val.length<=m.vc
end
end Go.Proofs.Wit
namespace Go.Proofs.Wit
def Lo(e:Bool)(w u:Nat):Nat:=if e=true then u else w
def IJ(e:Bool)(w u:Nat):Nat:=if e=true then w else u
def QR(e:Bool)(w u:Nat)(l:List fC):Prop:=Rl l w u->∀x,Rl l (IJ e w u) x->Rl l (Lo e w u) x
def PQ(e:Bool)(l:List fC):Prop:=if e=true then Om l else Nq l
structure Pass (e:Bool) (r o0 out:List fC) (again:Bool) (k j:Nat):Prop where
  val:Eu out
  le:Le r out
  min:∀c,Eu c->Le r c->PQ e c->Le out c
  up:Le o0 out
  yes:again=true->o0≠out
  no:again=false->out=o0/\∀w u,(w<k\/(w=k/\u<j))->QR e w u out
end Go.Proofs.Wit
namespace Go.Proofs.Wit
open Go Go.RowKit
def Lr(n:Nat)(l:List fC):Bool:=l.any (λs=>s &&& ~~~ Hm n !=0#64)
def GX(n:Int)(val:List fC)(rel:List (List fC)):Int:=
 if n<1\/64<n then 2 else if 4<rel.length\/8<val.length then 8 else if rel.any (λr=>(r.length:Int) !=n)then 3 else if Lr n.toNat val||rel.any (Lr n.toNat)then 2 else 0
structure OH (n:Int) (val:List fC) (rel:List (List fC)):Prop where
  n1:1<=n
  QI:n<=64
  Hp:rel.length<=4
  facts:val.length<=8
  len:∀r∈rel,(r.length:Int)=n
  vr:∀r∈rel,Eu r
  out:Lr n.toNat val=false
section
variable{c cs:ai}{x y:au}
section
variable{P:av}{r:ah}{f:ay}{R:aC->aB->Prop}{w0:aB}{S:aq}{Y:List (Nat×Obj)}{n:Nat}{k:al}{l:Fl}{h:Hl}
variable{ops:aj}{i d:Nat}{rest:aq}{ty:ax}{pos:aA}{aft:ak}{g:Option (Nat×Bool)}
theorem rL(b o q:Nat):(⟨b,o,none⟩:Addr).add q=⟨b,o+q,none⟩:=by
 unfold Addr.add;split;rename_i h0;subst h0;rfl;rfl
theorem zr(a:ae)(i q:Nat):(sK a i).add q=sK a (i+q):=by
 unfold sK;rw[rL,Nat.add_assoc]
theorem eS.ni{s:ax} {b o q:Nat}{fs:Array Field}{fd:Field}{sz:Nat}(ho:ops[i]?=some ⟨some d,.fieldAddr s x q,ty,pos,aft,g⟩)(hw:fg ops l g=true)
  (hx:fW l x=some (.pointer (some ⟨b,o,none⟩)))(hd:Nat.blt d n=true)(hu:P.underlying s=some (.struct fs))(hq:fs[q]?=some fd)(he:∀w,(sizeOf fd.type).run P w=.ok (sz+1) w)(o':Nat)(hO:o+fd.offset=o'):
  eS P w0 S n h ops i l d (.pointer (some ⟨b,o',none⟩)):=by
 subst hO;exact .of ho hw rfl rfl hd (λt w Ds _ hF hS=>⟨.value (.pointer (some ⟨b,o+fd.offset,none⟩)),by
  simp only[execOp,hF.fW hx,Instr.fieldAt,Sem.run_bind,run_underlying hu,Result.andThen_ok,hq,Instr.sureAddr,Sem.run_pure,fieldPlace,he];rw[if_neg aH];simp[rL],rfl⟩)
theorem eS.kl{s:ax} {q:Nat}{cs:af}{fs:Array Field}{fd:Field}{v:aC}(ho:ops[i]?=some ⟨some d,.field s x q,ty,pos,aft,g⟩)(hw:fg ops l g=true)
  (hx:fW l x=some (.agg cs))(hd:Nat.blt d n=true)(hu:P.underlying s=some (.struct fs))(hq:fs[q]?=some fd)(ha:∀w,(isAgg fd.type).run P w=.ok false w)(hv:cs[fd.offset]?=some v):
  eS P w0 S n h ops i l d v:=
 .of ho hw rfl rfl hd (λt w Ds _ hF hS=>⟨.value v,by
  simp only[execOp,hF.fW hx,Instr.field,Sem.run_bind,run_underlying hu,Result.andThen_ok,hq,asAgg,Sem.run_pure,part,ha,hv];rfl,rfl⟩)
theorem vd{t:ax}{w:aB}{a:Addr} (ha:∀w,(isAgg t).run P w=.ok true w)(hz:∀w,(sizeOf t).run P w=.ok cs.length w)(hc:∀j v,cs[j]?=some v->w.cell? (a.add j)=some v):
  (Instr.loadAt t (.pointer (some a))).run P w=.ok (.agg cs.toArray) w:=by
 simp only[Instr.loadAt,Instr.sureAddr,loadVar,Sem.run_bind,Sem.run_pure,Result.andThen_ok,ha,hz,eN,run_loadCells_list w a cs hc]
theorem sg{t:ax} {p:Addr} (ho:ops[i]?=some ⟨some d,.load t x,ty,pos,aft,g⟩)(hw:fg ops l g=true)
  (hx:fW l x=some (.pointer (some p)))(hd:Nat.blt d n=true)(ha:∀w,(isAgg t).run P w=.ok true w)(hz:∀w,(sizeOf t).run P w=.ok cs.length w)(hc:∀w Y',St w0 S w h Y'->∀j v,cs[j]?=some v->w.cell? (p.add j)=some v):eS P w0 S n h ops i l d (.agg cs.toArray):=
 .of ho hw rfl rfl hd (λt w Ds _ hF hS=>⟨.value (.agg cs.toArray),by
  simp only[execOp,hF.fW hx,Sem.run_bind,vd ha hz (hc w _ hS)];rfl,rfl⟩)
theorem eS.j8{t:ax} {p:Addr} (ha:∀w,(isAgg t).run P w=.ok true w)(hz:∀w,(sizeOf t).run P w=.ok cs.length w)(hc:∀w Y',St w0 S w h Y'->∀j v,cs[j]?=some v->w.cell? (p.add j)=some v)(ho:ops[i]?=some ⟨some d,.load t x,ty,pos,aft,g⟩:=by exact rfl)(hw:fg ops l g=true:=by exact rfl)(hx:fW l x=some (.pointer (some p)):=by exact rfl)(hd:Nat.blt d n=true:=by exact rfl):eS P w0 S n h ops i l d (.agg cs.toArray):=sg (ho:=ho) (hw:=hw) (hx:=hx) (hd:=hd) (ha:=ha) (hz:=hz) (hc:=hc)
theorem eS.Kp{t:ax} {b:Nat}{cs:af}{e:ax}{fr:Nat×Nat}{m:Nat}(ho:ops[i]?=some ⟨some d,.load t x,ty,pos,aft,g⟩)(hw:fg ops l g=true)
  (hx:fW l x=some (aQ b))(hd:Nat.blt d n=true)(ha:∀w,(isAgg t).run P w=.ok true w)(j:Nat)(hj:h[j]?=some (some b,.cells cs e fr))(hz:∀w,(sizeOf t).run P w=.ok m w)(hm:cs.size=m):eS P w0 S n h ops i l d (.agg cs):=by
 subst hm;have:=sg (P:=P) (w0:=w0) (S:=S) (h:=h) (cs:=cs.toList) ho hw hx hd ha (λw=>by rw[hz];simp) (λw Y' hS q v hv=>by
  rw[rL,eE];simp[World.cell?,hS.get hj]at hv⊢;exact hv);rw[Array.toArray_toList]at this;exact this
theorem eQ.EU{t:ax} {b:Nat}{cs:af}{e:ax}{v:aC}{m:Nat}(ho:ops[i]?=some ⟨none,.store t x y,ty,pos,aft,g⟩)(hw:fg ops l g=true)
  (hx:fW l x=some (aQ b))(hy:fW l y=some v)(hz:∀w,(sizeOf t).run P w=.ok m w)(j:Nat)(hj:h[j]?=some (some b,.cells cs e (0,0)))(hm:cs.size=m)(hv:v.cells.size=m)(h1:v.cells.toList.all Value.oneCell'=true)
  (hk:eQ P r f R w0 S Y n (.inRegion ops rest::k) l (h.set j (some b,.cells v.cells e (0,0)))):eQ P r f R w0 S Y n (.inRegion ops (i::rest)::k) l h:=
 .PB ho hw rfl rfl (λt' w Ds _ hF hS=>by
  have hb:=hS.get hj;have hrun:=run_storeCells_at (P:=P) b 0 e v.cells.toList 0 cs w hb aN (λu hu=>dy.1 h1 u hu);have hrow:(cs.toList.take (0+0)++v.cells.toList++cs.toList.drop (0+0+v.cells.toList.length)).toArray=v.cells:=by
   rw[<-dw];simp;omega
  rw[hrow]at hrun;refine⟨w.setRow b v.cells,_,?_,hS.vq hj (o':=.cells v.cells e (0,0)) rfl rfl rfl rfl (by simp[World.setRow]) (setRow_heap w b _ _ e _ hb) (λq _ hq=>setRow_other w b q _ hq),hk⟩;simp only[execOp,hF.fW hx,hF.fW hy,Sem.run_bind,Instr.storeAt,Instr.sureAddr,storeVar,Sem.run_pure,Result.andThen_ok,hz,hv];simp only[ne_eq,not_true_eq_false,eL,hrun];rfl)
theorem eQ.gw{t:ax} {b:Nat}{cs:af}{e:ax}{v:aC}{m:Nat}(hz:∀w,(sizeOf t).run P w=.ok m w)(j:Nat)(hk:eQ P r f R w0 S Y n (.inRegion ops rest::k) l (h.set j (some b,.cells v.cells e (0,0))))(ho:ops[i]?=some ⟨none,.store t x y,ty,pos,aft,g⟩:=by exact rfl)(hw:fg ops l g=true:=by exact rfl)(hx:fW l x=some (aQ b):=by exact rfl)(hy:fW l y=some v:=by exact rfl)(hj:h[j]?=some (some b,.cells cs e (0,0)):=by exact rfl)(hm:cs.size=m:=by exact rfl)(hv:v.cells.size=m:=by exact rfl)(h1:v.cells.toList.all Value.oneCell'=true:=by exact rfl):eQ P r f R w0 S Y n (.inRegion ops (i::rest)::k) l h:=eQ.EU (ho:=ho) (hw:=hw) (hx:=hx) (hy:=hy) (hz:=hz) (j:=j) (hj:=hj) (hm:=hm) (hv:=hv) (h1:=h1) (hk:=hk)
def setAt(cells:ai)(off:Nat)(vs:ai):ai:=cells.take off++vs++cells.drop (off+vs.length)
def sI(place:Nat->Option (Nat×Nat))(cells:ai):List (Nat×aC)->Option ai
 |[]=>some cells
 |(i,v)::rest=>match place i with
  |none=>none
  |some (off,size)=>match Nat.beq v.cells.toList.length size && Nat.ble (off+size) cells.length with
   |true=>sI place (setAt cells off v.cells.toList) rest
   |false=>none
theorem ym:∀(vs:ai) (cs:ai) (off j:Nat),off+j+vs.length<=cs.length->
  (vs.zipIdx j).foldl (λ(cs:af) (c:aC×Nat)=>cs.setIfInBounds (off+c.2) c.1) cs.toArray=(setAt cs (off+j) vs).toArray
 |[],cs,off,j,_=>by simp[setAt]
 |v::vs,cs,off,j,hl=>by
  simp only[dC]at hl;rw[List.zipIdx_cons,List.foldl_cons];have h1:cs.toArray.setIfInBounds (off+j) v=(cs.set (off+j) v).toArray:=by simp
  rw[h1,ym vs (cs.set (off+j) v) off (j+1) aN]
  congr 1
  have hlt:off+j<cs.length:=aH;have hset:cs.set (off+j) v=cs.take (off+j)++v::cs.drop (off+j+1):=by
   rw[List.set_eq_take_append_cons_drop,if_pos hlt]
  have hlen:(cs.take (off+j)).length=off+j:=by simp;omega
  have t1:(cs.set (off+j) v).take (off+(j+1))=cs.take (off+j)++[v]:=by
   rw[hset,List.take_append,bR aH,hlen,show off+(j+1) - (off+j)=1 from aH];simp
  have t2:(cs.set (off+j) v).drop (off+(j+1)+vs.length)=cs.drop (off+j+(vs.length+1)):=by
   rw[hset,List.drop_append,List.drop_eq_nil_of_le aH,hlen,show off+(j+1)+vs.length - (off+j)=vs.length+1 from aH];simp[Nat.add_assoc,Nat.add_comm 1]
  unfold setAt;rw[t1,t2];simp
theorem fill_eq{place:Nat->Option (Nat×Nat)}:∀{ps:List (Nat×aC)} {cells c:ai},sI place cells ps=some c->Instr.fill place cells.toArray ps=some c.toArray
 |[],cells,c,e=>by cases e;rfl
 |(i,v)::rest,cells,c,e=>by
  unfold sI at e;unfold Instr.fill;split at e;cases e;rename_i off size hp;rw[hp];split at e;rename_i hb;rw[dx,Nat.beq_eq,Nat.ble_eq]at hb;obtain⟨h1,h2⟩:=hb;rw[Array.length_toList]at h1;simp only;rw[if_neg aN];have h3:=ym v.cells.toList cells off 0 aN;rw[Nat.add_zero]at h3;have h4:v.cells.zipIdx.foldl (λcs (x:aC×Nat)=>cs.setIfInBounds (off+x.2) x.1) cells.toArray=(setAt cells off v.cells.toList).toArray:=by
   rw[<-h3,<-Array.foldl_toList];simp
  rw[h4];exact fill_eq e;cases e
def KG(P:av):List Field->aq->Prop
 |[],[]=>True
 |f::fs,s::ss=>(∀w,(sizeOf f.type).run P w=.ok s w)/\KG P fs ss
 |_,_=>False
theorem KG.nil:KG P [] []:=eO
theorem KG.cons{f:Field}{fs:List Field}{s:Nat}{ss:aq}(h:∀w,(sizeOf f.type).run P w=.ok s w)(hs:KG P fs ss):KG P (f::fs) (s::ss):=⟨h,hs⟩
theorem Cq:∀{fs:List Field} {ss:aq},KG P fs ss->∀w,(fs.mapM (m:=Sem) λf=>do pure (f.offset,<-sizeOf f.type)).run P w=.ok ((fs.zip ss).map λx=>(x.1.offset,x.2)) w
 |[],[],_,w=>rfl
 |f::fs,s::ss,hs,w=>by
  rw[List.mapM_cons];simp only[Sem.run_bind,Sem.run_pure,Result.andThen_ok,hs.1,Cq hs.2];rfl
 |[],_::_,hs,_=>hs.elim
 |_::_,[],hs,_=>hs.elim
def O3(P:av)(t:ax)(ps:List (Nat×aC))(v:aC):Prop:=∀w,(Instr.build t ps.toArray).run P w=.ok v w
theorem JJ{t:ax}{fs:Array Field}{ss:aq}{z:aC}{ps:List (Nat×aC)}{c:ai}(hu:P.underlying t=some (.struct fs))(hs:KG P fs.toList ss)(hz:∀w,(zeroValue t).run P w=.ok z w)
  (hf:sI (λi=>((fs.toList.zip ss)[i]?).map λx=>(x.1.offset,x.2)) z.cells.toList ps=some c):O3 P t ps (.agg c.toArray):=by
 intro w;have h1:=fill_eq hf;rw[Array.toArray_toList]at h1;simp only[Instr.build,Sem.run_bind,hz,Result.andThen_ok,run_underlying hu];rw[Array.mapM_eq_mapM_toList];simp only[Sem.run_map,Cq hs];have h2:(λ(i:Nat)=>(List.map (λx=>(x.1.offset,x.2)) (fs.toList.zip ss)).toArray[i]?)=λi=>((fs.toList.zip ss)[i]?).map λx=>(x.1.offset,x.2):=by
  funext i;simp
 show((match Instr.fill (λ(i:Nat)=>(List.map (λx=>(x.1.offset,x.2)) (fs.toList.zip ss)).toArray[i]?) z.cells ps with
  |some cells=>pure (.agg cells)
  | _ => stuck "build: no such field, or a part of the wrong size" : Sem Value)).run P w = _;rw [h2,h1];rfl
def pG(l:Fl):List (Nat×au)->Option (List (Nat×aC))
 |[]=>some []
 |(q,x)::xs=>match Wit.fW l x,pG l xs with
  |some v,some vs=>some ((q,v)::vs)
  |_,_=>none
theorem nS.parts{t:af}(hF:nS n t l)(ds:List Deferred):∀{xs:List (Nat×au)} {vs:List (Nat×aC)},pG l xs=some vs->xs.map (λx=>(x.1,Act.eval ⟨t,ds⟩ x.2))=vs
 |[],vs,e=>by cases e;rfl
 |(q,x)::xs,vs,e=>by
  simp only[pG]at e;split at e;rename_i v us hx hxs;cases e;rw[ep,hF.fW hx,hF.parts ds hxs];cases e
theorem eS.JJ{t:ax}{az:Array (Nat×au)}{ps:List (Nat×aC)}{v:aC}(ho:ops[i]?=some ⟨some d,.build t az,ty,pos,aft,g⟩)(hw:fg ops l g=true)(hx:pG l az.toList=some ps)(hd:Nat.blt d n=true)(hb:O3 P t ps v):
  eS P w0 S n h ops i l d v:=
 .of ho hw rfl rfl hd (λt w Ds _ hF hS=>⟨.value v,by
  have e1:az.map (λ(x:Nat×au)=>(x.1,Act.eval ⟨t,Ds.map mark⟩ x.2))=ps.toArray:=by rw[<-dw];simp[hF.parts (Ds.map mark) hx]
  have:=hb w;rw[<-e1]at this;simp only[execOp,Sem.run_bind];refine(eK (λx=>Result.andThen x _) this).trans ?_;rfl,rfl⟩)
theorem eS.gX{t:ax}{az:Array (Nat×au)}{ps:List (Nat×aC)}{v:aC}(hb:O3 P t ps v)(ho:ops[i]?=some ⟨some d,.build t az,ty,pos,aft,g⟩:=by exact rfl)(hw:fg ops l g=true:=by exact rfl)(hx:pG l az.toList=some ps:=by exact rfl)(hd:Nat.blt d n=true:=by exact rfl):eS P w0 S n h ops i l d v:=eS.JJ (ho:=ho) (hw:=hw) (hx:=hx) (hd:=hd) (hb:=hb)
theorem Dp{t e:ax}{len:Nat}{az:Array (Nat×au)}{ps:List (Nat×aC)}{z:aC}{size:Nat} {t':af}(hF:nS n t' l)(hx:pG l az.toList=some ps)
  (hu:P.underlying t=some (.slice e))(hs:∀w,(sizeOf e).run P w=.ok size w)(hz:∀w,(zeroValue e).run P w=.ok z w)(hm:Nat.ble (len*size) 16777216=true)
  (hf:sI (λi=>some (i*size,size)) ((List.range (len*size)).map λi=>z.cells.toList.getD (i%z.cells.toList.length) default) ps=some c)(Ds:aq)(w:aB):
  (execOp (Act.eval ⟨t',Ds.map mark⟩) ⟨some d,.buildSlice t len az,ty,pos,aft,g⟩).run P w=.ok (.value (.slice (aR w.heap.size) len len)) (w.alloc (.cells (c++[]).toArray e)):=by
 have e1:az.map (λ(x:Nat×au)=>(x.1,Act.eval ⟨t',Ds.map mark⟩ x.2))=ps.toArray:=by rw[<-dw];simp[hF.parts (Ds.map mark) hx]
 have h1:=fill_eq hf;have h2:(Array.range (len*size)).map (λi=>(if len*size=0 then #[]else z.cells)[i%(if len*size=0 then #[]else z.cells).size]!)=((List.range (len*size)).map λi=>z.cells.toList.getD (i%z.cells.toList.length) default).toArray:=by
  by_cases h0:len*size=0;rw[h0];simp;rw[if_neg h0,<-dw];simp;intro a _;rw[getElem!_def];cases z.cells[a%z.cells.size]?<;>rfl
 rw[<-h2]at h1;have hrun:(Instr.buildSlice t len ps.toArray).run P w=.ok (.slice (aR w.heap.size) len len) (w.alloc (.cells (c++[]).toArray e)):=by
  have hm':¬len*size>2^24:=by have:=Nat.le_of_ble_eq_true hm;omega
  by_cases h0:len*size=0;simp only[if_pos h0]at h1;simp only[Instr.buildSlice,Sem.run_bind,run_underlying hu,Result.andThen_ok,hs,if_neg hm',if_pos h0,Sem.run_pure];rw[h1];simp[newRow];simp only[if_neg h0]at h1;simp only[Instr.buildSlice,Sem.run_bind,run_underlying hu,Result.andThen_ok,hs,if_neg hm',if_neg h0,Sem.run_pure,hz];rw[h1];simp[newRow]
 rw[<-e1]at hrun;simp only[execOp,Sem.run_bind];refine(eK (λx=>Result.andThen x _) hrun).trans ?_;rfl
theorem eQ.xA{t e:ax}{len:Nat}{az:Array (Nat×au)}{ps:List (Nat×aC)}{z:aC}{size:Nat} (ho:ops[i]?=some ⟨some d,.buildSlice t len az,ty,pos,aft,g⟩)(hw:fg ops l g=true)(hx:pG l az.toList=some ps)(hd:Nat.blt d n=true)
  (hu:P.underlying t=some (.slice e))(hs:∀w,(sizeOf e).run P w=.ok size w)(hz:∀w,(zeroValue e).run P w=.ok z w)(hm:Nat.ble (len*size) 16777216=true)
  (hf:sI (λi=>some (i*size,size)) ((List.range (len*size)).map λi=>z.cells.toList.getD (i%z.cells.toList.length) default) ps=some c)
  (hk:∀b,eQ P r f R w0 S Y n (.inRegion ops rest::k) ((d,.slice (aR b) len len)::l) ((some b,.cells (c++[]).toArray e)::h)):eQ P r f R w0 S Y n (.inRegion ops (i::rest)::k) l h:=
 .mem ho hw rfl rfl hd (λ_ w Ds _ hF hS=>⟨.slice (aR w.heap.size) len len,w.alloc (.cells (c++[]).toArray e),_,Dp hF hx hu hs hz hm hf Ds w,hS.alloc rfl,hk _⟩)
theorem eQ.fV{t e:ax}{len:Nat}{az:Array (Nat×au)}{ps:List (Nat×aC)}{z:aC}{size:Nat} (hu:P.underlying t=some (.slice e))(hs:∀w,(sizeOf e).run P w=.ok size w)(hz:∀w,(zeroValue e).run P w=.ok z w)(hk:∀b,eQ P r f R w0 S Y n (.inRegion ops rest::k) ((d,.slice (aR b) len len)::l) ((some b,.cells (c++[]).toArray e)::h))(ho:ops[i]?=some ⟨some d,.buildSlice t len az,ty,pos,aft,g⟩:=by exact rfl)(hw:fg ops l g=true:=by exact rfl)(hx:pG l az.toList=some ps:=by exact rfl)(hd:Nat.blt d n=true:=by exact rfl)(hm:Nat.ble (len*size) 16777216=true:=by exact rfl)(hf:sI (λi=>some (i*size,size)) ((List.range (len*size)).map λi=>z.cells.toList.getD (i%z.cells.toList.length) default) ps=some c:=by exact rfl):eQ P r f R w0 S Y n (.inRegion ops (i::rest)::k) l h:=eQ.xA (ho:=ho) (hw:=hw) (hx:=hx) (hd:=hd) (hu:=hu) (hs:=hs) (hz:=hz) (hm:=hm) (hf:=hf) (hk:=hk)
theorem uu{t e:ax} {a:ae}{m cap hi:Nat}{kd:aw}{j:Int}{sz:Nat}(ho:ops[i]?=some ⟨some d,.slice t x none (some y) none,ty,pos,aft,g⟩)(hw:fg ops l g=true)
  (hx:fW l x=some (.slice a m cap))(hy:fW l y=some (.int kd j))(hd:Nat.blt d n=true)(hu:P.underlying t=some (.slice e))(he:∀w,(sizeOf e).run P w=.ok sz w)(hj:j=hi)(hc:hi<=cap):
  eS P w0 S n h ops i l d (.slice a hi cap):=
 .of ho hw rfl rfl hd (λt w Ds _ hF hS=>⟨.value (.slice a hi cap),by
  subst hj;simp only[execOp,hF.fW hx,hF.fW hy,dW,Option.map_none,Instr.sliceAt,Sem.run_bind,run_underlying hu,Result.andThen_ok,Instr.slice,Instr.sliceBounds,Instr.sliceBound,asIntOf,Sem.run_pure];rw[if_pos ⟨aH,aH⟩];simp only[Sem.run_pure,Result.andThen_ok,he,di];cases a<;>simp[Addr.add_zero'],rfl⟩)
theorem eQ.Ou{az:aa}{ts:ab}{cal:au}{gf:ay}{fs vs:ai}(Rc:aB->aC->aB->Prop)(ho:ops[i]?=some ⟨some d,.call ⟨.value cal,az,ts⟩,ty,pos,aft,g⟩)(hw:fg ops l g=true)
  (hc:fW l cal=some (.func (.func gf) fs.toArray cs.toArray))(hx:iT l az.toList=some vs)(hd:Nat.blt d n=true)(hcf:∀args w,(callFunc gf args).run P w=.ok (.enter gf args) w)
  (hcall:∀w Y',St w0 S w h Y'->Cn P gf (fs++vs++cs) w (Rc w))
  (hk:∀v w w' Y',St w0 S w h Y'->Ex [] w w'->Rc w v w'->∃h',St w0 S w' h' Y'/\eQ P r f R w0 S Y n (.inRegion ops rest::k) ((d,v)::l) h'):eQ P r f R w0 S Y n (.inRegion ops (i::rest)::k) l h:=
 .Dm ho hw hc hx hd hcf (λw Ds hS=>⟨λu w'=>Ex [] w w'/\Rc w u w',by
  have:=hcall w Ds hS;unfold Cn at this;simpa using this,λu w' ⟨he,hu⟩=>hk u w w' Ds hS he hu⟩)
theorem eQ.B3{az:aa}{ts:ab}{cal:au}{gf:ay}{fs vs:ai}{v:aC}(ho:ops[i]?=some ⟨some d,.call ⟨.value cal,az,ts⟩,ty,pos,aft,g⟩)(hw:fg ops l g=true)
  (hc:fW l cal=some (.func (.func gf) fs.toArray cs.toArray))(hx:iT l az.toList=some vs)(hd:Nat.blt d n=true)(hcf:∀args w,(callFunc gf args).run P w=.ok (.enter gf args) w)
  (hcall:∀w Y',St w0 S w h Y'->Cn P gf (fs++vs++cs) w (λu _=>u=v))
  (hk:eQ P r f R w0 S Y n (.inRegion ops rest::k) ((d,v)::l) h):eQ P r f R w0 S Y n (.inRegion ops (i::rest)::k) l h:=
 .Ou (λ_ u _=>u=v) ho hw hc hx hd hcf hcall (λ_ _ _ _ hS he e=>⟨h,hS.later he,e ▸ hk⟩)
end
def fU(P:av)(l:Fl)(h:Hl):List ResultVar->ai->Prop
 |[],[]=>True
 |.tmp t::rs,v::vs=>look l t=some v/\fU P l h rs vs
 |.cell a ty::rs,v::vs=>(∃b,look l a=some (aQ b)/\∃(j:Nat) (cs:af) (e:ax) (fr:Nat×Nat),h[j]?=some (some b,Obj.cells cs e fr)/\
  ((∀w,(isAgg ty).run P w=.ok true w)/\(∀w,(sizeOf ty).run P w=.ok cs.size w)/\v=.agg cs\/(∀w,(isAgg ty).run P w=.ok false w)/\cs[0]?=some v))/\fU P l h rs vs
 |_,_=>False
section
variable{P:av}{f:ay}{R:aC->aB->Prop}{w0:aB}{S:aq}{Y:List (Nat×Obj)}{n:Nat}{k:al}{l:Fl}{h:Hl}{fn:Func}
theorem fU.nil:fU P l h [] []:=eO
theorem fU.tmp{t:Tmp}{v:aC}{rs:List ResultVar}{vs:ai}(hv:look l t=some v)(hr:fU P l h rs vs):fU P l h (.tmp t::rs) (v::vs):=⟨hv,hr⟩
theorem fU.cell{a:Tmp}{ty:ax}{b m j:Nat}{cs:af}{e:ax}{fr:Nat×Nat}{rs:List ResultVar}{vs:ai}(ha:look l a=some (aQ b))(h1:∀w,(isAgg ty).run P w=.ok true w)(h2:∀w,(sizeOf ty).run P w=.ok m w)(hj:h[j]?=some (some b,Obj.cells cs e fr))(hm:cs.size=m)(hr:fU P l h rs vs):fU P l h (.cell a ty::rs) (.agg cs::vs):=
 ⟨⟨b,ha,j,cs,e,fr,hj,.inl ⟨h1,λw=>by rw[h2,hm],rfl⟩⟩,hr⟩
theorem uS{w:aB}{t:af}(hF:nS n t l)(hS:St w0 S w h Y):∀{rs:List ResultVar} {vs:ai},fU P l h rs vs->
  (rs.mapM (m:=Sem) λ|.tmp t'=>pure (t.getD t' undef)|.cell a ty=>do loadVar ty (<-asAddr (t.getD a undef))).run P w=.ok vs w
 |[],[],_=>rfl
 |.tmp q::rs,v::vs,⟨hv,hr⟩=>by
  rw[List.mapM_cons];simp only[Sem.run_bind,Sem.run_pure,Result.andThen_ok,uS hF hS hr,hF.2 _ _ hv]
 |.cell a ty::rs,v::vs,⟨⟨b,ha,j,cs,e,fr,hj,hv⟩,hr⟩=>by
  rw[List.mapM_cons];have hl2:(loadVar ty ⟨b,0,none⟩).run P w=.ok v w:=by
   rcases hv with⟨hag,hsz,rfl⟩|⟨hag,hv⟩;have hl:=vd (P:=P) (w:=w) (a:=⟨b,0,none⟩) (cs:=cs.toList) hag (λw=>by rw[hsz];simp) (λq v hv=>by
    rw[rL,eE];simp[World.cell?,hS.get hj]at hv⊢;exact hv);rw[Array.toArray_toList]at hl;simpa only[Instr.loadAt,Instr.sureAddr,Sem.run_bind,Sem.run_pure,Result.andThen_ok]using hl;have hc:=cell_of_row w b 0 cs e fr (hS.get hj);rw[hv]at hc;simp[loadVar,hag,hc]
  have hA:(asAddr (t.getD a undef)).run P w=.ok ⟨b,0,none⟩ w:=by rw[hF.2 _ _ ha];rfl
  simp only[Sem.run_bind,Sem.run_pure,Result.andThen_ok,hA,hl2,uS hF hS hr]
 |[],_::_,hr=>hr.elim
 |.tmp _::_,[],hr=>hr.elim
 |.cell _ _::_,[],hr=>hr.elim
theorem eQ.lM(fn:Func)(hf:P.funcs[f]?=some fn)(vs:ai)(hres:fU P l h fn.results.toList vs)(hR:∀w,St w0 S w h Y->R (l7 vs) w):eQ P none f R w0 S Y n (.code .ret::k) l h:=λt w Ds hF hS=>by
 refine yh hf hS (λcs=>by rw[jL];exact stepR_ret rfl) ?_ (hR _ hS.shut);unfold results;rw[Array.mapM_eq_mapM_toList];have hm:=uS (P:=P) hF hS.shut hres;simp only[Sem.run_bind,Sem.run_map,Sem.run_pure];refine(eK (λx=>(x.andThen λa w'=>Result.ok a.toArray w').andThen λa w'=>Result.ok (if h:a.size=1 then a[0]else Value.tuple a) w') hm).trans ?_;simp only[Result.andThen_ok];cases vs with
 |nil=>rfl
 |cons v us=>cases us with
  |nil=>rfl
  |cons u us=>simp[l7]
end
end
section
variable{a:ae}{x:au}
def C6{α:Type}(f:Nat->Option α):Nat->Option α
 |0=>none
 |k+1=>match C6 f k with
  |some x=>some x
  |none=>f k
theorem ub{α:Type}{enc:α->ai}{sz:Nat}(hsz:∀x,(enc x).length=sz):∀{xs:List α} {j i:Nat} (hj:j<xs.length),i<sz->(xs.flatMap enc)[j*sz+i]?=(enc xs[j])[i]?
 |[],j,i,hj,_=>by simp at hj
 |x::xs,0,i,_,hi=>by
  rw[List.flatMap_cons,Nat.zero_mul,eE,br (by rw[hsz];exact hi)];rfl
 |x::xs,j+1,i,hj,hi=>by
  rw[List.flatMap_cons,aY (by rw[hsz,Nat.add_mul];omega),hsz];rw[show(j+1)*sz+i - sz=j*sz+i from by rw[Nat.add_mul];omega];exact ub hsz (by simpa using hj) hi
theorem oX{α:Type}{enc:α->ai}{sz:Nat}(hsz:∀x,(enc x).length=sz):∀{xs:List α},(xs.flatMap enc).length=xs.length*sz
 |[]=>by simp
 |x::xs=>by rw[List.flatMap_cons,dc,hsz,oX hsz,dC,Nat.add_mul];omega
section
variable{P:av}{r:ah}{f:ay}{R:aC->aB->Prop}{w0:aB}{S:aq}{Y:List (Nat×Obj)}{n:Nat}{k:al}{l:Fl}{h:Hl}
variable{ops:aj}{i d:Nat}{rest:aq}{ty:ax}{pos:aA}{aft:ak}{g:Option (Nat×Bool)}
theorem jr{t e:ax}{y:au} {m cap sz:Nat}{kd:aw}{j:Int}{xs:ai}(ho:ops[i]?=some ⟨some d,.indexAddr t x y,ty,pos,aft,g⟩)(hw:fg ops l g=true)
  (hx:fW l x=some (.slice a m cap))(hy:fW l y=some (.int kd j))(hd:Nat.blt d n=true)(hu:P.underlying t=some (.slice e))(he:∀w,(sizeOf e).run P w=.ok sz w)
  (hs:∃w,Sl w a xs)(hm:xs.length=m*sz)(hsz:0<sz)(j':Nat)(hj:j=j'/\j'<m):eS P w0 S n h ops i l d (.pointer (some (sK a (j'*sz)))):=by
 obtain⟨w1,hs⟩:=hs;obtain⟨rfl,hj⟩:=hj;have h0:0<xs.length:=by rw[hm];exact Nat.mul_pos aH hsz
 obtain⟨b,o,rfl,_⟩:=hs.isSome h0;exact .of ho hw rfl rfl hd (λt' w Ds _ hF hS=>⟨.value (.pointer (some ⟨b,o+j'*sz,none⟩)),by
  simp only[execOp,hF.fW hx,hF.fW hy,Sem.run_bind,Ax hu he b o m cap kd j' hj w];rfl,rfl⟩)
theorem eS.fN{t e:ax}{y:au} {m cap sz:Nat}{kd:aw}{j:Int}{xs:ai}(hu:P.underlying t=some (.slice e))(he:∀w,(sizeOf e).run P w=.ok sz w)(hs:∃w,Sl w a xs)(hm:xs.length=m*sz)(hsz:0<sz)(j':Nat)(hj:j=j'/\j'<m)(ho:ops[i]?=some ⟨some d,.indexAddr t x y,ty,pos,aft,g⟩:=by exact rfl)(hw:fg ops l g=true:=by exact rfl)(hx:fW l x=some (.slice a m cap):=by exact rfl)(hy:fW l y=some (.int kd j):=by exact rfl)(hd:Nat.blt d n=true:=by exact rfl):eS P w0 S n h ops i l d (.pointer (some (sK a (j'*sz)))):=jr (ho:=ho) (hw:=hw) (hx:=hx) (hy:=hy) (hd:=hd) (hu:=hu) (he:=he) (hs:=hs) (hm:=hm) (hsz:=hsz) (j':=j') (hj:=hj)
theorem Sl.many{α:Type}{enc:α->ai}{sz:Nat}{w:aB} {xs:List α}(hs:Sl w a (xs.flatMap enc))(hsz:∀x,(enc x).length=sz){j:Nat}(hj:j<xs.length):∀q v,(enc xs[j])[q]?=some v->w.cell? ((sK a (j*sz)).add q)=some v:=by
 intro q v hv;have hq:q<sz:=by have:=(bA.1 hv).1;rwa[hsz]at this
 have h1:=ub hsz hj hq;rw[hv]at h1;obtain⟨h2,h3⟩:=bA.1 h1;rw[zr,hs.cell _ h2,aX,h1];rfl
theorem Sl.kl{α:Type}{enc:α->ai}{sz:Nat}{w:aB} {xs:List α}(hs:Sl w a (xs.flatMap enc))(hsz:∀x,(enc x).length=sz){j:Nat}(hj:j<xs.length){q:Nat}{v:aC}(hv:(enc xs[j])[q]?=some v):w.cell? (sK a (j*sz+q))=some v:=by
 have:=Sl.many hs hsz hj q v hv;rwa[zr]at this
theorem eS.m6{s:ax}  {o q:Nat}{fs:Array Field}{fd:Field}{sz:Nat}(ho:ops[i]?=some ⟨some d,.fieldAddr s x q,ty,pos,aft,g⟩)(hw:fg ops l g=true)
  (hx:fW l x=some (.pointer (some (sK a o))))(hd:Nat.blt d n=true)(hu:P.underlying s=some (.struct fs))(hq:fs[q]?=some fd)(he:∀w,(sizeOf fd.type).run P w=.ok (sz+1) w)(o':Nat)(hO:o+fd.offset=o'):
  eS P w0 S n h ops i l d (.pointer (some (sK a o'))):=by
 subst hO;exact .of ho hw rfl rfl hd (λt w Ds _ hF hS=>⟨.value (.pointer (some (sK a (o+fd.offset)))),by
  simp only[execOp,hF.fW hx,Instr.fieldAt,Sem.run_bind,run_underlying hu,Result.andThen_ok,hq,Instr.sureAddr,Sem.run_pure,fieldPlace,he];rw[if_neg aH];simp[zr],rfl⟩)
theorem eS.gG{s:ax}  {o q:Nat}{fs:Array Field}{fd:Field}{sz:Nat}(hu:P.underlying s=some (.struct fs))(he:∀w,(sizeOf fd.type).run P w=.ok (sz+1) w)(o':Nat)(ho:ops[i]?=some ⟨some d,.fieldAddr s x q,ty,pos,aft,g⟩:=by exact rfl)(hw:fg ops l g=true:=by exact rfl)(hx:fW l x=some (.pointer (some (sK a o))):=by exact rfl)(hd:Nat.blt d n=true:=by exact rfl)(hq:fs[q]?=some fd:=by exact rfl)(hO:o+fd.offset=o':=by exact rfl):eS P w0 S n h ops i l d (.pointer (some (sK a o'))):=eS.m6 (ho:=ho) (hw:=hw) (hx:=hx) (hd:=hd) (hu:=hu) (hq:=hq) (he:=he) (o':=o') (hO:=hO)
end
end
structure DV where
  KD:Int
  prop:Int
  a:ae
  cap:Nat
  ws:ar
def DV.cells(d:DV):ai:=[aS d.KD,aS d.prop,.slice d.a d.ws.length d.cap]
def DV.plain(d:DV):Int×Int×ar:=(d.KD,d.prop,d.ws)
structure DV.At (d:DV) (w:aB):Prop where
  at_:oe w d.a d.ws
  len:d.ws.length<=maxLen
structure P6 (w:aB) (a:ae) (ds:List DV):Prop where
  at_:Sl w a (ds.flatMap DV.cells)
  len:ds.length<=maxLen
  each:∀d∈ds,d.At w
structure P5 (H:Hl) (a:ae) (ds:List DV):Prop where
  at_:ds=[]\/∃b e sp,a=some ⟨b,0,none⟩/\(some b,Obj.cells (ds.flatMap DV.cells++sp).toArray e (0,0))∈H
  len:ds.length<=maxLen
  each:∀d∈ds,O2 fD H d.a d.ws/\d.ws.length<=maxLen
end Go.Proofs.Wit
namespace Go.Proofs.Wit
structure NV where
  op:Int
  i:Int
  e:Int
  g:Int
  x:Int
  y:Int
deriving DecidableEq
def NV.cells(n:NV):ai:=[fD n.op,fD n.i,fD n.e,fD n.g,fD n.x,fD n.y]
def jd(op:Int):Bool:=decide (4<=op) && decide (op<=21)
def iH(op:Int):Bool:=decide (5<=op) && decide (op<=8)||op==13||op==14||op==16||op==19||op==21
def sJ(op:Int):Bool:=op==9||op==10||op==14||op==15
def oP(op:Int):Bool:=decide (11<=op) && decide (op<=13)
theorem jQ{op:Int}(h:iH op=true):jd op=true:=by
 simp only[iH,jd,dK,dx,du,eJ]at h⊢;omega
inductive Tr where
  |leaf (op i e g:Int)
  |un (op i e g:Int) (a:Tr)
  |bin (op i e g:Int) (a b:Tr)
deriving DecidableEq
def Tr.op:Tr->Int
 |.leaf op _ _ _=>op
 |.un op _ _ _ _=>op
 |.bin op _ _ _ _ _=>op
def kids:Tr->List Tr
 |.leaf ..=>[]
 |.un _ _ _ _ a=>[a]
 |.bin _ _ _ _ a b=>[a,b]
def Tr.wf:Tr->Prop
 |.leaf op _ _ _=>jd op=false
 |.un op _ _ _ a=>jd op=true/\iH op=false/\a.wf
 |.bin op _ _ _ a b=>iH op=true/\a.wf/\b.wf
def qV:Tr:=.leaf 0 0 0 0
def Ae(n:NV)(a b:Tr):Tr:=if iH n.op=true then .bin n.op n.i n.e n.g a b else if jd n.op=true then .un n.op n.i n.e n.g a else .leaf n.op n.i n.e n.g
theorem mi{n:NV}{a b:Tr}(h:jd n.op=false):Ae n a b=.leaf n.op n.i n.e n.g:=by
 unfold Ae;rw[if_neg (by intro h2;rw[jQ h2]at h;cases h),if_neg (by rw[h];simp)]
theorem pH{n:NV}{a b:Tr}(h:jd n.op=true)(h2:iH n.op=false):Ae n a b=.un n.op n.i n.e n.g a:=by
 unfold Ae;rw[if_neg (by rw[h2];simp),if_pos h]
theorem nP{n:NV}{a b:Tr}(h:iH n.op=true):Ae n a b=.bin n.op n.i n.e n.g a b:=by
 unfold Ae;rw[if_pos h]
theorem LH{n:NV}{a b:Tr}(ha:a.wf)(hb:b.wf):(Ae n a b).wf:=by
 unfold Ae;split;rename_i h;exact⟨h,ha,hb⟩;rename_i h;split;rename_i h2;exact⟨h2,by simpa using h,ha⟩;rename_i h2;show jd n.op=false;simpa using h2
theorem ER:qV.wf:=by show jd 0=false;decide
def HF(acc:List Tr):List NV->List Tr
 |[]=>acc
 |n::ns=>HF (acc++[Ae n (acc.getD n.x.toNat qV) (acc.getD n.y.toNat qV)]) ns
def trees(f:List NV):List Tr:=HF [] f
theorem zJ:∀{ns:List NV} {acc:List Tr} {n:NV},HF acc (ns++[n])=HF acc ns++[Ae n ((HF acc ns).getD n.x.toNat qV) ((HF acc ns).getD n.y.toNat qV)]
 |[],_,_=>rfl
 |m::ns,acc,n=>by rw[dz,HF,zJ,HF]
theorem lN{f:List NV}{n:NV}:trees (f++[n])=trees f++[Ae n ((trees f).getD n.x.toNat qV) ((trees f).getD n.y.toNat qV)]:=zJ
theorem mU{α:Type}{p:List α->Prop}(h0:p [])(h1:∀l a,p l->p (l++[a]))(l:List α):p l:=by
 have:∀n (l:List α),l.length=n->p l:=by
  intro n
  induction n with
  |zero=>intro l h;rw[aU h];exact h0
  |succ n w=>
   intro l h;have m:l≠[]:=by rintro rfl;simp at h
   rw[<-List.dropLast_concat_getLast m];exact h1 _ _ (w _ (by simp[h]))
 exact this _ l rfl
theorem js(f:List NV):(trees f).length=f.length:=by
 induction f using mU with
 |h0=>rfl
 |h1 f n h=>rw[lN];simp[h]
theorem we(f:List NV)(k:Nat):(trees f).take k=trees (f.take k):=by
 induction f using mU with
 |h0=>simp[trees,HF]
 |h1 f n h=>
  by_cases hk:k<=f.length;rw[lN,List.take_append_of_le_length (by rw[js];exact hk),List.take_append_of_le_length hk,h];rw[bR (by rw[js];simp;omega),bR aN]
theorem DH{f:List NV}{k:Nat}(hk:k<f.length):(trees f)[k]'(by rw[js];exact hk)=Ae f[k] (((trees f).take k).getD f[k].x.toNat qV) (((trees f).take k).getD f[k].y.toNat qV):=by
 have h1:f.take (k+1)=f.take k++[f[k]]:=aT hk;have h2:=we f (k+1);rw[h1,lN,<-we]at h2;have h:((trees f).take (k+1))[k]?=some (Ae f[k] (((trees f).take k).getD f[k].x.toNat qV) (((trees f).take k).getD f[k].y.toNat qV)):=by
  rw[h2,aY (by rw[dD,js];omega),dD,js,dU aH,eD];rfl
 rw[List.getElem?_take,if_pos aH,bG (by rw[js];exact hk)]at h;exact dX h
theorem EO(f:List NV):∀t∈trees f,t.wf:=by
 induction f using mU with
 |h0=>intro t h;cases h
 |h1 f n m=>
  have hd:∀k,((trees f).getD k qV).wf:=λk=>by
   by_cases hk:k<(trees f).length;rw[show(trees f).getD k qV=(trees f)[k]from by simp[aX,hk]];exact m _ (dB hk);rw[show(trees f).getD k qV=qV from by simp[aX,bX (Nat.le_of_not_lt hk)]];exact ER
  intro t h;rw[lN]at h;rcases dP.1 h with h|h;exact m t h;rw[de.1 h];exact LH (hd _) (hd _)
def visit:Tr->List Tr->List Tr
 |.leaf op i e g,ts=>if Tr.leaf op i e g∈ts then ts else ts++[.leaf op i e g]
 |.un op i e g a,ts=>if Tr.un op i e g a∈ts then ts else visit a ts++[.un op i e g a]
 |.bin op i e g a b,ts=>if Tr.bin op i e g a b∈ts then ts else visit b (visit a ts)++[.bin op i e g a b]
def rR(ts:List Tr):Prop:=∀(k:Nat) (hk:k<ts.length),∀c∈kids ts[k],c∈ts.take k
theorem rR.nil:rR []:=λ_k hk=>absurd hk (dV _)
theorem rR.snoc{ts:List Tr}{t:Tr}(h:rR ts)(p:∀c∈kids t,c∈ts):rR (ts++[t]):=λk hk c hc=>by
 rw[dc,List.length_singleton]at hk;by_cases m:k<ts.length;rw[bH m]at hc;rw[List.take_append_of_le_length aH];exact h k m c hc;obtain rfl:k=ts.length:=aH;rw[List.getElem_append_right (eG _)]at hc;simp only[eD,List.getElem_cons_zero]at hc;rw[List.take_left'];exact p c hc;rfl
theorem rR.mem{ts:List Tr}(h:rR ts){t:Tr}(m:t∈ts):∀c∈kids t,c∈ts:=λc hc=>by
 obtain⟨k,hk,rfl⟩:=cG.1 m;exact cJ (h k hk c hc)
def size:Tr->Nat
 |.leaf ..=>1
 |.un _ _ _ _ a=>size a+1
 |.bin _ _ _ _ a b=>size a+size b+1
theorem oK(t:Tr):∀{ts:List Tr} {u:Tr},u∈visit t ts->u∈ts\/size u<=size t:=by
 induction t with
 |leaf op i e g=>
  intro ts u h;rw[visit]at h;split at h;exact .inl h;rcases dP.1 h with h|h;exact .inl h;rw[de.1 h];exact .inr (eG _)
 |un op i e g a m=>
  intro ts u h;rw[visit]at h;split at h;exact .inl h;rcases dP.1 h with h|h;rcases m h with h|h;exact .inl h;exact .inr (by simp only[size];omega);rw[de.1 h];exact .inr (eG _)
 |bin op i e g a b m p=>
  intro ts u h;rw[visit]at h;split at h;exact .inl h;rcases dP.1 h with h|h;rcases p h with h|h;rcases m h with h|h;exact .inl h;exact .inr (by simp only[size];omega);exact .inr (by simp only[size];omega);rw[de.1 h];exact .inr (eG _)
structure Qm (t:Tr) (ts us:List Tr):Prop where
  qU:rR us
  nd:us.Nodup
  pre:ts<+:us
  mem:t∈us
theorem oS{ts:List Tr}{t:Tr}(h:ts.Nodup)(m:t∉ts):(ts++[t]).Nodup:=by
 rw[dq];exact⟨h,by simp,λa ha b hb=>by rw[de.1 hb];rintro rfl;exact m ha⟩
theorem kJ(t:Tr):∀{ts:List Tr},rR ts->ts.Nodup->Qm t ts (visit t ts):=by
 induction t with
 |leaf op i e g=>
  intro ts hc w;rw[visit];split;rename_i h;exact⟨hc,w,dF _,h⟩;rename_i h;exact⟨hc.snoc (λc hc=>by cases hc),oS w h,df _ _,by simp⟩
 |un op i e g a C=>
  intro ts hc w;rw[visit];split;rename_i h;exact⟨hc,w,dF _,h⟩;rename_i h;obtain⟨h1,h2,F,E⟩:=C hc w;have m:Tr.un op i e g a∉visit a ts:=λhm=>by
   rcases oK a hm with p|p;exact h p;simp only[size]at p;omega
  exact⟨h1.snoc (λc hc=>by rw[de.1 hc];exact E),oS h2 m,F.trans (df _ _),by simp⟩
 |bin op i e g a b C D=>
  intro ts hc w;rw[visit];split;rename_i h;exact⟨hc,w,dF _,h⟩;rename_i h;obtain⟨h1,h2,F,E⟩:=C hc w;obtain⟨N,M,J,K⟩:=D h1 h2;have m:Tr.bin op i e g a b∉visit b (visit a ts):=λhm=>by
   rcases oK b hm with p|p;rcases oK a p with p|p;exact h p;simp only[size]at p;omega;simp only[size]at p;omega
  refine⟨N.snoc (λc hc=>?_),oS M m,(F.trans J).trans (df _ _),by simp⟩;simp only[kids,ew,dE,eM]at hc;rcases hc with rfl|rfl;exact J.subset E;exact K
def fM(ts:List Tr):Tr->NV
 |.leaf op i e g=>⟨op,i,e,g,0,0⟩
 |.un op i e g a=>⟨op,i,e,g,(ts.idxOf a:Int),0⟩
 |.bin op i e g a b=>⟨op,i,e,g,(ts.idxOf a:Int),(ts.idxOf b:Int)⟩
def ff(ts:List Tr):List NV:=ts.map (fM ts)
theorem mK{ts:List Tr}:(ff ts).length=ts.length:=by simp[ff]
theorem pw{ts m:List Tr}(h:ts<+:m){t:Tr}(p:t∈ts):m.idxOf t=ts.idxOf t:=by
 obtain⟨vs,rfl⟩:=h;rw[List.idxOf_append,if_pos p]
theorem wI{ts p:List Tr}(h:ts<+:p){t:Tr}(m:∀c∈kids t,c∈ts):fM p t=fM ts t:=by
 cases t with
 |leaf=>rfl
 |un op i e g a=>simp only[fM];rw[pw h (m a (by simp[kids]))]
 |bin op i e g a b=>simp only[fM];rw[pw h (m a (by simp[kids])),pw h (m b (by simp[kids]))]
theorem oD{ts:List Tr}(hc:rR ts){t:Tr}(h:∀c∈kids t,c∈ts):ff (ts++[t])=ff ts++[fM ts t]:=by
 unfold ff;rw[dO,List.map_singleton,wI (df _ _) h]
 congr 1
 exact List.map_congr_left (λu hu=>wI (df _ _) (hc.mem hu))
theorem y8{ts:List Tr}{a b:Tr}(ha:a∈ts)(hb:b∈ts)(h:ts.idxOf a=ts.idxOf b):a=b:=by
 have h1:=db (bJ.2 ha);have h2:=db (bJ.2 hb);rw[<-h1,<-h2]
 congr 1
theorem wJ{ts:List Tr}{t u:Tr}(p:t.wf)(hu:u.wf)(h1:∀c∈kids t,c∈ts)(h2:∀c∈kids u,c∈ts)(h:fM ts t=fM ts u):t=u:=by
 cases t with
 |leaf op i e g=>
  cases u with
  |leaf m w D C=>simp only[fM,NV.mk.injEq]at h;obtain⟨rfl,rfl,rfl,rfl,_⟩:=h;rfl
  |un m w D C E=>simp only[fM,NV.mk.injEq]at h;obtain⟨rfl,_⟩:=h;simp only[Tr.wf]at p hu;rw[p]at hu;cases hu.1
  |bin m w D C E F=>simp only[fM,NV.mk.injEq]at h;obtain⟨rfl,_⟩:=h;simp only[Tr.wf]at p hu;rw[jQ hu.1]at p;cases p
 |un op i e g a=>
  cases u with
  |leaf m w D C=>simp only[fM,NV.mk.injEq]at h;obtain⟨rfl,_⟩:=h;simp only[Tr.wf]at p hu;rw[p.1]at hu;cases hu
  |un m w D C E=>
   simp only[fM,NV.mk.injEq]at h;obtain⟨rfl,rfl,rfl,rfl,hx,_⟩:=h;rw[y8 (h1 a (by simp[kids])) (h2 E (by simp[kids])) aH]
  |bin m w D C E F=>simp only[fM,NV.mk.injEq]at h;obtain⟨rfl,_⟩:=h;simp only[Tr.wf]at p hu;rw[hu.1]at p;cases p.2.1
 |bin op i e g a b=>
  cases u with
  |leaf m w D C=>simp only[fM,NV.mk.injEq]at h;obtain⟨rfl,_⟩:=h;simp only[Tr.wf]at p hu;rw[jQ p.1]at hu;cases hu
  |un m w D C E=>simp only[fM,NV.mk.injEq]at h;obtain⟨rfl,_⟩:=h;simp only[Tr.wf]at p hu;rw[p.1]at hu;cases hu.2.1
  |bin m w D C E F=>
   simp only[fM,NV.mk.injEq]at h;obtain⟨rfl,rfl,rfl,rfl,hx,hy⟩:=h;rw[y8 (h1 a (by simp[kids])) (h2 E (by simp[kids])) aH,y8 (h1 b (by simp[kids])) (h2 F (by simp[kids])) aH]
theorem yN{ts:List Tr}(hc:rR ts)(C:ts.Nodup)(hw:∀u∈ts,u.wf){t:Tr}(w:t∈ts):
  (ff ts)[ts.idxOf t]?=some (fM ts t)/\∀k,k<ts.idxOf t->(ff ts)[k]?≠some (fM ts t):=by
 have p:=bJ.2 w;refine⟨by rw[ff,dn,bG p,db p];rfl,λk hk h=>?_⟩;have m:k<ts.length:=aH;rw[ff,dn,bG m,dW,dt]at h;have h1:=wJ (hw _ (dB m)) (hw t w) (hc.mem (dB m)) (hc.mem w) h;have h2:ts.idxOf t=k:=by rw[<-h1];exact C.idxOf_getElem k m
 omega
theorem CE{ts:List Tr}(hc:rR ts)(hw:∀u∈ts,u.wf){t:Tr}(m:t.wf)(hk:∀c∈kids t,c∈ts)(p:t∉ts):∀k:Nat,(ff ts)[k]?≠some (fM ts t):=λk h=>by
 rw[ff,dn]at h;obtain⟨u,hu,he⟩:=Option.map_eq_some_iff.1 h;have hm:=cH hu;rw[wJ (hw u hm) m (hc.mem hm) hk he]at hm;exact p hm
theorem EN(t:Tr)(p:t.wf):∀{ts:List Tr},(∀u∈ts,u.wf)->∀u∈visit t ts,u.wf:=by
 induction t with
 |leaf op i e g=>
  intro ts h u hu;rw[visit]at hu;split at hu;exact h u hu;rcases dP.1 hu with hu|hu;exact h u hu;rw[de.1 hu];exact p
 |un op i e g a m=>
  intro ts h u hu;rw[visit]at hu;split at hu;exact h u hu;rcases dP.1 hu with hu|hu;exact m p.2.2 h u hu;rw[de.1 hu];exact p
 |bin op i e g a b m w=>
  intro ts h u hu;rw[visit]at hu;split at hu;exact h u hu;rcases dP.1 hu with hu|hu;exact w p.2.2 (m p.2.1 h) u hu;rw[de.1 hu];exact p
theorem xt{ts:List Tr}(hc:rR ts)(hw:∀u∈ts,u.wf):trees (ff ts)=ts:=by
 induction ts using mU with
 |h0=>rfl
 |h1 ts t C=>
  have hk:∀c∈kids t,c∈ts:=λc h=>by
   have:=hc ts.length aL c (by simpa using h);rwa[List.take_left' rfl]at this
  have w:rR ts:=λk hk c h=>by
   have:=hc k aN c (by rw[bH hk];exact h);rwa[List.take_append_of_le_length aH]at this
  rw[oD w hk,lN,C w (λu hu=>hw u (cD _ hu))]
  congr 2
  have m:=hw t aL;have hg:∀c∈ts,ts.getD ((ts.idxOf c:Int)).toNat qV=c:=λc h=>by
   have p:=bJ.2 h;rw[di,aX,bG p,db p];rfl
  cases t with
  |leaf op i e g=>exact(mi (n:=⟨op,i,e,g,0,0⟩) m)
  |un op i e g a=>
   refine(pH (n:=⟨op,i,e,g,(ts.idxOf a:Int),0⟩) m.1 m.2.1).trans ?_;dsimp only[fM];rw[hg a (hk a (by simp[kids]))]
  |bin op i e g a b=>
   refine(nP (n:=⟨op,i,e,g,(ts.idxOf a:Int),(ts.idxOf b:Int)⟩) m.1).trans ?_;dsimp only[fM];rw[hg a (hk a (by simp[kids])),hg b (hk b (by simp[kids]))]
theorem lW(t:Tr):∀{ts m:List Tr},rR m->t∈m->ts⊆m->visit t ts⊆m:=by
 induction t with
 |leaf op i e g=>
  intro ts m hc h hs;rw[visit];split;exact hs;exact List.append_subset.2 ⟨hs,by simpa using h⟩
 |un op i e g a p=>
  intro ts m hc h hs;rw[visit];split;exact hs;exact List.append_subset.2 ⟨p hc (hc.mem h a (by simp[kids])) hs,by simpa using h⟩
 |bin op i e g a b p w=>
  intro ts m hc h hs;rw[visit];split;exact hs;exact List.append_subset.2 ⟨w hc (hc.mem h b (by simp[kids])) (p hc (hc.mem h a (by simp[kids])) hs),by simpa using h⟩
def kK(t:Tr):List Tr:=visit t []
def iD(t:Tr):List NV:=ff (kK t)
theorem nK(t:Tr):Qm t [] (kK t):=kJ t rR.nil ed
theorem Ih{t:Tr}(h:t.wf):∀u∈kK t,u.wf:=EN t h (λu hu=>by cases hu)
theorem sP{t:Tr}(h:t.wf):trees (iD t)=kK t:=xt (nK t).qU (Ih h)
theorem lT{t:Tr}:(iD t).length=(kK t).length:=mK
theorem uG(t:Tr):∃l,kK t=l++[t]:=by
 cases t with
 |leaf op i e g=>exact⟨[],by simp[kK,visit]⟩
 |un op i e g a=>exact⟨visit a [],by simp[kK,visit]⟩
 |bin op i e g a b=>exact⟨visit b (visit a []),by simp[kK,visit]⟩
def gA(f:List NV):Tr:=(trees f).getD (f.length - 1) qV
theorem nu{t:Tr}(h:t.wf):gA (iD t)=t:=by
 unfold gA;rw[sP h,lT];obtain⟨l,m⟩:=uG t;rw[m];simp
section
variable{f:List NV}{i:Nat}
def Ph:NV:=⟨0,0,0,0,0,0⟩
def tO(used:Bool)(v at_:Int):Bool:=used && decide (0<=v) && decide (v<at_)||!used && v==0
def iO(op:Int):Bool:=op==3||sJ op||op==17
def kN(op i e g:Int):Int:=
 if (!iO op && i !=0||op !=17 && e !=0||!oP op && g !=0)=true then 3
 else if (op==3 && !(decide (0<=i) && decide (i<8))||sJ op && !(decide (0<=i) && decide (i<4))||op==17 && !(decide (0<=i) && decide (i<8) && decide (0<=e) && decide (e<8))||oP op && !(decide (1<=g) && decide (g<16)))=true then 2 else 0
def ko(n:NV)(at_:Int):Int:=
 if ¬(1<=n.op/\n.op<=21)then 10
 else if ¬(tO (jd n.op) n.x at_=true/\tO (iH n.op) n.y at_=true)then 3 else kN n.op n.i n.e n.g
def lk(e:Nat->Int):Nat->Int
 |0=>0
 |n+1=>if lk e n≠0 then lk e n else e n
theorem pz{e:Nat->Int}:∀{n:Nat},lk e n=0↔∀i,i<n->e i=0
 |0=>by simp[lk]
 |n+1=>by
  rw[lk];constructor;intro h i hi;split at h;rename_i h2;exact absurd h h2;rename_i h2;rcases Nat.lt_succ_iff_lt_or_eq.1 hi with hi|rfl;exact pz.1 (Classical.not_not.1 h2) i hi;exact h;intro h;have h1:lk e n=0:=pz.2 (λi hi=>h i (Nat.lt_succ_of_lt hi));rw[if_neg (by simp[h1])];exact h n (dH n)
theorem AH{e:Nat->Int}{n:Nat}(h:lk e n≠0):∀m,n<=m->lk e m=lk e n:=λm hm=>by
 obtain⟨k,rfl⟩:∃k,m=n+k:=⟨m - n,aH⟩;clear hm
 induction k with
 |zero=>rfl
 |succ k p=>rw[<-Nat.add_assoc,lk,if_pos (by rw[p];exact h),p]
theorem w6{e:Nat->Int}{n m:Nat}(h:lk e n=0)(he:e n≠0)(hm:n<m):lk e m=e n:=by
 have h1:lk e (n+1)=e n:=by rw[lk,if_neg (by simp[h])]
 rw[AH (n:=n+1) (by rw[h1];exact he) m hm,h1]
def zh(f:List NV)(i:Nat):Int:=ko (f.getD i Ph) i
def fX(f:List NV):Int:=if f.length=0 then 3 else if 200<f.length then 8 else lk (zh f) f.length
structure EE (f:List NV):Prop where
  pos:0<f.length
  len:f.length<=200
  node:∀(i:Nat) (hi:i<f.length),ko f[i] i=0
theorem fA :fX f=0↔EE f:=by
 unfold fX;have hg:∀(i:Nat) (hi:i<f.length),zh f i=ko f[i] i:=λi hi=>by simp[zh,aX,hi]
 constructor;intro h;split at h;cases h;rename_i h1;split at h;cases h;rename_i h2;exact⟨aH,aH,λi hi=>by rw[<-hg i hi];exact pz.1 h i hi⟩;rintro ⟨h1,h2,m⟩;rw[if_neg aH,if_neg aH];exact pz.2 (λi hi=>by rw[hg i hi];exact m i hi)
structure HN (n:NV) (at_:Int):Prop where
  op:1<=n.op/\n.op<=21
  x:jd n.op=true->0<=n.x/\n.x<at_
  x0:jd n.op=false->n.x=0
  y:iH n.op=true->0<=n.y/\n.y<at_
  y0:iH n.op=false->n.y=0
  kl:kN n.op n.i n.e n.g=0
theorem tN{h:Bool}{v at_:Int}:tO h v at_=true↔(h=true->0<=v/\v<at_)/\(h=false->v=0):=by
 cases h<;>simp[tO]
theorem ld{n:NV}{at_:Int}:ko n at_=0↔HN n at_:=by
 unfold ko;constructor;intro h;split at h;cases h;rename_i h1;split at h;cases h;rename_i h2;obtain⟨E,D⟩:=Classical.not_not.1 h2;obtain⟨C,w⟩:=tN.1 E;obtain⟨p,m⟩:=tN.1 D;exact⟨Classical.not_not.1 h1,C,w,p,m,h⟩;rintro ⟨h1,C,w,p,m,h⟩;rw[if_neg (by simp[h1]),if_neg (by simp[tN.2 ⟨C,w⟩,tN.2 ⟨p,m⟩])];exact h
theorem EE.at (h:EE f)(i:Nat)(hi:i<f.length):HN f[i] i:=ld.1 (h.node i hi)
def eP(f:List NV)(i:Nat):Tr:=(trees f).getD i qV
theorem mH  (hi:i<f.length):eP f i=(trees f)[i]'(by rw[js];exact hi):=by
 simp[eP,aX,show i<(trees f).length from by rw[js];exact hi]
theorem rm  (hi:i<f.length)(hx:jd f[i].op=true->f[i].x.toNat<i)(hy:iH f[i].op=true->f[i].y.toNat<i):
  eP f i=Ae f[i] (eP f f[i].x.toNat) (eP f f[i].y.toNat):=by
 rw[mH hi,DH hi];have h:∀k,k<i->((trees f).take i).getD k qV=eP f k:=λk hk=>by
  unfold eP;simp[aX,hk]
 by_cases h1:iH f[i].op=true;rw[nP h1,nP h1,h _ (hx (jQ h1)),h _ (hy h1)];by_cases h2:jd f[i].op=true;rw[pH h2 (by simpa using h1),pH h2 (by simpa using h1),h _ (hx h2)];rw[mi (by simpa using h2),mi (by simpa using h2)]
theorem oL(f:List NV)(i:Nat):(eP f i).wf:=by
 unfold eP;by_cases hi:i<(trees f).length;rw[show(trees f).getD i qV=(trees f)[i]from by simp[aX,hi]];exact EO f _ (dB hi);rw[show(trees f).getD i qV=qV from by simp[aX,bX (Nat.le_of_not_lt hi)]];exact ER
def zv(f:List NV):Prop:=∀(i:Nat) (hi:i<f.length),(jd f[i].op=true->0<=f[i].x/\f[i].x<i)/\(iH f[i].op=true->0<=f[i].y/\f[i].y<i)
theorem EE.ord (h:EE f):zv f:=λi hi=>⟨(h.at i hi).x,(h.at i hi).y⟩
theorem zv.qU (h:zv f):rR (trees f):=λk hk c hc=>by
 rw[js]at hk;obtain⟨hx,hy⟩:=h k hk;have h1:=rm hk (λhu=>by have:=hx hu;omega) (λhu=>by have:=hy hu;omega);rw[<-mH hk,h1]at hc;have m:∀j,j<k->eP f j∈(trees f).take k:=λj hj=>by
  rw[mH (by omega:j<f.length)];rw[List.mem_take_iff_getElem];exact⟨j,by rw[js];omega,rfl⟩
 by_cases h2:iH f[k].op=true;rw[nP h2]at hc;simp only[kids,ew,dE,eM]at hc;rcases hc with rfl|rfl;exact m _ (by have:=hx (jQ h2);omega);exact m _ (by have:=hy h2;omega);by_cases p:jd f[k].op=true;rw[pH p (by simpa using h2)]at hc;rw[de.1 hc];exact m _ (by have:=hx p;omega);rw[mi (by simpa using p)]at hc;cases hc
theorem sf (h:zv f) (hi:i<f.length):(iD (eP f i)).length<=i+1:=by
 have m:rR ((trees f).take (i+1)):=λk hk c hc=>by
  rw[dD]at hk;rw[List.getElem_take]at hc;have:=h.qU k aH c hc;rw[List.take_take,dU aH];exact this
 have hm:eP f i∈(trees f).take (i+1):=by
  rw[mH hi,List.mem_take_iff_getElem];exact⟨i,by rw[js];omega,rfl⟩
 have hs:=lW (eP f i) (ts:=[]) m hm (List.nil_subset _);have w:=(nK (eP f i)).nd;rw[lT];have p:=w.length_le_of_subset hs;rw[dD]at p;omega
end
section
variable{a e g i op:Int}{n:NV}
theorem wK  (h:¬(1<=n.op/\n.op<=21)):ko n a=10:=if_pos h
theorem CR  (h:1<=n.op/\n.op<=21)(hb:tO (jd n.op) n.x a=false):ko n a=3:=by
 rw[ko,if_neg (by simp[h]),if_pos (by rw[hb];simp)]
theorem CQ  (h:1<=n.op/\n.op<=21)(hb:tO (iH n.op) n.y a=false):ko n a=3:=by
 rw[ko,if_neg (by simp[h]),if_pos (by rw[hb];simp)]
theorem mw  (h:1<=n.op/\n.op<=21)(hx:tO (jd n.op) n.x a=true)(hy:tO (iH n.op) n.y a=true):ko n a=kN n.op n.i n.e n.g:=by
 rw[ko,if_neg (by simp[h]),if_neg (by rw[hx,hy];simp)]
theorem GC (h:(!iO op && i !=0||op !=17 && e !=0||!oP op && g !=0)=true):kN op i e g=3:=if_pos h
theorem rz (h:(!iO op && i !=0||op !=17 && e !=0||!oP op && g !=0)=false)(h2:(op==3 && !(decide (0<=i) && decide (i<8))||sJ op && !(decide (0<=i) && decide (i<4))||op==17 && !(decide (0<=i) && decide (i<8) && decide (0<=e) && decide (e<8))||oP op && !(decide (1<=g) && decide (g<16)))=true):kN op i e g=2:=by
 rw[kN,if_neg (by rw[h];simp),if_pos h2]
theorem GD (h:(!iO op && i !=0||op !=17 && e !=0||!oP op && g !=0)=false)(h2:(op==3 && !(decide (0<=i) && decide (i<8))||sJ op && !(decide (0<=i) && decide (i<4))||op==17 && !(decide (0<=i) && decide (i<8) && decide (0<=e) && decide (e<8))||oP op && !(decide (1<=g) && decide (g<16)))=false):kN op i e g=0:=by
 rw[kN,if_neg (by rw[h];simp),if_neg (by rw[h2];simp)]
end
end Go.Proofs.Wit
namespace Go.Proofs.Wit
open Go Go.RowKit
def reach(ops:aj):Nat->aq->aq
 |0,acc=>acc
 |j+1,acc=>reach ops j (cond (acc.any λz=>(iM ops z).contains j) (j::acc) acc)
def below(ops:aj)(x:Nat):aq:=reach ops x [x]
def forced(ops:aj):aq->aq->Bool
 |listed,[]=>(fw ops listed).isEmpty
 |listed,x::rest=>(fw ops listed==[x]) && forced ops (x::listed) rest
def Bc(ops:aj)(_l:Fl)(m:Nat):Bool:=
 Nat.ble m ops.size &&
 (List.range ops.size).all (λi=>(iM ops i).all (λj=>Nat.blt j i)) &&
 (List.range m).all (λi=>match ops[i]? with
  |none=>false
  |some o=>lG o.op && match o.dst with
   |none=>false
   |some d=>(List.range ops.size).all (λj=>Nat.beq j i||!(hJ ops j==some d)) &&
    (mF ops o).all (λs=>(List.range ops.size).all (λj=>!(hJ ops j==some s)||(iM ops i).contains j||(Nat.ble m j && (below ops j).contains i)))) &&
 (List.range' m (ops.size - m)).all (λi=>match ops[i]? with
  |none=>false
  |some o=>(mF ops o).all (λs=>(List.range m).all (λj=>!(hJ ops j==some s)||(iM ops i).contains j)))
section
variable{P:av}{r:ah}{f:ay}{R:aC->aB->Prop}{w0:aB}{S:aq}{Y:List (Nat×Obj)}{n:Nat}{k:al}{l:Fl}{h:Hl}{ops:aj}
def ik(P:av)(w0:aB)(S:aq)(n:Nat)(h:Hl)(ops:aj)(i:Nat)(l:Fl)(d:Nat)(K:aC->Hl->Prop):Prop:=
 ∃o,ops[i]?=some o/\o.dst=some d/\lL o.op=false/\lG o.op=true/\Nat.blt d n=true/\
  ((fg ops l o.guard=true/\∀(t:af) (w:aB) (Ds:aq) (Y':List (Nat×Obj)),nS n t l->St w0 S w h Y'->
   (∃v w' h',(execOp (Act.eval ⟨t,Ds.map mark⟩) o).run P w=.ok (.value v) w'/\St w0 S w' h' Y'/\K v h')\/
   (∃gf args,∃Rc:aC->aB->Prop,(execOp (Act.eval ⟨t,Ds.map mark⟩) o).run P w=.ok (.enter gf args) w/\(Calls P gf args w λe w'=>∃v,e=.returned v/\Rc v w')/\∀v w',Rc v w'->∃h',St w0 S w' h' Y'/\K v h'))\/
  (sA ops l o.guard=true/\K undef h))
theorem ik.v{i d:Nat}{v:aC}{K:aC->Hl->Prop}(hv:eS P w0 S n h ops i l d v)(hsel:∀o,ops[i]?=some o->lG o.op=true)(hk:K v h):ik P w0 S n h ops i l d K:=by
 obtain⟨o,ho,hw,hdst,hnd,hd,hr⟩:=hv;exact⟨o,ho,hdst,hnd,hsel o ho,hd,.inl ⟨hw,λt w Ds Y' hF hS=>.inl (by
  obtain⟨nx,h1,rfl⟩:=hr t w Ds Y' hF hS;exact⟨v,w,h,h1,hS,hk⟩)⟩⟩
section
variable{i d:Nat}{ty:ax}{pos:aA}{aft:ak}{g:Option (Nat×Bool)}{K:aC->Hl->Prop}
theorem ik.Dy{e:ax}{z:aC}(ho:ops[i]?=some ⟨some d,.alloc e,ty,pos,aft,g⟩)(hw:fg ops l g=true)(hd:Nat.blt d n=true)(hz:∀w,(zeroValue e).run P w=.ok z w)
  (hk:∀b,K (aQ b) ((some b,.cells z.cells e)::h)):ik P w0 S n h ops i l d K:=
 ⟨_,ho,rfl,rfl,rfl,hd,.inl ⟨hw,λt w Ds Y' hF hS=>.inl ⟨aQ w.heap.size,w.alloc (.cells z.cells e),_,by
  simp[execOp,Instr.alloc,hz,newVar,newRow],hS.alloc rfl,hk _⟩⟩⟩
theorem ik.bx{e:ax}{x:au}{v:aC}(ho:ops[i]?=some ⟨some d,.box e x,ty,pos,aft,g⟩)(hw:fg ops l g=true)(hx:fW l x=some v)(hd:Nat.blt d n=true)
  (hk:∀b,K (aQ b) ((some b,.cells v.cells e)::h)):ik P w0 S n h ops i l d K:=
 ⟨_,ho,rfl,rfl,rfl,hd,.inl ⟨hw,λt w Ds Y' hF hS=>.inl ⟨aQ w.heap.size,w.alloc (.cells v.cells e),_,by
  simp[execOp,Instr.box,hF.fW hx,newVar,newRow],hS.alloc rfl,hk _⟩⟩⟩
theorem ik.xA{t e:ax}{len:Nat}{az:Array (Nat×au)}{ps:List (Nat×aC)}{z:aC}{size:Nat}{c:ai}(ho:ops[i]?=some ⟨some d,.buildSlice t len az,ty,pos,aft,g⟩)(hw:fg ops l g=true)(hx:pG l az.toList=some ps)(hd:Nat.blt d n=true)
  (hu:P.underlying t=some (.slice e))(hs:∀w,(sizeOf e).run P w=.ok size w)(hz:∀w,(zeroValue e).run P w=.ok z w)(hm:Nat.ble (len*size) 16777216=true)
  (hf:sI (λi=>some (i*size,size)) ((List.range (len*size)).map λi=>z.cells.toList.getD (i%z.cells.toList.length) default) ps=some c)
  (hk:∀b,K (.slice (aR b) len len) ((some b,.cells (c++[]).toArray e)::h)):ik P w0 S n h ops i l d K:=
 ⟨_,ho,rfl,rfl,rfl,hd,.inl ⟨hw,λ_ w Ds _ hF hS=>.inl ⟨.slice (aR w.heap.size) len len,w.alloc (.cells (c++[]).toArray e),_,
  Dp hF hx hu hs hz hm hf Ds w,hS.alloc rfl,hk _⟩⟩⟩
theorem ik.fV{t e:ax}{len:Nat}{az:Array (Nat×au)}{ps:List (Nat×aC)}{z:aC}{size:Nat}{c:ai}(hu:P.underlying t=some (.slice e))(hs:∀w,(sizeOf e).run P w=.ok size w)(hz:∀w,(zeroValue e).run P w=.ok z w)(hk:∀b,K (.slice (aR b) len len) ((some b,.cells (c++[]).toArray e)::h))(ho:ops[i]?=some ⟨some d,.buildSlice t len az,ty,pos,aft,g⟩:=by exact rfl)(hw:fg ops l g=true:=by exact rfl)(hx:pG l az.toList=some ps:=by exact rfl)(hd:Nat.blt d n=true:=by exact rfl)(hm:Nat.ble (len*size) 16777216=true:=by exact rfl)(hf:sI (λi=>some (i*size,size)) ((List.range (len*size)).map λi=>z.cells.toList.getD (i%z.cells.toList.length) default) ps=some c:=by exact rfl):ik P w0 S n h ops i l d K:=ik.xA (ho:=ho) (hw:=hw) (hx:=hx) (hd:=hd) (hu:=hu) (hs:=hs) (hz:=hz) (hm:=hm) (hf:=hf) (hk:=hk)
theorem ik.rG{az:aa}{ts:ab}{cal:au}{gf:ay}{fs cs vs:ai}(Rc:aB->aC->aB->Prop)(ho:ops[i]?=some ⟨some d,.call ⟨.value cal,az,ts⟩,ty,pos,aft,g⟩)(hw:fg ops l g=true)
  (hc:fW l cal=some (.func (.func gf) fs.toArray cs.toArray))(hx:iT l az.toList=some vs)(hd:Nat.blt d n=true)(hcf:∀args w,(callFunc gf args).run P w=.ok (.enter gf args) w)
  (hcall:∀w Y',St w0 S w h Y'->Cn P gf (fs++vs++cs) w (Rc w))
  (hk:∀v w w' Y',St w0 S w h Y'->Ex [] w w'->Rc w v w'->∃h',St w0 S w' h' Y'/\K v h'):ik P w0 S n h ops i l d K:=
 ⟨_,ho,rfl,rfl,rfl,hd,.inl ⟨hw,λt w Ds Y' hF hS=>.inr ⟨gf,(fs++vs++cs).toArray,λu w'=>Ex [] w w'/\Rc w u w',by
  have e1:=lO (P:=P) (ty:=ty) (ts:=ts) (Ds:=Ds) (w:=w) hF hc hx;simp only[execOp,Sem.run_bind,e1,Result.andThen_ok,invoke,hcf];simp,hcall w Y' hS,λu w' ⟨he,hu⟩=>hk u w w' Y' hS he hu⟩⟩⟩
end
theorem ik.call{i d:Nat}{ty:ax}{pos:aA}{aft:ak}{g:Option (Nat×Bool)}{K:aC->Hl->Prop}{az:aa}{ts:ab}{cal:au}{gf:ay}{vs:ai}(Rc:aB->aC->aB->Prop)(ho:ops[i]?=some ⟨some d,.call ⟨.value cal,az,ts⟩,ty,pos,aft,g⟩)(hw:fg ops l g=true)
  (hc:fW l cal=some (.func (.func gf) #[] #[]))(hx:iT l az.toList=some vs)(hd:Nat.blt d n=true)(hcf:∀args w,(callFunc gf args).run P w=.ok (.enter gf args) w)
  (hcall:∀w Y',St w0 S w h Y'->Cn P gf vs w (Rc w))
  (hk:∀v w w' Y',St w0 S w h Y'->Ex [] w w'->Rc w v w'->∃h',St w0 S w' h' Y'/\K v h'):ik P w0 S n h ops i l d K:=
 .rG (fs:=[]) (cs:=[]) Rc ho hw hc hx hd hcf (λw Y' hS=>by rw[dR,dL];exact hcall w Y' hS) hk
def A1(ops:aj)(m:Nat):aq->Bool
 |[]=>true
 |x::_=>(List.range m).all (λi=>(below ops x).contains i && !(Nat.beq i x))
def Tl(P:av)(r:ah)(f:ay)(R:aC->aB->Prop)(w0:aB)(S:aq)(Y:List (Nat×Obj))(n:Nat)(k:al)(ops:aj)(m:Nat)(hb:Hl):Nat->aq->Fl->Hl->Prop
 |0,_,_,_=>False
 |q+1,TL,l,h=>
  (∃rest,forced ops (TL++List.range m) rest=true/\A1 ops m rest=true/\eQ P r f R w0 S Y n (.inRegion ops rest::k) l h)\/
  (fw ops (TL++List.range m)≠[]/\∀i∈fw ops (TL++List.range m),∃d,ik P w0 S n h ops i l d (λv h'=>hb.Sublist h'/\Tl P r f R w0 S Y n k ops m hb q (i::TL) ((d,v)::l) h'))
def nm(P:av)(w0:aB)(S:aq)(n:Nat)(ops:aj)(h:Hl)(F:Fl->Prop)(i m:Nat)(l:Fl):Prop:=
 ∀t,nS n t l->Ni P w0 S n h ops (λt'=>∃l',nS n t' l'/\F l') i m t
theorem nm.nil{F:Fl->Prop}{i:Nat}(hg:F l):nm P w0 S n ops h F i 0 l:=λ_ hF=>⟨l,hF,hg⟩
theorem nm.v{F:Fl->Prop}{i m d:Nat}{v:aC}(hv:eS P w0 S n h ops i l d v)(hg:nm P w0 S n ops h F (i+1) m ((d,v)::l)):nm P w0 S n ops h F i (m+1) l:=by
 intro t hF;obtain⟨o,ho,hw,hdst,hnd,hd,hr⟩:=hv
 exact⟨d,v,⟨o,ho,hdst,by simpa[eI]using hd,hnd,.inl ⟨kH hF hw,λw Ds Y' hS=>by
  obtain⟨nx,h1,rfl⟩:=hr t w Ds Y' hF hS;exact .inl h1⟩⟩,hg _ (hF.put v hd)⟩
theorem xX{x:Nat}{listed:aq}(hc:∀j∈listed,∀e∈iM ops j,e∈listed)(hx:∀e∈iM ops x,e∈listed):∀{j:Nat} {acc:aq},(∀z∈acc,z=x\/z∈listed)->∀y∈reach ops j acc,y=x\/y∈listed
 |0,_,ha,y,hy=>ha y hy
 |j+1,acc,ha,y,hy=>by
  rw[reach]at hy;refine xX hc hx (acc:=cond (acc.any λz=>(iM ops z).contains j) (j::acc) acc) (λz hz=>?_) y hy;cases hb:acc.any λz=>(iM ops z).contains j with
  |false=>rw[hb]at hz;exact ha z hz
  |true=>
   rw[hb]at hz;rcases ew.1 hz with rfl|hz;obtain⟨u,hu,hd⟩:=List.any_eq_true.1 hb;have hd:=bV.1 hd;rcases ha u hu with rfl|h;exact .inr (hx _ hd);exact .inr (hc u h _ hd);exact ha z hz
theorem xY{x:Nat}{listed:aq}(hc:∀j∈listed,∀e∈iM ops j,e∈listed)(hx:∀e∈iM ops x,e∈listed):∀y∈below ops x,y=x\/y∈listed:=
 xX hc hx (λ_ hz=>.inl (de.1 hz))
theorem iF{listed:aq}{i:Nat}:i∈fw ops listed↔i<ops.size/\i∉listed/\∀e∈iM ops i,e∈listed:=by
 simp[fw,dQ]
structure yv (ops:aj) (m:Nat):Prop where
  size:m<=ops.size
  lt:∀i,i<ops.size->∀j∈iM ops i,j<i
  E5:∀i,i<m->∀o,ops[i]?=some o->lG o.op=true
  inj:∀i j d,i<m->j<ops.size->hJ ops i=some d->hJ ops j=some d->i=j
  Kw:∀i,i<m->∀o,ops[i]?=some o->∀s∈mF ops o,∀j,j<ops.size->hJ ops j=some s->j∈iM ops i\/(m<=j/\i∈below ops j)
  Pw:∀i,m<=i->∀o,ops[i]?=some o->∀s∈mF ops o,∀j,j<m->hJ ops j=some s->j∈iM ops i
theorem yI{m:Nat}(hc:Bc ops l m=true):yv ops m:=by
 simp only[Bc,dx,dy,ec,List.mem_range'_1,eI,Nat.ble_eq]at hc;obtain⟨⟨⟨hsz,hlt⟩,hr⟩,ht⟩:=hc;have hat:∀i,i<m->∃o d,ops[i]?=some o/\o.dst=some d/\lG o.op=true/\(∀j,j<ops.size->j=i\/hJ ops j≠some d)/\(∀s∈mF ops o,∀j,j<ops.size->(hJ ops j≠some s\/j∈iM ops i)\/(m<=j/\i∈below ops j)):=by
  intro i hi;have:=hr i hi;cases ho:ops[i]? with
  |none=>simp[ho]at this
  |some o=>
   cases hd:o.dst with
   |none=>simp[ho,hd]at this
   |some d=>
    simp only[ho,hd,dx,dy,ec,dK,Nat.beq_eq,dh,cR,bV,Nat.ble_eq]at this;exact⟨o,d,rfl,hd,this.1,this.2.1,this.2.2⟩
 refine⟨hsz,hlt,λi hi o ho=>?_,λi j d hi hj h1 h2=>?_,λi hi o ho s hs j hj hd=>?_,λi hi o ho s hs j hj hd=>?_⟩;obtain⟨o',d,h1,_,h3,_⟩:=hat i hi;rw[ho]at h1;cases h1;exact h3;obtain⟨o,d',e1,e2,_,e5,_⟩:=hat i hi;have:d'=d:=by simp[hJ,e1,e2]at h1;exact h1
 subst this;rcases e5 j hj with e|e;exact e.symm;exact absurd h2 e;obtain⟨o',d,e1,_,_,_,e6⟩:=hat i hi;rw[ho]at e1;cases e1;rcases e6 s hs j hj with(e|e)|e;exact absurd hd e;exact .inl e;exact .inr e;have hiN:=(aW.1 ho).1;have:=ht i ⟨hi,aH⟩;simp only[ho,dy,dK,dh,cR,bV,ec]at this;rcases this s hs j hj with e|e;exact absurd hd e;exact e
theorem qI{a b:aq}(h:∀j,j∈a↔j∈b):fw ops a=fw ops b:=by
 have:∀j,a.contains j=b.contains j:=λj=>by rw[dJ];simp[h j]
 unfold fw;simp only[this]
theorem uU:∀{rest listed:aq} {fuel τ:Nat} {arr:Array Bool},forced ops listed rest=true->arr.size=ops.size->(∀j,arr.getD j false=listed.contains j)->rest.length<=fuel->
  Region.linearise.go .any ops fuel τ arr []=rest
 |[],listed,fuel,τ,arr,hf,hs,h,_=>by
  have h0:fw ops listed=[]:=by simpa[forced]using hf
  cases fuel with
  |zero=>rfl
  |succ fuel=>
   simp only[Region.linearise.go];change (match (Region.ready .any ops arr)[_%(Region.ready .any ops arr).length]? with
    |some i=>_
    |none=>[].reverse)=[];rw[p3 hs h,h0];rfl
 |x::rest,listed,0,τ,arr,hf,hs,h,hl=>by simp at hl
 |x::rest,listed,fuel+1,τ,arr,hf,hs,h,hl=>by
  simp only[forced,dx,eJ]at hf;simp only[Region.linearise.go];change (match (Region.ready .any ops arr)[_%(Region.ready .any ops arr).length]? with
   |some i=>Region.linearise.go .any ops fuel (τ / (Region.ready .any ops arr).length) (arr.setIfInBounds i true) [i]
   |none=>[].reverse)=_;rw[p3 hs h,hf.1];simp only[List.length_singleton,Nat.mod_one,List.getElem?_cons_zero];rw[linearise_go_acc,bQ,cg];have hx:x∈fw ops listed:=by rw[hf.1];simp
  have hxl:=(iF.1 hx).1;rw[uU (listed:=x::listed) hf.2 (by simpa using hs) (λj=>?_) (by simpa using hl)];rw[fQ aH,h j,List.contains_cons];split;rename_i e;subst e;simp;rename_i e;rw[beq_false_of_ne (Ne.symm e)];rfl
theorem td:∀{rest listed:aq},forced ops listed rest=true->rest.length<=(List.range ops.size).countP (λj=>!listed.contains j)
 |[],_,_=>aG
 |x::rest,listed,hf=>by
  simp only[forced,dx,eJ]at hf;have hx:x∈fw ops listed:=by rw[hf.1];simp
  obtain⟨h1,h2,_⟩:=iF.1 hx;have ih:=td hf.2;have:=se (l:=List.range ops.size) (p:=λj=>!(x::listed).contains j) (q:=λj=>!listed.contains j) (λy _ hy=>by simp at hy⊢;exact hy.2) ⟨x,by simpa using h1,by simpa using h2,by simp⟩;simp only[dC];omega
theorem oJ.QN{i d:Nat}{v:aC}{t:af}{rest:aq}{w:aB}{Ds:aq}{hb:Hl}(ho:oJ P w0 S n hb ops i t d v)(hs:hb.Sublist h)(hS:St w0 S w h (tQ Ds++Y))
  (hk:∀w',St w0 S w' h (tQ Ds++Y)->kv P r f R (.inRegion ops rest::k) (t.setIfInBounds d v) (Ds.map mark) w'):kv P r f R (.inRegion ops (i::rest)::k) t (Ds.map mark) w:=by
 obtain⟨o,h1,h2,h3,h4,h5⟩:=ho;rcases h5 with⟨a,b⟩|⟨a,rfl⟩;rcases b w Ds _ (hS.ij hs)with hb|⟨gf,args,hb,hcall⟩;refine kv.op h1 a (jE h4) hb (.inl rfl) ?_;rw[h2];exact hk w hS;refine kv.call h1 a (jE h4) hb hcall (λu w2 hu=>?_);obtain⟨he,rfl⟩:=hu;rw[h2];exact hk w2 (hS.later he);refine nJ h1 a ?_;rw[h2];exact hk w hS
theorem qF{o:Oper}{t t':af}(hs:t'.size=t.size)(he:∀s∈mF ops o,t'.getD s undef=t.getD s undef):Region.wanted o (yielded ops t')=Region.wanted o (yielded ops t):=by
 unfold Region.wanted;cases hg:o.guard with
 |none=>rfl
 |some p=>
  obtain⟨j,want⟩:=p;have:yielded ops t' j=yielded ops t j:=by
   unfold yielded;cases hd:(ops[j]?).bind (·.dst)with
   |none=>rfl
   |some dj=>
    simp only[Option.bind_some];rw[nX hs (he dj (by simp[mF,hg,hJ,hd]))]
  simp only[this]
theorem ik.go{i d:Nat}{K:aC->Hl->Prop}{T t:af}{rest:aq}{w:aB}{Ds:aq}(hm:ik P w0 S n h ops i l d K)(hF:nS n T l)(hs:t.size=T.size)
  (he:∀o,ops[i]?=some o->∀s∈mF ops o,t.getD s undef=T.getD s undef)(hS:St w0 S w h (tQ Ds++Y))
  (hk:∀v w' h',K v h'->St w0 S w' h' (tQ Ds++Y)->kv P r f R (.inRegion ops rest::k) (t.setIfInBounds d v) (Ds.map mark) w'):kv P r f R (.inRegion ops (i::rest)::k) t (Ds.map mark) w:=by
 obtain⟨o,ho,hdst,hnd,hsel,hd,hr⟩:=hm;have hw:=qF (ops:=ops) (o:=o) hs (he o ho);rcases hr with⟨hwant,hr⟩|⟨hskip,hK⟩;have hexec:execOp (Act.eval ⟨t,Ds.map mark⟩) o=execOp (Act.eval ⟨T,Ds.map mark⟩) o:=execOp_congr (ρ':=Act.eval ⟨T,Ds.map mark⟩) o (λcs bb e=>by rw[e]at hsel;cases hsel) (λx hx=>by
  cases x with
  |tmp s=>exact he o ho s (by
    simp only[mF,dP];exact .inr (List.mem_filterMap.2 ⟨.tmp s,by simpa using hx,rfl⟩))
  |const v=>rfl
  |global g=>rfl
  |func g=>rfl);rcases hr T w Ds _ hF hS with⟨v,w',h',h1,h2,h3⟩|⟨gf,args,Rc,h1,h2,h3⟩;refine kv.op ho (hw.trans (kH hF hwant)) (jE hnd) (by rw[hexec];exact h1) (.inl rfl) ?_;rw[hdst];exact hk v w' h' h3 h2;refine kv.call ho (hw.trans (kH hF hwant)) (jE hnd) (by rw[hexec];exact h1) h2 (λu w2 hu=>?_);obtain⟨h',h4,h5⟩:=h3 u w2 hu;rw[hdst];exact hk u w2 h' h5 h4;refine nJ ho (hw.trans (tH hF hskip)) ?_;rw[hdst];exact hk undef w h hK hS
theorem DJ{m:Nat}(hf:yv ops m){D:Nat->Nat}{V:Nat->aC}{t0:af}{hB:Hl}(ht0:t0.size=n)
  (hout:∀j,j<m->oJ P w0 S n hB ops j (vC D V t0 j) (D j) (V j)):
  ∀(fuel τ:Nat) (arr:Array Bool) (TL:aq) (q:Nat) (l:Fl) (h:Hl) (t T:af),arr.size=ops.size->(∀j,arr.getD j false=true->∀e∈iM ops j,arr.getD e false=true)->
   (∀j,m<=j->(arr.getD j false=true↔j∈TL))->(∀j∈TL,m<=j)->nS n T l->Tl P r f R w0 S Y n k ops m hB q TL l h->hB.Sublist h->t.size=n->
   (∀j,j<m->T.getD (D j) undef=V j)->(∀s,(∀j,j<m->arr.getD j false=false->D j≠s)->t.getD s undef=T.getD s undef)->(∀s,(∀j,j<m->D j≠s)->(∀j,m<=j->j<ops.size->hJ ops j=some s->arr.getD j false=false)->T.getD s undef=t0.getD s undef)->
   (List.range ops.size).countP (λj=>!arr.getD j false)<=fuel->∀w Ds,St w0 S w h (tQ Ds++Y)->kv P r f R (.inRegion ops (Region.linearise.go .any ops fuel τ arr [])::k) t (Ds.map mark) w:=by
 have hDst:∀j,j<m->hJ ops j=some (D j):=λj hj=>by
  obtain⟨o,h1,h2,_⟩:=hout j hj;simp[hJ,h1,h2]
 have hDlt:∀j,j<m->D j<t0.size:=λj hj=>by
  obtain⟨o,_,_,h3,_⟩:=hout j hj;omega
 have hmN:=hf.size;have hDinj:∀i j,i<m->j<m->D i=D j->i=j:=λi j hi hj e=>hf.inj i j (D i) hi aH (hDst i hi) (by rw[hDst j hj,e]);have hsw:∀{fuel τ:Nat} {arr:Array Bool} {TL rest:aq} {l:Fl} {h:Hl} {t T:af},arr.size=ops.size->(∀j,m<=j->(arr.getD j false=true↔j∈TL))->(∀j∈TL,m<=j)->nS n T l->t.size=n->
   (∀s,(∀j,j<m->arr.getD j false=false->D j≠s)->t.getD s undef=T.getD s undef)->(∀j,j<m->arr.getD j false=true)->forced ops (TL++List.range m) rest=true->
   eQ P r f R w0 S Y n (.inRegion ops rest::k) l h->(List.range ops.size).countP (λj=>!arr.getD j false)<=fuel->∀w Ds,St w0 S w h (tQ Ds++Y)->kv P r f R (.inRegion ops (Region.linearise.go .any ops fuel τ arr [])::k) t (Ds.map mark) w:=by
  intro fuel τ arr TL rest l h t T hls hTL hTm hF hts hb hall hfo hg hc w Ds hS;have hcont:∀j,arr.getD j false=(TL++List.range m).contains j:=λj=>by
   rw[dJ,bV,dP,ec];rcases eC j m with hj|hj;exact⟨λ_=>.inr hj,λ_=>hall j hj⟩;exact⟨λx=>.inl ((hTL j hj).1 x),λx=>(hTL j hj).2 (by rcases x with x|x;exact x;omega)⟩
  have hlen:=td hfo;have e1:(λj=>!(TL++List.range m).contains j)=λj=>!arr.getD j false:=by funext j;rw[hcont]
  rw[e1]at hlen;rw[uU hfo hls hcont aH];have ht:t=T:=Array.ext_getElem? (λs=>nX (by rw[hts,hF.1]) (hb s (λj hj hu=>by rw[hall j hj]at hu;cases hu)));rw[ht];exact hg T w Ds hF hS
 intro fuel
 induction fuel with
 |zero=>
  intro τ arr TL q l h t T hls hcl hTL hTm hF htl hsub hts ha hb hcb hc w Ds hS;have hl:∀j,j<ops.size->arr.getD j false=true:=λj hj=>by
   have:=List.countP_eq_zero.1 (Nat.le_zero.1 hc) j (by simpa using hj);simpa using this
  cases q with
  |zero=>exact htl.elim
  |succ q=>
   rcases htl with⟨rest,h1,_,h3⟩|⟨hne,_⟩;exact hsw hls hTL hTm hF hts hb (λj hj=>hl j aH) h1 h3 hc w Ds hS;exfalso;apply hne;rw[List.eq_nil_iff_forall_not_mem];intro j hj;obtain⟨a1,a2,_⟩:=iF.1 hj;apply a2;rw[dP,ec];rcases eC j m with hj|hj;exact .inr hj;exact .inl ((hTL j hj).1 (hl j a1))
 |succ fuel ih=>
  intro τ arr TL q l h t T hls hcl hTL hTm hF htl hsub hts ha hb hcb hc w Ds hS;have hready:(∃j,j<ops.size/\arr.getD j false=false)->Region.ready .any ops arr≠[]:=by
   rintro ⟨j,hj,hu⟩;have key:∀q,q<ops.size->arr.getD q false=false->Region.ready .any ops arr≠[]:=by
    intro q
    induction q using Nat.strongRecOn with
    |_ q ihq=>
     intro hq hqu;by_cases hb:∃e∈iM ops q,arr.getD e false=false;obtain⟨e,he,heu⟩:=hb;have hlt:=hf.lt q hq e he;exact ihq e hlt aH heu;obtain⟨o,ho⟩:∃o,ops[q]?=some o:=⟨ops[q],aZ hq⟩;have:q∈Region.ready .any ops arr:=by
      rw[mem_ready];refine⟨by rw[qQ aH];exact hqu,o,ho,λe he hbd=>?_⟩;cases hx:arr.getD e.on false with
      |true=>rfl
      |false=>exact absurd ⟨e.on,(qd ho).2 ⟨e,he,hbd,rfl⟩,hx⟩ hb
     exact List.ne_nil_of_mem this
   exact key j hj hu
  have hrT:∀i,m<=i->i<ops.size->arr.getD i false=false->(∀e∈iM ops i,arr.getD e false=true)->i∈fw ops (TL++List.range m):=λi him hiN hu hd=>by
   rw[iF];refine⟨hiN,λhx=>?_,λe he=>?_⟩;rw[dP,ec]at hx;rcases hx with hx|hx;rw[(hTL i him).2 hx]at hu;cases hu;omega;rw[dP,ec];rcases eC e m with hj|hj;exact .inr hj;exact .inl ((hTL e hj).1 (hd e he))
  by_cases hdone:∃rest,forced ops (TL++List.range m) rest=true/\eQ P r f R w0 S Y n (.inRegion ops rest::k) l h/\∀j,j<m->arr.getD j false=true;obtain⟨rest,h1,h2,h3⟩:=hdone;exact hsw hls hTL hTm hF hts hb h3 h1 h2 hc w Ds hS;simp only[Region.linearise.go];change kv P r f R (.inRegion ops (match (Region.ready .any ops arr)[τ%(Region.ready .any ops arr).length]? with
   |some i=>Region.linearise.go .any ops fuel (τ / (Region.ready .any ops arr).length) (arr.setIfInBounds i true) [i]
   |none=>[].reverse)::k) t (Ds.map mark) w;cases hi:(Region.ready .any ops arr)[τ%(Region.ready .any ops arr).length]? with
  |none=>
   exfalso;have hnil:Region.ready .any ops arr=[]:=by
    cases hr:Region.ready .any ops arr with
    |nil=>rfl
    |cons x xs=>
     rw[hr]at hi;have hlt:τ%(x::xs).length<(x::xs).length:=Nat.mod_lt _ aL;rw[bG hlt]at hi;cases hi
   have hl:∀j,j<ops.size->arr.getD j false=true:=λj hj=>by
    cases hx:arr.getD j false with
    |true=>rfl
    |false=>exact absurd hnil (hready ⟨j,hj,hx⟩)
   cases q with
   |zero=>exact htl.elim
   |succ q=>
    rcases htl with⟨rest,h1,_,h3⟩|⟨hne,_⟩;exact hdone ⟨rest,h1,h3,λj hj=>hl j aH⟩;apply hne;rw[List.eq_nil_iff_forall_not_mem];intro j hj;obtain⟨a1,a2,_⟩:=iF.1 hj;apply a2;rw[dP,ec];rcases eC j m with hj|hj;exact .inr hj;exact .inl ((hTL j hj).1 (hl j a1))
  |some i=>
   have hmem:=cH hi;rw[mem_ready]at hmem;obtain⟨hu,o,ho,hdep⟩:=hmem;have hiN:i<ops.size:=(aW.1 ho).1;rw[qQ aH]at hu;simp only[];rw[linearise_go_acc,bQ,cg];have hdl:∀e∈iM ops i,arr.getD e false=true:=λe he=>by
    obtain⟨e',he',hb,rfl⟩:=(qd ho).1 he;exact hdep e' he' hb
   have hcl':∀j,(arr.setIfInBounds i true).getD j false=true->∀e∈iM ops j,(arr.setIfInBounds i true).getD e false=true:=by
    intro j hj e he;rw[fQ aH]at hj⊢;split;rfl;split at hj;rename_i hij;subst hij;exact hdl e he;exact hcl j hj e he
   have hcnt:=count_set (listed:=arr) hls hiN hu;by_cases him:i<m;have hgo:=hout i him;have hDi:D i<t.size:=by rw[hts,<-ht0];exact hDlt i him
   have heq:oJ P w0 S n hB ops i t (D i) (V i):=by
    refine hgo.congr (hf.E5 i him) (by rw[hts,mT,ht0]) (λo' ho' s hs=>?_);obtain⟨g1,g2⟩:=qG hDlt hDinj i aH;by_cases hx:∃j,j<m/\D j=s;obtain⟨j,hj,rfl⟩:=hx;have hjd:=(hf.Kw i him o' ho' (D j) hs j aH (hDst j hj)).resolve_right (λx=>aH);rw[g1 j (hf.lt i hiN j hjd),hb (D j) (λj' hj' hu' e=>by
     have:=hDinj j' j hj' hj e;subst this;rw[hdl j' hjd]at hu';cases hu'),ha j hj];rw[hb s (λj hj _ e=>hx ⟨j,hj,e⟩),g2 s (λj hj e=>hx ⟨j,aH,e⟩)];refine hcb s (λj hj e=>hx ⟨j,hj,e⟩) (λj hmj hj hd=>?_);rcases hf.Kw i him o' ho' s hs j hj hd with hjd|⟨_,hjb⟩;have hjl:=hf.lt i hiN j hjd;omega;cases hja:arr.getD j false with
    |false=>rfl
    |true=>
     exfalso;have:=xY (ops:=ops) (listed:=(List.range ops.size).filter (λj=>arr.getD j false)) (x:=j) (λj hj e he=>by
      rw[dQ,ec]at hj⊢;have hlt:=hf.lt j hj.1 e he;exact⟨aH,hcl j hj.2 e he⟩) (λe he=>by
      rw[dQ,ec];have hlt:=hf.lt j hj e he;exact⟨aH,hcl j hja e he⟩) i hjb;rcases this with h|h;omega;rw[(dQ.1 h).2]at hu;cases hu
   refine heq.QN hsub hS (λw hS=>?_);refine ih _ _ TL q l h _ T (by simpa using hls) hcl' (λj hj=>?_) hTm hF htl hsub (by simpa using hts) ha (λs hs=>?_) (λs hs1 hs2=>hcb s hs1 (λj hj hjN hd=>by
    have:=hs2 j hj hjN hd;rwa[fQ aH,if_neg aH]at this)) aH w Ds hS;rw[fQ aH,if_neg aH];exact hTL j hj;rw[jc hDi];split;rename_i e;subst e;exact(ha i him).symm;rename_i e;refine hb s (λj hj hu'=>?_);by_cases e2:i=j;subst e2;exact e;exact hs j hj (by rw[fQ aH,if_neg e2];exact hu')
   -- of the tail
   have him':m<=i:=aH;have hir:=hrT i him' hiN hu hdl;cases q with
   |zero=>exact htl.elim
   |succ q=>
    rcases htl with⟨rest,h1,hbel,h3⟩|⟨_,hop⟩;exfalso;cases rest with
    |nil=>
     have h0:fw ops (TL++List.range m)=[]:=by simpa[forced]using h1
     rw[h0]at hir;cases hir
    |cons x rest=>
     have hx:fw ops (TL++List.range m)=[x]:=by
      simp only[forced,dx,eJ]at h1;exact h1.1
     rw[hx]at hir;obtain rfl:=de.1 hir;refine hdone ⟨i::rest,h1,h3,λj hj=>?_⟩;have hmem:j∈below ops i/\j≠i:=by
      have:=dy.1 hbel j (by simpa using hj);rw[dx,bV,dh]at this;exact⟨this.1,λe=>by rw[e,Nat.beq_refl]at this;cases this.2⟩
     have:=xY (ops:=ops) (listed:=(List.range ops.size).filter (λj=>arr.getD j false)) (x:=i) (λj hj e he=>by
      rw[dQ,ec]at hj⊢;have hlt:=hf.lt j hj.1 e he;exact⟨aH,hcl j hj.2 e he⟩) (λe he=>by
      rw[dQ,ec];have hlt:=hf.lt i hiN e he;exact⟨aH,hdl e he⟩) j hmem.1;exact(dQ.1 (this.resolve_left hmem.2)).2
    obtain⟨d,hmop⟩:=hop i hir;have hdi:hJ ops i=some d:=by
     obtain⟨o',e1,e2,_⟩:=hmop;simp[hJ,e1,e2]
    have hdn:d<n:=by
     obtain⟨o',_,_,_,_,hd,_⟩:=hmop;simpa[eI]using hd
    refine hmop.go hF (by rw[hts,hF.1]) (λo' ho' s hs=>?_) hS (λv w' h' hK hS'=>?_);refine hb s (λj hj hu' e=>?_);subst e;have hjd:=hf.Pw i him' o' ho' (D j) hs j hj (hDst j hj);rw[hdl j hjd]at hu';cases hu';obtain⟨hsub',htl'⟩:=hK;refine ih _ _ (i::TL) q ((d,v)::l) h' _ (T.setIfInBounds d v) (by simpa using hls) hcl' (λj hj=>?_) (λj hj=>?_) (hF.put v (by simpa[eI]using hdn)) htl' hsub' (by simpa using hts) (λj hj=>?_) (λs hs=>?_) (λs hs1 hs2=>?_) aH w' Ds hS';rw[fQ aH,ew];split;rename_i e;subst e;simp;rename_i e;rw[hTL j hj];exact⟨.inr,λx=>x.resolve_left (Ne.symm e)⟩;rcases ew.1 hj with rfl|hj;exact him';exact hTm j hj;rw[jc (by rw[hF.1];exact hdn)];split;rename_i e;have:=hf.inj j i d hj hiN (by rw[hDst j hj,e]) hdi;omega;exact ha j hj;rw[jc (by rw[hts];exact hdn),jc (by rw[hF.1];exact hdn)];split;rfl;refine hb s (λj hj hu'=>hs j hj ?_);rw[fQ aH,if_neg aH];exact hu';rw[jc (by rw[hF.1];exact hdn)];split;rename_i e;have:=hs2 i him' hiN (by rw[hdi,e]);rw[fQ aH,if_pos rfl]at this;cases this;refine hcb s hs1 (λj hj hjN hd=>?_);have:=hs2 j hj hjN hd;rw[fQ aH]at this;split at this;cases this;exact this
theorem sN{m q:Nat}{hb:Hl}{TL:aq}(rest:aq)(h1:forced ops (TL++List.range m) rest=true)(h2:A1 ops m rest=true)
  (hg:eQ P r f R w0 S Y n (.inRegion ops rest::k) l h):Tl P r f R w0 S Y n k ops m hb (q+1) TL l h:=.inl ⟨rest,h1,h2,hg⟩
theorem Tl.one{m q i d:Nat}{hb:Hl}{TL:aq}(h1:fw ops (TL++List.range m)=[i])(hm:ik P w0 S n h ops i l d (λv h'=>hb.Sublist h'/\Tl P r f R w0 S Y n k ops m hb q (i::TL) ((d,v)::l) h')):Tl P r f R w0 S Y n k ops m hb (q+1) TL l h:=
 .inr ⟨by rw[h1];simp,λj hj=>by rw[h1]at hj;obtain rfl:=de.1 hj;exact⟨d,hm⟩⟩
theorem Tl.two{m q i d i2 d2:Nat}{hb:Hl}{TL:aq}(h1:fw ops (TL++List.range m)=[i,i2])(hm:ik P w0 S n h ops i l d (λv h'=>hb.Sublist h'/\Tl P r f R w0 S Y n k ops m hb q (i::TL) ((d,v)::l) h'))
  (hm2:ik P w0 S n h ops i2 l d2 (λv h'=>hb.Sublist h'/\Tl P r f R w0 S Y n k ops m hb q (i2::TL) ((d2,v)::l) h')):Tl P r f R w0 S Y n k ops m hb (q+1) TL l h:=
 .inr ⟨by rw[h1];simp,λj hj=>by
  rw[h1]at hj;rcases ew.1 hj with rfl|hj;exact⟨d,hm⟩;obtain rfl:=de.1 hj;exact⟨d2,hm2⟩⟩
end
theorem eQ.Nx{P:av}{r:ah}{f:ay}{R:aC->aB->Prop}{w0:aB}{S:aq}{Y:List (Nat×Obj)}{n:Nat}{k:al}{l l':Fl}{h h':Hl}(hg:eQ P r f R w0 S Y n k l' h')(hl:j9 l' l)(hh:∀w Y',St w0 S w h Y'->St w0 S w h' Y'):eQ P r f R w0 S Y n k l h:=
 λt w Ds hF hS=>hg t w Ds (hF.sub hl) (hh w _ hS)
theorem ig{P:av}{r:ah}{f:ay}{R:aC->aB->Prop}{w0:aB}{S:aq}{Y:List (Nat×Obj)}{n:Nat}{k:al}{l:Fl}{h:Hl}{ops:aj}{id:Nat}{dr:Bool}{α:Type}(restc:aq)(lf:α->Fl)(hf:α->Hl)
  (hK:∀a,eQ P r f R w0 S Y n (.inRegion ops restc::k) (lf a) (hf a))
  (hg:(∀a l h,j9 (lf a) l->(∀w Y',St w0 S w h Y'->St w0 S w (hf a) Y')->eQ P r f R w0 S Y n (.inRegion ops restc::k) l h)->eQ P r f R w0 S Y n (.code (.region id ops dr)::k) l h):eQ P r f R w0 S Y n (.code (.region id ops dr)::k) l h:=
 hg (λa _ _ hl hh=>(hK a).Nx hl hh)
section
variable{P:av}{r:ah}{f:ay}{R:aC->aB->Prop}{w0:aB}{S:aq}{Y:List (Nat×Obj)}{n:Nat}{k:al}{l:Fl}{h:Hl}{ops:aj}
end
end Go.Proofs.Wit
