/- Laws of walks, for any program, under the conditions that each theorem states. -/
import Derived.Test.YtaamcaiglooemaaGreatDoorXF01
set_option maxRecDepth 100000
set_option maxHeartbeats 4000000
namespace Go.Proofs.Wit
open Go Go.RowKit
def zU (w:World) (a:Option Addr) (xs:List aE):Prop:=Sl w a (xs.map U)
theorem zU.au {w0 w:World} {a:Option Addr} {xs:List aE} (h:zU w0 a xs) {S:List Nat} (e:Ex S w0 w) (hS:∀b o,a=some ⟨b,o,none⟩→b∉S:=by simp):zU w a xs:=Sl.ex h e hS
theorem zU.at {w:World} {a:Option Addr} {xs:List aE} (h:zU w a xs) (k:Nat) (hk:k<xs.length):w.cell? (ny a k)=some (U (xs.getD k 0#64)):=by
 rw [Sl.cell h k (by simpa using hk)];simp [List.getD_eq_getElem?_getD,hk]
def wu {σ:Type} (f:Nat→σ→σ) (s:σ):Nat→σ
 |0=>s
 |k+1=>f k (wu f s k)
section
variable {P:Program} {r:Option Nat} {f:FuncId} {R:Value→World→Prop} {w0:World} {S:List Nat} {Y:List (Nat×Obj)} {n:Nat} {k:List Item} {l:Fl} {h:Hl}
variable {ops:Array Oper} {i d:Nat} {rest:List Nat} {ty:TypeId} {pos:String} {aft:Array Edge} {g:Option (Nat×Bool)}
theorem Bn {t e:TypeId} {len:Nat} (hu:P.underlying t=some (.array len e)) (he:∀w,(sizeOf e).run P w=.ok 1 w) (b o:Nat) (kd:IntKind) (j:Nat) (hj:j<len) (w':World):
  (Instr.indexAt t (.pointer (some ⟨b,o,none⟩)) (.int kd j)).run P w'=.ok (.pointer (some ⟨b,o+j,none⟩)) w':=by
 simp only [Instr.indexAt,asIntOf,Sem.run_bind,Sem.run_pure,Result.andThen_ok,run_underlying hu,Instr.sureAddr];rw [if_pos ⟨by omega,by omega⟩];simp only [Sem.run_bind,he,Result.andThen_ok,Sem.run_pure,Addr.add,Nat.mul_one,Int.toNat_natCast];split;rename_i h0;rw [h0];rfl;rfl
theorem af.zz {t e:TypeId} {x y:Operand} {b o len:Nat} {kd:IntKind} {j:Int} (ho:ops[i]?=some ⟨some d,.indexAddr t x y,ty,pos,aft,g⟩) (hw:aq ops l g=true)
  (hx:aM l x=some (.pointer (some ⟨b,o,none⟩))) (hy:aM l y=some (.int kd j)) (hd:Nat.blt d n=true) (hu:P.underlying t=some (.array len e)) (he:∀w,(sizeOf e).run P w=.ok 1 w)
  (j':Nat) (hj:j=j') (hlt:j'<len):af P w0 S n h ops i l d (.pointer (some ⟨b,o+j',none⟩)):=by
 subst hj;exact .of ho hw rfl rfl hd (fun t w Ds _ hF _=>⟨.value (.pointer (some ⟨b,o+j',none⟩)),by
  simp only [execOp,hF.aM hx,hF.aM hy,Sem.run_bind,Bn hu he b o kd j' hlt w];rfl,rfl⟩)
end
abbrev ob {α:Type} (enc:α→Value) (e:TypeId) (xs:List α) (sp:List Value):Obj:=.cells (xs.map enc++sp).toArray e (0,0)
section
variable {P:Program} {r:Option Nat} {f:FuncId} {R:Value→World→Prop} {w0:World} {S:List Nat} {Y:List (Nat×Obj)} {n:Nat} {k:List Item} {l:Fl} {h:Hl}
variable {ops:Array Oper} {i d:Nat} {rest:List Nat} {ty:TypeId} {pos:String} {aft:Array Edge} {g:Option (Nat×Bool)}
theorem vP {t e:TypeId} (hu:P.underlying t=some (.slice e)) {sz:Nat} (he:∀w,(sizeOf e).run P w=.ok sz w) (b o m cap:Nat) (kd:IntKind) (j:Nat) (hj:j<m) (w':World):
  (Instr.indexAt t (.slice (some ⟨b,o,none⟩) m cap) (.int kd j)).run P w'=.ok (.pointer (some ⟨b,o+j*sz,none⟩)) w':=by
 simp only [Instr.indexAt,asIntOf,Sem.run_bind,Sem.run_pure,Result.andThen_ok,run_underlying hu];rw [if_pos ⟨by omega,by omega⟩];simp only [Sem.run_bind,he,Result.andThen_ok,Sem.run_pure,Addr.add,Int.toNat_natCast];split;rename_i h0;rw [h0];rfl;rfl
theorem af.kp {t e:TypeId} {x y:Operand} {b o m cap:Nat} {kd:IntKind} {j:Int} (ho:ops[i]?=some ⟨some d,.indexAddr t x y,ty,pos,aft,g⟩) (hw:aq ops l g=true)
  (hx:aM l x=some (.slice (some ⟨b,o,none⟩) m cap)) (hy:aM l y=some (.int kd j)) (hd:Nat.blt d n=true) (hu:P.underlying t=some (.slice e)) {sz:Nat} (he:∀w,(sizeOf e).run P w=.ok sz w)
  (j':Nat) (hj:j=j'∧j'<m):af P w0 S n h ops i l d (.pointer (some ⟨b,o+j'*sz,none⟩)):=by
 obtain ⟨rfl,hlt⟩:=hj;exact .of ho hw rfl rfl hd (fun t w Ds _ hF _=>⟨.value (.pointer (some ⟨b,o+j'*sz,none⟩)),by
  simp only [execOp,hF.aM hx,hF.aM hy,Sem.run_bind,vP hu he b o m cap kd j' hlt w];rfl,rfl⟩)
theorem af.bG {t e:TypeId} {x y:Operand} {b o m cap:Nat} {kd:IntKind} {j:Int} (hu:P.underlying t=some (.slice e)) {sz:Nat} (he:∀w,(sizeOf e).run P w=.ok sz w) (j':Nat) (hj:j=j'∧j'<m) (ho:ops[i]?=some ⟨some d,.indexAddr t x y,ty,pos,aft,g⟩:=by exact rfl) (hw:aq ops l g=true:=by exact rfl) (hx:aM l x=some (.slice (some ⟨b,o,none⟩) m cap):=by exact rfl) (hy:aM l y=some (.int kd j):=by exact rfl) (hd:Nat.blt d n=true:=by exact rfl):af P w0 S n h ops i l d (.pointer (some ⟨b,o+j'*sz,none⟩)):=af.kp (ho:=ho) (hw:=hw) (hx:=hx) (hy:=hy) (hd:=hd) (hu:=hu) (he:=he) (j':=j') (hj:=hj)
theorem Gn {α:Type} {enc:α→Value} {xs:List α} {sp:List Value} {q:Nat} (hq:q<xs.length):(xs.map enc++sp).toArray[0+q*1]?=some (enc xs[q]):=by
 rw [Nat.zero_add,Nat.mul_one];simp [List.getElem?_append,hq]
theorem af.vG {α:Type} (enc:α→Value) (dflt:α) {t:TypeId} {x:Operand} {b q:Nat} {xs:List α} {sp:List Value} {e:TypeId} (ho:ops[i]?=some ⟨some d,.load t x,ty,pos,aft,g⟩) (hw:aq ops l g=true)
  (hx:aM l x=some (.pointer (some ⟨b,0+q*1,none⟩))) (hd:Nat.blt d n=true) (ha:∀w,(isAgg t).run P w=.ok false w) (j:Nat) (hj:h[j]?=some (some b,ob enc e xs sp)) (hq:q<xs.length):
  af P w0 S n h ops i l d (enc (xs.getD q dflt)):=
 af.te ho hw hx hd ha j hj (by rw [Gn hq];simp [List.getD_eq_getElem?_getD,hq])
theorem af.iz {α:Type} (enc:α→Value) (dflt:α) {t:TypeId} {x:Operand} {b q:Nat} {xs:List α} {sp:List Value} {e:TypeId} (ha:∀w,(isAgg t).run P w=.ok false w) (j:Nat) (hq:q<xs.length) (ho:ops[i]?=some ⟨some d,.load t x,ty,pos,aft,g⟩:=by exact rfl) (hw:aq ops l g=true:=by exact rfl) (hx:aM l x=some (.pointer (some ⟨b,0+q*1,none⟩)):=by exact rfl) (hd:Nat.blt d n=true:=by exact rfl) (hj:h[j]?=some (some b,ob enc e xs sp):=by exact rfl):af P w0 S n h ops i l d (enc (xs.getD q dflt)):=af.vG (enc:=enc) (dflt:=dflt) (ho:=ho) (hw:=hw) (hx:=hx) (hd:=hd) (ha:=ha) (j:=j) (hj:=hj) (hq:=hq)
theorem ab.tW {α:Type} (enc:α→Value) (v:α) {t:TypeId} {x y:Operand} {b q:Nat} {xs:List α} {sp:List Value} {e:TypeId} (ho:ops[i]?=some ⟨none,.store t x y,ty,pos,aft,g⟩) (hw:aq ops l g=true)
  (hx:aM l x=some (.pointer (some ⟨b,0+q*1,none⟩))) (hy:aM l y=some (enc v)) (hz:∀w,(sizeOf t).run P w=.ok 1 w) (hv:(enc v).oneCell'=true) (j:Nat) (hj:h[j]?=some (some b,ob enc e xs sp)) (hq:q<xs.length)
  (hk:ab P r f R w0 S Y n (.inRegion ops rest::k) l (h.set j (some b,ob enc e (xs.set q v) sp))):ab P r f R w0 S Y n (.inRegion ops (i::rest)::k) l h:=by
 refine ab.st ho hw hx hy hz hv j hj (by rw [Nat.blt_eq];simp;omega) ?_;have:((xs.map enc++sp).toArray.setIfInBounds (0+q*1) (enc v))=((xs.set q v).map enc++sp).toArray:=by
  rw [Nat.zero_add,Nat.mul_one,List.map_set];have hq2:q<(xs.map enc).length:=by simpa using hq
  simp [List.set_append_left _ _ hq2]
 rw [this];exact hk
end
theorem St.fresh {w0 w:World} {h:Hl} {Y:List (Nat×Obj)} (s:St w0 [] w h Y) {j b:Nat} {o:Obj} (hj:h[j]?=some (some b,o)):w0.heap.size≤b:=by
 rcases (s.own _ (List.mem_of_getElem? hj) b rfl).2.2 with h1|h1;exact h1;cases h1
section
variable {P:Program} {r:Option Nat} {f:FuncId} {R:Value→World→Prop} {w0:World} {S:List Nat} {Y:List (Nat×Obj)} {n:Nat} {k:List Item} {l:Fl} {h:Hl}
variable {ops:Array Oper} {i d:Nat} {rest:List Nat} {ty:TypeId} {pos:String} {aft:Array Edge} {g:Option (Nat×Bool)}
theorem ab.zX {α:Type} (enc:α→Value) (z:α) {t e:TypeId} {x y:Operand} {kx ky:IntKind} {m:Nat} {inf:TypeInfo} (ho:ops[i]?=some ⟨some d,.makeSlice t x y,ty,pos,aft,g⟩) (hw:aq ops l g=true) (hx:aM l x=some (.int kx m)) (hy:aM l y=some (.int ky m)) (hd:Nat.blt d n=true)
  (hu:P.underlying t=some (.slice e)) (hi:P.info? e=some inf) (hz:inf.zero=some (enc z)) (hz1:(enc z).cells=#[enc z]) (hs:inf.size=1) (hb:inf.bytes*m≤281474976710656) (hm:m≤maxLen)
  (hk:∀b,ab P r f R w0 S Y n (.inRegion ops rest::k) ((d,.slice (some ⟨b,0,none⟩) m m)::l) ((some b,ob enc e (List.replicate m z) [])::h)):ab P r f R w0 S Y n (.inRegion ops (i::rest)::k) l h:=
 .LF ho hw hx hy hd hu hi hz hz1 hs hb hm (fun b=>by
  have:=hk b;simp only [ob,List.map_replicate] at this;exact this)
theorem ab.jA {α:Type} (enc:α→Value) {t e:TypeId} {x y:Operand} {inf:TypeInfo} {z:Value} {q:Option Nat} {xs:List α} {sp:List Value} {cap:Nat} {bn m c:Nat} {news:List α} {spn:List Value} {en:TypeId}
  (ho:ops[i]?=some ⟨some d,.call ⟨.builtin .append,#[x,y],#[t,t]⟩,ty,pos,aft,g⟩) (hw:aq ops l g=true) (hx:aM l x=some (br q xs.length cap)) (hy:aM l y=some (.slice (some ⟨bn,0,none⟩) m c)) (hd:Nat.blt d n=true)
  (hu:P.underlying t=some (.slice e)) (hi:P.info? e=some inf) (hz:inf.zero=some z) (hsz:inf.size=1) (hz1:z.cells.size=1)
  (hq:q=none→xs.length=0∧cap=0) (j:Nat) (hj:h[j]?=some (q,ob enc e xs sp)) (jn:Nat) (hjn:h[jn]?=some (some bn,ob enc en news spn))
  (aj:(xs.map enc++sp).length=cap) (hl:news.length=m) (hm0:0<m) (h1:∀u,(enc u).oneCell'=true) (hmx:xs.length+m≤maxLen) (hbytes:(xs.length+m)*inf.bytes≤140737488355328)
  (hk:∀b' sp' cap',((xs++news).map enc++sp').length=cap'→ab P r f R w0 S Y n (.inRegion ops rest::k) ((d,br (some b') (xs++news).length cap')::l) (h.set j (some b',ob enc e (xs++news) sp'))):ab P r f R w0 S Y n (.inRegion ops (i::rest)::k) l h:=by
 refine .app 1 ho hw hx hy hd hu hi hz hsz hz1 hq j hj jn hjn (by simp) (by rw [aj,Nat.mul_one]) (by simp [hl]) hm0 (fun u hu=>?_) hmx hbytes (fun b' sp' cap' hlen=>?_);obtain ⟨a,_,rfl⟩:=List.mem_map.1 hu;exact h1 a;have e1:xs.map enc++news.map enc=(xs++news).map enc:=by simp
 have e2:xs.length+m=(xs++news).length:=by simp [hl]
 rw [e1,e2];exact hk b' sp' cap' (by rw [←e1,hlen,Nat.mul_one])
end
section
variable {P:Program} {r:Option Nat} {f:FuncId} {R:Value→World→Prop} {w0:World} {S:List Nat} {Y:List (Nat×Obj)} {n:Nat} {k:List Item} {l:Fl} {h:Hl}
variable {ops:Array Oper} {i d:Nat} {rest:List Nat} {ty:TypeId} {pos:String} {aft:Array Edge} {g:Option (Nat×Bool)}
theorem ab.KG {α:Type} (enc:α→Value) {t e:TypeId} {x y:Operand} {inf:TypeInfo} {z:Value} {q:Option Nat} {xs:List α} {sp:List Value} {cap:Nat} {an:Option Addr} {m c:Nat} (news:List α)
  (ho:ops[i]?=some ⟨some d,.call ⟨.builtin .append,#[x,y],#[t,t]⟩,ty,pos,aft,g⟩) (hw:aq ops l g=true) (hx:aM l x=some (br q xs.length cap)) (hy:aM l y=some (.slice an m c)) (hd:Nat.blt d n=true)
  (hu:P.underlying t=some (.slice e)) (hi:P.info? e=some inf) (hz:inf.zero=some z) (hsz:inf.size=1) (hz1:z.cells.size=1)
  (hq:q=none→xs.length=0∧cap=0) (j:Nat) (hj:h[j]?=some (q,ob enc e xs sp)) (hsl:∀w Y',St w0 S w h Y'→Sl w an (news.map enc))
  (aj:(xs.map enc++sp).length=cap) (hl:m=news.length) (hm0:0<m) (h1:∀u,(enc u).oneCell'=true) (hmx:xs.length+m≤maxLen) (hbytes:(xs.length+m)*inf.bytes≤140737488355328)
  (hk:∀b' sp' cap',((xs++news).map enc++sp').length=cap'→ab P r f R w0 S Y n (.inRegion ops rest::k) ((d,br (some b') (xs++news).length cap')::l) (h.set j (some b',ob enc e (xs++news) sp'))):ab P r f R w0 S Y n (.inRegion ops (i::rest)::k) l h:=
 .mem ho hw rfl rfl hd (fun t' w Ds Y' hF hS=>by
  have hs:=hsl w Y' hS;obtain ⟨bn,o,rfl,_⟩:=hs.isSome (by simp;omega);have hnews:∀j u,(news.map enc)[j]?=some u→w.cell? ((⟨bn,o,none⟩:Addr).add j)=some u:=by
   intro j u hv;have hjl:=(List.getElem?_eq_some_iff.1 hv).1;have e1:(⟨bn,o,none⟩:Addr).add j=ny (some ⟨bn,o,none⟩) j:=by
    unfold Addr.add ny;split;rename_i h0;rw [h0];rfl;rfl
   rw [e1,hs.cell j hjl];rw [List.getD_eq_getElem?_getD,hv];rfl
  subst hl;obtain ⟨b',sp',cap',w',hrun,hlen,hS'⟩:=qI hu hi hz hsz hz1 hS (xs:=xs.map enc) (nx:=xs.length) (by simp) (by rw [aj,Nat.mul_one]) hq hj (c:=c) (m:=news.length) (news:=news.map enc) (by simp) hm0 hnews (fun u hu=>by obtain ⟨a,_,rfl⟩:=List.mem_map.1 hu;exact h1 a) hmx hbytes ty;have e2:xs.map enc++news.map enc=(xs++news).map enc:=by simp
  have e3:xs.length+news.length=(xs++news).length:=by simp
  rw [e2] at hlen hS';rw [e3] at hrun;refine ⟨_,w',_,?_,hS',hk b' sp' cap' (by rw [hlen,Nat.mul_one])⟩;have e1:(#[x,y]:Array Operand).map (Act.eval ⟨t',Ds.map mark⟩)=#[br q xs.length cap,.slice (some ⟨bn,o,none⟩) news.length c]:=by simp [hF.aM hx,hF.aM hy]
  simp only [execOp,resolve,e1,Sem.run_bind,Sem.run_pure,Result.andThen_ok,invoke,builtin,hrun])
theorem B9 {t e:TypeId} {inf:TypeInfo} (hu:P.underlying t=some (.slice e)) (hi:P.info? e=some inf) {a b:Option Addr} {m cap c:Nat} (hm:m≤cap):KW P .append #[t,t] ty [.slice a m cap,.slice b 0 c] (.slice a m cap):=by
 intro cs w;have hf:(Builtin.firstCells inf.size 0 (.slice b 0 c)).run P w=.ok #[] w:=by
  cases b<;>simp [Builtin.firstCells,loadCells,loadCellsFrom]
 have hin:P.underlying t≠some (.int .i64):=by rw [hu];simp
 simp only [builtin,Builtin.append_];cases a<;>simp [run_underlying hu,sizeOf,typeInfo,hi,Builtin.lenOf,hm,hf,storeCells]
theorem ab.K9 {α:Type} (enc:α→Value) {t e:TypeId} {inf:TypeInfo} (ho:ops[i]?=some ⟨some d,.buildSlice t 0 #[],ty,pos,aft,g⟩) (hw:aq ops l g=true) (hd:Nat.blt d n=true)
  (hu:P.underlying t=some (.slice e)) (hi:P.info? e=some inf)
  (hk:∀b,ab P r f R w0 S Y n (.inRegion ops rest::k) ((d,br (some b) ([]:List α).length 0)::l) ((some b,ob enc e [] [])::h)):ab P r f R w0 S Y n (.inRegion ops (i::rest)::k) l h:=
 .mem ho hw rfl rfl hd (fun t' w Ds _ hF hS=>⟨.slice (some ⟨w.heap.size,0,none⟩) 0 0,w.alloc (.cells #[] e),_,by
  simp [execOp,Instr.buildSlice,run_underlying hu,sizeOf,typeInfo,hi,Instr.fill,newRow];rw [show Array.range 0=#[] from by decide];simp,hS.alloc rfl,hk _⟩)
theorem xt {t e:TypeId} (hu:P.underlying t=some (.slice e)) {a:Option Addr} {m c m' c':Nat}:ly P .eql t (.slice a m c) (.slice none m' c') (.bool a.isNone):=by
 intro x y w;have h0:eqGuard .eql t x y (.slice a m c) (.slice none m' c')=pure ():=by unfold eqGuard;rfl
 rw [h0];have h1:∀dd,(Op.equalIn (dd+1) t (.slice a m c) (.slice none m' c')).run P w=.ok a.isNone w:=by
  intro dd;simp only [Op.equalIn,Sem.run_bind,run_underlying hu,Result.andThen_ok];cases a<;>rfl
 show (do pure (Value.bool (←Op.equal t (.slice a m c) (.slice none m' c'))):Sem Value).run P w=_;rw [Sem.run_bind,show (Op.equal t (.slice a m c) (.slice none m' c')).run P w=_ from h1 9999];rfl
end
def JC (g:Nat) (w:World):Prop:=g<w.heap.size∧∀i:Nat,i<64→w.cell? ⟨g,i,none⟩=some (.int .u8 (Jk.getD i 0))
def Cp (n:Nat):aE:=if 64≤n then 18446744073709551615#64 else (1#64<<<n) - 1#64
def Rl (r:List aE) (w v:Nat):Prop:=(r.getD w 0#64).getLsbD v=true
structure zT (r:List aE):Prop where
  len:r.length≤64
  lt:∀w v,Rl r w v→v<r.length
def wS (r:List aE) (s:aE):aE:=(ew s).foldl (fun o w=>o|||r.getD w 0#64) 0#64
def J9 (w:Nat) (s:aE) (out:List aE):List aE:=(ew s).foldl (fun out v=>out.set v (out.getD v 0#64|||1#64<<<w)) out
def Ka (r:List aE):List aE:=wu (fun w out=>J9 w (r.getD w 0#64) out) (List.replicate r.length 0#64) r.length
end Go.Proofs.Wit
namespace Go.Proofs.Wit
end Go.Proofs.Wit
namespace Go.Proofs.Wit
open Go Go.RowKit
structure Le (r s:List aE):Prop where
  len:r.length=s.length
  sub:∀u v,Rl r u v→Rl s u v
structure Lk (g:List aE→List aE) (F:List aE→Prop):Prop where
  val:∀{l},zT l→zT (g l)
  LK:∀{l},zT l→Le l (g l)
  mono:∀{l m},zT l→zT m→Le l m→Le (g l) (g m)
  fix:∀{l},zT l→(g l=l↔F l)
structure Lj (F:List aE→Prop) (r out:List aE):Prop where
  val:zT out
  le:Le r out
  has:F out
  least:∀c,zT c→Le r c→F c→Le out c
def Ig (l:List aE):Prop:=∀u v x,Rl l u v→Rl l v x→Rl l u x
def Ji (l:List aE):Prop:=∀u v x,Rl l u v→Rl l u x→Rl l v x
end Go.Proofs.Wit
namespace Go.Proofs.Wit
end Go.Proofs.Wit
namespace Go.Proofs.Wit
open Go Go.RowKit
def Mn (P:Program) (gf:FuncId) (args:List Value) (w:World) (q:Option Nat) (Rc:Value→World→Prop):Prop:=
 Calls P gf args.toArray w fun e w'=>∃v,e=.returned v∧Ex q.toList w w'∧Rc v w'
section
variable {w0 w w':World} {S:List Nat} {h:Hl} {Y:List (Nat×Obj)}
variable {P:Program} {f:FuncId} {R:Value→World→Prop} {r:Option Nat} {n:Nat} {k:List Item} {l:Fl} {fn:Func}
variable {ops:Array Oper} {i d:Nat} {rest:List Nat} {ty:TypeId} {pos:String} {aft:Array Edge} {g:Option (Nat×Bool)}
end
section
variable {P:Program} {r:Option Nat} {f:FuncId} {R:Value→World→Prop} {w0:World} {S:List Nat} {Y:List (Nat×Obj)} {n:Nat} {k:List Item} {l:Fl} {h:Hl}
variable {ops:Array Oper} {i d:Nat} {rest:List Nat} {ty:TypeId} {pos:String} {aft:Array Edge} {g:Option (Nat×Bool)}
end
theorem ab.bB {P:Program} {r:Option Nat} {f:FuncId} {R:Value→World→Prop} {w0:World} {S:List Nat} {Y:List (Nat×Obj)} {n:Nat} {k:List Item} {l:Fl} {h:Hl} (o:Obj)
  (hg:ab P r f R w0 S Y n k l ((none,o)::h)):ab P r f R w0 S Y n k l h:=fun t w Ds hF hS=>hg t w Ds hF (hS.none o)
section
variable {P:Program} {r:Option Nat} {f:FuncId} {R:Value→World→Prop} {w0:World} {S:List Nat} {Y:List (Nat×Obj)} {n:Nat} {k:List Item} {l:Fl} {h:Hl}
variable {ops:Array Oper} {i d:Nat} {rest:List Nat} {ty:TypeId} {pos:String} {aft:Array Edge} {g:Option (Nat×Bool)}
end
section
variable {P:Program} {t:TypeId} {a b:Int} {x y:aE} {v:Bool}
theorem Ce {k:IntKind} (e:(a==b)=v):ly P .eql t (.int k a) (.int k b) (.bool v):=e ▸ Ch
theorem my {k:IntKind} (e:(a !=b)=v):ly P .neq t (.int k a) (.int k b) (.bool v):=e ▸ xu
theorem Jv {k:IntKind} (e:decide (a<b)=v):ly P .lss t (.int k a) (.int k b) (.bool v):=e ▸ EF
theorem Cg (e:(x==y)=v):ly P .eql t (U x) (U y) (.bool v):=e ▸ xv
end
def Gx (r:List aE) (t:aE):Nat→aE
 |0=>t
 |k+1=>wS (Ka r) (Gx r t k)
structure Lg (r:List aE) (f t:aE) (k:Nat):Prop where
  one:1≤k
  ne:f &&& Gx r t k≠0#64
  least:∀j,1≤j→j<k→f &&& Gx r t j=0#64
section
variable {r:List aE} {t:aE}
end
theorem mV {α:Type} {p q:α→Bool}:∀{l:List α},(∀x∈l,p x=true→q x=true)→(∃x∈l,q x=true∧p x=false)→l.countP p<l.countP q
 |[],_,⟨_,h,_⟩=>by cases h
 |a::l,h,⟨x,hx,h1,h2⟩=>by
  have hle:l.countP p≤l.countP q:=List.countP_mono_left (fun y hy=>h y (List.mem_cons_of_mem _ hy));rw [List.countP_cons,List.countP_cons];rcases List.mem_cons.1 hx with rfl|hx;rw [h1,h2];simp;omega;have:=mV (fun y hy=>h y (List.mem_cons_of_mem _ hy)) ⟨x,hx,h1,h2⟩;have h3:=h a (List.mem_cons_self ..);cases hp:p a with
  |false=>simp;split<;>omega
  |true=>rw [h3 hp];omega
structure fR (w w':World) (H:Hl):Prop where
  own:∀p∈H,∀b,p.1=some b→w'.heap[b]?=some p.2∧pO p.2=false∧w.heap.size≤b
  apart:H.Pairwise nR
theorem fR.of {w w':World} {h:Hl} {Y:List (Nat×Obj)} (s:St w [] w' h Y):fR w w' h:=
 ⟨fun p hp b hb=>by
  obtain ⟨h1,h2,h3⟩:=s.own p hp b hb;exact ⟨h1,h2,h3.resolve_right (by simp)⟩,s.apart⟩
theorem fR.sub {w w':World} {H H':Hl} (g:fR w w' H) (hs:H'.Sublist H):fR w w' H':=⟨fun p hp=>g.own p (hs.subset hp),g.apart.sublist hs⟩
theorem St.eE {w0 w w':World} {S:List Nat} {h:Hl} {Y:List (Nat×Obj)} (s:St w0 S w h Y) (e:Ex [] w w') {H:Hl} (g:fR w w' H):St w0 S w' (H++h) Y:=by
 have s':=s.later e;refine ⟨s'.ext,fun p hp b hb=>?_,List.pairwise_append.2 ⟨g.apart,s.apart,fun p hp q hq b hb hqb=>?_⟩,s'.sys,s'.yY⟩;rcases List.mem_append.1 hp with hp|hp;obtain ⟨h1,h2,h3⟩:=g.own p hp b hb;exact ⟨h1,h2,.inl (Nat.le_trans s.ext.size h3)⟩;exact s'.own p hp b hb;have h1:=(g.own p hp b hb).2.2;have h2:=(Array.getElem?_eq_some_iff.1 (s.own q hq b hqb).1).1;omega
theorem St.eD {w0 w:World} {S:List Nat} {pre pre' HR:Hl} {Y:List (Nat×Obj)} (s:St w0 S w (pre++HR) Y) (is:List Nat) (hn:is.Nodup) (e:is.map (fun i=>pre[i]?)=pre'.map some):St w0 S w (pre'++HR) Y:=by
 have hlen:is.length=pre'.length:=by have:=congrArg List.length e;simpa using this
 have hat:∀j (hj:j<pre'.length),∃i,is[j]?=some i∧pre[i]?=some pre'[j]:=fun j hj=>by
  have h1:=congrArg (fun l=>l[j]?) e;have hj2:j<is.length:=by omega
  simp only [List.getElem?_map,List.getElem?_eq_getElem hj,List.getElem?_eq_getElem hj2,Option.map_some,Option.some.injEq] at h1;exact ⟨is[j],List.getElem?_eq_getElem hj2,h1⟩
 have hmem:∀p∈pre',p∈pre:=fun p hp=>by
  obtain ⟨j,hj,rfl⟩:=List.mem_iff_getElem.1 hp;obtain ⟨i,_,h2⟩:=hat j hj;exact List.mem_of_getElem? h2
 have hap:=List.pairwise_append.1 s.apart;refine ⟨s.ext,fun p hp=>?_,List.pairwise_append.2 ⟨?_,hap.2.1,fun p hp q hq=>hap.2.2 p (hmem p hp) q hq⟩,s.sys,s.yY⟩;rcases List.mem_append.1 hp with hp|hp;exact s.own p (List.mem_append_left _ (hmem p hp));exact s.own p (List.mem_append_right _ hp);rw [List.pairwise_iff_getElem];intro j j' hj hj' hlt;obtain ⟨i,h1,h2⟩:=hat j hj;obtain ⟨i',h1',h2'⟩:=hat j' hj';have hne:i≠i':=by
  rintro rfl;obtain ⟨a1,a2⟩:=List.getElem?_eq_some_iff.1 h1;obtain ⟨b1,b2⟩:=List.getElem?_eq_some_iff.1 h1';have:=(List.nodup_iff_pairwise_ne.1 hn);exact absurd (a2.trans b2.symm) (List.pairwise_iff_getElem.1 this j j' a1 b1 hlt)
 obtain ⟨a1,a2⟩:=List.getElem?_eq_some_iff.1 h2;obtain ⟨b1,b2⟩:=List.getElem?_eq_some_iff.1 h2';rw [←a2,←b2];rcases Nat.lt_or_gt_of_ne hne with hx|hx;exact List.pairwise_iff_getElem.1 hap.1 i i' a1 b1 hx;exact pV (List.pairwise_iff_getElem.1 hap.1 i' i b1 a1 hx)
theorem ab.eD {P:Program} {r:Option Nat} {f:FuncId} {R:Value→World→Prop} {w0:World} {S:List Nat} {Y:List (Nat×Obj)} {n:Nat} {k:List Item} {l:Fl} {pre pre':Hl} (HR:Hl) (is:List Nat) (hn:is.Nodup) (e:is.map (fun i=>pre[i]?)=pre'.map some)
  (hg:ab P r f R w0 S Y n k l (pre'++HR)):ab P r f R w0 S Y n k l (pre++HR):=fun t w Ds hF hS=>hg t w Ds hF (hS.eD is hn e)
theorem ab.pick {P:Program} {r:Option Nat} {f:FuncId} {R:Value→World→Prop} {w0:World} {S:List Nat} {Y:List (Nat×Obj)} {n:Nat} {k:List Item} {l:Fl} {pre pre':Hl} (is:List Nat) (hn:is.Nodup) (e:is.map (fun i=>pre[i]?)=pre'.map some)
  (hg:ab P r f R w0 S Y n k l pre'):ab P r f R w0 S Y n k l pre:=by
 have:=ab.eD (pre:=pre) (pre':=pre') [] is hn e (by rw [List.append_nil];exact hg);rwa [List.append_nil] at this
def JZ {α:Type} (enc:α→Value) (H:Hl) (a:Option Addr) (xs:List α):Prop:=
 xs=[]∨∃b e sp,a=some ⟨b,0,none⟩∧(some b,ob enc e xs sp)∈H
structure Row where
  a:Option Addr
  cap:Nat
  xs:List aE
def Row.v (r:Row):Value:=.slice r.a r.xs.length r.cap
structure Row.At (r:Row) (w:World):Prop where
  at_:zU w r.a r.xs
  len:r.xs.length≤maxLen
  cap:r.xs.length≤r.cap
structure MV where
  n:Int
  ra:Option Addr
  rc:Nat
  rows:List Row
  va:Option Addr
  vc:Nat
  val:List aE
abbrev MV.cs (m:MV):Array Value:=#[.int .i64 m.n,.slice m.va m.val.length m.vc,.slice m.ra m.rows.length m.rc]
def MV.v (m:MV):Value:=.agg #[.int .i64 m.n,.slice m.va m.val.length m.vc,.slice m.ra m.rows.length m.rc]
def MV.rel (m:MV):List (List aE):=m.rows.map Row.xs
def Lf (w:World) (a:Option Addr) (rs:List Row):Prop:=Sl w a (rs.map Row.v)
structure MV.At (m:MV) (w:World):Prop where
  rel:Lf w m.ra m.rows
  row:∀r∈m.rows,r.At w
  val:zU w m.va m.val
  lr:m.rows.length≤maxLen
  lv:m.val.length≤maxLen
  cr:m.rows.length≤m.rc
  cv:m.val.length≤m.vc
theorem Sl.at {α:Type} {enc:α→Value} {w:World} {a:Option Addr} {xs:List α} (h:Sl w a (xs.map enc)) (k:Nat) (hk:k<xs.length):w.cell? (ny a k)=some (enc xs[k]):=by
 rw [Sl.cell h k (by simpa using hk)];simp [List.getD_eq_getElem?_getD,hk]
theorem Ex.iA {w w':World} (e:Ex [] w w') {b:Nat} {o:Obj} (h:w.heap[b]?=some o):w'.heap[b]?=some o:=by
 rw [e.block b (Array.getElem?_eq_some_iff.1 h).1 (by simp)];exact h
theorem Ex.cell {w w':World} (e:Ex [] w w') {b j:Nat} {cs:Array Value} {t:TypeId} {fr:Nat×Nat} {v:Value} (h:w.heap[b]?=some (.cells cs t fr)) (hv:cs[j]?=some v):w'.cell? ⟨b,j,none⟩=some v:=by
 rw [cell_of_row w' b j cs t fr (e.iA h),hv]
abbrev aQ:Int→Value:=Value.int .i64
def kD (w:World) (a:Option Addr) (xs:List Int):Prop:=Sl w a (xs.map aQ)
theorem kD.au {w0 w:World} {a:Option Addr} {xs:List Int} (h:kD w0 a xs) {S:List Nat} (e:Ex S w0 w) (hS:∀b o,a=some ⟨b,o,none⟩→b∉S:=by simp):kD w a xs:=Sl.ex h e hS
theorem kD.at {w:World} {a:Option Addr} {xs:List Int} (h:kD w a xs) (k:Nat) (hk:k<xs.length):w.cell? (ny a k)=some (.int .i64 xs[k]):=Sl.at h k hk
def oU {α:Type} (enc:α→Value) (e:TypeId) (w w':World) (v:Value) (xs:List α):Prop:=
 ∃q cap sp,v=br q xs.length cap∧(q=none→xs.length=0∧cap=0)∧(xs.map enc++sp).length=cap∧∀b,q=some b→w.heap.size≤b∧w'.heap[b]?=some (ob enc e xs sp)
theorem tu {α:Type} {enc:α→Value} {t:TypeId} {w0 w w':World} {S:List Nat} {h:Hl} {Y:List (Nat×Obj)} (s:St w0 S w h Y) (e:Ex [] w w') {v:Value} {xs:List α} (ho:oU enc t w w' v xs):
  ∃q cap sp,v=br q xs.length cap∧(q=none→xs.length=0∧cap=0)∧(xs.map enc++sp).length=cap∧St w0 S w' ((q,ob enc t xs sp)::h) Y:=by
 obtain ⟨q,cap,sp,h1,h2,h3,h4⟩:=ho;refine ⟨q,cap,sp,h1,h2,h3,?_⟩;cases q with
 |none=>exact (s.later e).none _
 |some b=>exact s.Br e (h4 b rfl).2 rfl (h4 b rfl).1
theorem oU.mk {α:Type} {enc:α→Value} {t:TypeId} {w0 w:World} {h:Hl} {Y:List (Nat×Obj)} (s:St w0 [] w h Y) (j:Nat) {q:Option Nat} {xs:List α} {sp:List Value} {cap m:Nat} (hj:h[j]?=some (q,ob enc t xs sp)) (hm:m=xs.length)
  (hq:q=none→xs.length=0∧cap=0) (aj:(xs.map enc++sp).length=cap):oU enc t w0 w (br q m cap) xs:=by
 subst hm;refine ⟨q,cap,sp,rfl,hq,aj,fun b hb=>?_⟩;subst hb;exact ⟨s.fresh hj,s.get hj⟩
theorem Ip {w0 w:World} {S:List Nat} {h:Hl} {Y:List (Nat×Obj)} (s:St w0 S w h Y) (j:Nat) {q:Option Nat} {xs:List Int} {e:TypeId} {sp:List Value} (hj:h[j]?=some (q,ob aQ e xs sp)) (hq:q=none→xs.length=0):kD w (q.map (fun b=>⟨b,0,none⟩)) xs:=by
 cases q with
 |none=>rw [List.eq_nil_of_length_eq_zero (hq rfl)];exact Sl.nil _ _
 |some b=>exact Sl.db (s.get hj)
structure MV.In (m:MV) (H:Hl):Prop where
  rel:JZ Row.v H m.ra m.rows
  row:∀r∈m.rows,JZ U H r.a r.xs∧r.xs.length≤maxLen∧r.xs.length≤r.cap
  val:JZ U H m.va m.val
  lr:m.rows.length≤maxLen
  lv:m.val.length≤maxLen
  cr:m.rows.length≤m.rc
  cv:m.val.length≤m.vc
end Go.Proofs.Wit
namespace Go.Proofs.Wit
def Gh (e:Bool) (w u:Nat):Nat:=if e=true then u else w
def DA (e:Bool) (w u:Nat):Nat:=if e=true then w else u
def LQ (e:Bool) (w u:Nat) (l:List aE):Prop:=Rl l w u→∀x,Rl l (DA e w u) x→Rl l (Gh e w u) x
def KI (e:Bool) (l:List aE):Prop:=if e=true then Ji l else Ig l
structure Pass (e:Bool) (r o0 out:List aE) (again:Bool) (k j:Nat):Prop where
  val:zT out
  le:Le r out
  min:∀c,zT c→Le r c→KI e c→Le out c
  up:Le o0 out
  yes:again=true→o0≠out
  no:again=false→out=o0∧∀w u,(w<k∨(w=k∧u<j))→LQ e w u out
end Go.Proofs.Wit
namespace Go.Proofs.Wit
open Go Go.RowKit
def Gi (n:Nat) (l:List aE):Bool:=l.any (fun s=>s &&& ~~~ Cp n !=0#64)
def B2 (n:Int) (val:List aE) (rel:List (List aE)):Int:=
 if n<1∨64<n then 2 else if 4<rel.length∨8<val.length then 8 else if rel.any (fun r=>(r.length:Int) !=n) then 3 else if Gi n.toNat val||rel.any (Gi n.toNat) then 2 else 0
structure JA (n:Int) (val:List aE) (rel:List (List aE)):Prop where
  n1:1≤n
  LC:n≤64
  Cs:rel.length≤4
  facts:val.length≤8
  len:∀r∈rel,(r.length:Int)=n
  p3:∀r∈rel,zT r
  out:Gi n.toNat val=false
section
variable {P:Program} {r:Option Nat} {f:FuncId} {R:Value→World→Prop} {w0:World} {S:List Nat} {Y:List (Nat×Obj)} {n:Nat} {k:List Item} {l:Fl} {h:Hl}
variable {ops:Array Oper} {i d:Nat} {rest:List Nat} {ty:TypeId} {pos:String} {aft:Array Edge} {g:Option (Nat×Bool)}
theorem mF (b o q:Nat):(⟨b,o,none⟩:Addr).add q=⟨b,o+q,none⟩:=by
 unfold Addr.add;split;rename_i h0;subst h0;rfl;rfl
theorem uR (a:Option Addr) (i q:Nat):(ny a i).add q=ny a (i+q):=by
 unfold ny;rw [mF,Nat.add_assoc]
theorem af.ji {s:TypeId} {x:Operand} {b o q:Nat} {fs:Array Field} {fd:Field} {sz:Nat} (ho:ops[i]?=some ⟨some d,.fieldAddr s x q,ty,pos,aft,g⟩) (hw:aq ops l g=true)
  (hx:aM l x=some (.pointer (some ⟨b,o,none⟩))) (hd:Nat.blt d n=true) (hu:P.underlying s=some (.struct fs)) (hq:fs[q]?=some fd) (he:∀w,(sizeOf fd.type).run P w=.ok (sz+1) w) (o':Nat) (hO:o+fd.offset=o'):
  af P w0 S n h ops i l d (.pointer (some ⟨b,o',none⟩)):=by
 subst hO;exact .of ho hw rfl rfl hd (fun t w Ds _ hF hS=>⟨.value (.pointer (some ⟨b,o+fd.offset,none⟩)),by
  simp only [execOp,hF.aM hx,Instr.fieldAt,Sem.run_bind,run_underlying hu,Result.andThen_ok,hq,Instr.sureAddr,Sem.run_pure,fieldPlace,he];rw [if_neg (by omega)];simp [mF],rfl⟩)
theorem af.iD {s:TypeId} {x:Operand} {q:Nat} {cs:Array Value} {fs:Array Field} {fd:Field} {v:Value} (ho:ops[i]?=some ⟨some d,.field s x q,ty,pos,aft,g⟩) (hw:aq ops l g=true)
  (hx:aM l x=some (.agg cs)) (hd:Nat.blt d n=true) (hu:P.underlying s=some (.struct fs)) (hq:fs[q]?=some fd) (ha:∀w,(isAgg fd.type).run P w=.ok false w) (hv:cs[fd.offset]?=some v):
  af P w0 S n h ops i l d v:=
 .of ho hw rfl rfl hd (fun t w Ds _ hF hS=>⟨.value v,by
  simp only [execOp,hF.aM hx,Instr.field,Sem.run_bind,run_underlying hu,Result.andThen_ok,hq,asAgg,Sem.run_pure,part,ha,hv];rfl,rfl⟩)
theorem pM {t:TypeId} {w:World} {a:Addr} {cs:List Value} (ha:∀w,(isAgg t).run P w=.ok true w) (hz:∀w,(sizeOf t).run P w=.ok cs.length w) (hc:∀j v,cs[j]?=some v→w.cell? (a.add j)=some v):
  (Instr.loadAt t (.pointer (some a))).run P w=.ok (.agg cs.toArray) w:=by
 simp only [Instr.loadAt,Instr.sureAddr,loadVar,Sem.run_bind,Sem.run_pure,Result.andThen_ok,ha,hz,if_true,run_loadCells_list w a cs hc]
theorem af.JS {t:TypeId} {x:Operand} {p:Addr} {cs:List Value} (ho:ops[i]?=some ⟨some d,.load t x,ty,pos,aft,g⟩) (hw:aq ops l g=true)
  (hx:aM l x=some (.pointer (some p))) (hd:Nat.blt d n=true) (ha:∀w,(isAgg t).run P w=.ok true w) (hz:∀w,(sizeOf t).run P w=.ok cs.length w) (hc:∀w Y',St w0 S w h Y'→∀j v,cs[j]?=some v→w.cell? (p.add j)=some v):af P w0 S n h ops i l d (.agg cs.toArray):=
 .of ho hw rfl rfl hd (fun t w Ds _ hF hS=>⟨.value (.agg cs.toArray),by
  simp only [execOp,hF.aM hx,Sem.run_bind,pM ha hz (hc w _ hS)];rfl,rfl⟩)
theorem af.fz {t:TypeId} {x:Operand} {p:Addr} {cs:List Value} (ha:∀w,(isAgg t).run P w=.ok true w) (hz:∀w,(sizeOf t).run P w=.ok cs.length w) (hc:∀w Y',St w0 S w h Y'→∀j v,cs[j]?=some v→w.cell? (p.add j)=some v) (ho:ops[i]?=some ⟨some d,.load t x,ty,pos,aft,g⟩:=by exact rfl) (hw:aq ops l g=true:=by exact rfl) (hx:aM l x=some (.pointer (some p)):=by exact rfl) (hd:Nat.blt d n=true:=by exact rfl):af P w0 S n h ops i l d (.agg cs.toArray):=af.JS (ho:=ho) (hw:=hw) (hx:=hx) (hd:=hd) (ha:=ha) (hz:=hz) (hc:=hc)
theorem af.GI {t:TypeId} {x:Operand} {b:Nat} {cs:Array Value} {e:TypeId} {fr:Nat×Nat} {m:Nat} (ho:ops[i]?=some ⟨some d,.load t x,ty,pos,aft,g⟩) (hw:aq ops l g=true)
  (hx:aM l x=some (.pointer (some ⟨b,0,none⟩))) (hd:Nat.blt d n=true) (ha:∀w,(isAgg t).run P w=.ok true w) (j:Nat) (hj:h[j]?=some (some b,.cells cs e fr)) (hz:∀w,(sizeOf t).run P w=.ok m w) (hm:cs.size=m):af P w0 S n h ops i l d (.agg cs):=by
 subst hm;have:=af.JS (P:=P) (w0:=w0) (S:=S) (h:=h) (cs:=cs.toList) ho hw hx hd ha (fun w=>by rw [hz];simp) (fun w Y' hS q v hv=>by
  rw [mF,Nat.zero_add];simp [World.cell?,hS.get hj] at hv⊢;exact hv);rw [Array.toArray_toList] at this;exact this
theorem ab.Da {t:TypeId} {x y:Operand} {b:Nat} {cs:Array Value} {e:TypeId} {v:Value} {m:Nat} (ho:ops[i]?=some ⟨none,.store t x y,ty,pos,aft,g⟩) (hw:aq ops l g=true)
  (hx:aM l x=some (.pointer (some ⟨b,0,none⟩))) (hy:aM l y=some v) (hz:∀w,(sizeOf t).run P w=.ok m w) (j:Nat) (hj:h[j]?=some (some b,.cells cs e (0,0))) (hm:cs.size=m) (hv:v.cells.size=m) (h1:v.cells.toList.all Value.oneCell'=true)
  (hk:ab P r f R w0 S Y n (.inRegion ops rest::k) l (h.set j (some b,.cells v.cells e (0,0)))):ab P r f R w0 S Y n (.inRegion ops (i::rest)::k) l h:=
 .Kv ho hw rfl rfl (fun t' w Ds _ hF hS=>by
  have hb:=hS.get hj;have hrun:=run_storeCells_at (P:=P) b 0 e v.cells.toList 0 cs w hb (by simp;omega) (fun u hu=>List.all_eq_true.1 h1 u hu);have hrow:(cs.toList.take (0+0)++v.cells.toList++cs.toList.drop (0+0+v.cells.toList.length)).toArray=v.cells:=by
   rw [←Array.toList_inj];simp;omega
  rw [hrow] at hrun;refine ⟨w.setRow b v.cells,_,?_,hS.pZ hj (o':=.cells v.cells e (0,0)) rfl rfl rfl rfl (by simp [World.setRow]) (setRow_heap w b _ _ e _ hb) (fun q _ hq=>setRow_other w b q _ hq),hk⟩;simp only [execOp,hF.aM hx,hF.aM hy,Sem.run_bind,Instr.storeAt,Instr.sureAddr,storeVar,Sem.run_pure,Result.andThen_ok,hz,hv];simp only [ne_eq,not_true_eq_false,if_false,hrun];rfl)
theorem ab.bJ {t:TypeId} {x y:Operand} {b:Nat} {cs:Array Value} {e:TypeId} {v:Value} {m:Nat} (hz:∀w,(sizeOf t).run P w=.ok m w) (j:Nat) (hk:ab P r f R w0 S Y n (.inRegion ops rest::k) l (h.set j (some b,.cells v.cells e (0,0)))) (ho:ops[i]?=some ⟨none,.store t x y,ty,pos,aft,g⟩:=by exact rfl) (hw:aq ops l g=true:=by exact rfl) (hx:aM l x=some (.pointer (some ⟨b,0,none⟩)):=by exact rfl) (hy:aM l y=some v:=by exact rfl) (hj:h[j]?=some (some b,.cells cs e (0,0)):=by exact rfl) (hm:cs.size=m:=by exact rfl) (hv:v.cells.size=m:=by exact rfl) (h1:v.cells.toList.all Value.oneCell'=true:=by exact rfl):ab P r f R w0 S Y n (.inRegion ops (i::rest)::k) l h:=ab.Da (ho:=ho) (hw:=hw) (hx:=hx) (hy:=hy) (hz:=hz) (j:=j) (hj:=hj) (hm:=hm) (hv:=hv) (h1:=h1) (hk:=hk)
def setAt (cells:List Value) (off:Nat) (vs:List Value):List Value:=cells.take off++vs++cells.drop (off+vs.length)
def oG (place:Nat→Option (Nat×Nat)) (cells:List Value):List (Nat×Value)→Option (List Value)
 |[]=>some cells
 |(i,v)::rest=>match place i with
  |none=>none
  |some (off,size)=>match Nat.beq v.cells.toList.length size && Nat.ble (off+size) cells.length with
   |true=>oG place (setAt cells off v.cells.toList) rest
   |false=>none
theorem tE:∀(vs:List Value) (cs:List Value) (off j:Nat),off+j+vs.length≤cs.length→
  (vs.zipIdx j).foldl (fun (cs:Array Value) (c:Value×Nat)=>cs.setIfInBounds (off+c.2) c.1) cs.toArray=(setAt cs (off+j) vs).toArray
 |[],cs,off,j,_=>by simp [setAt]
 |v::vs,cs,off,j,hl=>by
  simp only [List.length_cons] at hl;rw [List.zipIdx_cons,List.foldl_cons];have h1:cs.toArray.setIfInBounds (off+j) v=(cs.set (off+j) v).toArray:=by simp
  rw [h1,tE vs (cs.set (off+j) v) off (j+1) (by simp;omega)]
  congr 1
  have hlt:off+j<cs.length:=by omega
  have hset:cs.set (off+j) v=cs.take (off+j)++v::cs.drop (off+j+1):=by
   rw [List.set_eq_take_append_cons_drop,if_pos hlt]
  have hlen:(cs.take (off+j)).length=off+j:=by simp;omega
  have t1:(cs.set (off+j) v).take (off+(j+1))=cs.take (off+j)++[v]:=by
   rw [hset,List.take_append,List.take_of_length_le (by omega),hlen,show off+(j+1) - (off+j)=1 from by omega];simp
  have t2:(cs.set (off+j) v).drop (off+(j+1)+vs.length)=cs.drop (off+j+(vs.length+1)):=by
   rw [hset,List.drop_append,List.drop_eq_nil_of_le (by omega),hlen,show off+(j+1)+vs.length - (off+j)=vs.length+1 from by omega];simp [Nat.add_assoc,Nat.add_comm 1]
  unfold setAt;rw [t1,t2];simp
theorem fill_eq {place:Nat→Option (Nat×Nat)}:∀{ps:List (Nat×Value)} {cells c:List Value},oG place cells ps=some c→Instr.fill place cells.toArray ps=some c.toArray
 |[],cells,c,e=>by cases e;rfl
 |(i,v)::rest,cells,c,e=>by
  unfold oG at e;unfold Instr.fill;split at e;cases e;rename_i off size hp;rw [hp];split at e;rename_i hb;rw [Bool.and_eq_true,Nat.beq_eq,Nat.ble_eq] at hb;obtain ⟨h1,h2⟩:=hb;rw [Array.length_toList] at h1;simp only;rw [if_neg (by simp;omega)];have h3:=tE v.cells.toList cells off 0 (by simp;omega);rw [Nat.add_zero] at h3;have h4:v.cells.zipIdx.foldl (fun cs (x:Value×Nat)=>cs.setIfInBounds (off+x.2) x.1) cells.toArray=(setAt cells off v.cells.toList).toArray:=by
   rw [←h3,←Array.foldl_toList];simp
  rw [h4];exact fill_eq e;cases e
def Fx (P:Program):List Field→List Nat→Prop
 |[],[]=>True
 |f::fs,s::ss=>(∀w,(sizeOf f.type).run P w=.ok s w)∧Fx P fs ss
 |_,_=>False
theorem Fx.nil:Fx P [] []:=trivial
theorem Fx.cons {f:Field} {fs:List Field} {s:Nat} {ss:List Nat} (h:∀w,(sizeOf f.type).run P w=.ok s w) (hs:Fx P fs ss):Fx P (f::fs) (s::ss):=⟨h,hs⟩
theorem xI:∀{fs:List Field} {ss:List Nat},Fx P fs ss→∀w,(fs.mapM (m:=Sem) fun f=>do pure (f.offset,←sizeOf f.type)).run P w=.ok ((fs.zip ss).map fun x=>(x.1.offset,x.2)) w
 |[],[],_,w=>rfl
 |f::fs,s::ss,hs,w=>by
  rw [List.mapM_cons];simp only [Sem.run_bind,Sem.run_pure,Result.andThen_ok,hs.1,xI hs.2];rfl
 |[],_::_,hs,_=>hs.elim
 |_::_,[],hs,_=>hs.elim
def J0 (P:Program) (t:TypeId) (ps:List (Nat×Value)) (v:Value):Prop:=∀w,(Instr.build t ps.toArray).run P w=.ok v w
theorem Ey {t:TypeId} {fs:Array Field} {ss:List Nat} {z:Value} {ps:List (Nat×Value)} {c:List Value} (hu:P.underlying t=some (.struct fs)) (hs:Fx P fs.toList ss) (hz:∀w,(zeroValue t).run P w=.ok z w)
  (hf:oG (fun i=>((fs.toList.zip ss)[i]?).map fun x=>(x.1.offset,x.2)) z.cells.toList ps=some c):J0 P t ps (.agg c.toArray):=by
 intro w;have h1:=fill_eq hf;rw [Array.toArray_toList] at h1;simp only [Instr.build,Sem.run_bind,hz,Result.andThen_ok,run_underlying hu];rw [Array.mapM_eq_mapM_toList];simp only [Sem.run_map,xI hs];have h2:(fun (i:Nat)=>(List.map (fun x=>(x.1.offset,x.2)) (fs.toList.zip ss)).toArray[i]?)=fun i=>((fs.toList.zip ss)[i]?).map fun x=>(x.1.offset,x.2):=by
  funext i;simp
 show ((match Instr.fill (fun (i:Nat)=>(List.map (fun x=>(x.1.offset,x.2)) (fs.toList.zip ss)).toArray[i]?) z.cells ps with
  |some cells=>pure (.agg cells)
  | _ => stuck "build: no such field, or a part of the wrong size" : Sem Value)).run P w = _;rw [h2,h1];rfl
def lI (l:Fl):List (Nat×Operand)→Option (List (Nat×Value))
 |[]=>some []
 |(q,x)::xs=>match Wit.aM l x,lI l xs with
  |some v,some vs=>some ((q,v)::vs)
  |_,_=>none
theorem iW.parts {t:Array Value} (hF:iW n t l) (ds:List Deferred):∀{xs:List (Nat×Operand)} {vs:List (Nat×Value)},lI l xs=some vs→xs.map (fun x=>(x.1,Act.eval ⟨t,ds⟩ x.2))=vs
 |[],vs,e=>by cases e;rfl
 |(q,x)::xs,vs,e=>by
  simp only [lI] at e;split at e;rename_i v us hx hxs;cases e;rw [List.map_cons,hF.aM hx,hF.parts ds hxs];cases e
theorem af.Ey {t:TypeId} {az:Array (Nat×Operand)} {ps:List (Nat×Value)} {v:Value} (ho:ops[i]?=some ⟨some d,.build t az,ty,pos,aft,g⟩) (hw:aq ops l g=true) (hx:lI l az.toList=some ps) (hd:Nat.blt d n=true) (hb:J0 P t ps v):
  af P w0 S n h ops i l d v:=
 .of ho hw rfl rfl hd (fun t w Ds _ hF hS=>⟨.value v,by
  have e1:az.map (fun (x:Nat×Operand)=>(x.1,Act.eval ⟨t,Ds.map mark⟩ x.2))=ps.toArray:=by rw [←Array.toList_inj];simp [hF.parts (Ds.map mark) hx]
  have:=hb w;rw [←e1] at this;simp only [execOp,Sem.run_bind];refine (congrArg (fun x=>Result.andThen x _) this).trans ?_;rfl,rfl⟩)
theorem af.bM {t:TypeId} {az:Array (Nat×Operand)} {ps:List (Nat×Value)} {v:Value} (hb:J0 P t ps v) (ho:ops[i]?=some ⟨some d,.build t az,ty,pos,aft,g⟩:=by exact rfl) (hw:aq ops l g=true:=by exact rfl) (hx:lI l az.toList=some ps:=by exact rfl) (hd:Nat.blt d n=true:=by exact rfl):af P w0 S n h ops i l d v:=af.Ey (ho:=ho) (hw:=hw) (hx:=hx) (hd:=hd) (hb:=hb)
theorem yN {t e:TypeId} {len:Nat} {az:Array (Nat×Operand)} {ps:List (Nat×Value)} {z:Value} {size:Nat} {c:List Value} {t':Array Value} (hF:iW n t' l) (hx:lI l az.toList=some ps)
  (hu:P.underlying t=some (.slice e)) (hs:∀w,(sizeOf e).run P w=.ok size w) (hz:∀w,(zeroValue e).run P w=.ok z w) (hm:Nat.ble (len*size) 16777216=true)
  (hf:oG (fun i=>some (i*size,size)) ((List.range (len*size)).map fun i=>z.cells.toList.getD (i%z.cells.toList.length) default) ps=some c) (Ds:List Nat) (w:World):
  (execOp (Act.eval ⟨t',Ds.map mark⟩) ⟨some d,.buildSlice t len az,ty,pos,aft,g⟩).run P w=.ok (.value (.slice (some ⟨w.heap.size,0,none⟩) len len)) (w.alloc (.cells (c++[]).toArray e)):=by
 have e1:az.map (fun (x:Nat×Operand)=>(x.1,Act.eval ⟨t',Ds.map mark⟩ x.2))=ps.toArray:=by rw [←Array.toList_inj];simp [hF.parts (Ds.map mark) hx]
 have h1:=fill_eq hf;have h2:(Array.range (len*size)).map (fun i=>(if len*size=0 then #[] else z.cells)[i%(if len*size=0 then #[] else z.cells).size]!)=((List.range (len*size)).map fun i=>z.cells.toList.getD (i%z.cells.toList.length) default).toArray:=by
  by_cases h0:len*size=0;rw [h0];simp;rw [if_neg h0,←Array.toList_inj];simp;intro a _;rw [getElem!_def];cases z.cells[a%z.cells.size]?<;>rfl
 rw [←h2] at h1;have hrun:(Instr.buildSlice t len ps.toArray).run P w=.ok (.slice (some ⟨w.heap.size,0,none⟩) len len) (w.alloc (.cells (c++[]).toArray e)):=by
  have hm':¬len*size>2^24:=by have:=Nat.le_of_ble_eq_true hm;omega
  by_cases h0:len*size=0;simp only [if_pos h0] at h1;simp only [Instr.buildSlice,Sem.run_bind,run_underlying hu,Result.andThen_ok,hs,if_neg hm',if_pos h0,Sem.run_pure];rw [h1];simp [newRow];simp only [if_neg h0] at h1;simp only [Instr.buildSlice,Sem.run_bind,run_underlying hu,Result.andThen_ok,hs,if_neg hm',if_neg h0,Sem.run_pure,hz];rw [h1];simp [newRow]
 rw [←e1] at hrun;simp only [execOp,Sem.run_bind];refine (congrArg (fun x=>Result.andThen x _) hrun).trans ?_;rfl
theorem ab.m8 {t e:TypeId} {len:Nat} {az:Array (Nat×Operand)} {ps:List (Nat×Value)} {z:Value} {size:Nat} {c:List Value} (ho:ops[i]?=some ⟨some d,.buildSlice t len az,ty,pos,aft,g⟩) (hw:aq ops l g=true) (hx:lI l az.toList=some ps) (hd:Nat.blt d n=true)
  (hu:P.underlying t=some (.slice e)) (hs:∀w,(sizeOf e).run P w=.ok size w) (hz:∀w,(zeroValue e).run P w=.ok z w) (hm:Nat.ble (len*size) 16777216=true)
  (hf:oG (fun i=>some (i*size,size)) ((List.range (len*size)).map fun i=>z.cells.toList.getD (i%z.cells.toList.length) default) ps=some c)
  (hk:∀b,ab P r f R w0 S Y n (.inRegion ops rest::k) ((d,.slice (some ⟨b,0,none⟩) len len)::l) ((some b,.cells (c++[]).toArray e)::h)):ab P r f R w0 S Y n (.inRegion ops (i::rest)::k) l h:=
 .mem ho hw rfl rfl hd (fun _ w Ds _ hF hS=>⟨.slice (some ⟨w.heap.size,0,none⟩) len len,w.alloc (.cells (c++[]).toArray e),_,yN hF hx hu hs hz hm hf Ds w,hS.alloc rfl,hk _⟩)
theorem ab.bR {t e:TypeId} {len:Nat} {az:Array (Nat×Operand)} {ps:List (Nat×Value)} {z:Value} {size:Nat} {c:List Value} (hu:P.underlying t=some (.slice e)) (hs:∀w,(sizeOf e).run P w=.ok size w) (hz:∀w,(zeroValue e).run P w=.ok z w) (hk:∀b,ab P r f R w0 S Y n (.inRegion ops rest::k) ((d,.slice (some ⟨b,0,none⟩) len len)::l) ((some b,.cells (c++[]).toArray e)::h)) (ho:ops[i]?=some ⟨some d,.buildSlice t len az,ty,pos,aft,g⟩:=by exact rfl) (hw:aq ops l g=true:=by exact rfl) (hx:lI l az.toList=some ps:=by exact rfl) (hd:Nat.blt d n=true:=by exact rfl) (hm:Nat.ble (len*size) 16777216=true:=by exact rfl) (hf:oG (fun i=>some (i*size,size)) ((List.range (len*size)).map fun i=>z.cells.toList.getD (i%z.cells.toList.length) default) ps=some c:=by exact rfl):ab P r f R w0 S Y n (.inRegion ops (i::rest)::k) l h:=ab.m8 (ho:=ho) (hw:=hw) (hx:=hx) (hd:=hd) (hu:=hu) (hs:=hs) (hz:=hz) (hm:=hm) (hf:=hf) (hk:=hk)
theorem af.FW {t e:TypeId} {x y:Operand} {a:Option Addr} {m cap hi:Nat} {kd:IntKind} {j:Int} {sz:Nat} (ho:ops[i]?=some ⟨some d,.slice t x none (some y) none,ty,pos,aft,g⟩) (hw:aq ops l g=true)
  (hx:aM l x=some (.slice a m cap)) (hy:aM l y=some (.int kd j)) (hd:Nat.blt d n=true) (hu:P.underlying t=some (.slice e)) (he:∀w,(sizeOf e).run P w=.ok sz w) (hj:j=hi) (hc:hi≤cap):
  af P w0 S n h ops i l d (.slice a hi cap):=
 .of ho hw rfl rfl hd (fun t w Ds _ hF hS=>⟨.value (.slice a hi cap),by
  subst hj;simp only [execOp,hF.aM hx,hF.aM hy,Option.map_some,Option.map_none,Instr.sliceAt,Sem.run_bind,run_underlying hu,Result.andThen_ok,Instr.slice,Instr.sliceBounds,Instr.sliceBound,asIntOf,Sem.run_pure];rw [if_pos ⟨by omega,by omega⟩];simp only [Sem.run_pure,Result.andThen_ok,he,Int.toNat_natCast];cases a<;>simp [Addr.add_zero'],rfl⟩)
theorem ab.Jo {az:Array Operand} {ts:Array TypeId} {cal:Operand} {gf:FuncId} {fs cs vs:List Value} (Rc:World→Value→World→Prop) (ho:ops[i]?=some ⟨some d,.call ⟨.value cal,az,ts⟩,ty,pos,aft,g⟩) (hw:aq ops l g=true)
  (hc:aM l cal=some (.func (.func gf) fs.toArray cs.toArray)) (hx:cP l az.toList=some vs) (hd:Nat.blt d n=true) (hcf:∀args w,(callFunc gf args).run P w=.ok (.enter gf args) w)
  (hcall:∀w Y',St w0 S w h Y'→Cn P gf (fs++vs++cs) w (Rc w))
  (hk:∀v w w' Y',St w0 S w h Y'→Ex [] w w'→Rc w v w'→∃h',St w0 S w' h' Y'∧ab P r f R w0 S Y n (.inRegion ops rest::k) ((d,v)::l) h'):ab P r f R w0 S Y n (.inRegion ops (i::rest)::k) l h:=
 .yM ho hw hc hx hd hcf (fun w Ds hS=>⟨fun u w'=>Ex [] w w'∧Rc w u w',by
  have:=hcall w Ds hS;unfold Cn at this;simpa using this,fun u w' ⟨he,hu⟩=>hk u w w' Ds hS he hu⟩)
theorem ab.xn {az:Array Operand} {ts:Array TypeId} {cal:Operand} {gf:FuncId} {fs cs vs:List Value} {v:Value} (ho:ops[i]?=some ⟨some d,.call ⟨.value cal,az,ts⟩,ty,pos,aft,g⟩) (hw:aq ops l g=true)
  (hc:aM l cal=some (.func (.func gf) fs.toArray cs.toArray)) (hx:cP l az.toList=some vs) (hd:Nat.blt d n=true) (hcf:∀args w,(callFunc gf args).run P w=.ok (.enter gf args) w)
  (hcall:∀w Y',St w0 S w h Y'→Cn P gf (fs++vs++cs) w (fun u _=>u=v))
  (hk:ab P r f R w0 S Y n (.inRegion ops rest::k) ((d,v)::l) h):ab P r f R w0 S Y n (.inRegion ops (i::rest)::k) l h:=
 .Jo (fun _ u _=>u=v) ho hw hc hx hd hcf hcall (fun _ _ _ _ hS he e=>⟨h,hS.later he,e ▸ hk⟩)
end
def aP (P:Program) (l:Fl) (h:Hl):List ResultVar→List Value→Prop
 |[],[]=>True
 |.tmp t::rs,v::vs=>look l t=some v∧aP P l h rs vs
 |.cell a ty::rs,v::vs=>(∃b,look l a=some (.pointer (some ⟨b,0,none⟩))∧∃(j:Nat) (cs:Array Value) (e:TypeId) (fr:Nat×Nat),h[j]?=some (some b,Obj.cells cs e fr)∧
  ((∀w,(isAgg ty).run P w=.ok true w)∧(∀w,(sizeOf ty).run P w=.ok cs.size w)∧v=.agg cs∨(∀w,(isAgg ty).run P w=.ok false w)∧cs[0]?=some v))∧aP P l h rs vs
 |_,_=>False
section
variable {P:Program} {f:FuncId} {R:Value→World→Prop} {w0:World} {S:List Nat} {Y:List (Nat×Obj)} {n:Nat} {k:List Item} {l:Fl} {h:Hl} {fn:Func}
theorem aP.nil:aP P l h [] []:=trivial
theorem aP.tmp {t:Tmp} {v:Value} {rs:List ResultVar} {vs:List Value} (hv:look l t=some v) (hr:aP P l h rs vs):aP P l h (.tmp t::rs) (v::vs):=⟨hv,hr⟩
theorem aP.cell {a:Tmp} {ty:TypeId} {b m j:Nat} {cs:Array Value} {e:TypeId} {fr:Nat×Nat} {rs:List ResultVar} {vs:List Value} (ha:look l a=some (.pointer (some ⟨b,0,none⟩))) (h1:∀w,(isAgg ty).run P w=.ok true w) (h2:∀w,(sizeOf ty).run P w=.ok m w) (hj:h[j]?=some (some b,Obj.cells cs e fr)) (hm:cs.size=m) (hr:aP P l h rs vs):aP P l h (.cell a ty::rs) (.agg cs::vs):=
 ⟨⟨b,ha,j,cs,e,fr,hj,.inl ⟨h1,fun w=>by rw [h2,hm],rfl⟩⟩,hr⟩
theorem pv {w:World} {t:Array Value} (hF:iW n t l) (hS:St w0 S w h Y):∀{rs:List ResultVar} {vs:List Value},aP P l h rs vs→
  (rs.mapM (m:=Sem) fun|.tmp t'=>pure (t.getD t' undef)|.cell a ty=>do loadVar ty (←asAddr (t.getD a undef))).run P w=.ok vs w
 |[],[],_=>rfl
 |.tmp q::rs,v::vs,⟨hv,hr⟩=>by
  rw [List.mapM_cons];simp only [Sem.run_bind,Sem.run_pure,Result.andThen_ok,pv hF hS hr,hF.2 _ _ hv]
 |.cell a ty::rs,v::vs,⟨⟨b,ha,j,cs,e,fr,hj,hv⟩,hr⟩=>by
  rw [List.mapM_cons];have hl2:(loadVar ty ⟨b,0,none⟩).run P w=.ok v w:=by
   rcases hv with ⟨hag,hsz,rfl⟩|⟨hag,hv⟩;have hl:=pM (P:=P) (w:=w) (a:=⟨b,0,none⟩) (cs:=cs.toList) hag (fun w=>by rw [hsz];simp) (fun q v hv=>by
    rw [mF,Nat.zero_add];simp [World.cell?,hS.get hj] at hv⊢;exact hv);rw [Array.toArray_toList] at hl;simpa only [Instr.loadAt,Instr.sureAddr,Sem.run_bind,Sem.run_pure,Result.andThen_ok] using hl;have hc:=cell_of_row w b 0 cs e fr (hS.get hj);rw [hv] at hc;simp [loadVar,hag,hc]
  have hA:(asAddr (t.getD a undef)).run P w=.ok ⟨b,0,none⟩ w:=by rw [hF.2 _ _ ha];rfl
  simp only [Sem.run_bind,Sem.run_pure,Result.andThen_ok,hA,hl2,pv hF hS hr]
 |[],_::_,hr=>hr.elim
 |.tmp _::_,[],hr=>hr.elim
 |.cell _ _::_,[],hr=>hr.elim
theorem ab.gj (fn:Func) (hf:P.funcs[f]?=some fn) (vs:List Value) (hres:aP P l h fn.results.toList vs) (hR:∀w,St w0 S w h Y→R (gX vs) w):ab P none f R w0 S Y n (.code .ret::k) l h:=fun t w Ds hF hS=>by
 refine tj hf hS (fun cs=>by rw [dF];exact stepR_ret rfl) ?_ (hR _ hS.shut);unfold results;rw [Array.mapM_eq_mapM_toList];have hm:=pv (P:=P) hF hS.shut hres;simp only [Sem.run_bind,Sem.run_map,Sem.run_pure];refine (congrArg (fun x=>(x.andThen fun a w'=>Result.ok a.toArray w').andThen fun a w'=>Result.ok (if h:a.size=1 then a[0] else Value.tuple a) w') hm).trans ?_;simp only [Result.andThen_ok];cases vs with
 |nil=>rfl
 |cons v us=>cases us with
  |nil=>rfl
  |cons u us=>simp [gX]
end
def yy {α:Type} (f:Nat→Option α):Nat→Option α
 |0=>none
 |k+1=>match yy f k with
  |some x=>some x
  |none=>f k
theorem rL {α:Type} {enc:α→List Value} {sz:Nat} (hsz:∀x,(enc x).length=sz):∀{xs:List α} {j i:Nat} (hj:j<xs.length),i<sz→(xs.flatMap enc)[j*sz+i]?=(enc xs[j])[i]?
 |[],j,i,hj,_=>by simp at hj
 |x::xs,0,i,_,hi=>by
  rw [List.flatMap_cons,Nat.zero_mul,Nat.zero_add,List.getElem?_append_left (by rw [hsz];exact hi)];rfl
 |x::xs,j+1,i,hj,hi=>by
  rw [List.flatMap_cons,List.getElem?_append_right (by rw [hsz,Nat.add_mul];omega),hsz];rw [show (j+1)*sz+i - sz=j*sz+i from by rw [Nat.add_mul];omega];exact rL hsz (by simpa using hj) hi
theorem al {α:Type} {enc:α→List Value} {sz:Nat} (hsz:∀x,(enc x).length=sz):∀{xs:List α},(xs.flatMap enc).length=xs.length*sz
 |[]=>by simp
 |x::xs=>by rw [List.flatMap_cons,List.length_append,hsz,al hsz,List.length_cons,Nat.add_mul];omega
section
variable {P:Program} {r:Option Nat} {f:FuncId} {R:Value→World→Prop} {w0:World} {S:List Nat} {Y:List (Nat×Obj)} {n:Nat} {k:List Item} {l:Fl} {h:Hl}
variable {ops:Array Oper} {i d:Nat} {rest:List Nat} {ty:TypeId} {pos:String} {aft:Array Edge} {g:Option (Nat×Bool)}
theorem af.sC {t e:TypeId} {x y:Operand} {a:Option Addr} {m cap sz:Nat} {kd:IntKind} {j:Int} {xs:List Value} (ho:ops[i]?=some ⟨some d,.indexAddr t x y,ty,pos,aft,g⟩) (hw:aq ops l g=true)
  (hx:aM l x=some (.slice a m cap)) (hy:aM l y=some (.int kd j)) (hd:Nat.blt d n=true) (hu:P.underlying t=some (.slice e)) (he:∀w,(sizeOf e).run P w=.ok sz w)
  (hs:∃w,Sl w a xs) (hm:xs.length=m*sz) (hsz:0<sz) (j':Nat) (hj:j=j'∧j'<m):af P w0 S n h ops i l d (.pointer (some (ny a (j'*sz)))):=by
 obtain ⟨w1,hs⟩:=hs;obtain ⟨rfl,hj⟩:=hj;have h0:0<xs.length:=by rw [hm];exact Nat.mul_pos (by omega) hsz
 obtain ⟨b,o,rfl,_⟩:=hs.isSome h0;exact .of ho hw rfl rfl hd (fun t' w Ds _ hF hS=>⟨.value (.pointer (some ⟨b,o+j'*sz,none⟩)),by
  simp only [execOp,hF.aM hx,hF.aM hy,Sem.run_bind,vP hu he b o m cap kd j' hj w];rfl,rfl⟩)
theorem af.bA {t e:TypeId} {x y:Operand} {a:Option Addr} {m cap sz:Nat} {kd:IntKind} {j:Int} {xs:List Value} (hu:P.underlying t=some (.slice e)) (he:∀w,(sizeOf e).run P w=.ok sz w) (hs:∃w,Sl w a xs) (hm:xs.length=m*sz) (hsz:0<sz) (j':Nat) (hj:j=j'∧j'<m) (ho:ops[i]?=some ⟨some d,.indexAddr t x y,ty,pos,aft,g⟩:=by exact rfl) (hw:aq ops l g=true:=by exact rfl) (hx:aM l x=some (.slice a m cap):=by exact rfl) (hy:aM l y=some (.int kd j):=by exact rfl) (hd:Nat.blt d n=true:=by exact rfl):af P w0 S n h ops i l d (.pointer (some (ny a (j'*sz)))):=af.sC (ho:=ho) (hw:=hw) (hx:=hx) (hy:=hy) (hd:=hd) (hu:=hu) (he:=he) (hs:=hs) (hm:=hm) (hsz:=hsz) (j':=j') (hj:=hj)
theorem Sl.many {α:Type} {enc:α→List Value} {sz:Nat} {w:World} {a:Option Addr} {xs:List α} (hs:Sl w a (xs.flatMap enc)) (hsz:∀x,(enc x).length=sz) {j:Nat} (hj:j<xs.length):∀q v,(enc xs[j])[q]?=some v→w.cell? ((ny a (j*sz)).add q)=some v:=by
 intro q v hv;have hq:q<sz:=by have:=(List.getElem?_eq_some_iff.1 hv).1;rwa [hsz] at this
 have h1:=rL hsz hj hq;rw [hv] at h1;obtain ⟨h2,h3⟩:=List.getElem?_eq_some_iff.1 h1;rw [uR,hs.cell _ h2,List.getD_eq_getElem?_getD,h1];rfl
theorem Sl.iD {α:Type} {enc:α→List Value} {sz:Nat} {w:World} {a:Option Addr} {xs:List α} (hs:Sl w a (xs.flatMap enc)) (hsz:∀x,(enc x).length=sz) {j:Nat} (hj:j<xs.length) {q:Nat} {v:Value} (hv:(enc xs[j])[q]?=some v):w.cell? (ny a (j*sz+q))=some v:=by
 have:=Sl.many hs hsz hj q v hv;rwa [uR] at this
theorem af.rK {s:TypeId} {x:Operand} {a:Option Addr} {o q:Nat} {fs:Array Field} {fd:Field} {sz:Nat} (ho:ops[i]?=some ⟨some d,.fieldAddr s x q,ty,pos,aft,g⟩) (hw:aq ops l g=true)
  (hx:aM l x=some (.pointer (some (ny a o)))) (hd:Nat.blt d n=true) (hu:P.underlying s=some (.struct fs)) (hq:fs[q]?=some fd) (he:∀w,(sizeOf fd.type).run P w=.ok (sz+1) w) (o':Nat) (hO:o+fd.offset=o'):
  af P w0 S n h ops i l d (.pointer (some (ny a o'))):=by
 subst hO;exact .of ho hw rfl rfl hd (fun t w Ds _ hF hS=>⟨.value (.pointer (some (ny a (o+fd.offset)))),by
  simp only [execOp,hF.aM hx,Instr.fieldAt,Sem.run_bind,run_underlying hu,Result.andThen_ok,hq,Instr.sureAddr,Sem.run_pure,fieldPlace,he];rw [if_neg (by omega)];simp [uR],rfl⟩)
theorem af.dq {s:TypeId} {x:Operand} {a:Option Addr} {o q:Nat} {fs:Array Field} {fd:Field} {sz:Nat} (hu:P.underlying s=some (.struct fs)) (he:∀w,(sizeOf fd.type).run P w=.ok (sz+1) w) (o':Nat) (ho:ops[i]?=some ⟨some d,.fieldAddr s x q,ty,pos,aft,g⟩:=by exact rfl) (hw:aq ops l g=true:=by exact rfl) (hx:aM l x=some (.pointer (some (ny a o))):=by exact rfl) (hd:Nat.blt d n=true:=by exact rfl) (hq:fs[q]?=some fd:=by exact rfl) (hO:o+fd.offset=o':=by exact rfl):af P w0 S n h ops i l d (.pointer (some (ny a o'))):=af.rK (ho:=ho) (hw:=hw) (hx:=hx) (hd:=hd) (hu:=hu) (hq:=hq) (he:=he) (o':=o') (hO:=hO)
end
structure DV where
  Fu:Int
  prop:Int
  a:Option Addr
  cap:Nat
  ws:List Int
def DV.cells (d:DV):List Value:=[.int .i64 d.Fu,.int .i64 d.prop,.slice d.a d.ws.length d.cap]
def DV.plain (d:DV):Int×Int×List Int:=(d.Fu,d.prop,d.ws)
structure DV.At (d:DV) (w:World):Prop where
  at_:kD w d.a d.ws
  len:d.ws.length≤maxLen
structure KV (w:World) (a:Option Addr) (ds:List DV):Prop where
  at_:Sl w a (ds.flatMap DV.cells)
  len:ds.length≤maxLen
  each:∀d∈ds,d.At w
structure KU (H:Hl) (a:Option Addr) (ds:List DV):Prop where
  at_:ds=[]∨∃b e sp,a=some ⟨b,0,none⟩∧(some b,Obj.cells (ds.flatMap DV.cells++sp).toArray e (0,0))∈H
  len:ds.length≤maxLen
  each:∀d∈ds,JZ aQ H d.a d.ws∧d.ws.length≤maxLen
end Go.Proofs.Wit
namespace Go.Proofs.Wit
structure NV where
  op:Int
  i:Int
  e:Int
  g:Int
  x:Int
  y:Int
deriving DecidableEq
def NV.cells (n:NV):List Value:=[aQ n.op,aQ n.i,aQ n.e,aQ n.g,aQ n.x,aQ n.y]
def cS (op:Int):Bool:=decide (4≤op) && decide (op≤21)
def cF (op:Int):Bool:=decide (5≤op) && decide (op≤8)||op==13||op==14||op==16||op==19||op==21
def nr (op:Int):Bool:=op==9||op==10||op==14||op==15
def jF (op:Int):Bool:=decide (11≤op) && decide (op≤13)
theorem dI {op:Int} (h:cF op=true):cS op=true:=by
 simp only [cF,cS,Bool.or_eq_true,Bool.and_eq_true,decide_eq_true_eq,beq_iff_eq] at h⊢;omega
inductive Tr where
  |leaf (op i e g:Int)
  |un (op i e g:Int) (a:Tr)
  |bin (op i e g:Int) (a b:Tr)
deriving DecidableEq
def Tr.op:Tr→Int
 |.leaf op _ _ _=>op
 |.un op _ _ _ _=>op
 |.bin op _ _ _ _ _=>op
def kids:Tr→List Tr
 |.leaf ..=>[]
 |.un _ _ _ _ a=>[a]
 |.bin _ _ _ _ a b=>[a,b]
def Tr.wf:Tr→Prop
 |.leaf op _ _ _=>cS op=false
 |.un op _ _ _ a=>cS op=true∧cF op=false∧a.wf
 |.bin op _ _ _ a b=>cF op=true∧a.wf∧b.wf
def lN:Tr:=.leaf 0 0 0 0
def vu (n:NV) (a b:Tr):Tr:=if cF n.op=true then .bin n.op n.i n.e n.g a b else if cS n.op=true then .un n.op n.i n.e n.g a else .leaf n.op n.i n.e n.g
theorem gq {n:NV} {a b:Tr} (h:cS n.op=false):vu n a b=.leaf n.op n.i n.e n.g:=by
 unfold vu;rw [if_neg (by intro h2;rw [dI h2] at h;cases h),if_neg (by rw [h];simp)]
theorem ko {n:NV} {a b:Tr} (h:cS n.op=true) (h2:cF n.op=false):vu n a b=.un n.op n.i n.e n.g a:=by
 unfold vu;rw [if_neg (by rw [h2];simp),if_pos h]
theorem iS {n:NV} {a b:Tr} (h:cF n.op=true):vu n a b=.bin n.op n.i n.e n.g a b:=by
 unfold vu;rw [if_pos h]
theorem Gy {n:NV} {a b:Tr} (ha:a.wf) (hb:b.wf):(vu n a b).wf:=by
 unfold vu;split;rename_i h;exact ⟨h,ha,hb⟩;rename_i h;split;rename_i h2;exact ⟨h2,by simpa using h,ha⟩;rename_i h2;show cS n.op=false;simpa using h2
theorem Al:lN.wf:=by show cS 0=false;decide
def CC (acc:List Tr):List NV→List Tr
 |[]=>acc
 |n::ns=>CC (acc++[vu n (acc.getD n.x.toNat lN) (acc.getD n.y.toNat lN)]) ns
def trees (f:List NV):List Tr:=CC [] f
theorem u5:∀{ns:List NV} {acc:List Tr} {n:NV},CC acc (ns++[n])=CC acc ns++[vu n ((CC acc ns).getD n.x.toNat lN) ((CC acc ns).getD n.y.toNat lN)]
 |[],_,_=>rfl
 |m::ns,acc,n=>by rw [List.cons_append,CC,u5,CC]
theorem fS {f:List NV} {n:NV}:trees (f++[n])=trees f++[vu n ((trees f).getD n.x.toNat lN) ((trees f).getD n.y.toNat lN)]:=u5
theorem gV {α:Type} {p:List α→Prop} (h0:p []) (h1:∀l a,p l→p (l++[a])) (l:List α):p l:=by
 have:∀n (l:List α),l.length=n→p l:=by
  intro n
  induction n with
  |zero=>intro l h;rw [List.eq_nil_of_length_eq_zero h];exact h0
  |succ n w=>
   intro l h;have m:l≠[]:=by rintro rfl;simp at h
   rw [←List.dropLast_concat_getLast m];exact h1 _ _ (w _ (by simp [h]))
 exact this _ l rfl
theorem dc (f:List NV):(trees f).length=f.length:=by
 induction f using gV with
 |h0=>rfl
 |h1 f n h=>rw [fS];simp [h]
theorem qO (f:List NV) (k:Nat):(trees f).take k=trees (f.take k):=by
 induction f using gV with
 |h0=>simp [trees,CC]
 |h1 f n h=>
  by_cases hk:k≤f.length;rw [fS,List.take_append_of_le_length (by rw [dc];exact hk),List.take_append_of_le_length hk,h];rw [List.take_of_length_le (by rw [dc];simp;omega),List.take_of_length_le (by simp;omega)]
theorem y5 {f:List NV} {k:Nat} (hk:k<f.length):(trees f)[k]'(by rw [dc];exact hk)=vu f[k] (((trees f).take k).getD f[k].x.toNat lN) (((trees f).take k).getD f[k].y.toNat lN):=by
 have h1:f.take (k+1)=f.take k++[f[k]]:=List.take_succ_eq_append_getElem hk;have h2:=qO f (k+1);rw [h1,fS,←qO] at h2;have h:((trees f).take (k+1))[k]?=some (vu f[k] (((trees f).take k).getD f[k].x.toNat lN) (((trees f).take k).getD f[k].y.toNat lN)):=by
  rw [h2,List.getElem?_append_right (by rw [List.length_take,dc];omega),List.length_take,dc,Nat.min_eq_left (by omega),Nat.sub_self];rfl
 rw [List.getElem?_take,if_pos (by omega),List.getElem?_eq_getElem (by rw [dc];exact hk)] at h;exact Option.some.inj h
theorem Aj (f:List NV):∀t∈trees f,t.wf:=by
 induction f using gV with
 |h0=>intro t h;cases h
 |h1 f n m=>
  have hd:∀k,((trees f).getD k lN).wf:=fun k=>by
   by_cases hk:k<(trees f).length;rw [show (trees f).getD k lN=(trees f)[k] from by simp [List.getD_eq_getElem?_getD,hk]];exact m _ (List.getElem_mem hk);rw [show (trees f).getD k lN=lN from by simp [List.getD_eq_getElem?_getD,List.getElem?_eq_none (Nat.le_of_not_lt hk)]];exact Al
  intro t h;rw [fS] at h;rcases List.mem_append.1 h with h|h;exact m t h;rw [List.mem_singleton.1 h];exact Gy (hd _) (hd _)
def visit:Tr→List Tr→List Tr
 |.leaf op i e g,ts=>if Tr.leaf op i e g∈ts then ts else ts++[.leaf op i e g]
 |.un op i e g a,ts=>if Tr.un op i e g a∈ts then ts else visit a ts++[.un op i e g a]
 |.bin op i e g a b,ts=>if Tr.bin op i e g a b∈ts then ts else visit b (visit a ts)++[.bin op i e g a b]
def mI (ts:List Tr):Prop:=∀(k:Nat) (hk:k<ts.length),∀c∈kids ts[k],c∈ts.take k
theorem mI.nil:mI []:=fun _k hk=>absurd hk (Nat.not_lt_zero _)
theorem mI.snoc {ts:List Tr} {t:Tr} (h:mI ts) (p:∀c∈kids t,c∈ts):mI (ts++[t]):=fun k hk c hc=>by
 rw [List.length_append,List.length_singleton] at hk;by_cases m:k<ts.length;rw [List.getElem_append_left m] at hc;rw [List.take_append_of_le_length (by omega)];exact h k m c hc;obtain rfl:k=ts.length:=by omega
 rw [List.getElem_append_right (Nat.le_refl _)] at hc;simp only [Nat.sub_self,List.getElem_cons_zero] at hc;rw [List.take_left'];exact p c hc;rfl
theorem mI.mem {ts:List Tr} (h:mI ts) {t:Tr} (m:t∈ts):∀c∈kids t,c∈ts:=fun c hc=>by
 obtain ⟨k,hk,rfl⟩:=List.mem_iff_getElem.1 m;exact List.mem_of_mem_take (h k hk c hc)
def size:Tr→Nat
 |.leaf ..=>1
 |.un _ _ _ _ a=>size a+1
 |.bin _ _ _ _ a b=>size a+size b+1
theorem jC (t:Tr):∀{ts:List Tr} {u:Tr},u∈visit t ts→u∈ts∨size u≤size t:=by
 induction t with
 |leaf op i e g=>
  intro ts u h;rw [visit] at h;split at h;exact .inl h;rcases List.mem_append.1 h with h|h;exact .inl h;rw [List.mem_singleton.1 h];exact .inr (Nat.le_refl _)
 |un op i e g a m=>
  intro ts u h;rw [visit] at h;split at h;exact .inl h;rcases List.mem_append.1 h with h|h;rcases m h with h|h;exact .inl h;exact .inr (by simp only [size];omega);rw [List.mem_singleton.1 h];exact .inr (Nat.le_refl _)
 |bin op i e g a b m p=>
  intro ts u h;rw [visit] at h;split at h;exact .inl h;rcases List.mem_append.1 h with h|h;rcases p h with h|h;rcases m h with h|h;exact .inl h;exact .inr (by simp only [size];omega);exact .inr (by simp only [size];omega);rw [List.mem_singleton.1 h];exact .inr (Nat.le_refl _)
structure Ld (t:Tr) (ts us:List Tr):Prop where
  lL:mI us
  nd:us.Nodup
  pre:ts<+:us
  mem:t∈us
theorem jK {ts:List Tr} {t:Tr} (h:ts.Nodup) (m:t∉ts):(ts++[t]).Nodup:=by
 rw [List.nodup_append];exact ⟨h,by simp,fun a ha b hb=>by rw [List.mem_singleton.1 hb];rintro rfl;exact m ha⟩
theorem eM (t:Tr):∀{ts:List Tr},mI ts→ts.Nodup→Ld t ts (visit t ts):=by
 induction t with
 |leaf op i e g=>
  intro ts hc w;rw [visit];split;rename_i h;exact ⟨hc,w,List.prefix_refl _,h⟩;rename_i h;exact ⟨hc.snoc (fun c hc=>by cases hc),jK w h,List.prefix_append _ _,by simp⟩
 |un op i e g a C=>
  intro ts hc w;rw [visit];split;rename_i h;exact ⟨hc,w,List.prefix_refl _,h⟩;rename_i h;obtain ⟨h1,h2,F,E⟩:=C hc w;have m:Tr.un op i e g a∉visit a ts:=fun hm=>by
   rcases jC a hm with p|p;exact h p;simp only [size] at p;omega
  exact ⟨h1.snoc (fun c hc=>by rw [List.mem_singleton.1 hc];exact E),jK h2 m,F.trans (List.prefix_append _ _),by simp⟩
 |bin op i e g a b C D=>
  intro ts hc w;rw [visit];split;rename_i h;exact ⟨hc,w,List.prefix_refl _,h⟩;rename_i h;obtain ⟨h1,h2,F,E⟩:=C hc w;obtain ⟨N,M,J,K⟩:=D h1 h2;have m:Tr.bin op i e g a b∉visit b (visit a ts):=fun hm=>by
   rcases jC b hm with p|p;rcases jC a p with p|p;exact h p;simp only [size] at p;omega;simp only [size] at p;omega
  refine ⟨N.snoc (fun c hc=>?_),jK M m,(F.trans J).trans (List.prefix_append _ _),by simp⟩;simp only [kids,List.mem_cons,List.not_mem_nil,or_false] at hc;rcases hc with rfl|rfl;exact J.subset E;exact K
def aG (ts:List Tr):Tr→NV
 |.leaf op i e g=>⟨op,i,e,g,0,0⟩
 |.un op i e g a=>⟨op,i,e,g,(ts.idxOf a:Int),0⟩
 |.bin op i e g a b=>⟨op,i,e,g,(ts.idxOf a:Int),(ts.idxOf b:Int)⟩
def ao (ts:List Tr):List NV:=ts.map (aG ts)
theorem gL {ts:List Tr}:(ao ts).length=ts.length:=by simp [ao]
theorem ke {ts m:List Tr} (h:ts<+:m) {t:Tr} (p:t∈ts):m.idxOf t=ts.idxOf t:=by
 obtain ⟨vs,rfl⟩:=h;rw [List.idxOf_append,if_pos p]
theorem rp {ts p:List Tr} (h:ts<+:p) {t:Tr} (m:∀c∈kids t,c∈ts):aG p t=aG ts t:=by
 cases t with
 |leaf=>rfl
 |un op i e g a=>simp only [aG];rw [ke h (m a (by simp [kids]))]
 |bin op i e g a b=>simp only [aG];rw [ke h (m a (by simp [kids])),ke h (m b (by simp [kids]))]
theorem jw {ts:List Tr} (hc:mI ts) {t:Tr} (h:∀c∈kids t,c∈ts):ao (ts++[t])=ao ts++[aG ts t]:=by
 unfold ao;rw [List.map_append,List.map_singleton,rp (List.prefix_append _ _) h]
 congr 1
 exact List.map_congr_left (fun u hu=>rp (List.prefix_append _ _) (hc.mem hu))
theorem uu {ts:List Tr} {a b:Tr} (ha:a∈ts) (hb:b∈ts) (h:ts.idxOf a=ts.idxOf b):a=b:=by
 have h1:=List.getElem_idxOf (List.idxOf_lt_length_iff.2 ha);have h2:=List.getElem_idxOf (List.idxOf_lt_length_iff.2 hb);rw [←h1,←h2]
 congr 1
theorem rq {ts:List Tr} {t u:Tr} (p:t.wf) (hu:u.wf) (h1:∀c∈kids t,c∈ts) (h2:∀c∈kids u,c∈ts) (h:aG ts t=aG ts u):t=u:=by
 cases t with
 |leaf op i e g=>
  cases u with
  |leaf m w D C=>simp only [aG,NV.mk.injEq] at h;obtain ⟨rfl,rfl,rfl,rfl,_⟩:=h;rfl
  |un m w D C E=>simp only [aG,NV.mk.injEq] at h;obtain ⟨rfl,_⟩:=h;simp only [Tr.wf] at p hu;rw [p] at hu;cases hu.1
  |bin m w D C E F=>simp only [aG,NV.mk.injEq] at h;obtain ⟨rfl,_⟩:=h;simp only [Tr.wf] at p hu;rw [dI hu.1] at p;cases p
 |un op i e g a=>
  cases u with
  |leaf m w D C=>simp only [aG,NV.mk.injEq] at h;obtain ⟨rfl,_⟩:=h;simp only [Tr.wf] at p hu;rw [p.1] at hu;cases hu
  |un m w D C E=>
   simp only [aG,NV.mk.injEq] at h;obtain ⟨rfl,rfl,rfl,rfl,hx,_⟩:=h;rw [uu (h1 a (by simp [kids])) (h2 E (by simp [kids])) (by omega)]
  |bin m w D C E F=>simp only [aG,NV.mk.injEq] at h;obtain ⟨rfl,_⟩:=h;simp only [Tr.wf] at p hu;rw [hu.1] at p;cases p.2.1
 |bin op i e g a b=>
  cases u with
  |leaf m w D C=>simp only [aG,NV.mk.injEq] at h;obtain ⟨rfl,_⟩:=h;simp only [Tr.wf] at p hu;rw [dI p.1] at hu;cases hu
  |un m w D C E=>simp only [aG,NV.mk.injEq] at h;obtain ⟨rfl,_⟩:=h;simp only [Tr.wf] at p hu;rw [p.1] at hu;cases hu.2.1
  |bin m w D C E F=>
   simp only [aG,NV.mk.injEq] at h;obtain ⟨rfl,rfl,rfl,rfl,hx,hy⟩:=h;rw [uu (h1 a (by simp [kids])) (h2 E (by simp [kids])) (by omega),uu (h1 b (by simp [kids])) (h2 F (by simp [kids])) (by omega)]
theorem tZ {ts:List Tr} (hc:mI ts) (C:ts.Nodup) (hw:∀u∈ts,u.wf) {t:Tr} (w:t∈ts):
  (ao ts)[ts.idxOf t]?=some (aG ts t)∧∀k,k<ts.idxOf t→(ao ts)[k]?≠some (aG ts t):=by
 have p:=List.idxOf_lt_length_iff.2 w;refine ⟨by rw [ao,List.getElem?_map,List.getElem?_eq_getElem p,List.getElem_idxOf p];rfl,fun k hk h=>?_⟩;have m:k<ts.length:=by omega
 rw [ao,List.getElem?_map,List.getElem?_eq_getElem m,Option.map_some,Option.some.injEq] at h;have h1:=rq (hw _ (List.getElem_mem m)) (hw t w) (hc.mem (List.getElem_mem m)) (hc.mem w) h;have h2:ts.idxOf t=k:=by rw [←h1];exact C.idxOf_getElem k m
 omega
theorem xT {ts:List Tr} (hc:mI ts) (hw:∀u∈ts,u.wf) {t:Tr} (m:t.wf) (hk:∀c∈kids t,c∈ts) (p:t∉ts):∀k:Nat,(ao ts)[k]?≠some (aG ts t):=fun k h=>by
 rw [ao,List.getElem?_map] at h;obtain ⟨u,hu,he⟩:=Option.map_eq_some_iff.1 h;have hm:=List.mem_of_getElem? hu;rw [rq (hw u hm) m (hc.mem hm) hk he] at hm;exact p hm
theorem Ai (t:Tr) (p:t.wf):∀{ts:List Tr},(∀u∈ts,u.wf)→∀u∈visit t ts,u.wf:=by
 induction t with
 |leaf op i e g=>
  intro ts h u hu;rw [visit] at hu;split at hu;exact h u hu;rcases List.mem_append.1 hu with hu|hu;exact h u hu;rw [List.mem_singleton.1 hu];exact p
 |un op i e g a m=>
  intro ts h u hu;rw [visit] at hu;split at hu;exact h u hu;rcases List.mem_append.1 hu with hu|hu;exact m p.2.2 h u hu;rw [List.mem_singleton.1 hu];exact p
 |bin op i e g a b m w=>
  intro ts h u hu;rw [visit] at hu;split at hu;exact h u hu;rcases List.mem_append.1 hu with hu|hu;exact w p.2.2 (m p.2.1 h) u hu;rw [List.mem_singleton.1 hu];exact p
theorem so {ts:List Tr} (hc:mI ts) (hw:∀u∈ts,u.wf):trees (ao ts)=ts:=by
 induction ts using gV with
 |h0=>rfl
 |h1 ts t C=>
  have hk:∀c∈kids t,c∈ts:=fun c h=>by
   have:=hc ts.length (by simp) c (by simpa using h);rwa [List.take_left' rfl] at this
  have w:mI ts:=fun k hk c h=>by
   have:=hc k (by simp;omega) c (by rw [List.getElem_append_left hk];exact h);rwa [List.take_append_of_le_length (by omega)] at this
  rw [jw w hk,fS,C w (fun u hu=>hw u (List.mem_append_left _ hu))]
  congr 2
  have m:=hw t (by simp);have hg:∀c∈ts,ts.getD ((ts.idxOf c:Int)).toNat lN=c:=fun c h=>by
   have p:=List.idxOf_lt_length_iff.2 h;rw [Int.toNat_natCast,List.getD_eq_getElem?_getD,List.getElem?_eq_getElem p,List.getElem_idxOf p];rfl
  cases t with
  |leaf op i e g=>exact (gq (n:=⟨op,i,e,g,0,0⟩) m)
  |un op i e g a=>
   refine (ko (n:=⟨op,i,e,g,(ts.idxOf a:Int),0⟩) m.1 m.2.1).trans ?_;dsimp only [aG];rw [hg a (hk a (by simp [kids]))]
  |bin op i e g a b=>
   refine (iS (n:=⟨op,i,e,g,(ts.idxOf a:Int),(ts.idxOf b:Int)⟩) m.1).trans ?_;dsimp only [aG];rw [hg a (hk a (by simp [kids])),hg b (hk b (by simp [kids]))]
theorem fX (t:Tr):∀{ts m:List Tr},mI m→t∈m→ts⊆m→visit t ts⊆m:=by
 induction t with
 |leaf op i e g=>
  intro ts m hc h hs;rw [visit];split;exact hs;exact List.append_subset.2 ⟨hs,by simpa using h⟩
 |un op i e g a p=>
  intro ts m hc h hs;rw [visit];split;exact hs;exact List.append_subset.2 ⟨p hc (hc.mem h a (by simp [kids])) hs,by simpa using h⟩
 |bin op i e g a b p w=>
  intro ts m hc h hs;rw [visit];split;exact hs;exact List.append_subset.2 ⟨w hc (hc.mem h b (by simp [kids])) (p hc (hc.mem h a (by simp [kids])) hs),by simpa using h⟩
def eN (t:Tr):List Tr:=visit t []
def cg (t:Tr):List NV:=ao (eN t)
theorem iP (t:Tr):Ld t [] (eN t):=eM t mI.nil List.nodup_nil
theorem C7 {t:Tr} (h:t.wf):∀u∈eN t,u.wf:=Ai t h (fun u hu=>by cases hu)
theorem nE {t:Tr} (h:t.wf):trees (cg t)=eN t:=so (iP t).lL (C7 h)
theorem fW {t:Tr}:(cg t).length=(eN t).length:=gL
theorem o9 (t:Tr):∃l,eN t=l++[t]:=by
 cases t with
 |leaf op i e g=>exact ⟨[],by simp [eN,visit]⟩
 |un op i e g a=>exact ⟨visit a [],by simp [eN,visit]⟩
 |bin op i e g a b=>exact ⟨visit b (visit a []),by simp [eN,visit]⟩
def aS (f:List NV):Tr:=(trees f).getD (f.length - 1) lN
theorem iH {t:Tr} (h:t.wf):aS (cg t)=t:=by
 unfold aS;rw [nE h,fW];obtain ⟨l,m⟩:=o9 t;rw [m];simp
def Ke:NV:=⟨0,0,0,0,0,0⟩
def oq (used:Bool) (v at_:Int):Bool:=used && decide (0≤v) && decide (v<at_)||!used && v==0
def iO (op:Int):Bool:=op==3||nr op||op==17
def eP (op i e g:Int):Int:=
 if (!iO op && i !=0||op !=17 && e !=0||!jF op && g !=0)=true then 3
 else if (op==3 && !(decide (0≤i) && decide (i<8))||nr op && !(decide (0≤i) && decide (i<4))||op==17 && !(decide (0≤i) && decide (i<8) && decide (0≤e) && decide (e<8))||jF op && !(decide (1≤g) && decide (g<16)))=true then 2 else 0
def eg (n:NV) (at_:Int):Int:=
 if ¬(1≤n.op∧n.op≤21) then 10
 else if ¬(oq (cS n.op) n.x at_=true∧oq (cF n.op) n.y at_=true) then 3 else eP n.op n.i n.e n.g
def ff (e:Nat→Int):Nat→Int
 |0=>0
 |n+1=>if ff e n≠0 then ff e n else e n
theorem ki {e:Nat→Int}:∀{n:Nat},ff e n=0↔∀i,i<n→e i=0
 |0=>by simp [ff]
 |n+1=>by
  rw [ff];constructor;intro h i hi;split at h;rename_i h2;exact absurd h h2;rename_i h2;rcases Nat.lt_succ_iff_lt_or_eq.1 hi with hi|rfl;exact ki.1 (Classical.not_not.1 h2) i hi;exact h;intro h;have h1:ff e n=0:=ki.2 (fun i hi=>h i (Nat.lt_succ_of_lt hi));rw [if_neg (by simp [h1])];exact h n (Nat.lt_succ_self n)
theorem vW {e:Nat→Int} {n:Nat} (h:ff e n≠0):∀m,n≤m→ff e m=ff e n:=fun m hm=>by
 obtain ⟨k,rfl⟩:∃k,m=n+k:=⟨m - n,by omega⟩;clear hm
 induction k with
 |zero=>rfl
 |succ k p=>rw [←Nat.add_assoc,ff,if_pos (by rw [p];exact h),p]
theorem rO {e:Nat→Int} {n m:Nat} (h:ff e n=0) (he:e n≠0) (hm:n<m):ff e m=e n:=by
 have h1:ff e (n+1)=e n:=by rw [ff,if_neg (by simp [h])]
 rw [vW (n:=n+1) (by rw [h1];exact he) m hm,h1]
def uD (f:List NV) (i:Nat):Int:=eg (f.getD i Ke) i
def aN (f:List NV):Int:=if f.length=0 then 3 else if 200<f.length then 8 else ff (uD f) f.length
structure z8 (f:List NV):Prop where
  pos:0<f.length
  len:f.length≤200
  node:∀(i:Nat) (hi:i<f.length),eg f[i] i=0
theorem aB {f:List NV}:aN f=0↔z8 f:=by
 unfold aN;have hg:∀(i:Nat) (hi:i<f.length),uD f i=eg f[i] i:=fun i hi=>by simp [uD,List.getD_eq_getElem?_getD,hi]
 constructor;intro h;split at h;cases h;rename_i h1;split at h;cases h;rename_i h2;exact ⟨by omega,by omega,fun i hi=>by rw [←hg i hi];exact ki.1 h i hi⟩;rintro ⟨h1,h2,m⟩;rw [if_neg (by omega),if_neg (by omega)];exact ki.2 (fun i hi=>by rw [hg i hi];exact m i hi)
structure CL (n:NV) (at_:Int):Prop where
  op:1≤n.op∧n.op≤21
  x:cS n.op=true→0≤n.x∧n.x<at_
  x0:cS n.op=false→n.x=0
  y:cF n.op=true→0≤n.y∧n.y<at_
  y0:cF n.op=false→n.y=0
  iD:eP n.op n.i n.e n.g=0
theorem oo {h:Bool} {v at_:Int}:oq h v at_=true↔(h=true→0≤v∧v<at_)∧(h=false→v=0):=by
 cases h<;>simp [oq]
theorem eY {n:NV} {at_:Int}:eg n at_=0↔CL n at_:=by
 unfold eg;constructor;intro h;split at h;cases h;rename_i h1;split at h;cases h;rename_i h2;obtain ⟨E,D⟩:=Classical.not_not.1 h2;obtain ⟨C,w⟩:=oo.1 E;obtain ⟨p,m⟩:=oo.1 D;exact ⟨Classical.not_not.1 h1,C,w,p,m,h⟩;rintro ⟨h1,C,w,p,m,h⟩;rw [if_neg (by simp [h1]),if_neg (by simp [oo.2 ⟨C,w⟩,oo.2 ⟨p,m⟩])];exact h
theorem z8.at {f:List NV} (h:z8 f) (i:Nat) (hi:i<f.length):CL f[i] i:=eY.1 (h.node i hi)
def aa (f:List NV) (i:Nat):Tr:=(trees f).getD i lN
theorem gH {f:List NV} {i:Nat} (hi:i<f.length):aa f i=(trees f)[i]'(by rw [dc];exact hi):=by
 simp [aa,List.getD_eq_getElem?_getD,show i<(trees f).length from by rw [dc];exact hi]
theorem l8 {f:List NV} {i:Nat} (hi:i<f.length) (hx:cS f[i].op=true→f[i].x.toNat<i) (hy:cF f[i].op=true→f[i].y.toNat<i):
  aa f i=vu f[i] (aa f f[i].x.toNat) (aa f f[i].y.toNat):=by
 rw [gH hi,y5 hi];have h:∀k,k<i→((trees f).take i).getD k lN=aa f k:=fun k hk=>by
  unfold aa;simp [List.getD_eq_getElem?_getD,hk]
 by_cases h1:cF f[i].op=true;rw [iS h1,iS h1,h _ (hx (dI h1)),h _ (hy h1)];by_cases h2:cS f[i].op=true;rw [ko h2 (by simpa using h1),ko h2 (by simpa using h1),h _ (hx h2)];rw [gq (by simpa using h2),gq (by simpa using h2)]
theorem jD (f:List NV) (i:Nat):(aa f i).wf:=by
 unfold aa;by_cases hi:i<(trees f).length;rw [show (trees f).getD i lN=(trees f)[i] from by simp [List.getD_eq_getElem?_getD,hi]];exact Aj f _ (List.getElem_mem hi);rw [show (trees f).getD i lN=lN from by simp [List.getD_eq_getElem?_getD,List.getElem?_eq_none (Nat.le_of_not_lt hi)]];exact Al
def uV (f:List NV):Prop:=∀(i:Nat) (hi:i<f.length),(cS f[i].op=true→0≤f[i].x∧f[i].x<i)∧(cF f[i].op=true→0≤f[i].y∧f[i].y<i)
theorem z8.ord {f:List NV} (h:z8 f):uV f:=fun i hi=>⟨(h.at i hi).x,(h.at i hi).y⟩
theorem uV.lL {f:List NV} (h:uV f):mI (trees f):=fun k hk c hc=>by
 rw [dc] at hk;obtain ⟨hx,hy⟩:=h k hk;have h1:=l8 hk (fun hu=>by have:=hx hu;omega) (fun hu=>by have:=hy hu;omega);rw [←gH hk,h1] at hc;have m:∀j,j<k→aa f j∈(trees f).take k:=fun j hj=>by
  rw [gH (by omega:j<f.length)];rw [List.mem_take_iff_getElem];exact ⟨j,by rw [dc];omega,rfl⟩
 by_cases h2:cF f[k].op=true;rw [iS h2] at hc;simp only [kids,List.mem_cons,List.not_mem_nil,or_false] at hc;rcases hc with rfl|rfl;exact m _ (by have:=hx (dI h2);omega);exact m _ (by have:=hy h2;omega);by_cases p:cS f[k].op=true;rw [ko p (by simpa using h2)] at hc;rw [List.mem_singleton.1 hc];exact m _ (by have:=hx p;omega);rw [gq (by simpa using p)] at hc;cases hc
theorem mW {f:List NV} (h:uV f) {i:Nat} (hi:i<f.length):(cg (aa f i)).length≤i+1:=by
 have m:mI ((trees f).take (i+1)):=fun k hk c hc=>by
  rw [List.length_take] at hk;rw [List.getElem_take] at hc;have:=h.lL k (by omega) c hc;rw [List.take_take,Nat.min_eq_left (by omega)];exact this
 have hm:aa f i∈(trees f).take (i+1):=by
  rw [gH hi,List.mem_take_iff_getElem];exact ⟨i,by rw [dc];omega,rfl⟩
 have hs:=fX (aa f i) (ts:=[]) m hm (List.nil_subset _);have w:=(iP (aa f i)).nd;rw [fW];have p:=w.length_le_of_subset hs;rw [List.length_take] at p;omega
theorem rr {n:NV} {a:Int} (h:¬(1≤n.op∧n.op≤21)):eg n a=10:=if_pos h
theorem yb {n:NV} {a:Int} (h:1≤n.op∧n.op≤21) (hb:oq (cS n.op) n.x a=false):eg n a=3:=by
 rw [eg,if_neg (by simp [h]),if_pos (by rw [hb];simp)]
theorem xZ {n:NV} {a:Int} (h:1≤n.op∧n.op≤21) (hb:oq (cF n.op) n.y a=false):eg n a=3:=by
 rw [eg,if_neg (by simp [h]),if_pos (by rw [hb];simp)]
theorem gD {n:NV} {a:Int} (h:1≤n.op∧n.op≤21) (hx:oq (cS n.op) n.x a=true) (hy:oq (cF n.op) n.y a=true):eg n a=eP n.op n.i n.e n.g:=by
 rw [eg,if_neg (by simp [h]),if_neg (by rw [hx,hy];simp)]
theorem BE {op i e g:Int} (h:(!iO op && i !=0||op !=17 && e !=0||!jF op && g !=0)=true):eP op i e g=3:=if_pos h
theorem mm {op i e g:Int} (h:(!iO op && i !=0||op !=17 && e !=0||!jF op && g !=0)=false) (h2:(op==3 && !(decide (0≤i) && decide (i<8))||nr op && !(decide (0≤i) && decide (i<4))||op==17 && !(decide (0≤i) && decide (i<8) && decide (0≤e) && decide (e<8))||jF op && !(decide (1≤g) && decide (g<16)))=true):eP op i e g=2:=by
 rw [eP,if_neg (by rw [h];simp),if_pos h2]
theorem BF {op i e g:Int} (h:(!iO op && i !=0||op !=17 && e !=0||!jF op && g !=0)=false) (h2:(op==3 && !(decide (0≤i) && decide (i<8))||nr op && !(decide (0≤i) && decide (i<4))||op==17 && !(decide (0≤i) && decide (i<8) && decide (0≤e) && decide (e<8))||jF op && !(decide (1≤g) && decide (g<16)))=false):eP op i e g=0:=by
 rw [eP,if_neg (by rw [h];simp),if_neg (by rw [h2];simp)]
end Go.Proofs.Wit
