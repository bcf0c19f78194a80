/- Laws of walks, each under its own conditions. -/
import Derived.WalkKit
import Derived.Lib.Hide
import Derived.RangeFuncLeaves
import Derived.RangeFuncRecord
import Derived.Orders
set_option maxRecDepth 100000
set_option maxHeartbeats 40000000
namespace Go.Proofs.Wit
open Go Go.RowKit
abbrev aa:=Array Operand
abbrev ab:=Array TypeId
abbrev ae:=Option Addr
abbrev af:=Array Value
abbrev ah:=Option Nat
abbrev ai:=List Value
abbrev aj:=Array Oper
abbrev ak:=Array Edge
abbrev al:=List Item
abbrev ao:=List Bool
abbrev aq:=List Nat
abbrev ar:=List Int
abbrev au:=Operand
abbrev av:=Program
abbrev aw:=IntKind
abbrev ax:=TypeId
abbrev ay:=FuncId
abbrev aA:=String
abbrev aB:=World
abbrev aC:=Value
theorem aD{α:Type}{l:List α}:l.Sublist l:=List.Sublist.refl _
theorem aE{α:Type}{l:List α}:[].Sublist l:=List.nil_sublist _
theorem aF{α:Type}{a:α}{l:List α}:a∈a::l:=List.mem_cons_self ..
theorem aG{n:Nat}:0<=n:=Nat.zero_le _
theorem aH{p:Prop}(h:p:=by omega):p:=h
theorem aI{p:Prop}(h:p:=by decide):p:=h
theorem aJ{p:Prop}(h:p:=by simpa using hc):p:=h
theorem aK{p:Prop}(h:p:=by intro e;cases e):p:=h
theorem aL{p:Prop}(h:p:=by simp):p:=h
theorem aM{p:Prop}(h:p:=by dsimp only;omega):p:=h
theorem aN{p:Prop}(h:p:=by simp;omega):p:=h
theorem aO{p:Prop}(h:p:=by simp[*]):p:=h
abbrev aP(b:Nat):Addr:=⟨b,0,none⟩
abbrev aQ(b:Nat):Value:=.pointer (some ⟨b,0,none⟩)
abbrev aR(b:Nat):Option Addr:=some ⟨b,0,none⟩
abbrev aS(z:Int):Value:=.int .i64 z
theorem aT.{u,v}:type_of%(@List.exists_of_findSome?_eq_some.{u,v}):=@List.exists_of_findSome?_eq_some.{u,v}
theorem aU.{u}:type_of%(@List.take_succ_eq_append_getElem.{u}):=@List.take_succ_eq_append_getElem.{u}
theorem aV.{u}:type_of%(@List.eq_nil_of_length_eq_zero.{u}):=@List.eq_nil_of_length_eq_zero.{u}
theorem aW.{u}:type_of%(@Array.getD_eq_getD_getElem?.{u}):=@Array.getD_eq_getD_getElem?.{u}
theorem aX.{u}:type_of%(@Array.getElem?_eq_some_iff.{u}):=@Array.getElem?_eq_some_iff.{u}
theorem aY.{u}:type_of%(@List.getD_eq_getElem?_getD.{u}):=@List.getD_eq_getElem?_getD.{u}
theorem aZ.{u}:type_of%(@List.getElem?_append_right.{u}):=@List.getElem?_append_right.{u}
theorem bd.{u}:type_of%(@Array.getElem?_eq_getElem.{u}):=@Array.getElem?_eq_getElem.{u}
theorem bh:type_of%(@Classical.byContradiction):=@Classical.byContradiction
theorem bj.{u}:type_of%(@List.drop_eq_getElem_cons.{u}):=@List.drop_eq_getElem_cons.{u}
theorem br.{u}:type_of%(@List.findIdx?_eq_none_iff.{u}):=@List.findIdx?_eq_none_iff.{u}
theorem bt.{u}:type_of%(@List.getElem?_append_left.{u}):=@List.getElem?_append_left.{u}
theorem bu.{u}:type_of%(@List.getElem?_eq_some_iff.{u}):=@List.getElem?_eq_some_iff.{u}
theorem bB.{u}:type_of%(@List.getElem_append_right.{u}):=@List.getElem_append_right.{u}
theorem bC.{u}:type_of%(@List.pairwise_iff_getElem.{u}):=@List.pairwise_iff_getElem.{u}
theorem bE.{u}:type_of%(@List.sublist_append_right.{u}):=@List.sublist_append_right.{u}
theorem bG.{u}:type_of%(@Array.getElem?_replicate.{u}):=@Array.getElem?_replicate.{u}
theorem bH.{u}:type_of%(@List.getElem?_eq_getElem.{u}):=@List.getElem?_eq_getElem.{u}
theorem bJ.{u}:type_of%(@List.getElem_append_left.{u}):=@List.getElem_append_left.{u}
theorem bK.{u}:type_of%(@List.idxOf_lt_length_iff.{u}):=@List.idxOf_lt_length_iff.{u}
theorem bL.{u}:type_of%(@List.sublist_append_left.{u}):=@List.sublist_append_left.{u}
theorem bP.{u}:type_of%(@List.subset_append_right.{u}):=@List.subset_append_right.{u}
theorem bQ:type_of%(@decide_eq_false_iff_not):=@decide_eq_false_iff_not
theorem bR.{u}:type_of%(@List.take_of_length_le.{u}):=@List.take_of_length_le.{u}
theorem bS.{u}:type_of%(@List.contains_iff_mem.{u}):=@List.contains_iff_mem.{u}
theorem bV.{u}:type_of%(@List.length_singleton.{u}):=@List.length_singleton.{u}
theorem bX.{u}:type_of%(@List.mem_append_right.{u}):=@List.mem_append_right.{u}
theorem bZ.{u}:type_of%(@List.perm_append_comm.{u}):=@List.perm_append_comm.{u}
theorem cm.{u}:type_of%(@List.subset_cons_self.{u}):=@List.subset_cons_self.{u}
theorem ct:type_of%(@BitVec.ofInt_natCast):=@BitVec.ofInt_natCast
theorem cx.{u}:type_of%(@List.mem_append_left.{u}):=@List.mem_append_left.{u}
theorem cy.{u}:type_of%(@List.mem_cons_of_mem.{u}):=@List.mem_cons_of_mem.{u}
theorem cz.{u}:type_of%(@List.mem_iff_getElem.{u}):=@List.mem_iff_getElem.{u}
theorem cD.{u}:type_of%(@List.mem_of_getElem?.{u}):=@List.mem_of_getElem?.{u}
theorem cG.{u}:type_of%(@List.mem_of_mem_take.{u}):=@List.mem_of_mem_take.{u}
theorem cH.{u}:type_of%(@List.pairwise_append.{u}):=@List.pairwise_append.{u}
theorem cI:type_of%(@Nat.pow_le_pow_right):=@Nat.pow_le_pow_right
theorem cJ.{u}:type_of%(@List.Sublist.append.{u}):=@List.Sublist.append.{u}
theorem cK.{u,v}:type_of%(@List.map_congr_left.{u,v}):=@List.map_congr_left.{u,v}
theorem cM.{u,v}:type_of%(@List.mem_map_of_mem.{u,v}):=@List.mem_map_of_mem.{u,v}
theorem cN:type_of%(@BitVec.toNat_ofNat):=@BitVec.toNat_ofNat
theorem cP:type_of%(@Bool.false_ne_true):=@Bool.false_ne_true
theorem cQ.{u}:type_of%(@List.length_append.{u}):=@List.length_append.{u}
theorem cR.{u,v}:type_of%(@List.mem_filterMap.{u,v}):=@List.mem_filterMap.{u,v}
theorem cS.{u}:type_of%(@List.mem_singleton.{u}):=@List.mem_singleton.{u}
theorem cU.{u}:type_of%(@List.prefix_append.{u}):=@List.prefix_append.{u}
theorem cX:type_of%(@Nat.lt_of_lt_of_le):=@Nat.lt_of_lt_of_le
theorem c6:type_of%(@Bool.not_eq_true'):=@Bool.not_eq_true'
theorem c7:type_of%(@Int.toNat_natCast):=@Int.toNat_natCast
theorem c9.{u}:type_of%(@List.append_assoc.{u}):=@List.append_assoc.{u}
theorem dc.{u,v}:type_of%(@List.getElem?_map.{u,v}):=@List.getElem?_map.{u,v}
theorem de.{u}:type_of%(@List.nodup_append.{u}):=@List.nodup_append.{u}
theorem df.{u}:type_of%(@Option.some.injEq.{u}):=@Option.some.injEq.{u}
theorem dg:type_of%(@decide_eq_true_eq):=@decide_eq_true_eq
theorem dh.{u}:type_of%(@Array.toList_inj.{u}):=@Array.toList_inj.{u}
theorem di:type_of%(@Bool.and_eq_true):=@Bool.and_eq_true
theorem dk.{u}:type_of%(@List.all_eq_true.{u}):=@List.all_eq_true.{u}
theorem dn.{u}:type_of%(@List.ext_getElem.{u}):=@List.ext_getElem.{u}
theorem dq.{u}:type_of%(@List.getElem_mem.{u}):=@List.getElem_mem.{u}
theorem dt.{u}:type_of%(@List.length_cons.{u}):=@List.length_cons.{u}
theorem du.{u}:type_of%(@List.length_take.{u}):=@List.length_take.{u}
theorem dv.{u}:type_of%(@List.not_mem_nil.{u}):=@List.not_mem_nil.{u}
theorem dw.{u}:type_of%(@List.prefix_refl.{u}):=@List.prefix_refl.{u}
theorem dx.{u}:type_of%(@List.take_length.{u}):=@List.take_length.{u}
theorem dy:type_of%(@Nat.lt_succ_self):=@Nat.lt_succ_self
theorem dz:type_of%(@Nat.mod_eq_of_lt):=@Nat.mod_eq_of_lt
theorem dA:type_of%(@Bool.eq_iff_iff):=@Bool.eq_iff_iff
theorem dB:type_of%(@Bool.or_eq_true):=@Bool.or_eq_true
theorem dC.{u}:type_of%(@List.append_nil.{u}):=@List.append_nil.{u}
theorem dD.{u,v}:type_of%(@List.length_map.{u,v}):=@List.length_map.{u,v}
theorem dE.{u}:type_of%(@List.length_set.{u}):=@List.length_set.{u}
theorem dF.{u,v}:type_of%(@List.map_append.{u,v}):=@List.map_append.{u,v}
theorem dG.{u}:type_of%(@List.mem_append.{u}):=@List.mem_append.{u}
theorem dH.{u}:type_of%(@List.mem_filter.{u}):=@List.mem_filter.{u}
theorem dI.{u}:type_of%(@List.nil_append.{u}):=@List.nil_append.{u}
theorem dJ:type_of%(@List.range_succ):=@List.range_succ
theorem dK:type_of%(@Nat.not_lt_zero):=@Nat.not_lt_zero
theorem dL.{u,v}:type_of%(@Option.map_some.{u,v}):=@Option.map_some.{u,v}
theorem dM.{u}:type_of%(@Option.some.inj.{u}):=@Option.some.inj.{u}
theorem dN:type_of%(@decide_eq_false):=@decide_eq_false
theorem dO:type_of%(@List.mem_range):=@List.mem_range
theorem dP.{u}:type_of%(@List.nodup_nil.{u}):=@List.nodup_nil.{u}
theorem dQ:type_of%(@decide_eq_true):=@decide_eq_true
theorem dR.{u,v}:type_of%(@List.map_cons.{u,v}):=@List.map_cons.{u,v}
theorem dS.{u}:type_of%(@List.mem_cons.{u}):=@List.mem_cons.{u}
theorem dT.{u,v,w}:type_of%(@List.map_map.{u,v,w}):=@List.map_map.{u,v,w}
theorem dU.{u,v}:type_of%(@List.mem_map.{u,v}):=@List.mem_map.{u,v}
theorem dV:type_of%(@Nat.le_trans):=@Nat.le_trans
theorem dW:type_of%(@Nat.sub_self):=@Nat.sub_self
theorem dX:type_of%(@Nat.zero_add):=@Nat.zero_add
theorem dY:type_of%(@iff_of_false):=@iff_of_false
theorem dZ:type_of%(@Nat.le_refl):=@Nat.le_refl
theorem ec:type_of%(@Nat.mul_one):=@Nat.mul_one
theorem ed:type_of%(@Nat.blt_eq):=@Nat.blt_eq
theorem eg.{u}:type_of%(@beq_iff_eq.{u}):=@beq_iff_eq.{u}
theorem eh.{u,v}:type_of%(@congrArg.{u,v}):=@congrArg.{u,v}
theorem ej.{u}:type_of%(@if_false.{u}):=@if_false.{u}
theorem ep:type_of%(@or_false):=@or_false
theorem ew.{u}:type_of%(@if_true.{u}):=@if_true.{u}
theorem ez:type_of%(@trivial):=@trivial
end Go.Proofs.Wit
namespace Go.Proofs.Wit
open Go.RowKit
abbrev eF:=BitVec 64
def U(x:eF):aC:=.int .u64 (x.toNat:Int)
section
variable(t:ax)(x y:eF)
theorem qO(x:eF):BitVec.ofInt 64 (x.toNat:Int)=x:=by
 rw[ct];simp
theorem An(x:eF):IntKind.u64.wrap (x.toNat:Int)=x.toNat:=by
 rw[IntKind.wrap_u64];have:=x.isLt;omega
theorem Ba(f:eF->eF->eF):(.int .u64 (IntKind.u64.wrap ((f (BitVec.ofInt 64 (x.toNat:Int)) (BitVec.ofInt 64 (y.toNat:Int))).toNat:Int)):aC)=U (f x y):=by
 rw[qO,qO,An];rfl
theorem IF:binOp .and t (U x) (U y)=pure (U (x &&& y)):=
 eh pure (Ba x y (λa b=>a &&& b))
theorem Li:binOp .or t (U x) (U y)=pure (U (x|||y)):=
 eh pure (Ba x y (λa b=>a|||b))
theorem Bb:binOp .andNot t (U x) (U y)=pure (U (x &&& ~~~y)):=
 eh pure (Ba x y (λa b=>a &&& ~~~b))
theorem Me{n:Int}(z:eF)(h:n%18446744073709551616=z.toNat):(.int .u64 (IntKind.u64.wrap n):aC)=U z:=by
 rw[IntKind.wrap_u64,h];rfl
theorem cast_inj:((x.toNat:Int)=y.toNat)↔x=y:=by
 rw[Int.ofNat_inj];exact BitVec.toNat_inj
theorem IE:binOp .eql t (U x) (U y)=pure (.bool (x==y)):=by
 have e:((x.toNat:Int)==(y.toNat:Int))=(x==y):=by rw[dA];simp[cast_inj]
 rw[<-e];rfl
theorem ID:binOp .neq t (U x) (U y)=pure (.bool (x !=y)):=by
 have e:((x.toNat:Int) !=(y.toNat:Int))=(x !=y):=by rw[dA];simp[cast_inj]
 rw[<-e];rfl
theorem MB:(18446744073709551616:Nat)=2^64:=aI
theorem z8(k:aw)(n:Nat):binOp .shl t (U x) (.int k (n:Int))=pure (U (x<<<n)):=by
 show Op.shift .shl .u64 (x.toNat:Int) k (n:Int)=_;unfold Op.shift;rw[if_neg aH];refine eh pure (Me _ ?_);rw[BitVec.toNat_shiftLeft,Nat.shiftLeft_eq,c7];show((x.toNat:Int)*2^(min n 64))%((18446744073709551616:Nat):Int)=_;rw[MB];by_cases h:n<=64;rw[Nat.min_eq_left h];norm_cast
 rw[Nat.min_eq_right aH];have e1:x.toNat*2^n%2^64=0:=by
  obtain⟨d,rfl⟩:∃d,n=64+d:=⟨n - 64,aH⟩;rw[Nat.pow_add,<-Nat.mul_assoc,Nat.mul_right_comm];exact Nat.mul_mod_left _ _
 rw[e1];norm_cast;exact Nat.mul_mod_left _ _
theorem z7(k:aw)(n:Nat):binOp .shr t (U x) (.int k (n:Int))=pure (U (x>>>n)):=by
 show Op.shift .shr .u64 (x.toNat:Int) k (n:Int)=_;unfold Op.shift;rw[if_neg aH];refine eh pure (eh (Value.int .u64) ?_);rw[BitVec.toNat_ushiftRight,Nat.shiftRight_eq_div_pow,c7];show Int.fdiv (x.toNat:Int) (2^(min n 64))=_;have hf:∀m:Nat,Int.fdiv (x.toNat:Int) (2^m)=((x.toNat / 2^m:Nat):Int):=by
  intro m;rw[Int.fdiv_eq_ediv_of_nonneg _ (Int.pow_nonneg aI)];norm_cast
 rw[hf];by_cases h:n<=64;rw[Nat.min_eq_left h];rw[Nat.min_eq_right aH,Nat.div_eq_of_lt x.isLt,Nat.div_eq_of_lt];exact cX x.isLt (cI aI aH)
theorem Di(op:BinOp)(a b:au):eqGuard op t a b (U x) (U y)=pure ():=by
 unfold eqGuard U;cases op<;>rfl
end
end Go.Proofs.Wit
namespace Go.Proofs.Wit
open Go
section
variable{a:Act}{b:Frame}{i:Nat}{o:Oper}{ops:aj}{rest:aq}
def Aj(f:ay)(r:ah)(t:af)(ds:List Deferred)(k:al):Frame:=
 {fn:=f,tmps:=t,todo:=k,defers:=ds,mode:=.run,kind:=.normal,roundOf:=r}
def Ql(P:av)(r:ah)(f:ay)(cs:List Frame)(v:aC)(w:aB)(m:Machine):Prop:=
 match r with
 |none=>∃fr,m=lone fr cs w/\fr.fn=f/\fr.leaving P w (.returned v)
 |some _=>∃c cs',cs=c::cs'/\m=lone (c.finish v) cs' w
def jK(P:av)(r:ah)(f:ay)(R:aC->aB->Prop)(k:al)(t:af)(ds:List Deferred)(w:aB):Prop:=
 ∀cs:List Frame,(r.isSome=true->cs≠[])->∃v w' m,R v w'/\Steps P (lone (Aj f r t ds k) cs w) m/\Ql P r f cs v w' m
section
variable{P:av}{r:ah}{f:ay}{R:aC->aB->Prop}{k k':al}{t t':af}{ds ds':List Deferred}{w w':aB}
theorem iG:Aj f r t ds k=(Aj f r #[] [] []).atR ⟨t,ds⟩ k:=rfl
theorem jK.step(hs:∀cs,step P (lone (Aj f r t ds k) cs w)=.next (lone (Aj f r t' ds' k') cs w'))(h:jK P r f R k' t' ds' w'):jK P r f R k t ds w:=by
 intro cs hc;obtain⟨v,p,m,D,pz,C⟩:=h cs hc;exact⟨v,p,m,D,.head (hs cs) pz,C⟩
theorem jK.skip(h:jK P r f R k t ds w):jK P r f R (.code .skip::k) t ds w:=.step (λ_=>by rw[iG,iG];exact stepR_skip) h
theorem jK.inBlock{id:Nat}(h:jK P r f R k t ds w):jK P r f R (.inBlock id::k) t ds w:=.step (λ_=>by rw[iG,iG];exact stepR_inBlock) h
theorem jK.seq{x y:Code}(h:jK P r f R (.code x::.code y::k) t ds w):jK P r f R (.code (.seq x y)::k) t ds w:=.step (λ_=>by rw[iG,iG];exact stepR_seq) h
theorem jK.block{id:Nat}{c:Code}(h:jK P r f R (.code c::.inBlock id::k) t ds w):jK P r f R (.code (.block id c)::k) t ds w:=.step (λ_=>by rw[iG,iG];exact stepR_block) h
theorem jK.loop{c:Code}(h:jK P r f R (.code c::.inLoop c::k) t ds w):jK P r f R (.code (.loop c)::k) t ds w:=.step (λ_=>by rw[iG,iG];exact stepR_loop) h
theorem jK.inLoop{c:Code}(h:jK P r f R (.code c::.inLoop c::k) t ds w):jK P r f R (.inLoop c::k) t ds w:=.step (λ_=>by rw[iG,iG];exact stepR_inLoop) h
theorem jK.exit{id:Nat}(he:exitTo id k=some k')(h:jK P r f R k' t ds w):jK P r f R (.code (.exit id)::k) t ds w:=.step (λ_=>by rw[iG,iG];exact stepR_exit he) h
theorem wz  {k:al}{cs:List Frame}{w:aB}{c:Code}:
  Go.step P (lone (b.atR a (.inScope c::k)) cs w)=.next (lone (b.atR a k) cs w):=
 step_lone_go (by simp[stepG,stepG.exec,Frame.atR])
theorem jK.inScope{c:Code}(h:jK P r f R k t ds w):jK P r f R (.inScope c::k) t ds w:=.step (λ_=>by rw[iG,iG];exact wz) h
theorem jK.cond{c:au}{x y:Code}{b:Bool}(hc:(⟨t,ds⟩:Act).eval c=.bool b)(h:jK P r f R (.code (if b then x else y)::k) t ds w):jK P r f R (.code (.cond c x y)::k) t ds w:=.step (λ_=>by rw[iG,iG];exact stepR_cond hc) h
theorem jK.region{id:Nat}{ops:aj}(h:jK P r f R (.inRegion ops (List.range ops.size)::k) t ds w):jK P r f R (.code (.region id ops false)::k) t ds w:=.step (λ_=>by rw[iG,iG];exact stepR_region) h
theorem jK.m6{id:Nat} (h:∀n,jK P r f R (.inRegion ops (Region.schedule (P.follows .mixedOrders) ops n)::k) t ds {w with drawn:=w.drawn+1}):jK P r f R (.code (.region id ops true)::k) t ds w:=.step (λ_=>by rw[iG,iG];exact stepR_region_draw) (h _)
theorem jK.qu (h:jK P r f R k t ds w):jK P r f R (.inRegion ops []::k) t ds w:=.step (λ_=>by rw[iG,iG];exact stepR_region_end) h
theorem put_eq(t:af)(ds:List Deferred)(d:Option Tmp)(v:aC):((⟨t,ds⟩:Act).put d v)=⟨((⟨t,ds⟩:Act).put d v).tmps,ds⟩:=by cases d<;>rfl
theorem CN  {cs:List Frame}    {nx:Next}{v:aC}(ho:ops[i]?=some o)(hw:Region.wanted o (yielded ops a.tmps)=true)(h:∀c,o.op≠.defer c)
  (p:(execOp a.eval o).run P w=.ok nx w')(hx:nx=.value v\/(nx=.skip/\v=undef)):
  Go.step P (lone (b.atR a (.inRegion ops (i::rest)::k)) cs w)=.next (lone (b.atR (a.put o.dst v) (.inRegion ops rest::k)) cs w'):=by
 refine step_lone_go ?_;rw[stepGR_op ho hw,Oper.semAt_eq _ _ _ h];have hf:=Frame.finish_atR b a ops i rest k v;rw[ho]at hf;simp only[Option.bind_some]at hf;rcases hx with rfl|⟨rfl,rfl⟩;simp[stepG.apply,Sem.runT_eq,p,GStep.bare_after,hf];simp[stepG.apply,Sem.runT_eq,p,GStep.bare_after,hf]
theorem yY  {cs:List Frame}    {g:ay}{args:af}(ho:ops[i]?=some o)(hw:Region.wanted o (yielded ops a.tmps)=true)(h:∀c,o.op≠.defer c)
  (p:(execOp a.eval o).run P w=.ok (.enter g args) w'):
  Go.step P (lone (b.atR a (.inRegion ops (i::rest)::k)) cs w)=.next (lone (Frame.enter P g args .normal) (b.atR a (.inRegion ops (i::rest)::k)::cs) w'):=by
 refine step_lone_go ?_;rw[stepGR_op ho hw,Oper.semAt_eq _ _ _ h];simp[stepG.apply,Sem.runT_eq,p,GStep.bare_after,Frame.atR]
theorem Df      (ho:ops[i]?=some o)(v:aC):(b.atR a (.inRegion ops (i::rest)::k)).finish v=b.atR (a.put o.dst v) (.inRegion ops rest::k):=by
 rw[Frame.finish_atR,ho];rfl
theorem jK.op{ops:aj}{i:Nat}{rest:aq}{o:Oper}{nx:Next}{v:aC}(ho:ops[i]?=some o)(hw:Region.wanted o (yielded ops t)=true)(p:∀c,o.op≠.defer c)
  (C:(execOp (Act.eval ⟨t,ds⟩) o).run P w=.ok nx w')(hx:nx=.value v\/(nx=.skip/\v=undef))
  (h:jK P r f R (.inRegion ops rest::k) ((⟨t,ds⟩:Act).put o.dst v).tmps ds w'):jK P r f R (.inRegion ops (i::rest)::k) t ds w:=by
 refine .step (λcs=>?_) h;have hs:=CN (b:=Aj f r #[] [] []) (a:=⟨t,ds⟩) (k:=k) (cs:=cs) (rest:=rest) ho hw p C hx;rw[put_eq]at hs;exact hs
theorem mh    (ho:ops[i]?=some o)(hw:Region.wanted o (yielded ops t)=false)
  (h:jK P r f R (.inRegion ops rest::k) ((⟨t,ds⟩:Act).put o.dst undef).tmps ds w):jK P r f R (.inRegion ops (i::rest)::k) t ds w:=by
 refine .step (λcs=>?_) h;have hs:=stepR_op_skip (P:=P) (b:=Aj f r #[] [] []) (a:=⟨t,ds⟩) (k:=k) (cs:=cs) (w:=w) (ops:=ops) (i:=i) (rest:=rest) (by simp[ho,hw]);rw[ho,Option.bind_some,put_eq]at hs;exact hs
theorem jK.call    {g:ay}{args:af}{Rc:aC->aB->Prop}(ho:ops[i]?=some o)(hw:Region.wanted o (yielded ops t)=true)(F:∀c,o.op≠.defer c)
  (Q:(execOp (Act.eval ⟨t,ds⟩) o).run P w=.ok (.enter g args) w')(hc:Calls P g args w' λe D=>∃v,e=.returned v/\Rc v D)
  (h:∀v D,Rc v D->jK P r f R (.inRegion ops rest::k) ((⟨t,ds⟩:Act).put o.dst v).tmps ds D):jK P r f R (.inRegion ops (i::rest)::k) t ds w:=by
 intro cs J;obtain⟨e,D,fr,⟨v,rfl,K⟩,C,S,p⟩:=hc (Aj f r t ds (.inRegion ops (i::rest)::k)::cs);obtain⟨O,N,m,T,pz,E⟩:=h v D K cs J;have h1:=yY (b:=Aj f r #[] [] []) (a:=⟨t,ds⟩) (k:=k) (cs:=cs) (rest:=rest) ho hw F Q;have h2:=step_leave_returned (c:=Aj f r t ds (.inRegion ops (i::rest)::k)) (cs:=cs) p;have M:=Df (b:=Aj f r #[] [] []) (a:=⟨t,ds⟩) (k:=k) (rest:=rest) ho v;rw[put_eq]at M;exact⟨O,N,m,T,.head h1 (Steps.trans C (.head (h2.trans (eh (λx=>Stepped.next (lone x cs D)) M)) pz)),E⟩
end
end
end Go.Proofs.Wit
namespace Go.Proofs.Wit
open Go Go.RowKit
abbrev Fl:=List (Nat×aC)
def look:Fl->Nat->Option aC
 |[],_=>none
 |(j,v)::l,i=>cond (Nat.beq j i) (some v) (look l i)
def om(n:Nat)(t:af)(l:Fl):Prop:=t.size=n/\∀i v,look l i=some v->t.getD i undef=v
theorem om.put{n:Nat}{t:af}{l:Fl}(h:om n t l){d:Nat}(v:aC)(hd:Nat.blt d n=true):om n (t.setIfInBounds d v) ((d,v)::l):=by
 have hd':d<n:=by simpa[ed]using hd
 refine⟨by simp[h.1],λi u hu=>?_⟩;unfold look at hu;cases hb:Nat.beq d i with
 |true=>
  obtain rfl:=Nat.eq_of_beq_eq_true hb;rw[hb]at hu;cases hu;simp[h.1,hd']
 |false=>
  rw[hb]at hu;have hne:d≠i:=Nat.ne_of_beq_eq_false hb;have:=h.2 i u hu;rw[<-this];simp[hne]
def eZ(l:Fl):au->Option aC
 |.tmp i=>look l i
 |.const v=>some v
 |.global g=>some (aQ g)
 |.func f=>some (.func (.func f) #[] #[])
theorem om.eZ{n:Nat}{t:af}{l:Fl}(h:om n t l){x:au}{v:aC}(hx:eZ l x=some v)(ds:List Deferred):Act.eval ⟨t,ds⟩ x=v:=by
 cases x<;>simp only[Wit.eZ,df]at hx
 exact h.2 _ _ hx
 all_goals exact hx
def iw(l:Fl):List au->Option ai
 |[]=>some []
 |x::xs=>match Wit.eZ l x,iw l xs with
  |some v,some vs=>some (v::vs)
  |_,_=>none
theorem om.iw{n:Nat}{t:af}{l:Fl}(h:om n t l)(ds:List Deferred):∀{xs:List au} {vs:ai},iw l xs=some vs->xs.map (Act.eval ⟨t,ds⟩)=vs:=by
 intro xs
 induction xs with
 |nil=>intro vs e;cases e;rfl
 |cons x xs ih=>
  intro vs e;simp only[Wit.iw]at e;cases hx:Wit.eZ l x with
  |none=>simp[hx]at e
  |some v=>
   cases hxs:Wit.iw l xs with
   |none=>simp[hx,hxs]at e
   |some us=>
    simp only[hx,hxs,df]at e;subst e;rw[dR,h.eZ hx,ih hxs]
def lY:Fl->Fl->Prop
 |[],_=>True
 |(i,v)::l',l=>look l i=some v/\lY l' l
theorem lY.nil{l:Fl}:lY [] l:=ez
theorem lY.cons{l l':Fl}{i:Nat}{v:aC}(h:look l i=some v)(h':lY l' l):lY ((i,v)::l') l:=⟨h,h'⟩
theorem lY.look{l:Fl}:∀{l':Fl},lY l' l->∀{i v},look l' i=some v->Wit.look l i=some v
 |[],_,_,_,h=>by cases h
 |(j,u)::l',hs,i,v,h=>by
  unfold Wit.look at h;cases hb:Nat.beq j i with
  |true=>rw[hb]at h;obtain rfl:=Nat.eq_of_beq_eq_true hb;cases h;exact hs.1
  |false=>rw[hb]at h;exact lY.look hs.2 h
theorem om.sub{n:Nat}{t:af}{l l':Fl}(h:om n t l)(hs:lY l' l):om n t l':=⟨h.1,λi v hv=>h.2 i v (hs.look hv)⟩
def tZ:Obj->Bool
 |.loop _|.deferred _=>true
 |_=>false
structure Ex (S:aq) (w0 w:aB):Prop where
  os:w.os=w0.os
  tape:w.tape=w0.tape
  output:w.output=w0.output
  size:w0.heap.size<=w.heap.size
  block:∀b,b<w0.heap.size->b∉S->w.heap[b]?=w0.heap[b]?
theorem Ex.refl(S:aq)(w:aB):Ex S w w:=⟨rfl,rfl,rfl,dZ _,λ_ _ _=>rfl⟩
theorem Ex.trans{S S':aq}{a b c:aB}(h:Ex S a b)(k:Ex S' b c)(hS:∀x∈S',x∈S\/a.heap.size<=x):Ex S a c:=
 ⟨k.os.trans h.os,k.tape.trans h.tape,k.output.trans h.output,dV h.size k.size,λi hi hn=>
  (k.block i (cX hi h.size) (λhm=>by rcases hS i hm with h'|h';exact hn h';omega)).trans (h.block i hi hn)⟩
theorem Ex.toBelow{w0 w:aB}(h:Ex [] w0 w):Below w0.heap.size w0 w:=⟨h.os,h.tape,h.output,h.size,λk hk=>h.block k hk aL⟩
abbrev Hl:=List (ah×Obj)
def mark(D:Nat):Deferred:={target:=.collected D,args:=#[]}
def rn(p q:ah×Obj):Prop:=∀b,p.1=some b->q.1≠some b
structure St (w0:aB) (S:aq) (w:aB) (h:Hl) (Y:List (Nat×Obj)):Prop where
  ext:Ex S w0 w
  own:∀p∈h,∀b,p.1=some b->w.heap[b]?=some p.2/\tZ p.2=false/\(w0.heap.size<=b\/b∈S)
  apart:h.Pairwise rn
  sys:∀p∈Y,w0.heap.size<=p.1/\w.heap[p.1]?=some p.2/\tZ p.2=true
  CD:(Y.map (·.1)).Nodup
def uM(Ds:aq):List (Nat×Obj):=Ds.map (λD=>(D,.deferred (some [])))
section
variable{w0:aB}{S:aq}{w w':aB}{h:Hl}{Y:List (Nat×Obj)}
theorem St.get(s:St w0 S w h Y){j b:Nat}{o:Obj}(hj:h[j]?=some (some b,o)):w.heap[b]?=some o:=
 (s.own _ (cD hj) b rfl).1
theorem St.lt(s:St w0 S w h Y){j b:Nat}{o:Obj}(hj:h[j]?=some (some b,o)):b<w.heap.size:=
 (aX.1 (s.get hj)).1
theorem St.inj(s:St w0 S w h Y){i j b:Nat}{o o':Obj}(hi:h[i]?=some (some b,o))(hj:h[j]?=some (some b,o')):i=j:=by
 obtain⟨i1,i2⟩:=bu.1 hi;obtain⟨j1,j2⟩:=bu.1 hj;have:=bC.1 s.apart;rcases Nat.lt_trichotomy i j with hlt|he|hlt;exact absurd (by rw[j2]) (this i j i1 j1 hlt b (by rw[i2]));exact he;exact absurd (by rw[i2]) (this j i j1 i1 hlt b (by rw[j2]))
theorem heap_alloc_new(w:aB)(o:Obj):(w.alloc o).heap[w.heap.size]?=some o:=by
 show(w.heap.push o)[w.heap.size]?=some o;simp
theorem St.tD(s:St w0 S w h Y){b:Nat}{o:Obj}(hb:w.heap.size<=b):∀q∈h,rn (some b,o) q:=by
 intro q hq c hc hqc;cases hc;have:=(aX.1 (s.own q hq b hqc).1).1;omega
theorem St.later(s:St w0 S w h Y)(e:Ex [] w w'):St w0 S w' h Y:=by
 have hk:∀b (o:Obj),w.heap[b]?=some o->w'.heap[b]?=some o:=λb o hb=>by
  rw[e.block b (aX.1 hb).1 aL];exact hb
 refine⟨s.ext.trans e aL,λp hp b hb=>?_,s.apart,λD hD=>?_,s.CD⟩;obtain⟨h1,h2,h3⟩:=s.own p hp b hb;exact⟨hk _ _ h1,h2,h3⟩;obtain⟨h1,h2,h3⟩:=s.sys D hD;exact⟨h1,hk _ _ h2,h3⟩
theorem St.Ib(s:St w0 S w h Y)(e:Ex [] w w'){b:Nat}{o:Obj}(hb:w'.heap[b]?=some o)(ho:tZ o=false)(hn:w.heap.size<=b):St w0 S w' ((some b,o)::h) Y:=by
 have s':=s.later e;refine⟨s'.ext,?_,List.pairwise_cons.2 ⟨s.tD hn,s.apart⟩,s'.sys,s'.CD⟩;intro p hp c hc;rcases dS.1 hp with rfl|hp;cases hc;exact⟨hb,ho,.inl (dV s.ext.size hn)⟩;exact s'.own p hp c hc
theorem v3(w:aB)(o:Obj):Ex [] w (w.alloc o):=
 ⟨rfl,rfl,rfl,by rw[World.size_alloc];omega,λb hb _=>Below.heap_alloc _ _ _ hb⟩
theorem St.alloc(s:St w0 S w h Y){o:Obj}(ho:tZ o=false):St w0 S (w.alloc o) ((some w.heap.size,o)::h) Y:=
 s.Ib (v3 w o) (heap_alloc_new w o) ho (dZ _)
theorem St.none(s:St w0 S w h Y)(o:Obj):St w0 S w ((none,o)::h) Y:=
 ⟨s.ext,λp hp c hc=>by
  rcases dS.1 hp with rfl|hp;cases hc;exact s.own p hp c hc,List.pairwise_cons.2 ⟨λq _ c hc=>by simp at hc,s.apart⟩,s.sys,s.CD⟩
theorem yp(w:aB):Ex [] w {w with drawn:=w.drawn+1}:=⟨rfl,rfl,rfl,dZ _,λ_ _ _=>rfl⟩
theorem St.drew(s:St w0 S w h Y):St w0 S {w with drawn:=w.drawn+1} h Y:=s.later (yp w)
theorem St.uq(s:St w0 S w h Y){j b:Nat}{o o':Obj}(hj:h[j]?=some (some b,o))(ho:tZ o'=false)
  (h1:w'.os=w.os)(h2:w'.tape=w.tape)(h3:w'.output=w.output)(h4:w.heap.size<=w'.heap.size)(h5:w'.heap[b]?=some o')(h6:∀i,i<w.heap.size->i≠b->w'.heap[i]?=w.heap[i]?):St w0 S w' (h.set j (some b,o')) Y:=by
 have hb:=s.own _ (cD hj) b rfl;have hjl:j<h.length:=(bu.1 hj).1;have hbl:=s.lt hj;refine⟨⟨h1.trans s.ext.os,h2.trans s.ext.tape,h3.trans s.ext.output,dV s.ext.size h4,?_⟩,?_,?_,?_,s.CD⟩;intro i hi hn;have hne:i≠b:=by
  rintro rfl;rcases hb.2.2 with hc|hc;omega;exact hn hc
 rw[h6 i (cX hi s.ext.size) hne];exact s.ext.block i hi hn;intro p hp c hc;obtain⟨i,hi⟩:=List.mem_iff_getElem?.1 hp;rw[List.getElem?_set]at hi;split at hi;rename_i e;subst e;simp at hi;obtain⟨_,rfl⟩:=hi;cases hc;exact⟨h5,ho,hb.2.2⟩;rename_i hne;obtain⟨q1,q2,q3⟩:=s.own p (cD hi) c hc;refine⟨?_,q2,q3⟩;rw[h6 c (aX.1 q1).1 ?_];exact q1;rintro rfl;obtain⟨p1,p2⟩:=p;simp only at hc;subst hc;exact hne (s.inj hj hi);rw[bC];intro i i' hi hi' hlt c hc hc';rw[dE]at hi hi';have hap:=bC.1 s.apart i i' hi hi' hlt c;obtain⟨_,hj2⟩:=bu.1 hj;rw[List.getElem_set]at hc hc';apply hap;split at hc;rename_i e;subst e;rw[hj2];exact hc;exact hc;split at hc';rename_i e;subst e;rw[hj2];exact hc';exact hc';intro D hD;obtain⟨m1,m2,m3⟩:=s.sys D hD;refine⟨m1,?_,m3⟩;rw[h6 D.1 (aX.1 m2).1 ?_];exact m2;intro e;rw[e]at m2;have e1:=dM (hb.1.symm.trans m2);rw[<-e1,hb.2.1]at m3;cases m3
theorem St.iV{h':Hl}(s:St w0 S w h Y)(hs:h'.Sublist h):St w0 S w h' Y:=
 ⟨s.ext,λp hp=>s.own p (hs.subset hp),s.apart.sublist hs,s.sys,s.CD⟩
theorem St.swap(s:St w0 S w h Y)(e:Ex [] w w')(j:Nat){b:Nat}{o:Obj}(hb:w'.heap[b]?=some o)(ho:tZ o=false)(hn:w.heap.size<=b):St w0 S w' (h.set j (some b,o)) Y:=by
 have s':=s.later e;refine⟨s'.ext,?_,?_,s'.sys,s'.CD⟩;intro p hp c hc;obtain⟨i,hi⟩:=List.mem_iff_getElem?.1 hp;rw[List.getElem?_set]at hi;split at hi;simp at hi;obtain⟨_,rfl⟩:=hi;cases hc;exact⟨hb,ho,.inl (dV s.ext.size hn)⟩;exact s'.own p (cD hi) c hc;rw[bC];intro i i' hi hi' hlt c hc hc';rw[dE]at hi hi';rw[List.getElem_set]at hc hc';split at hc;split at hc';omega;exact s.tD hn (o:=o) _ (dq hi') c hc hc';split at hc';exact s.tD hn (o:=o) _ (dq hi) c hc' hc;exact bC.1 s.apart i i' hi hi' hlt c hc hc'
end
section
variable{o:Oper}{t:af}{ops:aj}
def eB(P:av)(r:ah)(f:ay)(R:aC->aB->Prop)(w0:aB)(S:aq)(Y:List (Nat×Obj))(n:Nat)(k:al)(l:Fl)(h:Hl):Prop:=
 ∀t w Ds,om n t l->St w0 S w h (uM Ds++Y)->jK P r f R k t (Ds.map mark) w
def eL(ops:aj)(l:Fl):Option (Nat×Bool)->Bool
 |none=>true
 |some (j,want)=>match (ops[j]?).bind (·.dst)with
  |some d=>match look l d with
   |some (.bool b)=>b==want
   |_=>false
  |none=>false
def qM(ops:aj)(l:Fl):Option (Nat×Bool)->Bool
 |none=>false
 |some (j,want)=>match (ops[j]?).bind (·.dst)with
  |some d=>match look l d with
   |some (.bool b)=>b !=want
   |some (.tuple _)=>true
   |_=>false
  |none=>false
def ko:Op->Bool
 |.defer _=>true
 |_=>false
theorem iy{o:Op}(h:ko o=false):∀c,o≠.defer c:=by rintro c rfl;cases h
section
variable{P:av}{r:ah}{f:ay}{R:aC->aB->Prop}{w0:aB}{S:aq}{Y:List (Nat×Obj)}{n:Nat}{k k':al}{l l':Fl}{h h':Hl}
theorem uY  {j d:Nat}{v:aC}(hF:om n t l)(hd:(ops[j]?).bind (·.dst)=some d)(hv:look l d=some v)(hne:v≠undef):
  yielded ops t j=match v with|.bool b=>some b|_=>none:=by
 have h1:=hF.2 _ _ hv;unfold yielded;rw[hd];simp only[Option.bind_some];rw[aW]at h1;cases ht:t[d]? with
 |none=>rw[ht]at h1;simp at h1;exact absurd h1.symm hne
 |some u=>rw[ht]at h1;simp at h1;subst h1;cases u<;>rfl
theorem jV   (hF:om n t l)(hw:eL ops l o.guard=true):Region.wanted o (yielded ops t)=true:=by
 unfold Region.wanted;cases hg:o.guard with
 |none=>rfl
 |some p=>
  obtain⟨j,want⟩:=p;rw[hg]at hw;simp only[eL]at hw;split at hw;rename_i d hd;split at hw;rename_i b hb;show(yielded ops t j==some want)=true;rw[uY hF hd hb (by simp[undef])];simp only[eg]at hw;subst hw;simp;cases hw;cases hw
theorem rK   (hF:om n t l)(hw:qM ops l o.guard=true):Region.wanted o (yielded ops t)=false:=by
 unfold Region.wanted;cases hg:o.guard with
 |none=>rw[hg]at hw;cases hw
 |some p=>
  obtain⟨j,want⟩:=p;rw[hg]at hw;simp only[qM]at hw;split at hw;rename_i d hd;split at hw;rename_i b hb;show(yielded ops t j==some want)=false;rw[uY hF hd hb (by simp[undef])];simp at hw⊢;exact hw;rename_i vs hb;have h1:=hF.2 _ _ hb;have:yielded ops t j=none:=by
   unfold yielded;rw[hd];simp only[Option.bind_some];rw[aW]at h1;cases ht:t[d]? with
   |none=>rfl
   |some u=>rw[ht]at h1;simp at h1;subst h1;rfl
  show(yielded ops t j==some want)=false;rw[this];rfl;cases hw;cases hw
theorem eB.sub(hs:lY l' l)(hg:eB P r f R w0 S Y n k l' h):eB P r f R w0 S Y n k l h:=λt w Ds hF hS=>hg t w Ds (hF.sub hs) hS
theorem eB.iV(hs:h'.Sublist h)(hg:eB P r f R w0 S Y n k l h'):eB P r f R w0 S Y n k l h:=λt w Ds hF hS=>hg t w Ds hF (hS.iV hs)
theorem eB.skip(hg:eB P r f R w0 S Y n k l h):eB P r f R w0 S Y n (.code .skip::k) l h:=λt w Ds hF hS=>.skip (hg t w Ds hF hS)
theorem eB.inBlock{id:Nat}(hg:eB P r f R w0 S Y n k l h):eB P r f R w0 S Y n (.inBlock id::k) l h:=λt w Ds hF hS=>.inBlock (hg t w Ds hF hS)
theorem eB.seq{x y:Code}(hg:eB P r f R w0 S Y n (.code x::.code y::k) l h):eB P r f R w0 S Y n (.code (.seq x y)::k) l h:=λt w Ds hF hS=>.seq (hg t w Ds hF hS)
theorem eB.block{id:Nat}{c:Code}(hg:eB P r f R w0 S Y n (.code c::.inBlock id::k) l h):eB P r f R w0 S Y n (.code (.block id c)::k) l h:=λt w Ds hF hS=>.block (hg t w Ds hF hS)
theorem eB.inScope{c:Code}(hg:eB P r f R w0 S Y n k l h):eB P r f R w0 S Y n (.inScope c::k) l h:=λt w Ds hF hS=>.inScope (hg t w Ds hF hS)
theorem eB.exit{id:Nat}(he:exitTo id k=some k')(hg:eB P r f R w0 S Y n k' l h):eB P r f R w0 S Y n (.code (.exit id)::k) l h:=λt w Ds hF hS=>.exit he (hg t w Ds hF hS)
theorem eB.region{id:Nat}{ops:aj}(hg:eB P r f R w0 S Y n (.inRegion ops (List.range' 0 ops.size)::k) l h):eB P r f R w0 S Y n (.code (.region id ops false)::k) l h:=λt w Ds hF hS=>.region (by rw[List.range_eq_range'];exact hg t w Ds hF hS)
theorem eB.qu{ops:aj}(hg:eB P r f R w0 S Y n k l h):eB P r f R w0 S Y n (.inRegion ops []::k) l h:=λt w Ds hF hS=>.qu (hg t w Ds hF hS)
theorem eB.cond{c:au}{x y:Code}{b:Bool}(hc:eZ l c=some (.bool b))(ht:b=true->eB P r f R w0 S Y n (.code x::k) l h)(hf:b=false->eB P r f R w0 S Y n (.code y::k) l h):eB P r f R w0 S Y n (.code (.cond c x y)::k) l h:=λt w Ds hF hS=>
 .cond (hF.eZ hc _) (by cases b;exact hf rfl t w Ds hF hS;exact ht rfl t w Ds hF hS)
theorem eB.Jm{c:au}{x y:Code}(hc:eZ l c=some (.bool true))(ht:eB P r f R w0 S Y n (.code x::k) l h):eB P r f R w0 S Y n (.code (.cond c x y)::k) l h:=.cond hc (λ_=>ht) aK
theorem eB.Px{c:au}{x y:Code}(hc:eZ l c=some (.bool false))(hf:eB P r f R w0 S Y n (.code y::k) l h):eB P r f R w0 S Y n (.code (.cond c x y)::k) l h:=.cond hc aK (λ_=>hf)
theorem eB.cases{d:Nat}{b:Bool}(hv:look l d=some (.bool b))(ht:b=true->eB P r f R w0 S Y n k ((d,.bool true)::l) h)(hf:b=false->eB P r f R w0 S Y n k ((d,.bool false)::l) h):eB P r f R w0 S Y n k l h:=by
 have key:∀t c,om n t l->b=c->om n t ((d,.bool c)::l):=by
  rintro t c hF rfl;refine⟨hF.1,λi u hu=>?_⟩;unfold look at hu;cases hb:Nat.beq d i with
  |true=>rw[hb]at hu;obtain rfl:=Nat.eq_of_beq_eq_true hb;cases hu;exact hF.2 _ _ hv
  |false=>rw[hb]at hu;exact hF.2 _ _ hu
 cases b;exact λt w Ds hF hS=>hf rfl t w Ds (key t _ hF rfl) hS;exact λt w Ds hF hS=>ht rfl t w Ds (key t _ hF rfl) hS
theorem eB.loop{σ:Type}{c:Code}(L:σ->Fl)(H:σ->Hl)(I:σ->Prop)(μ:σ->Nat)(s0:σ)(h0:I s0)(hl:lY (L s0) l)(hh:(H s0).Sublist h)
  (round:∀s,I s->(∀(s':σ) (l':Fl) (h':Hl),I s'->μ s'<μ s->lY (L s') l'->(H s').Sublist h'->eB P r f R w0 S Y n (.inLoop c::k) l' h')->eB P r f R w0 S Y n (.code c::.inLoop c::k) (L s) (H s)):
  eB P r f R w0 S Y n (.code (.loop c)::k) l h:=by
 have key:∀m s,μ s=m->I s->eB P r f R w0 S Y n (.code c::.inLoop c::k) (L s) (H s):=by
  intro m
  induction m using Nat.strongRecOn with
  |_ m ih=>
   intro s hm hI;refine round s hI (λs' l' h' hI' hlt hsl hsh=>?_);have:=ih (μ s') (hm ▸ hlt) s' rfl hI';exact .sub hsl (.iV hsh (λt w Ds hF hS=>.inLoop (this t w Ds hF hS)))
 exact .sub hl (.iV hh (λt w Ds hF hS=>.loop (key _ s0 rfl h0 t w Ds hF hS)))
theorem eB.val {i d:Nat}{rest:aq} {v:aC}(ho:ops[i]?=some o)(hw:eL ops l o.guard=true)(hdst:o.dst=some d)(hnd:ko o.op=false)(hd:Nat.blt d n=true)
  (hr:∀(t:af) (w:aB) (Ds:aq) (Y':List (Nat×Obj)),om n t l->St w0 S w h Y'->∃nx,(execOp (Act.eval ⟨t,Ds.map mark⟩) o).run P w=.ok nx w/\nx=.value v)
  (hk:eB P r f R w0 S Y n (.inRegion ops rest::k) ((d,v)::l) h):eB P r f R w0 S Y n (.inRegion ops (i::rest)::k) l h:=by
 intro t w Ds hF hS;obtain⟨nx,hx,rfl⟩:=hr t w Ds _ hF hS;refine jK.op ho (jV hF hw) (iy hnd) hx (.inl rfl) ?_;rw[hdst];exact hk _ w Ds (hF.put v hd) hS
theorem eB.mem {i d:Nat}{rest:aq} (ho:ops[i]?=some o)(hw:eL ops l o.guard=true)(hdst:o.dst=some d)(hnd:ko o.op=false)(hd:Nat.blt d n=true)
  (hr:∀(t:af) (w:aB) (Ds:aq) (Y':List (Nat×Obj)),om n t l->St w0 S w h Y'->∃v w' h',(execOp (Act.eval ⟨t,Ds.map mark⟩) o).run P w=.ok (.value v) w'/\St w0 S w' h' Y'/\eB P r f R w0 S Y n (.inRegion ops rest::k) ((d,v)::l) h'):
  eB P r f R w0 S Y n (.inRegion ops (i::rest)::k) l h:=by
 intro t w Ds hF hS;obtain⟨v,w',h',hx,hS',hk⟩:=hr t w Ds _ hF hS;refine jK.op ho (jV hF hw) (iy hnd) hx (.inl rfl) ?_;rw[hdst];exact hk _ w' Ds (hF.put v hd) hS'
theorem eB.OS {i:Nat}{rest:aq} (ho:ops[i]?=some o)(hw:eL ops l o.guard=true)(hdst:o.dst=none)(hnd:ko o.op=false)
  (hr:∀(t:af) (w:aB) (Ds:aq) (Y':List (Nat×Obj)),om n t l->St w0 S w h Y'->∃w' h',(execOp (Act.eval ⟨t,Ds.map mark⟩) o).run P w=.ok .skip w'/\St w0 S w' h' Y'/\eB P r f R w0 S Y n (.inRegion ops rest::k) l h'):
  eB P r f R w0 S Y n (.inRegion ops (i::rest)::k) l h:=by
 intro t w Ds hF hS;obtain⟨w',h',hx,hS',hk⟩:=hr t w Ds _ hF hS;refine jK.op ho (jV hF hw) (iy hnd) hx (.inr ⟨rfl,rfl⟩) ?_;rw[hdst];exact hk _ w' Ds hF hS'
theorem eB.no {i d:Nat}{rest:aq} (ho:ops[i]?=some o)(hw:qM ops l o.guard=true)(hdst:o.dst=some d)(hd:Nat.blt d n=true)
  (hk:eB P r f R w0 S Y n (.inRegion ops rest::k) ((d,undef)::l) h):eB P r f R w0 S Y n (.inRegion ops (i::rest)::k) l h:=by
 intro t w Ds hF hS;refine mh ho (rK hF hw) ?_;rw[hdst];exact hk _ w Ds (hF.put undef hd) hS
def eD(P:av)(w0:aB)(S:aq)(n:Nat)(h:Hl)(ops:aj)(i:Nat)(l:Fl)(d:Nat)(v:aC):Prop:=
 ∃o,ops[i]?=some o/\eL ops l o.guard=true/\o.dst=some d/\ko o.op=false/\Nat.blt d n=true/\
  ∀(t:af) (w:aB) (Ds:aq) (Y':List (Nat×Obj)),om n t l->St w0 S w h Y'->∃nx,(execOp (Act.eval ⟨t,Ds.map mark⟩) o).run P w=.ok nx w/\nx=.value v
theorem eD.of {i d:Nat} {v:aC}(ho:ops[i]?=some o)(hw:eL ops l o.guard=true)(hdst:o.dst=some d)(hnd:ko o.op=false)(hd:Nat.blt d n=true)
  (hr:∀(t:af) (w:aB) (Ds:aq) (Y':List (Nat×Obj)),om n t l->St w0 S w h Y'->∃nx,(execOp (Act.eval ⟨t,Ds.map mark⟩) o).run P w=.ok nx w/\nx=.value v):eD P w0 S n h ops i l d v:=
 ⟨o,ho,hw,hdst,hnd,hd,hr⟩
theorem eB.v{ops:aj}{i d:Nat}{rest:aq}{v:aC}(hv:eD P w0 S n h ops i l d v)(hk:eB P r f R w0 S Y n (.inRegion ops rest::k) ((d,v)::l) h):eB P r f R w0 S Y n (.inRegion ops (i::rest)::k) l h:=by
 obtain⟨o,ho,hw,hdst,hnd,hd,hr⟩:=hv;exact .val ho hw hdst hnd hd hr hk
end
end
section
variable{p:Addr}{inf:TypeInfo}{az:aa}{ts:ab}{a:ae}{cs t:af}{vs xs:ai}{cal x y:au}
section
variable{P:av}{r:ah}{f:ay}{R:aC->aB->Prop}{w0:aB}{S:aq}{Y:List (Nat×Obj)}{n:Nat}{k k':al}{l l':Fl}{h h':Hl}
variable{ops:aj}{i d:Nat}{rest:aq}{ty:ax}{pos:aA}{aft:ak}{g:Option (Nat×Bool)}
theorem eD.mv {v:aC}(ho:ops[i]?=some ⟨some d,.move x,ty,pos,aft,g⟩)(hw:eL ops l g=true)(hx:eZ l x=some v)(hd:Nat.blt d n=true):eD P w0 S n h ops i l d (v):=
 .of ho hw rfl rfl hd (λt w Ds _ hF _=>⟨_,by simp only[execOp,hF.eZ hx];rfl,rfl⟩)
theorem eD.Cu {v:aC}(ho:ops[i]?=some ⟨some d,.assign x,ty,pos,aft,g⟩)(hw:eL ops l g=true)(hx:eZ l x=some v)(hd:Nat.blt d n=true):eD P w0 S n h ops i l d (v):=
 .of ho hw rfl rfl hd (λt w Ds _ hF _=>⟨_,by simp only[execOp,hF.eZ hx];rfl,rfl⟩)
theorem eD.jq{c:au}{u:aC}(ho:ops[i]?=some ⟨some d,.pick c x y,ty,pos,aft,g⟩)(hw:eL ops l g=true)(hc:eZ l c=some (.bool true))(hx:eZ l x=some u)(hd:Nat.blt d n=true):eD P w0 S n h ops i l d (u):=
 .of ho hw rfl rfl hd (λt w Ds _ hF _=>⟨_,by simp only[execOp,hF.eZ hc,hF.eZ hx];rfl,rfl⟩)
theorem eD.I6{c:au}{u:aC}(ho:ops[i]?=some ⟨some d,.pick c x y,ty,pos,aft,g⟩)(hw:eL ops l g=true)(hc:eZ l c=some (.bool false))(hy:eZ l y=some u)(hd:Nat.blt d n=true):eD P w0 S n h ops i l d (u):=
 .of ho hw rfl rfl hd (λt w Ds _ hF _=>⟨_,by simp only[execOp,hF.eZ hc,hF.eZ hy];rfl,rfl⟩)
def nE(P:av)(op:BinOp)(tx:ax)(a b v:aC):Prop:=∀(x y:au) (w:aB),(do eqGuard op tx x y a b;binOp op tx a b:Sem aC).run P w=.ok v w
theorem eD.bin{op:BinOp}{tx tyy:ax} {a b v:aC}(ho:ops[i]?=some ⟨some d,.binOp op tx x y tyy,ty,pos,aft,g⟩)(hw:eL ops l g=true)(hx:eZ l x=some a)(hy:eZ l y=some b)(hb:nE P op tx a b v)(hd:Nat.blt d n=true):eD P w0 S n h ops i l d (v):=
 .of ho hw rfl rfl hd (λt w Ds _ hF _=>⟨.value v,by
  have:=hb x y w;simp only[execOp,hF.eZ hx,hF.eZ hy];rw[Sem.run_bind,this];rfl,rfl⟩)
def Oi(P:av)(op:UnOp)(a v:aC):Prop:=∀(w:aB),(Op.unary op a).run P w=.ok v w
theorem eD.un{op:UnOp}{tx:ax} {a v:aC}(ho:ops[i]?=some ⟨some d,.unOp op tx x,ty,pos,aft,g⟩)(hw:eL ops l g=true)(hx:eZ l x=some a)(hb:Oi P op a v)(hd:Nat.blt d n=true):eD P w0 S n h ops i l d (v):=
 .of ho hw rfl rfl hd (λt w Ds _ hF _=>⟨.value v,by
  have:=hb w;simp only[execOp,hF.eZ hx];rw[Sem.run_bind,this];rfl,rfl⟩)
def PM(P:av)(s t:ax)(a v:aC):Prop:=∀(w:aB),(convert s t a).run P w=.ok v w
theorem eD.conv{s t:ax} {a v:aC}(ho:ops[i]?=some ⟨some d,.convert s t x,ty,pos,aft,g⟩)(hw:eL ops l g=true)(hx:eZ l x=some a)(hb:PM P s t a v)(hd:Nat.blt d n=true):eD P w0 S n h ops i l d (v):=
 .of ho hw rfl rfl hd (λt w Ds _ hF _=>⟨.value v,by
  have:=hb w;simp only[execOp,hF.eZ hx];rw[Sem.run_bind,this];rfl,rfl⟩)
theorem eD.ext {j:Nat}{vs:af}{v:aC}(ho:ops[i]?=some ⟨some d,.extract x j,ty,pos,aft,g⟩)(hw:eL ops l g=true)(hx:eZ l x=some (.tuple vs))(hb:vs[j]?=some v)(hd:Nat.blt d n=true):eD P w0 S n h ops i l d (v):=
 .of ho hw rfl rfl hd (λt w Ds _ hF _=>⟨.value v,by
  simp only[execOp,hF.eZ hx,Instr.extract,hb];rfl,rfl⟩)
theorem rr{fn:Fn}{first captured:aa}{fs cs:ai}(ho:ops[i]?=some ⟨some d,.makeFunc fn first captured,ty,pos,aft,g⟩)(hw:eL ops l g=true)(hf:iw l first.toList=some fs)(hc:iw l captured.toList=some cs)(hd:Nat.blt d n=true):eD P w0 S n h ops i l d (.func fn fs.toArray cs.toArray):=
 .of ho hw rfl rfl hd (λt w Ds _ hF _=>⟨.value (.func fn fs.toArray cs.toArray),by
  have e1:first.map (Act.eval ⟨t,Ds.map mark⟩)=fs.toArray:=by rw[<-dh];simp[hF.iw (Ds.map mark) hf]
  have e2:captured.map (Act.eval ⟨t,Ds.map mark⟩)=cs.toArray:=by rw[<-dh];simp[hF.iw (Ds.map mark) hc]
  simp only[execOp,Instr.makeFunc,e1,e2];rfl,rfl⟩)
def Om(P:av)(b:Builtin)(ts:ab)(ty:ax)(vs:ai)(v:aC):Prop:=∀(cs:Array Bool) (w:aB),(builtin b ts ty cs vs.toArray).run P w=.ok (.value v) w
theorem eD.blt{b:Builtin}{az:aa}{ts:ab}{vs:ai}{v:aC}(ho:ops[i]?=some ⟨some d,.call ⟨.builtin b,az,ts⟩,ty,pos,aft,g⟩)(hw:eL ops l g=true)(hx:iw l az.toList=some vs)(hb:Om P b ts ty vs v)(hd:Nat.blt d n=true):eD P w0 S n h ops i l d (v):=
 .of ho hw rfl rfl hd (λt w Ds _ hF _=>⟨.value v,by
  have e1:az.map (Act.eval ⟨t,Ds.map mark⟩)=vs.toArray:=by rw[<-dh];simp[hF.iw (Ds.map mark) hx]
  have:=hb (az.map λ|.const _=>true|_=>false) w;simp only[execOp,resolve,e1,Sem.run_bind,Sem.run_pure,Result.andThen_ok,invoke];exact this,rfl⟩)
theorem wH{t e:ax}(hu:P.underlying t=some (.slice e)) {m c:Nat}:Om P .len #[t] ty [.slice a m c] (aS m):=by
 intro cs w;simp[builtin,Builtin.len_,run_underlying hu,goInt]
def qT(a:ae)(i:Nat):Addr:=⟨(a.getD ⟨0,0,none⟩).block,(a.getD ⟨0,0,none⟩).off+i,none⟩
structure Sl (w:aB) (a:ae) (xs:ai):Prop where
  isSome:0<xs.length->∃b o,a=some ⟨b,o,none⟩/\b<w.heap.size
  cell:∀i,i<xs.length->w.cell? (qT a i)=some (xs.getD i undef)
theorem Sl.ex{w0 w:aB}{S:aq}  (h:Sl w0 a xs)(e:Ex S w0 w)(hS:∀b o,a=some ⟨b,o,none⟩->b∉S):Sl w a xs:=by
 refine⟨λh0=>?_,λi hi=>?_⟩;obtain⟨b,o,ha,hb⟩:=h.isSome h0;exact⟨b,o,ha,cX hb e.size⟩;obtain⟨b,o,ha,hb⟩:=h.isSome aH;rw[<-h.cell i hi];refine World.cell?_of_block ?_;subst ha;exact e.block b hb (hS b o rfl)
theorem Sl.nil(w:aB)(a:ae):Sl w a []:=⟨λh=>by simp at h,λi hi=>by simp at hi⟩
theorem Sl.ie{w:aB}{b:Nat}{sp:ai}{e:ax}{fr:Nat×Nat}(h:w.heap[b]?=some (.cells (xs++sp).toArray e fr)):Sl w (aR b) xs:=by
 refine⟨λ_=>⟨b,0,rfl,(aX.1 h).1⟩,λi hi=>?_⟩;simp[World.cell?,qT,h,List.getElem?_append,hi]
theorem H7{w:aB}  (h:Sl w a xs){t e:ax}
  (hu:P.underlying t=some (.slice e))(he:∀w,(sizeOf e).run P w=.ok 1 w)(cap:Nat)(kd:aw)(j:Nat)(hj:j<xs.length)(w':aB):
  (Instr.indexAt t (.slice a xs.length cap) (.int kd j)).run P w'=.ok (.pointer (some (qT a j))) w':=by
 obtain⟨b,o,rfl,_⟩:=h.isSome aH;simp only[Instr.indexAt,asIntOf,Sem.run_bind,Sem.run_pure,Result.andThen_ok,run_underlying hu];rw[if_pos ⟨aH,aH⟩];simp only[Sem.run_bind,he,Result.andThen_ok,Sem.run_pure,Addr.add,qT,ec,Option.getD_some,c7];split;rename_i h0;rw[h0];rfl;rfl
theorem fY{t e:ax}  {m cap:Nat}{kd:aw}{j:Int} (ho:ops[i]?=some ⟨some d,.indexAddr t x y,ty,pos,aft,g⟩)(hw:eL ops l g=true)
  (hx:eZ l x=some (.slice a m cap))(hy:eZ l y=some (.int kd j))(hd:Nat.blt d n=true)(hu:P.underlying t=some (.slice e))(he:∀w,(sizeOf e).run P w=.ok 1 w)
  (hs:∃w,Sl w a xs)(hm:m=xs.length)(j':Nat)(hj:j=j'/\j'<xs.length):eD P w0 S n h ops i l d (.pointer (some (qT a j'))):=by
 obtain⟨w1,hs⟩:=hs;obtain⟨rfl,hj⟩:=hj;subst hm;exact .of ho hw rfl rfl hd (λt w Ds _ hF _=>⟨.value (.pointer (some (qT a j'))),by
  simp only[execOp,hF.eZ hx,hF.eZ hy,Sem.run_bind,H7 hs hu he cap kd j' hj w];rfl,rfl⟩)
theorem EJ{t:ax}(ha:∀w,(isAgg t).run P w=.ok false w) {v:aC}{w:aB}(hc:w.cell? p=some v):(Instr.loadAt t (.pointer (some p))).run P w=.ok v w:=by
 simp[Instr.loadAt,Instr.sureAddr,loadVar,ha,hc]
theorem gF{t:ax}  {v:aC}(ho:ops[i]?=some ⟨some d,.load t x,ty,pos,aft,g⟩)(hw:eL ops l g=true)
  (hx:eZ l x=some (.pointer (some p)))(hd:Nat.blt d n=true)(ha:∀w,(isAgg t).run P w=.ok false w)(hc:∀w Y',St w0 S w h Y'->w.cell? p=some v):eD P w0 S n h ops i l d (v):=
 .of ho hw rfl rfl hd (λt w Ds _ hF hS=>⟨.value v,by
  simp only[execOp,hF.eZ hx,Sem.run_bind,EJ ha (hc w _ hS)];rfl,rfl⟩)
theorem eD.iB{t:ax}  {v:aC}(ha:∀w,(isAgg t).run P w=.ok false w)(hc:∀w Y',St w0 S w h Y'->w.cell? p=some v)(ho:ops[i]?=some ⟨some d,.load t x,ty,pos,aft,g⟩:=by exact rfl)(hw:eL ops l g=true:=by exact rfl)(hx:eZ l x=some (.pointer (some p)):=by exact rfl)(hd:Nat.blt d n=true:=by exact rfl):eD P w0 S n h ops i l d (v):=gF (ho:=ho) (hw:=hw) (hx:=hx) (hd:=hd) (ha:=ha) (hc:=hc)
theorem eD.ux{t:ax} {b off:Nat} {e:ax}{fr:Nat×Nat}{v:aC}(ho:ops[i]?=some ⟨some d,.load t x,ty,pos,aft,g⟩)(hw:eL ops l g=true)
  (hx:eZ l x=some (.pointer (some ⟨b,off,none⟩)))(hd:Nat.blt d n=true)(ha:∀w,(isAgg t).run P w=.ok false w)(j:Nat)(hj:h[j]?=some (some b,.cells cs e fr))(hv:cs[off]?=some v):eD P w0 S n h ops i l d (v):=
 gF ho hw hx hd ha (λw Ds hS=>by simp[World.cell?,hS.get hj,hv])
theorem wS{t:ax}(hz:∀w,(sizeOf t).run P w=.ok 1 w){b off:Nat} {e:ax}{v:aC}{w:aB}(hb:w.heap[b]?=some (.cells cs e (0,0)))(ho:off<cs.size)(hv:v.oneCell'=true):
  (Instr.storeAt t (.pointer (some ⟨b,off,none⟩)) v).run P w=.ok () (w.setCell ⟨b,off,none⟩ v):=by
 have hcell:w.cell? ⟨b,off,none⟩=some cs[off]:=by simp[World.cell?,hb,ho]
 have hfr:w.frozen? ⟨b,off,none⟩=false:=by simp[World.frozen?,hb]
 have hcs:v.cells=#[v]:=by cases v<;>first|rfl|cases hv
 simp only[Instr.storeAt,Instr.sureAddr,storeVar,Sem.run_bind,Sem.run_pure,Result.andThen_ok,hz,hcs];simp only[List.size_toArray,dt,List.length_nil,dX,ne_eq,not_true_eq_false,ej];simp[storeCells,run_store _ _ _ _ _ hv,hcell,hfr,Addr.add]
theorem eB.st{t:ax} {b off:Nat} {e:ax}{v:aC}(ho:ops[i]?=some ⟨none,.store t x y,ty,pos,aft,g⟩)(hw:eL ops l g=true)
  (hx:eZ l x=some (.pointer (some ⟨b,off,none⟩)))(hy:eZ l y=some v)(hz:∀w,(sizeOf t).run P w=.ok 1 w)(hv:v.oneCell'=true)(j:Nat)(hj:h[j]?=some (some b,.cells cs e (0,0)))(hoff:Nat.blt off cs.size=true)
  (hk:eB P r f R w0 S Y n (.inRegion ops rest::k) l (h.set j (some b,.cells (cs.setIfInBounds off v) e (0,0)))):eB P r f R w0 S Y n (.inRegion ops (i::rest)::k) l h:=
 .OS ho hw rfl rfl (λt' w Ds _ hF hS=>by
  refine⟨w.setCell ⟨b,off,none⟩ v,_,?_,hS.uq hj (o':=.cells (cs.setIfInBounds off v) e (0,0)) rfl rfl rfl rfl ?_ ?_ ?_,hk⟩;simp only[execOp,hF.eZ hx,hF.eZ hy,Sem.run_bind,wS hz (hS.get hj) (by simpa[ed]using hoff) hv];rfl;simp[World.setCell];obtain⟨hlt,hg⟩:=aX.1 (hS.get hj);simp only[World.setCell];rw[Array.getElem?_modify,if_pos rfl,hS.get hj];rfl;intro q _ hq;exact Below.heap_setCell _ _ _ _ hq)
theorem eB.qF{t:ax} {b off:Nat} {e:ax}{v:aC}(hz:∀w,(sizeOf t).run P w=.ok 1 w)(j:Nat)(hk:eB P r f R w0 S Y n (.inRegion ops rest::k) l (h.set j (some b,.cells (cs.setIfInBounds off v) e (0,0))))(ho:ops[i]?=some ⟨none,.store t x y,ty,pos,aft,g⟩:=by exact rfl)(hw:eL ops l g=true:=by exact rfl)(hx:eZ l x=some (.pointer (some ⟨b,off,none⟩)):=by exact rfl)(hy:eZ l y=some v:=by exact rfl)(hv:v.oneCell'=true:=by exact rfl)(hj:h[j]?=some (some b,.cells cs e (0,0)):=by exact rfl)(hoff:Nat.blt off cs.size=true:=by exact rfl):eB P r f R w0 S Y n (.inRegion ops (i::rest)::k) l h:=eB.st (ho:=ho) (hw:=hw) (hx:=hx) (hy:=hy) (hz:=hz) (hv:=hv) (j:=j) (hj:=hj) (hoff:=hoff) (hk:=hk)
theorem eB.GB{e:ax}{z:aC}(ho:ops[i]?=some ⟨some d,.alloc e,ty,pos,aft,g⟩)(hw:eL ops l g=true)(hd:Nat.blt d n=true)(hz:∀w,(zeroValue e).run P w=.ok z w)
  (hk:∀b,eB P r f R w0 S Y n (.inRegion ops rest::k) ((d,aQ b)::l) ((some b,.cells z.cells e)::h)):eB P r f R w0 S Y n (.inRegion ops (i::rest)::k) l h:=
 .mem ho hw rfl rfl hd (λt' w Ds _ hF hS=>⟨aQ w.heap.size,w.alloc (.cells z.cells e),_,by
  simp[execOp,Instr.alloc,hz,newVar,newRow],hS.alloc rfl,hk _⟩)
theorem eB.fZ{e:ax}{z:aC}(hz:∀w,(zeroValue e).run P w=.ok z w)(hk:∀b,eB P r f R w0 S Y n (.inRegion ops rest::k) ((d,aQ b)::l) ((some b,.cells z.cells e)::h))(ho:ops[i]?=some ⟨some d,.alloc e,ty,pos,aft,g⟩:=by exact rfl)(hw:eL ops l g=true:=by exact rfl)(hd:Nat.blt d n=true:=by exact rfl):eB P r f R w0 S Y n (.inRegion ops (i::rest)::k) l h:=eB.GB (ho:=ho) (hw:=hw) (hd:=hd) (hz:=hz) (hk:=hk)
theorem eB.bx{e:ax} {v:aC}(ho:ops[i]?=some ⟨some d,.box e x,ty,pos,aft,g⟩)(hw:eL ops l g=true)(hx:eZ l x=some v)(hd:Nat.blt d n=true)
  (hk:∀b,eB P r f R w0 S Y n (.inRegion ops rest::k) ((d,aQ b)::l) ((some b,.cells v.cells e)::h)):eB P r f R w0 S Y n (.inRegion ops (i::rest)::k) l h:=
 .mem ho hw rfl rfl hd (λt' w Ds _ hF hS=>⟨aQ w.heap.size,w.alloc (.cells v.cells e),_,by
  simp[execOp,Instr.box,hF.eZ hx,newVar,newRow],hS.alloc rfl,hk _⟩)
theorem eB.sZ{e:ax} {v:aC}(hk:∀b,eB P r f R w0 S Y n (.inRegion ops rest::k) ((d,aQ b)::l) ((some b,.cells v.cells e)::h))(ho:ops[i]?=some ⟨some d,.box e x,ty,pos,aft,g⟩:=by exact rfl)(hw:eL ops l g=true:=by exact rfl)(hx:eZ l x=some v:=by exact rfl)(hd:Nat.blt d n=true:=by exact rfl):eB P r f R w0 S Y n (.inRegion ops (i::rest)::k) l h:=eB.bx (ho:=ho) (hw:=hw) (hx:=hx) (hd:=hd) (hk:=hk)
theorem Fm{w w':aB}(hg:w.grownBy w' none):Ex [] w w':=⟨hg.os,hg.tape,hg.output,hg.size,λb hb _=>hg.block b hb aL⟩
def fL(q:ah)(n cap:Nat):aC:=.slice (q.map aP) n cap
theorem EI(z:aC)(hz1:z.cells=#[z])(m:Nat):(madeCells z.cells (m*1)).toList=List.replicate m z:=by
 rw[hz1];apply List.ext_getElem?;intro q;simp only[madeCells,Array.toList_map,Array.toList_range,dc,ec,List.getElem?_replicate];by_cases hq:q<m;simp[hq,Nat.mod_one];simp[hq]
theorem eB.P2{t e:ax} {kx ky:aw}{m:Nat} {z:aC}(ho:ops[i]?=some ⟨some d,.makeSlice t x y,ty,pos,aft,g⟩)(hw:eL ops l g=true)(hx:eZ l x=some (.int kx m))(hy:eZ l y=some (.int ky m))(hd:Nat.blt d n=true)
  (hu:P.underlying t=some (.slice e))(hi:P.info? e=some inf)(hz:inf.zero=some z)(hz1:z.cells=#[z])(hs:inf.size=1)(hb:inf.bytes*m<=281474976710656)(hm:m<=maxLen)
  (hk:∀b,eB P r f R w0 S Y n (.inRegion ops rest::k) ((d,fL (some b) m m)::l) ((some b,.cells (List.replicate m z++[]).toArray e)::h)):eB P r f R w0 S Y n (.inRegion ops (i::rest)::k) l h:=
 .mem ho hw rfl rfl hd (λt' w Ds _ hF hS=>by
  obtain⟨w',hrun,⟨_,hown⟩,hg⟩:=run_make_full (P:=P) w w.heap.size t e inf z 1 hu hi hz hs kx ky m hb hm (dZ _);rw[EI z hz1]at hown;rcases hown with⟨h1,_⟩|⟨b,cap,cur,hv,hbg,hheap,hnc,_,hcs,htk⟩;simp at h1;simp only[Value.slice.injEq,df,Addr.mk.injEq,and_true,true_and]at hv;obtain⟨rfl,rfl⟩:=hv;have hcur:cur=(List.replicate m z++[]).toArray:=by
   rw[<-dh,dC];rw[<-htk,bR (by simp[hcs])]
  rw[hcur]at hheap;refine⟨_,w',_,?_,hS.Ib (Fm hg) hheap rfl hbg,hk _⟩;simp[execOp,hF.eZ hx,hF.eZ hy,hrun,fL])
theorem uU{t e:ax} {z:aC}(hu:P.underlying t=some (.slice e))(hi:P.info? e=some inf)(hz:inf.zero=some z){size:Nat}(hsz:inf.size=size)(hz1:z.cells.size=size)
    {w:aB}{Ds:List (Nat×Obj)}(hS:St w0 S w h Ds){q:ah}{xs sp:ai}{nx:Nat}(hnx:xs.length=nx*size){cap:Nat}(eK:(xs++sp).length=cap*size)(hq:q=none->nx=0/\cap=0){j:Nat}(hj:h[j]?=some (q,.cells (xs++sp).toArray e (0,0)))
    {a:Addr}{m c:Nat}{news:ai}(hl:news.length=m*size)(hm0:0<m)(hnews:∀j u,news[j]?=some u->w.cell? (a.add j)=some u)(h1:∀u∈news,u.oneCell'=true)(hmx:nx+m<=maxLen)(hbytes:(nx+m)*inf.bytes<=140737488355328)(ty:ax):
    ∃b' sp' cap' w',(Builtin.append_ #[t,t] ty #[fL q nx cap,.slice (some a) m c]).run P w=.ok (fL (some b') (nx+m) cap') w'/\(xs++news++sp').length=cap'*size/\
      St w0 S w' (h.set j (some b',.cells (xs++news++sp').toArray e (0,0))) Ds:=by
  subst hsz;have hsmall:nx+m<=9223372036854775807:=by simp only[maxLen]at hmx;omega
  have hzc:∀q,(Builtin.zeroCells z.cells q).toList.length=q*inf.size:=λq=>by simp[size_zeroCells,hz1]
  cases q with
  |none=>
    obtain⟨rfl,rfl⟩:=hq rfl;obtain rfl:xs=[]:=aV (by simpa using hnx);have hr:=run_append_nil (P:=P) w t ty e inf z hu hi hz a m c news hl hnews hm0 aH (by simp only[dX]at hbytes;omega);have hge:=grownCap_ge w m 0 e;refine⟨w.heap.size,(Builtin.zeroCells z.cells (grownCap w m 0 e - m)).toList,grownCap w m 0 e,w.drew.alloc (.cells (news.toArray++Builtin.zeroCells z.cells (grownCap w m 0 e - m)) e),?_,?_,?_⟩;simp only[fL,dX,dL,Option.map_none];exact hr;rw[dI,cQ,hl,hzc,<-Nat.add_mul];congr 1;omega
    refine hS.swap ((yp w).trans (v3 w.drew _) aL) j ?_ rfl (dZ _);have:=heap_alloc_new w.drew (.cells (news.toArray++Builtin.zeroCells z.cells (grownCap w m 0 e - m)) e);rw[show w.drew.heap.size=w.heap.size from rfl]at this;rw[this];congr 2;rw[<-dh];simp
  |some b=>
    have hb:=hS.get hj;have hlo:xs.length<=(xs++sp).length:=by simp
    by_cases hroom:nx+m<=cap;have hfit:nx*inf.size+news.length<=(xs++sp).toArray.size:=by
      rw[List.size_toArray,eK,hl,<-Nat.add_mul];exact Nat.mul_le_mul_right _ hroom
    have hr:=run_append_room (P:=P) w t ty e inf hu hi b nx cap _ hb a m c news hl hnews h1 hroom hfit;have hsz0:(xs++sp).toArray.size=(xs++sp).length:=by simp
    have hrow:((xs++sp).toArray.toList.take (nx*inf.size)++news++(xs++sp).toArray.toList.drop (nx*inf.size+news.length))=xs++news++sp.drop news.length:=by
      simp only[<-hnx];rw[List.take_left,List.drop_append,List.drop_eq_nil_of_le aH,dI]
      congr 2;omega
    rw[hrow]at hr;refine⟨b,sp.drop news.length,cap,w.setRow b (xs++news++sp.drop news.length).toArray,hr,?_,hS.uq hj rfl rfl rfl rfl (by simp[World.setRow]) (setRow_heap w b _ _ e _ hb) (λi _ hi=>setRow_other w b i _ hi)⟩;rw[hsz0]at hfit;rw[<-eK];simp only[cQ,List.length_drop]at hfit⊢;omega;have holds:∀j v,xs[j]?=some v->w.cell? ((⟨b,0,none⟩:Addr).add j)=some v:=by
      intro j v hv;have hjl:=(bu.1 hv).1;have e1:(⟨b,0,none⟩:Addr).add j=⟨b,j,none⟩:=by unfold Addr.add;split;(rename_i h0;rw[h0]);simp
      rw[e1];rw[bH hjl]at hv;cases hv;simp[World.cell?,hb,List.getElem?_append,hjl]
    have hfit:Builtin.nextslicecap (nx+m) cap*inf.bytes<=281474976710656:=by
      have:=nextslicecap_le (need:=nx+m) (old:=cap) aH
      calc _<=(2*(nx+m))*inf.bytes:=Nat.mul_le_mul_right _ this
        _<=_:=by rw[Nat.mul_assoc];omega
    have hr:=run_append_grow (P:=P) w t ty e inf z hu hi hz ⟨b,0,none⟩ nx cap xs hnx holds a m c news hl hnews aH aH hfit;have hge:=grownCap_ge w (nx+m) cap e;refine⟨w.heap.size,(Builtin.zeroCells z.cells (grownCap w (nx+m) cap e - (nx+m))).toList,grownCap w (nx+m) cap e,_,hr,?_,?_⟩;rw[cQ,cQ,hl,hnx,hzc,<-Nat.add_mul,<-Nat.add_mul];congr 1;omega
    refine hS.swap ((yp w).trans (v3 w.drew _) aL) j ?_ rfl (dZ _);have:=heap_alloc_new w.drew (.cells (xs.toArray++news.toArray++Builtin.zeroCells z.cells (grownCap w (nx+m) cap e - (nx+m))) e);rw[show w.drew.heap.size=w.heap.size from rfl]at this;rw[this];congr 2;rw[<-dh];simp
theorem eB.app{t e:ax}  {z:aC}{q:ah}{sp:ai}{nx cap:Nat}{bn m c:Nat}{news spn:ai}{en:ax}{frn:Nat×Nat}(size:Nat)
  (ho:ops[i]?=some ⟨some d,.call ⟨.builtin .append,#[x,y],#[t,t]⟩,ty,pos,aft,g⟩)(hw:eL ops l g=true)(hx:eZ l x=some (fL q nx cap))(hy:eZ l y=some (.slice (aR bn) m c))(hd:Nat.blt d n=true)
  (hu:P.underlying t=some (.slice e))(hi:P.info? e=some inf)(hz:inf.zero=some z)(hsz:inf.size=size)(hz1:z.cells.size=size)
  (hq:q=none->nx=0/\cap=0)(j:Nat)(hj:h[j]?=some (q,.cells (xs++sp).toArray e (0,0)))(jn:Nat)(hjn:h[jn]?=some (some bn,.cells (news++spn).toArray en frn))
  (hnx:xs.length=nx*size)(eK:(xs++sp).length=cap*size)(hl:news.length=m*size)(hm0:0<m)(h1:∀u∈news,u.oneCell'=true)(hmx:nx+m<=maxLen)(hbytes:(nx+m)*inf.bytes<=140737488355328)
  (hk:∀b' sp' cap',(xs++news++sp').length=cap'*size->eB P r f R w0 S Y n (.inRegion ops rest::k) ((d,fL (some b') (nx+m) cap')::l) (h.set j (some b',.cells (xs++news++sp').toArray e (0,0)))):eB P r f R w0 S Y n (.inRegion ops (i::rest)::k) l h:=
 .mem ho hw rfl rfl hd (λt' w Ds _ hF hS=>by
  have hbn:=hS.get hjn;have hnews:∀j u,news[j]?=some u->w.cell? ((⟨bn,0,none⟩:Addr).add j)=some u:=by
   intro j u hv;have hjl:=(bu.1 hv).1;have e1:(⟨bn,0,none⟩:Addr).add j=⟨bn,j,none⟩:=by unfold Addr.add;split;(rename_i h0;rw[h0]);simp
   rw[e1];rw[bH hjl]at hv;cases hv;simp[World.cell?,hbn,List.getElem?_append,hjl]
  obtain⟨b',sp',cap',w',hrun,hlen,hS'⟩:=uU hu hi hz hsz hz1 hS hnx eK hq hj (c:=c) hl hm0 hnews h1 hmx hbytes ty;refine⟨_,w',_,?_,hS',hk b' sp' cap' hlen⟩;have e1:(#[x,y]:aa).map (Act.eval ⟨t',Ds.map mark⟩)=#[fL q nx cap,.slice (aR bn) m c]:=by simp[hF.eZ hx,hF.eZ hy]
  simp only[execOp,resolve,e1,Sem.run_bind,Sem.run_pure,Result.andThen_ok,invoke,builtin,hrun])
def Cn(P:av)(gf:ay)(args:ai)(w:aB)(Rc:aC->aB->Prop):Prop:=
 Calls P gf args.toArray w λe w'=>∃v,e=.returned v/\(Ex [] w w'/\Rc v w')
theorem mq   {fn:Fn}{first captured:af}  {Ds:aq}{w:aB}(hF:om n t l)(hc:eZ l cal=some (.func fn first captured))(hx:iw l az.toList=some vs):
  (resolve (Act.eval ⟨t,Ds.map mark⟩) ⟨.value cal,az,ts⟩ ty).run P w=.ok {target:=.fn fn captured,args:=first++vs.toArray} w:=by
 have e1:az.map (Act.eval ⟨t,Ds.map mark⟩)=vs.toArray:=by rw[<-dh];simp[hF.iw (Ds.map mark) hx]
 simp only[resolve,e1,hF.eZ hc,Deferred.ofValue,Sem.run_pure]
theorem eB.Cp   {gf:ay}{first captured:af} (ho:ops[i]?=some ⟨some d,.call ⟨.value cal,az,ts⟩,ty,pos,aft,g⟩)(hw:eL ops l g=true)
  (hc:eZ l cal=some (.func (.func gf) first captured))(hx:iw l az.toList=some vs)(hd:Nat.blt d n=true)(hcf:∀args w,(callFunc gf args).run P w=.ok (.enter gf args) w)
  (hk:∀w Y',St w0 S w h Y'->∃Rc:aC->aB->Prop,(Calls P gf (first++vs.toArray++captured) w λe w'=>∃v,e=.returned v/\Rc v w')/\∀v w',Rc v w'->∃h',St w0 S w' h' Y'/\eB P r f R w0 S Y n (.inRegion ops rest::k) ((d,v)::l) h'):
  eB P r f R w0 S Y n (.inRegion ops (i::rest)::k) l h:=by
 intro t w Ds hF hS;obtain⟨Rc,hcall,hres⟩:=hk w _ hS;refine jK.call (Rc:=Rc) (g:=gf) (args:=first++vs.toArray++captured) (w':=w) ho (jV hF hw) (iy rfl) ?_ hcall (λv w2 hR=>?_);simp only[execOp,Sem.run_bind,mq hF hc hx,Result.andThen_ok,invoke,hcf];obtain⟨h',hS',hgo⟩:=hres v w2 hR;exact hgo _ w2 Ds (hF.put v hd) hS'
theorem eB.qS   {gf:ay} {v:aC}(ho:ops[i]?=some ⟨some d,.call ⟨.value cal,az,ts⟩,ty,pos,aft,g⟩)(hw:eL ops l g=true)
  (hc:eZ l cal=some (.func (.func gf) #[] #[]))(hx:iw l az.toList=some vs)(hd:Nat.blt d n=true)(hcf:∀args w,(callFunc gf args).run P w=.ok (.enter gf args) w)
  (hcall:∀w Y',St w0 S w h Y'->Cn P gf vs w (λu _=>u=v))
  (hk:eB P r f R w0 S Y n (.inRegion ops rest::k) ((d,v)::l) h):eB P r f R w0 S Y n (.inRegion ops (i::rest)::k) l h:=
 .Cp ho hw hc hx hd hcf (λw Ds hS=>⟨λu w'=>Ex [] w w'/\u=v,by
  have:=hcall w Ds hS;unfold Cn at this;simpa using this,λu w' ⟨he,hu⟩=>⟨h,hS.later he,hu ▸ hk⟩⟩)
theorem eB.sP   {gf:ay} (Rc:aB->aC->aB->Prop)(ho:ops[i]?=some ⟨some d,.call ⟨.value cal,az,ts⟩,ty,pos,aft,g⟩)(hw:eL ops l g=true)
  (hc:eZ l cal=some (.func (.func gf) #[] #[]))(hx:iw l az.toList=some vs)(hd:Nat.blt d n=true)(hcf:∀args w,(callFunc gf args).run P w=.ok (.enter gf args) w)
  (hcall:∀w Y',St w0 S w h Y'->Cn P gf vs w (Rc w))
  (hk:∀v w w' Y',St w0 S w h Y'->Ex [] w w'->Rc w v w'->∃h',St w0 S w' h' Y'/\eB P r f R w0 S Y n (.inRegion ops rest::k) ((d,v)::l) h'):eB P r f R w0 S Y n (.inRegion ops (i::rest)::k) l h:=
 .Cp ho hw hc hx hd hcf (λw Ds hS=>⟨λu w'=>Ex [] w w'/\Rc w u w',by
  have:=hcall w Ds hS;unfold Cn at this;simpa using this,λu w' ⟨he,hu⟩=>hk u w w' Ds hS he hu⟩)
end
def shut(w:aB):aq->aB
 |[]=>w
 |D::Ds=>shut {w with heap:=w.heap.setIfInBounds D (.deferred none)} Ds
theorem Bw{w0:aB}:∀{Ds:aq} {w:aB},(∀D∈Ds,w0.heap.size<=D)->(shut w Ds).os=w.os/\(shut w Ds).tape=w.tape/\(shut w Ds).output=w.output/\(shut w Ds).heap.size=w.heap.size/\∀b,b∉Ds->(shut w Ds).heap[b]?=w.heap[b]?
 |[],w,_=>⟨rfl,rfl,rfl,rfl,λ_ _=>rfl⟩
 |D::Ds,w,h=>by
  obtain⟨h1,h2,h3,h4,h5⟩:=Bw (Ds:=Ds) (w:={w with heap:=w.heap.setIfInBounds D (.deferred none)}) (λD hD=>h D (cy _ hD));refine⟨h1,h2,h3,by rw[shut,h4];simp,λb hb=>?_⟩;rw[shut,h5 b (λhm=>hb (cy _ hm))];have:D≠b:=λe=>hb (by rw[e];exact aF);simp[this]
theorem vi{P:av}:∀{Ds:aq} {w:aB} {fr:Frame} {cs:List Frame},fr.mode=.returning->fr.defers=Ds.map mark->(∀D∈Ds,w.heap[D]?=some (.deferred (some [])))->Ds.Nodup->
  Steps P (lone fr cs w) (lone {fr with defers:=[]} cs (shut w Ds))
 |[],w,fr,cs,hm,hd,_,_=>by
  have:fr={fr with defers:=[]}:=by cases fr;simp at hd;simp[hd]
  rw[<-this];exact .refl _ _
 |D::Ds,w,fr,cs,hm,hd,hall,hn=>by
  have hD:=hall D aF;have htake:(Instr.takeDeferred D).run P w=.ok [] {w with heap:=w.heap.setIfInBounds D (.deferred none)}:=by
   simp[Instr.takeDeferred,getObj,setObj,Sem.run,hD,bind,Sem.bind,pure]
  have h1:=step_collected (P:=P) (fr:=fr) (cs:=cs) (w:=w) (d:=mark D) (ds:=Ds.map mark) (by rw[hm];simp) hd rfl htake;rw[List.nodup_cons]at hn;refine .head h1 (vi (fr:={fr with defers:=[]++Ds.map mark}) hm rfl (λD' hD'=>?_) hn.2);have:D≠D':=λe=>hn.1 (e ▸ hD');simp[this];exact hall D' (cy _ hD')
def CU(l:Fl):List ResultVar->Option ai
 |[]=>some []
 |.tmp t::rs=>match look l t,CU l rs with
  |some v,some vs=>some (v::vs)
  |_,_=>none
 |_=>none
def mn:ai->aC
 |[v]=>v
 |vs=>.tuple vs.toArray
theorem HM{Ds:aq}{D:Nat}(h:D∈Ds):(D,(.deferred (some []):Obj))∈uM Ds:=dU.2 ⟨D,h,rfl⟩
theorem BP(Ds:aq):(uM Ds).map (·.1)=Ds:=by simp[uM,Function.comp_def]
theorem St.marks{w0:aB}{S:aq}{w:aB}{h:Hl}{Y:List (Nat×Obj)}{Ds:aq}(s:St w0 S w h (uM Ds++Y)):(∀D∈Ds,w0.heap.size<=D/\w.heap[D]?=some (.deferred (some [])))/\Ds.Nodup:=by
 refine⟨λD hD=>?_,?_⟩;obtain⟨h1,h2,_⟩:=s.sys _ (cx _ (HM hD));exact⟨h1,h2⟩;have:=s.CD;rw[dF,BP]at this;exact(de.1 this).1
theorem St.shut{w0:aB}{S:aq}{w:aB}{h:Hl}{Y:List (Nat×Obj)}{Ds:aq}(s:St w0 S w h (uM Ds++Y)):St w0 S (shut w Ds) h Y:=by
 have hm:=s.marks;obtain⟨h1,h2,h3,h4,h5⟩:=Bw (w0:=w0) (Ds:=Ds) (w:=w) (λD hD=>(hm.1 D hD).1);have hnd:=s.CD;rw[dF,BP,de]at hnd;refine⟨⟨h1.trans s.ext.os,h2.trans s.ext.tape,h3.trans s.ext.output,by rw[h4];exact s.ext.size,λb hb hn=>?_⟩,λp hp b hb=>?_,s.apart,λp hp=>?_,hnd.2.1⟩;rw[h5 b (λhmm=>by have:=(hm.1 b hmm).1;omega)];exact s.ext.block b hb hn;obtain⟨q1,q2,q3⟩:=s.own p hp b hb;refine⟨?_,q2,q3⟩;rw[h5 b ?_];exact q1;intro hmm;have e1:=q1.symm.trans (hm.1 b hmm).2;rw[dM e1]at q2;cases q2;obtain⟨q1,q2,q3⟩:=s.sys p (bX _ hp);refine⟨q1,?_,q3⟩;rw[h5 p.1 (λhmm=>hnd.2.2 _ hmm _ (dU.2 ⟨p,hp,rfl⟩) rfl)];exact q2
theorem zp{P:av}{w:aB}{n:Nat}{t:af}{l:Fl}(hF:om n t l):∀{rs:List ResultVar} {vs:ai},CU l rs=some vs->
  (rs.mapM (m:=Sem) λ|.tmp t'=>pure (t.getD t' undef)|.cell a ty=>do loadVar ty (<-asAddr (t.getD a undef))).run P w=.ok vs w
 |[],vs,h=>by cases h;rfl
 |.tmp q::rs,vs,h=>by
  simp only[CU]at h;split at h;rename_i v us hv hus;cases h;rw[List.mapM_cons];simp only[Sem.run_bind,Sem.run_pure,Result.andThen_ok,zp hF hus,hF.2 _ _ hv];cases h
 |.cell a ty::rs,vs,h=>by cases h
theorem y8{P:av}{fn:Func}{w:aB}{n:Nat} {l:Fl}(hF:om n t l) (h:CU l fn.results.toList=some vs):(results fn t).run P w=.ok (mn vs) w:=by
 unfold results;rw[Array.mapM_eq_mapM_toList];have hm:=zp (P:=P) (w:=w) hF h;simp only[Sem.run_bind,Sem.run_map,Sem.run_pure];refine(eh (λx=>(x.andThen λa w'=>Result.ok a.toArray w').andThen λa w'=>Result.ok (if h:a.size=1 then a[0]else Value.tuple a) w') hm).trans ?_;simp only[Result.andThen_ok];cases vs with
 |nil=>rfl
 |cons v us=>cases us with
  |nil=>rfl
  |cons u us=>simp[mn]
section
variable{P:av}{r:ah}{f:ay}{R:aC->aB->Prop}{w0:aB}{S:aq}{Y:List (Nat×Obj)}{n:Nat}{k k':al}{l l':Fl}{h h':Hl}{fn:Func}
theorem xj {Ds:aq}{w:aB}{v:aC}(hf:P.funcs[f]?=some fn)(hS:St w0 S w h (uM Ds++Y))(pz:∀cs,step P (lone (Aj f none t (Ds.map mark) k) cs w)=.next (lone {Aj f none t (Ds.map mark) k with mode:=.returning} cs w))
  (hr:(results fn t).run P (shut w Ds)=.ok v (shut w Ds))(hR:R v (shut w Ds)):jK P none f R k t (Ds.map mark) w:=by
 intro cs _;have h2:=vi (P:=P) (Ds:=Ds) (w:=w) (fr:={Aj f none t (Ds.map mark) k with mode:=.returning}) (cs:=cs) rfl rfl (λD hD=>(hS.marks.1 D hD).2) hS.marks.2;exact⟨v,shut w Ds,_,hR,.head (pz cs) h2,_,rfl,rfl,rfl,rfl,rfl,fn,hf,hr⟩
theorem eB.ret(fn:Func)(hf:P.funcs[f]?=some fn){vs:ai}(hres:CU l fn.results.toList=some vs)(hR:∀w,St w0 S w h Y->R (mn vs) w):eB P none f R w0 S Y n (.code .ret::k) l h:=λt w Ds hF hS=>
 xj hf hS (λcs=>by rw[iG];exact stepR_ret rfl) (y8 hF hres) (hR _ hS.shut)
def xS:Nat->ai->Fl
 |_,[]=>[]
 |i,v::vs=>(i,v)::xS (i+1) vs
theorem xi:∀{vs:ai} {i j:Nat} {v:aC},look (xS i vs) j=some v->i<=j/\vs[j - i]?=some v
 |[],_,_,_,h=>by cases h
 |u::us,i,j,v,h=>by
  unfold xS look at h;cases hb:Nat.beq i j with
  |true=>rw[hb]at h;obtain rfl:=Nat.eq_of_beq_eq_true hb;cases h;simp
  |false=>
   rw[hb]at h;obtain⟨h1,h2⟩:=xi h;refine⟨aH,?_⟩;rw[show j - i=(j - (i+1))+1 from aH,List.getElem?_cons_succ];exact h2
theorem Dd{args:ai}{nt:Nat}(hn:args.length<=nt):om nt (args.toArray++Array.replicate (nt - args.toArray.size) undef) (xS 0 args):=by
 refine⟨by simp;omega,λi v hv=>?_⟩;have:=(xi hv).2;rw[Nat.sub_zero]at this;obtain⟨h1,h2⟩:=bu.1 this;simp[Array.getElem?_append,h1,h2]
theorem zY{c:Code}{args:ai}(hf:P.funcs[f]?=some fn)(hb:fn.body=some c)(hn:Nat.ble args.length fn.ntmps=true)(h:Hl)(hS:St w0 S w0 h [])
  (hgo:eB P none f R w0 S [] fn.ntmps [.code c] (xS 0 args) h):Calls P f args.toArray w0 λe w'=>∃v,e=.returned v/\R v w':=by
 intro cs;obtain⟨v,w',m,hR,pz,fr,rfl,hfn,hl⟩:=hgo _ w0 [] (Dd (Nat.le_of_ble_eq_true hn)) hS cs aL;refine⟨.returned v,w',fr,⟨v,rfl,hR⟩,?_,hfn,hl⟩;have henter:Frame.enter P f args.toArray .normal=Aj f none (args.toArray++Array.replicate (fn.ntmps - args.toArray.size) undef) [] [.code c]:=by
  simp[Frame.enter,hf,hb,Aj]
 show Steps P _ _;rw[henter];exact pz
theorem G3(w:aB):St w [] w [] []:=⟨Ex.refl _ _,by simp,.nil,by simp,by simp⟩
theorem Cn.of{c:Code}{args:ai}{Rc:aC->aB->Prop}(hf:P.funcs[f]?=some fn)(hb:fn.body=some c)(hn:Nat.ble args.length fn.ntmps=true)
  (hgo:eB P none f (λv w'=>Ex [] w0 w'/\Rc v w') w0 [] [] fn.ntmps [.code c] (xS 0 args) []):Cn P f args w0 Rc:=by
 unfold Cn;exact zY hf hb hn [] (G3 w0) hgo
theorem Cn.mono{gf:ay}{args:ai}{w:aB}{R R':aC->aB->Prop}(h:Cn P gf args w R)(hr:∀v w',Ex [] w w'->R v w'->R' v w'):Cn P gf args w R':=
 Calls.mono h (λ_ w' ⟨v,e,he,hR⟩=>⟨v,e,he,hr v w' he hR⟩)
end
end
section
variable{p q:Bool}{z:aC}{k:aw}
section
variable{P:av}{t:ax}{x y:eF}{a b:Int}
theorem yq(op:BinOp)(t:ax)(p q:au)(k k':aw)(a b:Int):eqGuard op t p q (.int k a) (.int k' b)=pure ():=by unfold eqGuard;cases op<;>rfl
theorem Fv(op:BinOp)(t:ax)(p q:au)(a b:Bool):eqGuard op t p q (.bool a) (.bool b)=pure ():=by unfold eqGuard;cases op<;>rfl
theorem oE{op:BinOp}{u v:aC}(h1:∀p q,eqGuard op t p q u v=pure ())(h2:binOp op t u v=pure z):nE P op t u v z:=by
 intro p q w;rw[h1,h2];rfl
theorem bU(op:BinOp) (h2:binOp op t (U x) (U y)=pure z):nE P op t (U x) (U y) z:=oE (λp q=>Di t x y op p q) h2
theorem Dv:nE P .and t (U x) (U y) (U (x &&& y)):=bU _ (IF t x y)
theorem Ll:nE P .or t (U x) (U y) (U (x|||y)):=bU _ (Li t x y)
theorem IM:nE P .andNot t (U x) (U y) (U (x &&& ~~~y)):=bU _ (Bb t x y)
theorem z9:nE P .eql t (U x) (U y) (.bool (x==y)):=bU _ (IE t x y)
theorem IG:nE P .neq t (U x) (U y) (.bool (x !=y)):=bU _ (ID t x y)
theorem Fw(op:BinOp)(p q:au)(k:aw)(b:Int):eqGuard op t p q (U x) (.int k b)=pure ():=by unfold eqGuard U;cases op<;>rfl
theorem me(j:Nat)(h:b=j) :nE P .shl t (U x) (.int k b) (U (x<<<j)):=by subst h;exact oE (λp q=>Fw _ p q k _) (z8 t x k j)
theorem FZ(j:Nat)(h:b=j) :nE P .shr t (U x) (.int k b) (U (x>>>j)):=by subst h;exact oE (λp q=>Fw _ p q k _) (z7 t x k j)
theorem bI(op:BinOp)  (h2:binOp op t (.int k a) (.int k b)=pure z):nE P op t (.int k a) (.int k b) z:=oE (λp q=>yq op t p q k k a b) h2
theorem NU(h:-9223372036854775808<=a+b/\a+b<=9223372036854775807):nE P .add t (aS a) (aS b) (aS (a+b)):=bI _ (by rw[binOp_add];show pure (Value.int .i64 (IntKind.i64.wrap (a+b)))=_;rw[IntWalk.i64_in _ h])
theorem OX(h:-9223372036854775808<=a - b/\a - b<=9223372036854775807):nE P .sub t (aS a) (aS b) (aS (a - b)):=bI _ (by rw[binOp_sub];show pure (Value.int .i64 (IntKind.i64.wrap (a - b)))=_;rw[IntWalk.i64_in _ h])
theorem kv{c:Int}(e:a - b=c)(h:-9223372036854775808<=c/\c<=9223372036854775807):nE P .sub t (aS a) (aS b) (aS c):=e ▸ OX aH
theorem Jt{c:Int}(e:a+b=c)(h:-9223372036854775808<=c/\c<=9223372036854775807):nE P .add t (aS a) (aS b) (aS c):=e ▸ NU aH
theorem Ct :nE P .eql t (.int k a) (.int k b) (.bool (a==b)):=bI _ (binOp_eql ..)
theorem Du :nE P .neq t (.int k a) (.int k b) (.bool (a !=b)):=bI _ (binOp_neq ..)
theorem IJ :nE P .lss t (.int k a) (.int k b) (.bool (decide (a<b))):=bI _ (binOp_lss ..)
theorem Qg :nE P .leq t (.int k a) (.int k b) (.bool (decide (a<=b))):=bI _ (binOp_leq ..)
theorem NS :nE P .gtr t (.int k a) (.int k b) (.bool (decide (a>b))):=bI _ (binOp_gtr ..)
theorem Oh :nE P .geq t (.int k a) (.int k b) (.bool (decide (a>=b))):=bI _ (binOp_geq ..)
theorem Dh(dd:Nat) (hu:P.underlying t=some .bool)(w:aB):(Op.equalIn (dd+1) t (.bool p) (.bool q)).run P w=.ok (p==q) w:=by
 simp only[Op.equalIn,Sem.run_bind,run_underlying hu,Result.andThen_ok];rfl
theorem Il (hu:P.underlying t=some .bool)(w:aB):(Op.equal t (.bool p) (.bool q)).run P w=.ok (p==q) w:=Dh 9999 hu w
theorem O0 (hu:P.underlying t=some .bool):nE P .eql t (.bool p) (.bool q) (.bool (p==q)):=by
 intro c d w;rw[Fv];show(do pure (Value.bool (<-Op.equal t (.bool p) (.bool q))):Sem aC).run P w=_;rw[Sem.run_bind,Il hu];rfl
theorem Oq :Oi P .not (.bool p) (.bool (!p)):=λ_=>rfl
theorem NK{s t:ax}{k':aw}{c:TypeDesc}(hs:P.underlying s=some c)(ht:P.underlying t=some (.int k))(hk:k.wrap a=a):PM P s t (.int k' a) (.int k a):=by
 intro w;simp only[convert,Sem.run_bind,run_underlying hs,run_underlying ht,Result.andThen_ok];cases c<;>simp[Conv.intToInt,hk]
end
end
theorem ug{p q:ah×Obj}(h:rn p q):rn q p:=λb hb hp=>h b hp hb
theorem St.perm{w0:aB}{S:aq}{w:aB}{h h':Hl}{Y:List (Nat×Obj)}(s:St w0 S w h Y)(hp:h.Perm h'):St w0 S w h' Y:=
 ⟨s.ext,λp hm=>s.own p (hp.mem_iff.2 hm),(hp.pairwise_iff (λ{_ _}=>ug)).1 s.apart,s.sys,s.CD⟩
section
variable{P:av}{f:ay}{R:aC->aB->Prop}{w0:aB}{S:aq}{Y:List (Nat×Obj)}{n:Nat}{k k':al}{l l':Fl}{h h':Hl}
section
variable{ops:aj}{i d:Nat}{rest:aq}{ty:ax}{pos:aA}{aft:ak}{gd:Option (Nat×Bool)}
end
end
section
variable{listed:Array Bool}{t:af}
def gZ(ops:aj)(i:Nat):aq:=match ops[i]? with
 |some o=>(o.after.toList.filter (Region.binds .any)).map (·.on)
 |none=>[]
def gh(ops:aj)(i:Nat):ah:=(ops[i]?).bind (·.dst)
def kU:Op->Bool
 |.select ..=>false
 |_=>true
def lW(ops:aj)(o:Oper):aq:=
 (match o.guard with|none=>[]|some (j,_)=>(gh ops j).toList)++o.op.operands.toList.filterMap (λ|.tmp s=>some s|_=>none)
def A1(ops:aj)(_l:Fl)(m:Nat):Bool:=
 (Nat.beq ops.size m||(Nat.beq ops.size (m+1) && (List.range m).all (λi=>(gZ ops m).contains i))) &&
 (List.range ops.size).all (λi=>(gZ ops i).all (λj=>Nat.blt j i)) &&
 (List.range m).all (λi=>match ops[i]? with
  |none=>false
  |some o=>kU o.op && match o.dst with
   |none=>false
   |some d=>(List.range m).all (λj=>Nat.beq j i||!(gh ops j==some d)) &&
    (lW ops o).all (λs=>(List.range m).all (λj=>!(gh ops j==some s)||(gZ ops i).contains j)))
section
variable{P:av}{r:ah}{f:ay}{R:aC->aB->Prop}{w0:aB}{S:aq}{Y:List (Nat×Obj)}{n:Nat}{k:al}{l:Fl}{h:Hl}{ops:aj}
def px(P:av)(w0:aB)(S:aq)(n:Nat)(h:Hl)(ops:aj)(i:Nat)(t:af)(d:Nat)(v:aC):Prop:=
 ∃o,ops[i]?=some o/\o.dst=some d/\d<n/\ko o.op=false/\
  ((Region.wanted o (yielded ops t)=true/\∀(w:aB) (Ds:aq) (Y':List (Nat×Obj)),St w0 S w h Y'->(execOp (Act.eval ⟨t,Ds.map mark⟩) o).run P w=.ok (.value v) w\/
   ∃gf args,(execOp (Act.eval ⟨t,Ds.map mark⟩) o).run P w=.ok (.enter gf args) w/\Calls P gf args w λe w'=>∃u,e=.returned u/\(Ex [] w w'/\u=v))\/(Region.wanted o (yielded ops t)=false/\v=undef))
def L8(P:av)(w0:aB)(S:aq)(n:Nat)(h:Hl)(ops:aj)(F:af->Prop):Nat->Nat->af->Prop
 |_,0,t=>F t
 |i,m+1,t=>∃d v,px P w0 S n h ops i t d v/\L8 P w0 S n h ops F (i+1) m (t.setIfInBounds d v)
def fi(P:av)(r:ah)(f:ay)(R:aC->aB->Prop)(w0:aB)(S:aq)(Y:List (Nat×Obj))(n:Nat)(k:al)(ops:aj)(i m:Nat)(l:Fl)(h:Hl):Prop:=
 ∀t,om n t l->L8 P w0 S n h ops (λt'=>∀w Ds,St w0 S w h (uM Ds++Y)->jK P r f R (.inRegion ops (List.range' (i+m) (ops.size - (i+m)))::k) t' (Ds.map mark) w) i m t
theorem fi.nil{i:Nat}(hg:eB P r f R w0 S Y n (.inRegion ops (List.range' i (ops.size - i))::k) l h):fi P r f R w0 S Y n k ops i 0 l h:=λt hF w Ds hS=>hg t w Ds hF hS
theorem fi.v{i m d:Nat}{v:aC}(hv:eD P w0 S n h ops i l d v)(hg:fi P r f R w0 S Y n k ops (i+1) m ((d,v)::l) h):fi P r f R w0 S Y n k ops i (m+1) l h:=by
 intro t hF;obtain⟨o,ho,hw,hdst,hnd,hd,hr⟩:=hv;refine⟨d,v,⟨o,ho,hdst,by simpa[ed]using hd,hnd,.inl ⟨jV hF hw,λw Ds Y' hS=>?_⟩⟩,?_⟩;obtain⟨nx,h1,rfl⟩:=hr t w Ds Y' hF hS;exact .inl h1;have:=hg _ (hF.put v hd);rw[show i+(m+1)=i+1+m from aH];exact this
theorem fi.no{i m d:Nat}{o:Oper}(ho:ops[i]?=some o)(hw:qM ops l o.guard=true)(hdst:o.dst=some d)(hnd:ko o.op=false)(hd:Nat.blt d n=true)(hg:fi P r f R w0 S Y n k ops (i+1) m ((d,undef)::l) h):fi P r f R w0 S Y n k ops i (m+1) l h:=by
 intro t hF;refine⟨d,undef,⟨o,ho,hdst,by simpa[ed]using hd,hnd,.inr ⟨rK hF hw,rfl⟩⟩,?_⟩;have:=hg _ (hF.put undef hd);rw[show i+(m+1)=i+1+m from aH];exact this
theorem su {d:Nat}{b c:Bool}(hF:om n t l)(hv:look l d=some (.bool b))(e:b=c):om n t ((d,.bool c)::l):=by
 subst e;refine⟨hF.1,λi u hu=>?_⟩;unfold look at hu;cases hb:Nat.beq d i with
 |true=>rw[hb]at hu;obtain rfl:=Nat.eq_of_beq_eq_true hb;cases hu;exact hF.2 _ _ hv
 |false=>rw[hb]at hu;exact hF.2 _ _ hu
theorem fi.cases{i m d:Nat}{b:Bool}(hv:look l d=some (.bool b))(ht:b=true->fi P r f R w0 S Y n k ops i m ((d,.bool true)::l) h)(hf:b=false->fi P r f R w0 S Y n k ops i m ((d,.bool false)::l) h):fi P r f R w0 S Y n k ops i m l h:=by
 intro t hF;cases hb:b with
 |true=>exact ht hb t (su hF hv hb)
 |false=>exact hf hb t (su hF hv hb)
def yU(D:Nat->Nat)(V:Nat->aC)(t:af):Nat->af
 |0=>t
 |j+1=>(yU D V t j).setIfInBounds (D j) (V j)
theorem tc(D:Nat->Nat)(V:Nat->aC)(t:af):∀j,yU D V t (j+1)=yU (λj=>D (j+1)) (λj=>V (j+1)) (t.setIfInBounds (D 0) (V 0)) j
 |0=>rfl
 |j+1=>by rw[yU,tc D V t j];rfl
theorem L8.seq{F:af->Prop}:∀{m i:Nat} {t:af},L8 P w0 S n h ops F i m t->∃(D:Nat->Nat) (V:Nat->aC),(∀j,j<m->px P w0 S n h ops (i+j) (yU D V t j) (D j) (V j))/\F (yU D V t m)
 |0,_,t,hF=>⟨λ_=>0,λ_=>undef,λj hj=>aH,hF⟩
 |m+1,i,t,⟨d,v,ho,hr⟩=>by
  obtain⟨D,V,h1,h2⟩:=L8.seq hr;refine⟨λj=>match j with|0=>d|j+1=>D j,λj=>match j with|0=>v|j+1=>V j,λj hj=>?_,?_⟩;cases j with
  |zero=>exact ho
  |succ j=>
   have:=h1 j aH;rw[show i+(j+1)=i+1+j from aH,tc];exact this
  rw[tc];exact h2
theorem pC{D:Nat->Nat}{V:Nat->aC}{t:af}:∀j,(yU D V t j).size=t.size
 |0=>rfl
 |j+1=>by simp[yU,pC j]
theorem jN {d s:Nat}{v:aC}(hd:d<t.size):(t.setIfInBounds d v).getD s undef=if d=s then v else t.getD s undef:=by
 rw[aW,aW,Array.getElem?_setIfInBounds];split;simp;rfl
theorem qm{D:Nat->Nat}{V:Nat->aC}{t:af}{m:Nat}(hd:∀j,j<m->D j<t.size)(hinj:∀i j,i<m->j<m->D i=D j->i=j):∀q,q<=m->
  (∀j,j<q->(yU D V t q).getD (D j) undef=V j)/\(∀s,(∀j,j<q->D j≠s)->(yU D V t q).getD s undef=t.getD s undef)
 |0,_=>⟨λj hj=>aH,λ_ _=>rfl⟩
 |q+1,hq=>by
  obtain⟨h1,h2⟩:=qm hd hinj q aH;have hs:D q<(yU D V t q).size:=by rw[pC];exact hd q aH
  refine⟨λj hj=>?_,λs hs'=>?_⟩;rw[yU,jN hs];split;rename_i e;rw[hinj q j aH aH e];rename_i e;refine h1 j ?_;rcases Nat.lt_or_ge j q with hl|hl;exact hl;exact absurd (by rw[show j=q from aH]) e;rw[yU,jN hs,if_neg (hs' q aH)];exact h2 s (λj hj=>hs' j aH)
theorem nM{t':af}(hs:t.size=t'.size){s:Nat}(h:t.getD s undef=t'.getD s undef):t[s]?=t'[s]?:=by
 rw[aW,aW]at h;rcases Nat.lt_or_ge s t.size with hl|hl;rw[bd hl,bd (hs ▸ hl)]at h⊢;simpa using h;rw[Array.getElem?_eq_none hl,Array.getElem?_eq_none (hs ▸ hl)]
theorem px.congr{i d:Nat}{v:aC}{t':af}(ho:px P w0 S n h ops i t d v)(hsel:∀o,ops[i]?=some o->kU o.op=true)(hs:t'.size=t.size)
  (he:∀o,ops[i]?=some o->∀s∈lW ops o,t'.getD s undef=t.getD s undef):px P w0 S n h ops i t' d v:=by
 obtain⟨o,h1,h2,h3,h4,h5⟩:=ho;have hw:Region.wanted o (yielded ops t')=Region.wanted o (yielded ops t):=by
  unfold Region.wanted;cases hg:o.guard with
  |none=>rfl
  |some p=>
   obtain⟨j,want⟩:=p;have:yielded ops t' j=yielded ops t j:=by
    unfold yielded;cases hd:(ops[j]?).bind (·.dst)with
    |none=>rfl
    |some dj=>
     simp only[Option.bind_some];rw[nM hs (he o h1 dj (by simp[lW,hg,gh,hd]))]
   simp only[this]
 refine⟨o,h1,h2,h3,h4,?_⟩;rcases h5 with⟨a,b⟩|⟨a,b⟩;refine .inl ⟨hw.trans a,λw Ds Y' hS=>?_⟩;rw[execOp_congr (ρ':=Act.eval ⟨t,Ds.map mark⟩) o (λcs bb e=>by have:=hsel o h1;rw[e]at this;cases this) (λx hx=>?_)];exact b w Ds Y' hS;cases x with
 |tmp s=>exact he o h1 s (by
   simp only[lW,dG];exact .inr (cR.2 ⟨.tmp s,by simpa using hx,rfl⟩))
 |const v=>rfl
 |global g=>rfl
 |func g=>rfl
 exact .inr ⟨hw.trans a,b⟩
theorem px.go{i d:Nat}{v:aC} {rest:aq}{w:aB}{Ds:aq}(ho:px P w0 S n h ops i t d v)(hS:St w0 S w h (uM Ds++Y))
  (hk:∀w',St w0 S w' h (uM Ds++Y)->jK P r f R (.inRegion ops rest::k) (t.setIfInBounds d v) (Ds.map mark) w'):jK P r f R (.inRegion ops (i::rest)::k) t (Ds.map mark) w:=by
 obtain⟨o,h1,h2,h3,h4,h5⟩:=ho;rcases h5 with⟨a,b⟩|⟨a,rfl⟩;rcases b w Ds _ hS with hb|⟨gf,args,hb,hcall⟩;refine jK.op h1 a (iy h4) hb (.inl rfl) ?_;rw[h2];exact hk w hS;refine jK.call h1 a (iy h4) hb hcall (λu w2 hu=>?_);obtain⟨he,rfl⟩:=hu;rw[h2];exact hk w2 (hS.later he);refine mh h1 a ?_;rw[h2];exact hk w hS
structure xD (ops:aj) (m:Nat):Prop where
  size:ops.size=m\/(ops.size=m+1/\∀i,i<m->i∈gZ ops m)
  lt:∀i,i<ops.size->∀j∈gZ ops i,j<i
  Gv:∀i,i<m->∀o,ops[i]?=some o->kU o.op=true
  inj:∀i j d,i<m->j<m->gh ops i=some d->gh ops j=some d->i=j
  LZ:∀i,i<m->∀o,ops[i]?=some o->∀s∈lW ops o,∀j,j<m->gh ops j=some s->j∈gZ ops i
theorem r8{i:Nat}{o:Oper}(ho:ops[i]?=some o){j:Nat}:j∈gZ ops i↔∃e∈o.after,Region.binds .any e=true/\e.on=j:=by
 simp only[gZ,ho,dU,dH,Array.mem_toList_iff];constructor;rintro ⟨e,⟨h1,h2⟩,h3⟩;exact⟨e,h1,h2,h3⟩;rintro ⟨e,h1,h2,h3⟩;exact⟨e,⟨h1,h2⟩,h3⟩
theorem fQ {i j:Nat}(hi:i<listed.size):(listed.setIfInBounds i true).getD j false=if i=j then true else listed.getD j false:=by
 rw[aW,aW,Array.getElem?_setIfInBounds];split;simp;rfl
theorem sr {j:Nat}(hj:j<listed.size):listed.getD j true=listed.getD j false:=by
 simp[hj]
theorem count_set {N i:Nat}(hs:listed.size=N)(hi:i<N)(hu:listed.getD i false=false):
  (List.range N).countP (λj=>!(listed.setIfInBounds i true).getD j false)+1<=(List.range N).countP (λj=>!listed.getD j false):=by
 have h1:∀M,M<=N->(List.range M).countP (λj=>!(listed.setIfInBounds i true).getD j false)+(if i<M then 1 else 0)=(List.range M).countP (λj=>!listed.getD j false):=by
  intro M
  induction M with
  |zero=>simp
  |succ M ih=>
   intro hM;have:=ih aH;rw[dJ,List.countP_append,List.countP_append,<-this];simp only[List.countP_cons,List.countP_nil,fQ (hs ▸ hi)];by_cases e:i=M;subst e;simp[hu];have e1:(if i=M then true else listed.getD M false)=listed.getD M false:=if_neg e;have e2:(if i<M+1 then 1 else 0)=(if i<M then 1 else 0):=by
    by_cases hlt:i<M;rw[if_pos hlt,if_pos aH];rw[if_neg hlt,if_neg aH]
   rw[e1,e2];omega
 have:=h1 N (dZ _);rw[if_pos hi]at this;omega
theorem Dj{m:Nat}(hf:xD ops m){D:Nat->Nat}{V:Nat->aC}{t0:af}(ht0:t0.size=n)
  (hout:∀j,j<m->px P w0 S n h ops j (yU D V t0 j) (D j) (V j))(hF:∀w Ds,St w0 S w h (uM Ds++Y)->jK P r f R (.inRegion ops (List.range' m (ops.size - m))::k) (yU D V t0 m) (Ds.map mark) w):
  ∀(fuel τ:Nat) (listed:Array Bool) (t:af),listed.size=ops.size->(∀j,listed.getD j false=true->∀e∈gZ ops j,listed.getD e false=true)->(m<ops.size->listed.getD m false=false)->t.size=n->
   (∀j,j<m->listed.getD j false=true->t.getD (D j) undef=V j)->(∀s,(∀j,j<m->listed.getD j false=true->D j≠s)->t.getD s undef=t0.getD s undef)->
   (List.range ops.size).countP (λj=>!listed.getD j false)<=fuel->∀w Ds,St w0 S w h (uM Ds++Y)->jK P r f R (.inRegion ops (Region.linearise.go .any ops fuel τ listed [])::k) t (Ds.map mark) w:=by
 have hDst:∀j,j<m->gh ops j=some (D j):=λj hj=>by
  obtain⟨o,h1,h2,_⟩:=hout j hj;simp[gh,h1,h2]
 have hDlt:∀j,j<m->D j<t0.size:=λj hj=>by
  obtain⟨o,_,_,h3,_⟩:=hout j hj;omega
 have hDinj:∀i j,i<m->j<m->D i=D j->i=j:=λi j hi hj e=>hf.inj i j (D i) hi hj (hDst i hi) (by rw[hDst j hj,e]);have hmN:m<=ops.size:=by rcases hf.size with e|e<;>omega
 have hall:∀(listed:Array Bool) (t:af),t.size=n->(∀j,j<m->listed.getD j false=true)->(∀j,j<m->listed.getD j false=true->t.getD (D j) undef=V j)->(∀s,(∀j,j<m->listed.getD j false=true->D j≠s)->t.getD s undef=t0.getD s undef)->t=yU D V t0 m:=by
  intro listed t hts hl h1 h2;obtain⟨g1,g2⟩:=qm hDlt hDinj m (dZ _);refine Array.ext_getElem? (λs=>nM (by rw[hts,pC,ht0]) ?_);by_cases hs:∃j,j<m/\D j=s;obtain⟨j,hj,rfl⟩:=hs;rw[h1 j hj (hl j hj),g1 j hj];rw[h2 s (λj hj _ e=>hs ⟨j,hj,e⟩),g2 s (λj hj e=>hs ⟨j,hj,e⟩)]
 intro fuel
 induction fuel with
 |zero=>
  intro τ listed t hls hcl hm hts h1 h2 hc w Ds hS;have hl:∀j,j<ops.size->listed.getD j false=true:=λj hj=>by
   have:=List.countP_eq_zero.1 (Nat.le_zero.1 hc) j (by simpa using hj);simpa using this
  have hmm:m=ops.size:=by
   rcases Nat.lt_or_ge m ops.size with hlt|hge;have:=hl m hlt;rw[hm hlt]at this;cases this;omega
  rw[hall listed t hts (λj hj=>hl j aH) h1 h2];have:=hF w Ds hS;rw[hmm,dW]at this;rw[hmm];exact this
 |succ fuel ih=>
  intro τ listed t hls hcl hm hts h1 h2 hc w Ds hS;have hready:(∃j,j<ops.size/\listed.getD j false=false)->Region.ready .any ops listed≠[]:=by
   rintro ⟨j,hj,hu⟩;have key:∀q,q<ops.size->listed.getD q false=false->Region.ready .any ops listed≠[]:=by
    intro q
    induction q using Nat.strongRecOn with
    |_ q ihq=>
     intro hq hqu;by_cases hb:∃e∈gZ ops q,listed.getD e false=false;obtain⟨e,he,heu⟩:=hb;have hlt:=hf.lt q hq e he;exact ihq e hlt aH heu;obtain⟨o,ho⟩:∃o,ops[q]?=some o:=⟨ops[q],bd hq⟩;have:q∈Region.ready .any ops listed:=by
      rw[mem_ready];refine⟨by rw[sr aH];exact hqu,o,ho,λe he hbd=>?_⟩;cases hx:listed.getD e.on false with
      |true=>rfl
      |false=>exact absurd ⟨e.on,(r8 ho).2 ⟨e,he,hbd,rfl⟩,hx⟩ hb
     exact List.ne_nil_of_mem this
   exact key j hj hu
  simp only[Region.linearise.go];change jK P r f R (.inRegion ops (match (Region.ready .any ops listed)[τ%(Region.ready .any ops listed).length]? with
   |some i=>Region.linearise.go .any ops fuel (τ / (Region.ready .any ops listed).length) (listed.setIfInBounds i true) [i]
   |none=>[].reverse)::k) t (Ds.map mark) w;cases hi:(Region.ready .any ops listed)[τ%(Region.ready .any ops listed).length]? with
  |none=>
   have hnil:Region.ready .any ops listed=[]:=by
    cases hr:Region.ready .any ops listed with
    |nil=>rfl
    |cons x xs=>
     rw[hr]at hi;have hlt:τ%(x::xs).length<(x::xs).length:=Nat.mod_lt _ aL;rw[bH hlt]at hi;cases hi
   have hl:∀j,j<ops.size->listed.getD j false=true:=λj hj=>by
    cases hx:listed.getD j false with
    |true=>rfl
    |false=>exact absurd hnil (hready ⟨j,hj,hx⟩)
   have hmm:m=ops.size:=by
    rcases Nat.lt_or_ge m ops.size with hlt|hge;have:=hl m hlt;rw[hm hlt]at this;cases this;omega
   rw[hall listed t hts (λj hj=>hl j aH) h1 h2];have:=hF w Ds hS;rw[hmm,dW]at this;rw[hmm];exact this
  |some i=>
   have hmem:=cD hi;rw[mem_ready]at hmem;obtain⟨hu,o,ho,hdep⟩:=hmem;have hiN:i<ops.size:=(aX.1 ho).1;rw[sr aH]at hu;simp only[];rw[linearise_go_acc,List.reverse_singleton,List.singleton_append];have hdl:∀e∈gZ ops i,listed.getD e false=true:=λe he=>by
    obtain⟨e',he',hb,rfl⟩:=(r8 ho).1 he;exact hdep e' he' hb
   have hcl':∀j,(listed.setIfInBounds i true).getD j false=true->∀e∈gZ ops j,(listed.setIfInBounds i true).getD e false=true:=by
    intro j hj e he;rw[fQ aH]at hj⊢;split;rfl;split at hj;rename_i hij;subst hij;exact hdl e he;exact hcl j hj e he
   have hcnt:=count_set (listed:=listed) hls hiN hu;by_cases him:i<m;have hgo:=hout i him;have heq:px P w0 S n h ops i t (D i) (V i):=by
    refine hgo.congr (hf.Gv i him) (by rw[hts,pC,ht0]) (λo' ho' s hs=>?_);obtain⟨g1,g2⟩:=qm hDlt hDinj i aH;by_cases hx:∃j,j<m/\D j=s;obtain⟨j,hj,rfl⟩:=hx;have hjd:=hf.LZ i him o' ho' (D j) hs j hj (hDst j hj);rw[h1 j hj (hdl j hjd),g1 j (hf.lt i hiN j hjd)];rw[h2 s (λj hj _ e=>hx ⟨j,hj,e⟩),g2 s (λj hj e=>hx ⟨j,aH,e⟩)]
   refine heq.go hS (λw hS=>?_);have hDi:D i<t.size:=by rw[hts,<-ht0];exact hDlt i him
   refine ih _ _ _ (by simpa using hls) hcl' (λhlt=>?_) (by simpa using hts) (λj hj hlj=>?_) (λs hs=>?_) aH w Ds hS;rw[fQ aH,if_neg aH];exact hm hlt;rw[jN hDi];split;rename_i e;rw[hDinj i j him hj e];rename_i e;rw[fQ aH]at hlj;split at hlj;rename_i e2;subst e2;exact absurd rfl e;exact h1 j hj hlj;rw[jN hDi,if_neg (hs i him (by rw[fQ aH,if_pos rfl]))];refine h2 s (λj hj hlj=>hs j hj ?_);rw[fQ aH];split;rfl;exact hlj
   -- the last operation
   have hsz:ops.size=m+1/\∀i,i<m->i∈gZ ops m:=by
    rcases hf.size with e|e;omega;exact e
   have him':i=m:=aH;subst him';have hl:∀j,j<i->listed.getD j false=true:=λj hj=>hdl j (hsz.2 j hj);have hnil:Region.linearise.go .any ops fuel (τ / (Region.ready .any ops listed).length) (listed.setIfInBounds i true) []=[]:=by
    have hr0:Region.ready .any ops (listed.setIfInBounds i true)=[]:=by
     rw[List.eq_nil_iff_forall_not_mem];intro j hj;rw[mem_ready]at hj;obtain⟨a,o',ho',_⟩:=hj;have hjN:j<ops.size:=(aX.1 ho').1;rw[sr aN,fQ aH]at a;split at a;cases a;rw[hl j aH]at a;cases a
    cases fuel with
    |zero=>rfl
    |succ fuel=>
     simp only[Region.linearise.go];change (match (Region.ready .any ops (listed.setIfInBounds i true))[_%(Region.ready .any ops (listed.setIfInBounds i true)).length]? with
      |some i=>_
      |none=>[].reverse)=[];rw[hr0];rfl
   rw[hnil,hall listed t hts hl h1 h2];have:=hF w Ds hS;rw[hsz.1,show i+1 - i=1 from aH]at this;exact this
theorem Fi{m:Nat}(hc:A1 ops l m=true):xD ops m:=by
 simp only[A1,di,dB,Nat.beq_eq,dk,dO,ed,bS]at hc;obtain⟨⟨hsz,hlt⟩,hr⟩:=hc;have hat:∀i,i<m->∃o d,ops[i]?=some o/\o.dst=some d/\kU o.op=true/\(∀j,j<m->j=i\/gh ops j≠some d)/\(∀s∈lW ops o,∀j,j<m->gh ops j≠some s\/j∈gZ ops i):=by
  intro i hi;have:=hr i hi;cases ho:ops[i]? with
  |none=>simp[ho]at this
  |some o=>
   cases hd:o.dst with
   |none=>simp[ho,hd]at this
   |some d=>
    simp only[ho,hd,di,dk,dO,dB,Nat.beq_eq,c6,beq_eq_false_iff_ne,bS]at this;exact⟨o,d,rfl,hd,this.1,this.2.1,this.2.2⟩
 refine⟨hsz,hlt,λi hi o ho=>?_,λi j d hi hj h1 h2=>?_,λi hi o ho s hs j hj hd=>?_⟩;obtain⟨o',d,h1,_,h3,_⟩:=hat i hi;rw[ho]at h1;cases h1;exact h3;obtain⟨o,d',e1,e2,_,e5,_⟩:=hat i hi;have:d'=d:=by simp[gh,e1,e2]at h1;exact h1
 subst this;rcases e5 j hj with e|e;exact e.symm;exact absurd h2 e;obtain⟨o',d,e1,_,_,_,e6⟩:=hat i hi;rw[ho]at e1;cases e1;rcases e6 s hs j hj with e|e;exact absurd hd e;exact e
theorem eB.draw{id:Nat}(m:Nat)(hmix:P.follows .mixedOrders=true)(hc:A1 ops l m=true)(hg:fi P r f R w0 S Y n k ops 0 m l h):eB P r f R w0 S Y n (.code (.region id ops true)::k) l h:=by
 intro t w Ds hF hS;have hf:=Fi hc;refine .m6 (λτ=>?_);obtain⟨D,V,hout,hfin⟩:=(hg t hF).seq;simp only[dX]at hout hfin;simp only[Region.schedule,hmix,Bool.true_or,ew,Region.linearise];refine Dj hf hF.1 hout hfin ops.size τ _ t aL (λj hj=>?_) (λ_=>?_) hF.1 (λj _ hj=>?_) (λs _=>rfl) ?_ _ Ds hS.drew;exfalso;simp[bG]at hj;split at hj<;>simp at hj
 simp[bG];split<;>simp
 exfalso;simp[bG]at hj;split at hj<;>simp at hj
 exact dV (List.countP_le_length) aL
def eR(ops:aj)(listed:aq):aq:=(List.range ops.size).filter (λi=>!listed.contains i && (gZ ops i).all (λe=>listed.contains e))
theorem ox{arr:Array Bool}{listed:aq}(hs:arr.size=ops.size)(h:∀j,arr.getD j false=listed.contains j):Region.ready .any ops arr=eR ops listed:=by
 unfold Region.ready eR;refine List.filter_congr (λi hi=>?_);have hi':i<ops.size:=by simpa using hi
 have e1:arr.getD i true=listed.contains i:=by rw[<-h i];simp[hs,hi']
 rw[e1]
 congr 1
 have hg:ops[i]?=some ops[i]:=bd hi';unfold gZ;rw[hg];simp only[dL,Option.getD_some,<-Array.all_toList];rw[List.all_map,List.all_filter]
 congr 1
 funext e;simp only[Function.comp,h]
end
end
end Go.Proofs.Wit
namespace Go.Proofs.Wit
def jd(s:eF):aq:=(List.range 64).filter (λi=>s.getLsbD i)
def ND:ar:=[0,1,56,2,57,49,28,3,61,58,42,50,38,29,17,4,62,47,59,36,45,43,51,22,53,39,33,30,24,18,12,5,63,55,48,27,60,41,37,16,46,35,44,21,52,32,23,11,54,26,40,15,34,20,31,10,25,14,19,9,13,8,7,6]
end Go.Proofs.Wit
