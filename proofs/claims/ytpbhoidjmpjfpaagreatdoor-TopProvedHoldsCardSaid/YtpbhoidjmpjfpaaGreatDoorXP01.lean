/- Laws of walks, each under its own conditions. -/
import Derived.WalkKit
import Derived.Lib.Hide
import Derived.RangeFuncLeaves
import Derived.RangeFuncRecord
set_option maxRecDepth 100000
set_option maxHeartbeats 40000000
namespace Go.Proofs.Wit
open Go Go.RowKit
abbrev aa:=Array Operand
abbrev ab:=Array TypeId
abbrev ae:=Option Addr
abbrev af:=Array Value
abbrev ah:=Option Nat
abbrev ai:=List Value
abbrev aj:=Array Oper
abbrev ak:=Array Edge
abbrev al:=List Item
abbrev ao:=List Bool
abbrev aq:=List Nat
abbrev ar:=List Int
abbrev au:=Operand
abbrev av:=Program
abbrev aw:=IntKind
abbrev ax:=TypeId
abbrev ay:=FuncId
abbrev aA:=String
abbrev aB:=World
abbrev aC:=Value
theorem aD{α:Type}{l:List α}:l.Sublist l:=List.Sublist.refl _
theorem aE{α:Type}{l:List α}:[].Sublist l:=List.nil_sublist _
theorem aF{α:Type}{a:α}{l:List α}:a∈a::l:=List.mem_cons_self ..
theorem aG{n:Nat}:0<=n:=Nat.zero_le _
theorem aH{p:Prop}(h:p:=by omega):p:=h
theorem aI{p:Prop}(h:p:=by decide):p:=h
theorem aJ{p:Prop}(h:p:=by simpa using hc):p:=h
theorem aK{p:Prop}(h:p:=by intro e;cases e):p:=h
theorem aL{p:Prop}(h:p:=by simp):p:=h
theorem aM{p:Prop}(h:p:=by dsimp only;omega):p:=h
theorem aN{p:Prop}(h:p:=by simp;omega):p:=h
theorem aO{p:Prop}(h:p:=by simp[*]):p:=h
abbrev aP(b:Nat):Addr:=⟨b,0,none⟩
abbrev aQ(b:Nat):Value:=.pointer (some ⟨b,0,none⟩)
abbrev aR(b:Nat):Option Addr:=some ⟨b,0,none⟩
abbrev aS(z:Int):Value:=.int .i64 z
theorem aT.{u,v}:type_of%(@List.exists_of_findSome?_eq_some.{u,v}):=@List.exists_of_findSome?_eq_some.{u,v}
theorem aU.{u}:type_of%(@List.take_succ_eq_append_getElem.{u}):=@List.take_succ_eq_append_getElem.{u}
theorem aV.{u}:type_of%(@List.eq_nil_of_length_eq_zero.{u}):=@List.eq_nil_of_length_eq_zero.{u}
theorem aW.{u}:type_of%(@Array.getD_eq_getD_getElem?.{u}):=@Array.getD_eq_getD_getElem?.{u}
theorem aX.{u}:type_of%(@Array.getElem?_eq_some_iff.{u}):=@Array.getElem?_eq_some_iff.{u}
theorem aY.{u}:type_of%(@List.getD_eq_getElem?_getD.{u}):=@List.getD_eq_getElem?_getD.{u}
theorem aZ.{u}:type_of%(@List.getElem?_append_right.{u}):=@List.getElem?_append_right.{u}
theorem bh.{u}:type_of%(@Array.getElem?_eq_getElem.{u}):=@Array.getElem?_eq_getElem.{u}
theorem bj:type_of%(@Classical.byContradiction):=@Classical.byContradiction
theorem br.{u}:type_of%(@List.drop_eq_getElem_cons.{u}):=@List.drop_eq_getElem_cons.{u}
theorem bt.{u}:type_of%(@List.findIdx?_eq_none_iff.{u}):=@List.findIdx?_eq_none_iff.{u}
theorem bu.{u}:type_of%(@List.getElem?_append_left.{u}):=@List.getElem?_append_left.{u}
theorem bB.{u}:type_of%(@List.getElem?_eq_some_iff.{u}):=@List.getElem?_eq_some_iff.{u}
theorem bC.{u}:type_of%(@List.getElem_append_right.{u}):=@List.getElem_append_right.{u}
theorem bE.{u}:type_of%(@List.pairwise_iff_getElem.{u}):=@List.pairwise_iff_getElem.{u}
theorem bG.{u}:type_of%(@List.sublist_append_right.{u}):=@List.sublist_append_right.{u}
theorem bH.{u}:type_of%(@Array.getElem?_replicate.{u}):=@Array.getElem?_replicate.{u}
theorem bJ.{u}:type_of%(@List.getElem?_eq_getElem.{u}):=@List.getElem?_eq_getElem.{u}
theorem bK.{u}:type_of%(@List.getElem_append_left.{u}):=@List.getElem_append_left.{u}
theorem bL.{u}:type_of%(@List.idxOf_lt_length_iff.{u}):=@List.idxOf_lt_length_iff.{u}
theorem bP.{u}:type_of%(@List.sublist_append_left.{u}):=@List.sublist_append_left.{u}
theorem bQ.{u}:type_of%(@List.subset_append_right.{u}):=@List.subset_append_right.{u}
theorem bR:type_of%(@Nat.lt_succ_iff_lt_or_eq):=@Nat.lt_succ_iff_lt_or_eq
theorem bS:type_of%(@BitVec.eq_of_getLsbD_eq):=@BitVec.eq_of_getLsbD_eq
theorem bV:type_of%(@decide_eq_false_iff_not):=@decide_eq_false_iff_not
theorem bX.{u}:type_of%(@List.reverse_singleton.{u}):=@List.reverse_singleton.{u}
theorem bZ.{u}:type_of%(@List.take_of_length_le.{u}):=@List.take_of_length_le.{u}
theorem cm:type_of%(@Nat.testBit_lt_two_pow):=@Nat.testBit_lt_two_pow
theorem ct:type_of%(@Bool.and_eq_false_iff):=@Bool.and_eq_false_iff
theorem cx.{u}:type_of%(@List.contains_iff_mem.{u}):=@List.contains_iff_mem.{u}
theorem cy.{u}:type_of%(@List.countP_le_length.{u}):=@List.countP_le_length.{u}
theorem cz.{u}:type_of%(@List.getElem?_eq_none.{u}):=@List.getElem?_eq_none.{u}
theorem cC.{u}:type_of%(@List.length_singleton.{u}):=@List.length_singleton.{u}
theorem cD.{u}:type_of%(@List.mem_append_right.{u}):=@List.mem_append_right.{u}
theorem cG.{u}:type_of%(@List.perm_append_comm.{u}):=@List.perm_append_comm.{u}
theorem cH.{u}:type_of%(@List.singleton_append.{u}):=@List.singleton_append.{u}
theorem cI.{u}:type_of%(@List.subset_cons_self.{u}):=@List.subset_cons_self.{u}
theorem cJ:type_of%(@BitVec.ofInt_natCast):=@BitVec.ofInt_natCast
theorem cK.{u}:type_of%(@List.mem_append_left.{u}):=@List.mem_append_left.{u}
theorem cM.{u}:type_of%(@List.mem_cons_of_mem.{u}):=@List.mem_cons_of_mem.{u}
theorem cN.{u}:type_of%(@List.mem_iff_getElem.{u}):=@List.mem_iff_getElem.{u}
theorem cP.{u}:type_of%(@List.mem_of_getElem?.{u}):=@List.mem_of_getElem?.{u}
theorem cQ.{u}:type_of%(@List.mem_of_mem_take.{u}):=@List.mem_of_mem_take.{u}
theorem cR.{u}:type_of%(@List.pairwise_append.{u}):=@List.pairwise_append.{u}
theorem cS:type_of%(@Nat.pow_le_pow_right):=@Nat.pow_le_pow_right
theorem cU:type_of%(@BitVec.getLsbD_zero):=@BitVec.getLsbD_zero
theorem cX.{u}:type_of%(@List.Sublist.append.{u}):=@List.Sublist.append.{u}
theorem c6.{u,v}:type_of%(@List.map_congr_left.{u,v}):=@List.map_congr_left.{u,v}
theorem c7.{u,v}:type_of%(@List.mem_map_of_mem.{u,v}):=@List.mem_map_of_mem.{u,v}
theorem c9.{u}:type_of%(@beq_eq_false_iff_ne.{u}):=@beq_eq_false_iff_ne.{u}
theorem dc:type_of%(@BitVec.getLsbD_and):=@BitVec.getLsbD_and
theorem de:type_of%(@BitVec.getLsbD_not):=@BitVec.getLsbD_not
theorem df:type_of%(@BitVec.toNat_ofNat):=@BitVec.toNat_ofNat
theorem dh:type_of%(@Bool.false_ne_true):=@Bool.false_ne_true
theorem di.{u}:type_of%(@List.length_append.{u}):=@List.length_append.{u}
theorem dk.{u,v}:type_of%(@List.mem_filterMap.{u,v}):=@List.mem_filterMap.{u,v}
theorem dn.{u}:type_of%(@List.mem_singleton.{u}):=@List.mem_singleton.{u}
theorem dq.{u}:type_of%(@List.prefix_append.{u}):=@List.prefix_append.{u}
theorem dt:type_of%(@Nat.lt_of_lt_of_le):=@Nat.lt_of_lt_of_le
theorem du:type_of%(@BitVec.getLsbD_or):=@BitVec.getLsbD_or
theorem dv:type_of%(@Bool.eq_false_iff):=@Bool.eq_false_iff
theorem dw:type_of%(@Bool.not_eq_true'):=@Bool.not_eq_true'
theorem dx:type_of%(@Classical.not_not):=@Classical.not_not
theorem dy:type_of%(@Int.toNat_natCast):=@Int.toNat_natCast
theorem dz.{u}:type_of%(@List.any_eq_false.{u}):=@List.any_eq_false.{u}
theorem dA.{u}:type_of%(@List.append_assoc.{u}):=@List.append_assoc.{u}
theorem dB.{u,v}:type_of%(@List.getElem?_map.{u,v}):=@List.getElem?_map.{u,v}
theorem dC.{u}:type_of%(@List.nodup_append.{u}):=@List.nodup_append.{u}
theorem dD.{u}:type_of%(@Option.some.injEq.{u}):=@Option.some.injEq.{u}
theorem dE:type_of%(@decide_eq_true_eq):=@decide_eq_true_eq
theorem dF.{u}:type_of%(@Array.toList_inj.{u}):=@Array.toList_inj.{u}
theorem dG:type_of%(@Bool.and_eq_true):=@Bool.and_eq_true
theorem dH:type_of%(@Bool.not_eq_true):=@Bool.not_eq_true
theorem dI.{u}:type_of%(@List.all_eq_true.{u}):=@List.all_eq_true.{u}
theorem dJ.{u}:type_of%(@List.any_eq_true.{u}):=@List.any_eq_true.{u}
theorem dK.{u}:type_of%(@List.ext_getElem.{u}):=@List.ext_getElem.{u}
theorem dL.{u}:type_of%(@List.getElem_mem.{u}):=@List.getElem_mem.{u}
theorem dM.{u}:type_of%(@List.length_cons.{u}):=@List.length_cons.{u}
theorem dN.{u}:type_of%(@List.length_take.{u}):=@List.length_take.{u}
theorem dO.{u}:type_of%(@List.not_mem_nil.{u}):=@List.not_mem_nil.{u}
theorem dP.{u}:type_of%(@List.perm_middle.{u}):=@List.perm_middle.{u}
theorem dQ.{u}:type_of%(@List.prefix_refl.{u}):=@List.prefix_refl.{u}
theorem dR.{u}:type_of%(@List.take_length.{u}):=@List.take_length.{u}
theorem dS:type_of%(@Nat.lt_succ_self):=@Nat.lt_succ_self
theorem dT:type_of%(@Nat.mod_eq_of_lt):=@Nat.mod_eq_of_lt
theorem dU:type_of%(@Bool.eq_iff_iff):=@Bool.eq_iff_iff
theorem dV:type_of%(@Bool.or_eq_true):=@Bool.or_eq_true
theorem dW.{u}:type_of%(@List.append_nil.{u}):=@List.append_nil.{u}
theorem dX.{u,v}:type_of%(@List.foldl_cons.{u,v}):=@List.foldl_cons.{u,v}
theorem dY.{u,v}:type_of%(@List.length_map.{u,v}):=@List.length_map.{u,v}
theorem dZ.{u}:type_of%(@List.length_set.{u}):=@List.length_set.{u}
theorem ec.{u,v}:type_of%(@List.map_append.{u,v}):=@List.map_append.{u,v}
theorem ed.{u}:type_of%(@List.mem_append.{u}):=@List.mem_append.{u}
theorem eg.{u}:type_of%(@List.mem_filter.{u}):=@List.mem_filter.{u}
theorem eh.{u}:type_of%(@List.nil_append.{u}):=@List.nil_append.{u}
theorem ej.{u}:type_of%(@List.nodup_cons.{u}):=@List.nodup_cons.{u}
theorem ep:type_of%(@List.range_succ):=@List.range_succ
theorem ew:type_of%(@Nat.not_lt_zero):=@Nat.not_lt_zero
theorem ez.{u,v}:type_of%(@Option.map_some.{u,v}):=@Option.map_some.{u,v}
theorem eA.{u}:type_of%(@Option.some.inj.{u}):=@Option.some.inj.{u}
theorem eB.{u}:type_of%(@beq_false_of_ne.{u}):=@beq_false_of_ne.{u}
theorem eC:type_of%(@decide_eq_false):=@decide_eq_false
theorem eD:type_of%(@List.mem_range):=@List.mem_range
theorem eE.{u}:type_of%(@List.nodup_nil.{u}):=@List.nodup_nil.{u}
theorem eF:type_of%(@decide_eq_true):=@decide_eq_true
theorem eG.{u,v}:type_of%(@List.map_cons.{u,v}):=@List.map_cons.{u,v}
theorem eH.{u}:type_of%(@List.mem_cons.{u}):=@List.mem_cons.{u}
theorem eJ:type_of%(@Bool.true_or):=@Bool.true_or
theorem eK.{u,v,w}:type_of%(@List.map_map.{u,v,w}):=@List.map_map.{u,v,w}
theorem eL.{u,v}:type_of%(@List.mem_map.{u,v}):=@List.mem_map.{u,v}
theorem eM:type_of%(@Nat.le_trans):=@Nat.le_trans
theorem eN:type_of%(@Nat.lt_or_ge):=@Nat.lt_or_ge
theorem eO:type_of%(@Nat.sub_self):=@Nat.sub_self
theorem eP:type_of%(@Nat.zero_add):=@Nat.zero_add
theorem eQ:type_of%(@iff_of_false):=@iff_of_false
theorem eR:type_of%(@Nat.le_refl):=@Nat.le_refl
theorem eS:type_of%(@Nat.mul_one):=@Nat.mul_one
theorem eT:type_of%(@Nat.blt_eq):=@Nat.blt_eq
theorem eU.{u}:type_of%(@beq_iff_eq.{u}):=@beq_iff_eq.{u}
theorem eV.{u,v}:type_of%(@congrArg.{u,v}):=@congrArg.{u,v}
theorem eW.{u}:type_of%(@if_false.{u}):=@if_false.{u}
theorem eX:type_of%(@or_false):=@or_false
theorem eY.{u}:type_of%(@if_true.{u}):=@if_true.{u}
theorem eZ:type_of%(@trivial):=@trivial
end Go.Proofs.Wit
namespace Go.Proofs.Wit
open Go.RowKit
abbrev fi:=BitVec 64
def U(x:fi):aC:=.int .u64 (x.toNat:Int)
section
variable(t:ax)(x y:fi)
theorem qt(x:fi):BitVec.ofInt 64 (x.toNat:Int)=x:=by
 rw[cJ];simp
theorem yC(x:fi):IntKind.u64.wrap (x.toNat:Int)=x.toNat:=by
 rw[IntKind.wrap_u64];have:=x.isLt;omega
theorem Cv(f:fi->fi->fi):(.int .u64 (IntKind.u64.wrap ((f (BitVec.ofInt 64 (x.toNat:Int)) (BitVec.ofInt 64 (y.toNat:Int))).toNat:Int)):aC)=U (f x y):=by
 rw[qt,qt,yC];rfl
theorem PE:binOp .and t (U x) (U y)=pure (U (x &&& y)):=
 eV pure (Cv x y (λa b=>a &&& b))
theorem Sq:binOp .or t (U x) (U y)=pure (U (x|||y)):=
 eV pure (Cv x y (λa b=>a|||b))
theorem Pz:binOp .xor t (U x) (U y)=pure (U (x^^^y)):=
 eV pure (Cv x y (λa b=>a^^^b))
theorem Gb:binOp .andNot t (U x) (U y)=pure (U (x &&& ~~~y)):=
 eV pure (Cv x y (λa b=>a &&& ~~~b))
theorem Gm{n:Int}(z:fi)(h:n%18446744073709551616=z.toNat):(.int .u64 (IntKind.u64.wrap n):aC)=U z:=by
 rw[IntKind.wrap_u64,h];rfl
theorem PA:binOp .sub t (U x) (U y)=pure (U (x - y)):=
 eV pure (Gm _ (by rw[BitVec.toNat_sub];have:=x.isLt;have:=y.isLt;omega))
theorem PC:binOp .mul t (U x) (U y)=pure (U (x*y)):=
 eV pure (Gm _ (by rw[BitVec.toNat_mul,Int.natCast_emod,Int.natCast_mul];rfl))
theorem cast_inj:((x.toNat:Int)=y.toNat)↔x=y:=by
 rw[Int.ofNat_inj];exact BitVec.toNat_inj
theorem PD:binOp .eql t (U x) (U y)=pure (.bool (x==y)):=by
 have e:((x.toNat:Int)==(y.toNat:Int))=(x==y):=by rw[dU];simp[cast_inj]
 rw[<-e];rfl
theorem PB:binOp .neq t (U x) (U y)=pure (.bool (x !=y)):=by
 have e:((x.toNat:Int) !=(y.toNat:Int))=(x !=y):=by rw[dU];simp[cast_inj]
 rw[<-e];rfl
theorem TM:(18446744073709551616:Nat)=2^64:=aI
theorem Ek(k:aw)(n:Nat):binOp .shl t (U x) (.int k (n:Int))=pure (U (x<<<n)):=by
 show Op.shift .shl .u64 (x.toNat:Int) k (n:Int)=_;unfold Op.shift;rw[if_neg aH];refine eV pure (Gm _ ?_);rw[BitVec.toNat_shiftLeft,Nat.shiftLeft_eq,dy];show((x.toNat:Int)*2^(min n 64))%((18446744073709551616:Nat):Int)=_;rw[TM];by_cases h:n<=64;rw[Nat.min_eq_left h];norm_cast
 rw[Nat.min_eq_right aH];have e1:x.toNat*2^n%2^64=0:=by
  obtain⟨d,rfl⟩:∃d,n=64+d:=⟨n - 64,aH⟩;rw[Nat.pow_add,<-Nat.mul_assoc,Nat.mul_right_comm];exact Nat.mul_mod_left _ _
 rw[e1];norm_cast;exact Nat.mul_mod_left _ _
theorem Ej(k:aw)(n:Nat):binOp .shr t (U x) (.int k (n:Int))=pure (U (x>>>n)):=by
 show Op.shift .shr .u64 (x.toNat:Int) k (n:Int)=_;unfold Op.shift;rw[if_neg aH];refine eV pure (eV (Value.int .u64) ?_);rw[BitVec.toNat_ushiftRight,Nat.shiftRight_eq_div_pow,dy];show Int.fdiv (x.toNat:Int) (2^(min n 64))=_;have hf:∀m:Nat,Int.fdiv (x.toNat:Int) (2^m)=((x.toNat / 2^m:Nat):Int):=by
  intro m;rw[Int.fdiv_eq_ediv_of_nonneg _ (Int.pow_nonneg aI)];norm_cast
 rw[hf];by_cases h:n<=64;rw[Nat.min_eq_left h];rw[Nat.min_eq_right aH,Nat.div_eq_of_lt x.isLt,Nat.div_eq_of_lt];exact dt x.isLt (cS aI aH)
theorem Jb(op:BinOp)(a b:au):eqGuard op t a b (U x) (U y)=pure ():=by
 unfold eqGuard U;cases op<;>rfl
theorem unary_neg:Op.unary .neg (U x)=pure (U (-x)):=
 eV pure (Gm _ (by rw[BitVec.toNat_neg];have:=x.isLt;omega))
theorem unary_xor:Op.unary .xor (U x)=pure (U (~~~x)):=by
 have e:BitVec.ofInt 64 IntKind.u64.max=BitVec.allOnes 64:=aI;refine eV pure ?_;show(.int .u64 (IntKind.u64.wrap ((BitVec.ofInt 64 IntKind.u64.max^^^BitVec.ofInt 64 (x.toNat:Int)).toNat:Int)):aC)=_;rw[qt,yC,e,BitVec.allOnes_xor];rfl
end
end Go.Proofs.Wit
namespace Go.Proofs.Wit
open Go
section
variable{a:Act}{b:Frame}{i:Nat}{o:Oper}{ops:aj}{rest:aq}
def vm(f:ay)(r:ah)(t:af)(ds:List Deferred)(k:al):Frame:=
 {fn:=f,tmps:=t,todo:=k,defers:=ds,mode:=.run,kind:=.normal,roundOf:=r}
def WL(P:av)(r:ah)(f:ay)(cs:List Frame)(v:aC)(w:aB)(m:Machine):Prop:=
 match r with
 |none=>∃fr,m=lone fr cs w/\fr.fn=f/\fr.leaving P w (.returned v)
 |some _=>∃c cs',cs=c::cs'/\m=lone (c.finish v) cs' w
def ki(P:av)(r:ah)(f:ay)(R:aC->aB->Prop)(k:al)(t:af)(ds:List Deferred)(w:aB):Prop:=
 ∀cs:List Frame,(r.isSome=true->cs≠[])->∃v w' m,R v w'/\Steps P (lone (vm f r t ds k) cs w) m/\WL P r f cs v w' m
section
variable{P:av}{r:ah}{f:ay}{R:aC->aB->Prop}{k k':al}{t t':af}{ds ds':List Deferred}{w w':aB}
theorem iH:vm f r t ds k=(vm f r #[] [] []).atR ⟨t,ds⟩ k:=rfl
theorem ki.step(hs:∀cs,step P (lone (vm f r t ds k) cs w)=.next (lone (vm f r t' ds' k') cs w'))(h:ki P r f R k' t' ds' w'):ki P r f R k t ds w:=by
 intro cs hc;obtain⟨v,p,m,D,kz,C⟩:=h cs hc;exact⟨v,p,m,D,.head (hs cs) kz,C⟩
theorem ki.skip(h:ki P r f R k t ds w):ki P r f R (.code .skip::k) t ds w:=.step (λ_=>by rw[iH,iH];exact stepR_skip) h
theorem ki.inBlock{id:Nat}(h:ki P r f R k t ds w):ki P r f R (.inBlock id::k) t ds w:=.step (λ_=>by rw[iH,iH];exact stepR_inBlock) h
theorem ki.seq{x y:Code}(h:ki P r f R (.code x::.code y::k) t ds w):ki P r f R (.code (.seq x y)::k) t ds w:=.step (λ_=>by rw[iH,iH];exact stepR_seq) h
theorem ki.block{id:Nat}{c:Code}(h:ki P r f R (.code c::.inBlock id::k) t ds w):ki P r f R (.code (.block id c)::k) t ds w:=.step (λ_=>by rw[iH,iH];exact stepR_block) h
theorem ki.loop{c:Code}(h:ki P r f R (.code c::.inLoop c::k) t ds w):ki P r f R (.code (.loop c)::k) t ds w:=.step (λ_=>by rw[iH,iH];exact stepR_loop) h
theorem ki.inLoop{c:Code}(h:ki P r f R (.code c::.inLoop c::k) t ds w):ki P r f R (.inLoop c::k) t ds w:=.step (λ_=>by rw[iH,iH];exact stepR_inLoop) h
theorem ki.exit{id:Nat}(he:exitTo id k=some k')(h:ki P r f R k' t ds w):ki P r f R (.code (.exit id)::k) t ds w:=.step (λ_=>by rw[iH,iH];exact stepR_exit he) h
theorem Ao  {k:al}{cs:List Frame}{w:aB}{c:Code}:
  Go.step P (lone (b.atR a (.inScope c::k)) cs w)=.next (lone (b.atR a k) cs w):=
 step_lone_go (by simp[stepG,stepG.exec,Frame.atR])
theorem ki.inScope{c:Code}(h:ki P r f R k t ds w):ki P r f R (.inScope c::k) t ds w:=.step (λ_=>by rw[iH,iH];exact Ao) h
theorem ki.cond{c:au}{x y:Code}{b:Bool}(hc:(⟨t,ds⟩:Act).eval c=.bool b)(h:ki P r f R (.code (if b then x else y)::k) t ds w):ki P r f R (.code (.cond c x y)::k) t ds w:=.step (λ_=>by rw[iH,iH];exact stepR_cond hc) h
theorem ki.region{id:Nat}{ops:aj}(h:ki P r f R (.inRegion ops (List.range ops.size)::k) t ds w):ki P r f R (.code (.region id ops false)::k) t ds w:=.step (λ_=>by rw[iH,iH];exact stepR_region) h
theorem ki.nW{id:Nat} (h:∀n,ki P r f R (.inRegion ops (Region.schedule (P.follows .mixedOrders) ops n)::k) t ds {w with drawn:=w.drawn+1}):ki P r f R (.code (.region id ops true)::k) t ds w:=.step (λ_=>by rw[iH,iH];exact stepR_region_draw) (h _)
theorem ki.oX (h:ki P r f R k t ds w):ki P r f R (.inRegion ops []::k) t ds w:=.step (λ_=>by rw[iH,iH];exact stepR_region_end) h
theorem put_eq(t:af)(ds:List Deferred)(d:Option Tmp)(v:aC):((⟨t,ds⟩:Act).put d v)=⟨((⟨t,ds⟩:Act).put d v).tmps,ds⟩:=by cases d<;>rfl
theorem Is  {cs:List Frame}    {nx:Next}{v:aC}(ho:ops[i]?=some o)(hw:Region.wanted o (yielded ops a.tmps)=true)(h:∀c,o.op≠.defer c)
  (p:(execOp a.eval o).run P w=.ok nx w')(hx:nx=.value v\/(nx=.skip/\v=undef)):
  Go.step P (lone (b.atR a (.inRegion ops (i::rest)::k)) cs w)=.next (lone (b.atR (a.put o.dst v) (.inRegion ops rest::k)) cs w'):=by
 refine step_lone_go ?_;rw[stepGR_op ho hw,Oper.semAt_eq _ _ _ h];have hf:=Frame.finish_atR b a ops i rest k v;rw[ho]at hf;simp only[Option.bind_some]at hf;rcases hx with rfl|⟨rfl,rfl⟩;simp[stepG.apply,Sem.runT_eq,p,GStep.bare_after,hf];simp[stepG.apply,Sem.runT_eq,p,GStep.bare_after,hf]
theorem C4  {cs:List Frame}    {g:ay}{args:af}(ho:ops[i]?=some o)(hw:Region.wanted o (yielded ops a.tmps)=true)(h:∀c,o.op≠.defer c)
  (p:(execOp a.eval o).run P w=.ok (.enter g args) w'):
  Go.step P (lone (b.atR a (.inRegion ops (i::rest)::k)) cs w)=.next (lone (Frame.enter P g args .normal) (b.atR a (.inRegion ops (i::rest)::k)::cs) w'):=by
 refine step_lone_go ?_;rw[stepGR_op ho hw,Oper.semAt_eq _ _ _ h];simp[stepG.apply,Sem.runT_eq,p,GStep.bare_after,Frame.atR]
theorem C3  {cs:List Frame}    {l fn:Nat}{tmps:af}{assign body:Code}(ho:ops[i]?=some o)(hw:Region.wanted o (yielded ops a.tmps)=true)(h:∀c,o.op≠.defer c)
  (p:(execOp a.eval o).run P w=.ok (.round l fn tmps assign body) w'):
  Go.step P (lone (b.atR a (.inRegion ops (i::rest)::k)) cs w)=.next (lone (Frame.round l fn tmps assign body .normal) (b.atR a (.inRegion ops (i::rest)::k)::cs) w'):=by
 refine step_lone_go ?_;rw[stepGR_op ho hw,Oper.semAt_eq _ _ _ h];simp[stepG.apply,Sem.runT_eq,p,GStep.bare_after,Frame.atR]
theorem Bl      (ho:ops[i]?=some o)(v:aC):(b.atR a (.inRegion ops (i::rest)::k)).finish v=b.atR (a.put o.dst v) (.inRegion ops rest::k):=by
 rw[Frame.finish_atR,ho];rfl
theorem ki.op{ops:aj}{i:Nat}{rest:aq}{o:Oper}{nx:Next}{v:aC}(ho:ops[i]?=some o)(hw:Region.wanted o (yielded ops t)=true)(p:∀c,o.op≠.defer c)
  (C:(execOp (Act.eval ⟨t,ds⟩) o).run P w=.ok nx w')(hx:nx=.value v\/(nx=.skip/\v=undef))
  (h:ki P r f R (.inRegion ops rest::k) ((⟨t,ds⟩:Act).put o.dst v).tmps ds w'):ki P r f R (.inRegion ops (i::rest)::k) t ds w:=by
 refine .step (λcs=>?_) h;have hs:=Is (b:=vm f r #[] [] []) (a:=⟨t,ds⟩) (k:=k) (cs:=cs) (rest:=rest) ho hw p C hx;rw[put_eq]at hs;exact hs
theorem om    (ho:ops[i]?=some o)(hw:Region.wanted o (yielded ops t)=false)
  (h:ki P r f R (.inRegion ops rest::k) ((⟨t,ds⟩:Act).put o.dst undef).tmps ds w):ki P r f R (.inRegion ops (i::rest)::k) t ds w:=by
 refine .step (λcs=>?_) h;have hs:=stepR_op_skip (P:=P) (b:=vm f r #[] [] []) (a:=⟨t,ds⟩) (k:=k) (cs:=cs) (w:=w) (ops:=ops) (i:=i) (rest:=rest) (by simp[ho,hw]);rw[ho,Option.bind_some,put_eq]at hs;exact hs
theorem ki.call    {g:ay}{args:af}{Rc:aC->aB->Prop}(ho:ops[i]?=some o)(hw:Region.wanted o (yielded ops t)=true)(F:∀c,o.op≠.defer c)
  (Q:(execOp (Act.eval ⟨t,ds⟩) o).run P w=.ok (.enter g args) w')(hc:Calls P g args w' λe D=>∃v,e=.returned v/\Rc v D)
  (h:∀v D,Rc v D->ki P r f R (.inRegion ops rest::k) ((⟨t,ds⟩:Act).put o.dst v).tmps ds D):ki P r f R (.inRegion ops (i::rest)::k) t ds w:=by
 intro cs J;obtain⟨e,D,fr,⟨v,rfl,K⟩,C,S,p⟩:=hc (vm f r t ds (.inRegion ops (i::rest)::k)::cs);obtain⟨O,N,m,T,kz,E⟩:=h v D K cs J;have h1:=C4 (b:=vm f r #[] [] []) (a:=⟨t,ds⟩) (k:=k) (cs:=cs) (rest:=rest) ho hw F Q;have h2:=step_leave_returned (c:=vm f r t ds (.inRegion ops (i::rest)::k)) (cs:=cs) p;have M:=Bl (b:=vm f r #[] [] []) (a:=⟨t,ds⟩) (k:=k) (rest:=rest) ho v;rw[put_eq]at M;exact⟨O,N,m,T,.head h1 (Steps.trans C (.head (h2.trans (eV (λx=>Stepped.next (lone x cs D)) M)) kz)),E⟩
def Vp(P:av)(l:Nat)(args:af)(w:aB)(Rr:aC->aB->Prop):Prop:=
 ∃fn tmps assign body,(Instr.yield l args).run P w=.ok (.round l fn tmps assign body) w/\
  ∀(c:Frame) (cs:List Frame),∃v w',Rr v w'/\Steps P (lone (Frame.round l fn tmps assign body .normal) (c::cs) w) (lone (c.finish v) cs w')
theorem ki.yield{ops:aj}{i:Nat}{rest:aq}{o:Oper}{l:Nat}{args:af}{Q:aC->aB->Prop}(ho:ops[i]?=some o)(hw:Region.wanted o (yielded ops t)=true)(J:∀c,o.op≠.defer c)
  (N:(execOp (Act.eval ⟨t,ds⟩) o).run P w=(Instr.yield l args).run P w)(hc:Vp P l args w Q)
  (h:∀v D,Q v D->ki P r f R (.inRegion ops rest::k) ((⟨t,ds⟩:Act).put o.dst v).tmps ds D):ki P r f R (.inRegion ops (i::rest)::k) t ds w:=by
 intro cs K;obtain⟨fn,tmps,assign,body,hy,E⟩:=hc;rw[hy]at N;obtain⟨v,D,M,C⟩:=E (vm f r t ds (.inRegion ops (i::rest)::k)) cs;obtain⟨T,S,m,W,kz,F⟩:=h v D M cs K;have h1:=C3 (b:=vm f r #[] [] []) (a:=⟨t,ds⟩) (k:=k) (cs:=cs) (rest:=rest) ho hw J N;have O:=Bl (b:=vm f r #[] [] []) (a:=⟨t,ds⟩) (k:=k) (rest:=rest) ho v;rw[put_eq]at O;have p:Steps P (lone (Frame.round l fn tmps assign body .normal) (vm f r t ds (.inRegion ops (i::rest)::k)::cs) w) (lone (vm f r ((⟨t,ds⟩:Act).put o.dst v).tmps ds (.inRegion ops rest::k)) cs D):=by
  have:=C;rw[show(vm f r t ds (.inRegion ops (i::rest)::k)).finish v=_ from O]at this;exact this
 exact⟨T,S,m,W,.head h1 (Steps.trans p kz),F⟩
end
end
end Go.Proofs.Wit
namespace Go.Proofs.Wit
open Go Go.RowKit
abbrev Fl:=List (Nat×aC)
def look:Fl->Nat->Option aC
 |[],_=>none
 |(j,v)::l,i=>cond (Nat.beq j i) (some v) (look l i)
def pJ(n:Nat)(t:af)(l:Fl):Prop:=t.size=n/\∀i v,look l i=some v->t.getD i undef=v
theorem pJ.put{n:Nat}{t:af}{l:Fl}(h:pJ n t l){d:Nat}(v:aC)(hd:Nat.blt d n=true):pJ n (t.setIfInBounds d v) ((d,v)::l):=by
 have hd':d<n:=by simpa[eT]using hd
 refine⟨by simp[h.1],λi u hu=>?_⟩;unfold look at hu;cases hb:Nat.beq d i with
 |true=>
  obtain rfl:=Nat.eq_of_beq_eq_true hb;rw[hb]at hu;cases hu;simp[h.1,hd']
 |false=>
  rw[hb]at hu;have hne:d≠i:=Nat.ne_of_beq_eq_false hb;have:=h.2 i u hu;rw[<-this];simp[hne]
def fW(l:Fl):au->Option aC
 |.tmp i=>look l i
 |.const v=>some v
 |.global g=>some (aQ g)
 |.func f=>some (.func (.func f) #[] #[])
theorem pJ.fW{n:Nat}{t:af}{l:Fl}(h:pJ n t l){x:au}{v:aC}(hx:fW l x=some v)(ds:List Deferred):Act.eval ⟨t,ds⟩ x=v:=by
 cases x<;>simp only[Wit.fW,dD]at hx
 exact h.2 _ _ hx
 all_goals exact hx
def iW(l:Fl):List au->Option ai
 |[]=>some []
 |x::xs=>match Wit.fW l x,iW l xs with
  |some v,some vs=>some (v::vs)
  |_,_=>none
theorem pJ.iW{n:Nat}{t:af}{l:Fl}(h:pJ n t l)(ds:List Deferred):∀{xs:List au} {vs:ai},iW l xs=some vs->xs.map (Act.eval ⟨t,ds⟩)=vs:=by
 intro xs
 induction xs with
 |nil=>intro vs e;cases e;rfl
 |cons x xs ih=>
  intro vs e;simp only[Wit.iW]at e;cases hx:Wit.fW l x with
  |none=>simp[hx]at e
  |some v=>
   cases hxs:Wit.iW l xs with
   |none=>simp[hx,hxs]at e
   |some us=>
    simp only[hx,hxs,dD]at e;subst e;rw[eG,h.fW hx,ih hxs]
def nN:Fl->Fl->Prop
 |[],_=>True
 |(i,v)::l',l=>look l i=some v/\nN l' l
theorem nN.nil{l:Fl}:nN [] l:=eZ
theorem nN.cons{l l':Fl}{i:Nat}{v:aC}(h:look l i=some v)(h':nN l' l):nN ((i,v)::l') l:=⟨h,h'⟩
theorem nN.look{l:Fl}:∀{l':Fl},nN l' l->∀{i v},look l' i=some v->Wit.look l i=some v
 |[],_,_,_,h=>by cases h
 |(j,u)::l',hs,i,v,h=>by
  unfold Wit.look at h;cases hb:Nat.beq j i with
  |true=>rw[hb]at h;obtain rfl:=Nat.eq_of_beq_eq_true hb;cases h;exact hs.1
  |false=>rw[hb]at h;exact nN.look hs.2 h
theorem pJ.sub{n:Nat}{t:af}{l l':Fl}(h:pJ n t l)(hs:nN l' l):pJ n t l':=⟨h.1,λi v hv=>h.2 i v (hs.look hv)⟩
def ub:Obj->Bool
 |.loop _|.deferred _=>true
 |_=>false
structure Ex (S:aq) (w0 w:aB):Prop where
  os:w.os=w0.os
  tape:w.tape=w0.tape
  output:w.output=w0.output
  size:w0.heap.size<=w.heap.size
  block:∀b,b<w0.heap.size->b∉S->w.heap[b]?=w0.heap[b]?
theorem Ex.refl(S:aq)(w:aB):Ex S w w:=⟨rfl,rfl,rfl,eR _,λ_ _ _=>rfl⟩
theorem Ex.trans{S S':aq}{a b c:aB}(h:Ex S a b)(k:Ex S' b c)(hS:∀x∈S',x∈S\/a.heap.size<=x):Ex S a c:=
 ⟨k.os.trans h.os,k.tape.trans h.tape,k.output.trans h.output,eM h.size k.size,λi hi hn=>
  (k.block i (dt hi h.size) (λhm=>by rcases hS i hm with h'|h';exact hn h';omega)).trans (h.block i hi hn)⟩
theorem Ex.toBelow{w0 w:aB}(h:Ex [] w0 w):Below w0.heap.size w0 w:=⟨h.os,h.tape,h.output,h.size,λk hk=>h.block k hk aL⟩
abbrev Hl:=List (ah×Obj)
def mark(D:Nat):Deferred:={target:=.collected D,args:=#[]}
def uH(p q:ah×Obj):Prop:=∀b,p.1=some b->q.1≠some b
structure St (w0:aB) (S:aq) (w:aB) (h:Hl) (Y:List (Nat×Obj)):Prop where
  ext:Ex S w0 w
  own:∀p∈h,∀b,p.1=some b->w.heap[b]?=some p.2/\ub p.2=false/\(w0.heap.size<=b\/b∈S)
  apart:h.Pairwise uH
  sys:∀p∈Y,w0.heap.size<=p.1/\w.heap[p.1]?=some p.2/\ub p.2=true
  CP:(Y.map (·.1)).Nodup
def uy(Ds:aq):List (Nat×Obj):=Ds.map (λD=>(D,.deferred (some [])))
section
variable{w0:aB}{S:aq}{w w':aB}{h:Hl}{Y:List (Nat×Obj)}
theorem St.get(s:St w0 S w h Y){j b:Nat}{o:Obj}(hj:h[j]?=some (some b,o)):w.heap[b]?=some o:=
 (s.own _ (cP hj) b rfl).1
theorem St.lt(s:St w0 S w h Y){j b:Nat}{o:Obj}(hj:h[j]?=some (some b,o)):b<w.heap.size:=
 (aX.1 (s.get hj)).1
theorem St.inj(s:St w0 S w h Y){i j b:Nat}{o o':Obj}(hi:h[i]?=some (some b,o))(hj:h[j]?=some (some b,o')):i=j:=by
 obtain⟨i1,i2⟩:=bB.1 hi;obtain⟨j1,j2⟩:=bB.1 hj;have:=bE.1 s.apart;rcases Nat.lt_trichotomy i j with hlt|he|hlt;exact absurd (by rw[j2]) (this i j i1 j1 hlt b (by rw[i2]));exact he;exact absurd (by rw[i2]) (this j i j1 i1 hlt b (by rw[j2]))
theorem heap_alloc_new(w:aB)(o:Obj):(w.alloc o).heap[w.heap.size]?=some o:=by
 show(w.heap.push o)[w.heap.size]?=some o;simp
theorem St.wy(s:St w0 S w h Y){b:Nat}{o:Obj}(hb:w.heap.size<=b):∀q∈h,uH (some b,o) q:=by
 intro q hq c hc hqc;cases hc;have:=(aX.1 (s.own q hq b hqc).1).1;omega
theorem St.later(s:St w0 S w h Y)(e:Ex [] w w'):St w0 S w' h Y:=by
 have hk:∀b (o:Obj),w.heap[b]?=some o->w'.heap[b]?=some o:=λb o hb=>by
  rw[e.block b (aX.1 hb).1 aL];exact hb
 refine⟨s.ext.trans e aL,λp hp b hb=>?_,s.apart,λD hD=>?_,s.CP⟩;obtain⟨h1,h2,h3⟩:=s.own p hp b hb;exact⟨hk _ _ h1,h2,h3⟩;obtain⟨h1,h2,h3⟩:=s.sys D hD;exact⟨h1,hk _ _ h2,h3⟩
theorem St.DW(s:St w0 S w h Y)(e:Ex [] w w'){b:Nat}{o:Obj}(hb:w'.heap[b]?=some o)(ho:ub o=false)(hn:w.heap.size<=b):St w0 S w' ((some b,o)::h) Y:=by
 have s':=s.later e;refine⟨s'.ext,?_,List.pairwise_cons.2 ⟨s.wy hn,s.apart⟩,s'.sys,s'.CP⟩;intro p hp c hc;rcases eH.1 hp with rfl|hp;cases hc;exact⟨hb,ho,.inl (eM s.ext.size hn)⟩;exact s'.own p hp c hc
theorem vF(w:aB)(o:Obj):Ex [] w (w.alloc o):=
 ⟨rfl,rfl,rfl,by rw[World.size_alloc];omega,λb hb _=>Below.heap_alloc _ _ _ hb⟩
theorem St.alloc(s:St w0 S w h Y){o:Obj}(ho:ub o=false):St w0 S (w.alloc o) ((some w.heap.size,o)::h) Y:=
 s.DW (vF w o) (heap_alloc_new w o) ho (eR _)
theorem St.none(s:St w0 S w h Y)(o:Obj):St w0 S w ((none,o)::h) Y:=
 ⟨s.ext,λp hp c hc=>by
  rcases eH.1 hp with rfl|hp;cases hc;exact s.own p hp c hc,List.pairwise_cons.2 ⟨λq _ c hc=>by simp at hc,s.apart⟩,s.sys,s.CP⟩
theorem Cb(w:aB):Ex [] w {w with drawn:=w.drawn+1}:=⟨rfl,rfl,rfl,eR _,λ_ _ _=>rfl⟩
theorem St.drew(s:St w0 S w h Y):St w0 S {w with drawn:=w.drawn+1} h Y:=s.later (Cb w)
theorem St.xw(s:St w0 S w h Y){j b:Nat}{o o':Obj}(hj:h[j]?=some (some b,o))(ho:ub o'=false)
  (h1:w'.os=w.os)(h2:w'.tape=w.tape)(h3:w'.output=w.output)(h4:w.heap.size<=w'.heap.size)(h5:w'.heap[b]?=some o')(h6:∀i,i<w.heap.size->i≠b->w'.heap[i]?=w.heap[i]?):St w0 S w' (h.set j (some b,o')) Y:=by
 have hb:=s.own _ (cP hj) b rfl;have hjl:j<h.length:=(bB.1 hj).1;have hbl:=s.lt hj;refine⟨⟨h1.trans s.ext.os,h2.trans s.ext.tape,h3.trans s.ext.output,eM s.ext.size h4,?_⟩,?_,?_,?_,s.CP⟩;intro i hi hn;have hne:i≠b:=by
  rintro rfl;rcases hb.2.2 with hc|hc;omega;exact hn hc
 rw[h6 i (dt hi s.ext.size) hne];exact s.ext.block i hi hn;intro p hp c hc;obtain⟨i,hi⟩:=List.mem_iff_getElem?.1 hp;rw[List.getElem?_set]at hi;split at hi;rename_i e;subst e;simp at hi;obtain⟨_,rfl⟩:=hi;cases hc;exact⟨h5,ho,hb.2.2⟩;rename_i hne;obtain⟨q1,q2,q3⟩:=s.own p (cP hi) c hc;refine⟨?_,q2,q3⟩;rw[h6 c (aX.1 q1).1 ?_];exact q1;rintro rfl;obtain⟨p1,p2⟩:=p;simp only at hc;subst hc;exact hne (s.inj hj hi);rw[bE];intro i i' hi hi' hlt c hc hc';rw[dZ]at hi hi';have hap:=bE.1 s.apart i i' hi hi' hlt c;obtain⟨_,hj2⟩:=bB.1 hj;rw[List.getElem_set]at hc hc';apply hap;split at hc;rename_i e;subst e;rw[hj2];exact hc;exact hc;split at hc';rename_i e;subst e;rw[hj2];exact hc';exact hc';intro D hD;obtain⟨m1,m2,m3⟩:=s.sys D hD;refine⟨m1,?_,m3⟩;rw[h6 D.1 (aX.1 m2).1 ?_];exact m2;intro e;rw[e]at m2;have e1:=eA (hb.1.symm.trans m2);rw[<-e1,hb.2.1]at m3;cases m3
theorem St.js{h':Hl}(s:St w0 S w h Y)(hs:h'.Sublist h):St w0 S w h' Y:=
 ⟨s.ext,λp hp=>s.own p (hs.subset hp),s.apart.sublist hs,s.sys,s.CP⟩
theorem St.swap(s:St w0 S w h Y)(e:Ex [] w w')(j:Nat){b:Nat}{o:Obj}(hb:w'.heap[b]?=some o)(ho:ub o=false)(hn:w.heap.size<=b):St w0 S w' (h.set j (some b,o)) Y:=by
 have s':=s.later e;refine⟨s'.ext,?_,?_,s'.sys,s'.CP⟩;intro p hp c hc;obtain⟨i,hi⟩:=List.mem_iff_getElem?.1 hp;rw[List.getElem?_set]at hi;split at hi;simp at hi;obtain⟨_,rfl⟩:=hi;cases hc;exact⟨hb,ho,.inl (eM s.ext.size hn)⟩;exact s'.own p (cP hi) c hc;rw[bE];intro i i' hi hi' hlt c hc hc';rw[dZ]at hi hi';rw[List.getElem_set]at hc hc';split at hc;split at hc';omega;exact s.wy hn (o:=o) _ (dL hi') c hc hc';split at hc';exact s.wy hn (o:=o) _ (dL hi) c hc' hc;exact bE.1 s.apart i i' hi hi' hlt c hc hc'
end
section
variable{o:Oper}{t:af}{ops:aj}
def ff(P:av)(r:ah)(f:ay)(R:aC->aB->Prop)(w0:aB)(S:aq)(Y:List (Nat×Obj))(n:Nat)(k:al)(l:Fl)(h:Hl):Prop:=
 ∀t w Ds,pJ n t l->St w0 S w h (uy Ds++Y)->ki P r f R k t (Ds.map mark) w
def fE(ops:aj)(l:Fl):Option (Nat×Bool)->Bool
 |none=>true
 |some (j,want)=>match (ops[j]?).bind (·.dst)with
  |some d=>match look l d with
   |some (.bool b)=>b==want
   |_=>false
  |none=>false
def tW(ops:aj)(l:Fl):Option (Nat×Bool)->Bool
 |none=>false
 |some (j,want)=>match (ops[j]?).bind (·.dst)with
  |some d=>match look l d with
   |some (.bool b)=>b !=want
   |some (.tuple _)=>true
   |_=>false
  |none=>false
def lH:Op->Bool
 |.defer _=>true
 |_=>false
theorem jc{o:Op}(h:lH o=false):∀c,o≠.defer c:=by rintro c rfl;cases h
section
variable{P:av}{r:ah}{f:ay}{R:aC->aB->Prop}{w0:aB}{S:aq}{Y:List (Nat×Obj)}{n:Nat}{k k':al}{l l':Fl}{h h':Hl}
theorem yx  {j d:Nat}{v:aC}(hF:pJ n t l)(hd:(ops[j]?).bind (·.dst)=some d)(hv:look l d=some v)(hne:v≠undef):
  yielded ops t j=match v with|.bool b=>some b|_=>none:=by
 have h1:=hF.2 _ _ hv;unfold yielded;rw[hd];simp only[Option.bind_some];rw[aW]at h1;cases ht:t[d]? with
 |none=>rw[ht]at h1;simp at h1;exact absurd h1.symm hne
 |some u=>rw[ht]at h1;simp at h1;subst h1;cases u<;>rfl
theorem km   (hF:pJ n t l)(hw:fE ops l o.guard=true):Region.wanted o (yielded ops t)=true:=by
 unfold Region.wanted;cases hg:o.guard with
 |none=>rfl
 |some p=>
  obtain⟨j,want⟩:=p;rw[hg]at hw;simp only[fE]at hw;split at hw;rename_i d hd;split at hw;rename_i b hb;show(yielded ops t j==some want)=true;rw[yx hF hd hb (by simp[undef])];simp only[eU]at hw;subst hw;simp;cases hw;cases hw
theorem uX   (hF:pJ n t l)(hw:tW ops l o.guard=true):Region.wanted o (yielded ops t)=false:=by
 unfold Region.wanted;cases hg:o.guard with
 |none=>rw[hg]at hw;cases hw
 |some p=>
  obtain⟨j,want⟩:=p;rw[hg]at hw;simp only[tW]at hw;split at hw;rename_i d hd;split at hw;rename_i b hb;show(yielded ops t j==some want)=false;rw[yx hF hd hb (by simp[undef])];simp at hw⊢;exact hw;rename_i vs hb;have h1:=hF.2 _ _ hb;have:yielded ops t j=none:=by
   unfold yielded;rw[hd];simp only[Option.bind_some];rw[aW]at h1;cases ht:t[d]? with
   |none=>rfl
   |some u=>rw[ht]at h1;simp at h1;subst h1;rfl
  show(yielded ops t j==some want)=false;rw[this];rfl;cases hw;cases hw
theorem ff.sub(hs:nN l' l)(hg:ff P r f R w0 S Y n k l' h):ff P r f R w0 S Y n k l h:=λt w Ds hF hS=>hg t w Ds (hF.sub hs) hS
theorem ff.js(hs:h'.Sublist h)(hg:ff P r f R w0 S Y n k l h'):ff P r f R w0 S Y n k l h:=λt w Ds hF hS=>hg t w Ds hF (hS.js hs)
theorem ff.skip(hg:ff P r f R w0 S Y n k l h):ff P r f R w0 S Y n (.code .skip::k) l h:=λt w Ds hF hS=>.skip (hg t w Ds hF hS)
theorem ff.inBlock{id:Nat}(hg:ff P r f R w0 S Y n k l h):ff P r f R w0 S Y n (.inBlock id::k) l h:=λt w Ds hF hS=>.inBlock (hg t w Ds hF hS)
theorem ff.seq{x y:Code}(hg:ff P r f R w0 S Y n (.code x::.code y::k) l h):ff P r f R w0 S Y n (.code (.seq x y)::k) l h:=λt w Ds hF hS=>.seq (hg t w Ds hF hS)
theorem ff.block{id:Nat}{c:Code}(hg:ff P r f R w0 S Y n (.code c::.inBlock id::k) l h):ff P r f R w0 S Y n (.code (.block id c)::k) l h:=λt w Ds hF hS=>.block (hg t w Ds hF hS)
theorem ff.inScope{c:Code}(hg:ff P r f R w0 S Y n k l h):ff P r f R w0 S Y n (.inScope c::k) l h:=λt w Ds hF hS=>.inScope (hg t w Ds hF hS)
theorem ff.exit{id:Nat}(he:exitTo id k=some k')(hg:ff P r f R w0 S Y n k' l h):ff P r f R w0 S Y n (.code (.exit id)::k) l h:=λt w Ds hF hS=>.exit he (hg t w Ds hF hS)
theorem ff.region{id:Nat}{ops:aj}(hg:ff P r f R w0 S Y n (.inRegion ops (List.range' 0 ops.size)::k) l h):ff P r f R w0 S Y n (.code (.region id ops false)::k) l h:=λt w Ds hF hS=>.region (by rw[List.range_eq_range'];exact hg t w Ds hF hS)
theorem ff.oX{ops:aj}(hg:ff P r f R w0 S Y n k l h):ff P r f R w0 S Y n (.inRegion ops []::k) l h:=λt w Ds hF hS=>.oX (hg t w Ds hF hS)
theorem ff.cond{c:au}{x y:Code}{b:Bool}(hc:fW l c=some (.bool b))(ht:b=true->ff P r f R w0 S Y n (.code x::k) l h)(hf:b=false->ff P r f R w0 S Y n (.code y::k) l h):ff P r f R w0 S Y n (.code (.cond c x y)::k) l h:=λt w Ds hF hS=>
 .cond (hF.fW hc _) (by cases b;exact hf rfl t w Ds hF hS;exact ht rfl t w Ds hF hS)
theorem ff.Qq{c:au}{x y:Code}(hc:fW l c=some (.bool true))(ht:ff P r f R w0 S Y n (.code x::k) l h):ff P r f R w0 S Y n (.code (.cond c x y)::k) l h:=.cond hc (λ_=>ht) aK
theorem ff.WG{c:au}{x y:Code}(hc:fW l c=some (.bool false))(hf:ff P r f R w0 S Y n (.code y::k) l h):ff P r f R w0 S Y n (.code (.cond c x y)::k) l h:=.cond hc aK (λ_=>hf)
theorem ff.cases{d:Nat}{b:Bool}(hv:look l d=some (.bool b))(ht:b=true->ff P r f R w0 S Y n k ((d,.bool true)::l) h)(hf:b=false->ff P r f R w0 S Y n k ((d,.bool false)::l) h):ff P r f R w0 S Y n k l h:=by
 have key:∀t c,pJ n t l->b=c->pJ n t ((d,.bool c)::l):=by
  rintro t c hF rfl;refine⟨hF.1,λi u hu=>?_⟩;unfold look at hu;cases hb:Nat.beq d i with
  |true=>rw[hb]at hu;obtain rfl:=Nat.eq_of_beq_eq_true hb;cases hu;exact hF.2 _ _ hv
  |false=>rw[hb]at hu;exact hF.2 _ _ hu
 cases b;exact λt w Ds hF hS=>hf rfl t w Ds (key t _ hF rfl) hS;exact λt w Ds hF hS=>ht rfl t w Ds (key t _ hF rfl) hS
theorem ff.loop{σ:Type}{c:Code}(L:σ->Fl)(H:σ->Hl)(I:σ->Prop)(μ:σ->Nat)(s0:σ)(h0:I s0)(hl:nN (L s0) l)(hh:(H s0).Sublist h)
  (round:∀s,I s->(∀(s':σ) (l':Fl) (h':Hl),I s'->μ s'<μ s->nN (L s') l'->(H s').Sublist h'->ff P r f R w0 S Y n (.inLoop c::k) l' h')->ff P r f R w0 S Y n (.code c::.inLoop c::k) (L s) (H s)):
  ff P r f R w0 S Y n (.code (.loop c)::k) l h:=by
 have key:∀m s,μ s=m->I s->ff P r f R w0 S Y n (.code c::.inLoop c::k) (L s) (H s):=by
  intro m
  induction m using Nat.strongRecOn with
  |_ m ih=>
   intro s hm hI;refine round s hI (λs' l' h' hI' hlt hsl hsh=>?_);have:=ih (μ s') (hm ▸ hlt) s' rfl hI';exact .sub hsl (.js hsh (λt w Ds hF hS=>.inLoop (this t w Ds hF hS)))
 exact .sub hl (.js hh (λt w Ds hF hS=>.loop (key _ s0 rfl h0 t w Ds hF hS)))
theorem ff.val {i d:Nat}{rest:aq} {v:aC}(ho:ops[i]?=some o)(hw:fE ops l o.guard=true)(hdst:o.dst=some d)(hnd:lH o.op=false)(hd:Nat.blt d n=true)
  (hr:∀(t:af) (w:aB) (Ds:aq) (Y':List (Nat×Obj)),pJ n t l->St w0 S w h Y'->∃nx,(execOp (Act.eval ⟨t,Ds.map mark⟩) o).run P w=.ok nx w/\nx=.value v)
  (hk:ff P r f R w0 S Y n (.inRegion ops rest::k) ((d,v)::l) h):ff P r f R w0 S Y n (.inRegion ops (i::rest)::k) l h:=by
 intro t w Ds hF hS;obtain⟨nx,hx,rfl⟩:=hr t w Ds _ hF hS;refine ki.op ho (km hF hw) (jc hnd) hx (.inl rfl) ?_;rw[hdst];exact hk _ w Ds (hF.put v hd) hS
theorem ff.mem {i d:Nat}{rest:aq} (ho:ops[i]?=some o)(hw:fE ops l o.guard=true)(hdst:o.dst=some d)(hnd:lH o.op=false)(hd:Nat.blt d n=true)
  (hr:∀(t:af) (w:aB) (Ds:aq) (Y':List (Nat×Obj)),pJ n t l->St w0 S w h Y'->∃v w' h',(execOp (Act.eval ⟨t,Ds.map mark⟩) o).run P w=.ok (.value v) w'/\St w0 S w' h' Y'/\ff P r f R w0 S Y n (.inRegion ops rest::k) ((d,v)::l) h'):
  ff P r f R w0 S Y n (.inRegion ops (i::rest)::k) l h:=by
 intro t w Ds hF hS;obtain⟨v,w',h',hx,hS',hk⟩:=hr t w Ds _ hF hS;refine ki.op ho (km hF hw) (jc hnd) hx (.inl rfl) ?_;rw[hdst];exact hk _ w' Ds (hF.put v hd) hS'
theorem ff.V0 {i:Nat}{rest:aq} (ho:ops[i]?=some o)(hw:fE ops l o.guard=true)(hdst:o.dst=none)(hnd:lH o.op=false)
  (hr:∀(t:af) (w:aB) (Ds:aq) (Y':List (Nat×Obj)),pJ n t l->St w0 S w h Y'->∃w' h',(execOp (Act.eval ⟨t,Ds.map mark⟩) o).run P w=.ok .skip w'/\St w0 S w' h' Y'/\ff P r f R w0 S Y n (.inRegion ops rest::k) l h'):
  ff P r f R w0 S Y n (.inRegion ops (i::rest)::k) l h:=by
 intro t w Ds hF hS;obtain⟨w',h',hx,hS',hk⟩:=hr t w Ds _ hF hS;refine ki.op ho (km hF hw) (jc hnd) hx (.inr ⟨rfl,rfl⟩) ?_;rw[hdst];exact hk _ w' Ds hF hS'
theorem ff.no {i d:Nat}{rest:aq} (ho:ops[i]?=some o)(hw:tW ops l o.guard=true)(hdst:o.dst=some d)(hd:Nat.blt d n=true)
  (hk:ff P r f R w0 S Y n (.inRegion ops rest::k) ((d,undef)::l) h):ff P r f R w0 S Y n (.inRegion ops (i::rest)::k) l h:=by
 intro t w Ds hF hS;refine om ho (uX hF hw) ?_;rw[hdst];exact hk _ w Ds (hF.put undef hd) hS
def fh(P:av)(w0:aB)(S:aq)(n:Nat)(h:Hl)(ops:aj)(i:Nat)(l:Fl)(d:Nat)(v:aC):Prop:=
 ∃o,ops[i]?=some o/\fE ops l o.guard=true/\o.dst=some d/\lH o.op=false/\Nat.blt d n=true/\
  ∀(t:af) (w:aB) (Ds:aq) (Y':List (Nat×Obj)),pJ n t l->St w0 S w h Y'->∃nx,(execOp (Act.eval ⟨t,Ds.map mark⟩) o).run P w=.ok nx w/\nx=.value v
theorem fh.of {i d:Nat} {v:aC}(ho:ops[i]?=some o)(hw:fE ops l o.guard=true)(hdst:o.dst=some d)(hnd:lH o.op=false)(hd:Nat.blt d n=true)
  (hr:∀(t:af) (w:aB) (Ds:aq) (Y':List (Nat×Obj)),pJ n t l->St w0 S w h Y'->∃nx,(execOp (Act.eval ⟨t,Ds.map mark⟩) o).run P w=.ok nx w/\nx=.value v):fh P w0 S n h ops i l d v:=
 ⟨o,ho,hw,hdst,hnd,hd,hr⟩
theorem ff.v{ops:aj}{i d:Nat}{rest:aq}{v:aC}(hv:fh P w0 S n h ops i l d v)(hk:ff P r f R w0 S Y n (.inRegion ops rest::k) ((d,v)::l) h):ff P r f R w0 S Y n (.inRegion ops (i::rest)::k) l h:=by
 obtain⟨o,ho,hw,hdst,hnd,hd,hr⟩:=hv;exact .val ho hw hdst hnd hd hr hk
end
end
section
variable{p:Addr}{inf:TypeInfo}{az:aa}{ts:ab}{a:ae}{cs t:af}{vs xs:ai}{cal x y:au}
section
variable{P:av}{r:ah}{f:ay}{R:aC->aB->Prop}{w0:aB}{S:aq}{Y:List (Nat×Obj)}{n:Nat}{k k':al}{l l':Fl}{h h':Hl}
variable{ops:aj}{i d:Nat}{rest:aq}{ty:ax}{pos:aA}{aft:ak}{g:Option (Nat×Bool)}
theorem fh.mv {v:aC}(ho:ops[i]?=some ⟨some d,.move x,ty,pos,aft,g⟩)(hw:fE ops l g=true)(hx:fW l x=some v)(hd:Nat.blt d n=true):fh P w0 S n h ops i l d (v):=
 .of ho hw rfl rfl hd (λt w Ds _ hF _=>⟨_,by simp only[execOp,hF.fW hx];rfl,rfl⟩)
theorem fh.yt {v:aC}(ho:ops[i]?=some ⟨some d,.assign x,ty,pos,aft,g⟩)(hw:fE ops l g=true)(hx:fW l x=some v)(hd:Nat.blt d n=true):fh P w0 S n h ops i l d (v):=
 .of ho hw rfl rfl hd (λt w Ds _ hF _=>⟨_,by simp only[execOp,hF.fW hx];rfl,rfl⟩)
theorem fh.kq{c:au}{u:aC}(ho:ops[i]?=some ⟨some d,.pick c x y,ty,pos,aft,g⟩)(hw:fE ops l g=true)(hc:fW l c=some (.bool true))(hx:fW l x=some u)(hd:Nat.blt d n=true):fh P w0 S n h ops i l d (u):=
 .of ho hw rfl rfl hd (λt w Ds _ hF _=>⟨_,by simp only[execOp,hF.fW hc,hF.fW hx];rfl,rfl⟩)
theorem fh.Qa{c:au}{u:aC}(ho:ops[i]?=some ⟨some d,.pick c x y,ty,pos,aft,g⟩)(hw:fE ops l g=true)(hc:fW l c=some (.bool false))(hy:fW l y=some u)(hd:Nat.blt d n=true):fh P w0 S n h ops i l d (u):=
 .of ho hw rfl rfl hd (λt w Ds _ hF _=>⟨_,by simp only[execOp,hF.fW hc,hF.fW hy];rfl,rfl⟩)
def oO(P:av)(op:BinOp)(tx:ax)(a b v:aC):Prop:=∀(x y:au) (w:aB),(do eqGuard op tx x y a b;binOp op tx a b:Sem aC).run P w=.ok v w
theorem fh.bin{op:BinOp}{tx tyy:ax} {a b v:aC}(ho:ops[i]?=some ⟨some d,.binOp op tx x y tyy,ty,pos,aft,g⟩)(hw:fE ops l g=true)(hx:fW l x=some a)(hy:fW l y=some b)(hb:oO P op tx a b v)(hd:Nat.blt d n=true):fh P w0 S n h ops i l d (v):=
 .of ho hw rfl rfl hd (λt w Ds _ hF _=>⟨.value v,by
  have:=hb x y w;simp only[execOp,hF.fW hx,hF.fW hy];rw[Sem.run_bind,this];rfl,rfl⟩)
def S9(P:av)(op:UnOp)(a v:aC):Prop:=∀(w:aB),(Op.unary op a).run P w=.ok v w
theorem fh.un{op:UnOp}{tx:ax} {a v:aC}(ho:ops[i]?=some ⟨some d,.unOp op tx x,ty,pos,aft,g⟩)(hw:fE ops l g=true)(hx:fW l x=some a)(hb:S9 P op a v)(hd:Nat.blt d n=true):fh P w0 S n h ops i l d (v):=
 .of ho hw rfl rfl hd (λt w Ds _ hF _=>⟨.value v,by
  have:=hb w;simp only[execOp,hF.fW hx];rw[Sem.run_bind,this];rfl,rfl⟩)
def WU(P:av)(s t:ax)(a v:aC):Prop:=∀(w:aB),(convert s t a).run P w=.ok v w
theorem fh.conv{s t:ax} {a v:aC}(ho:ops[i]?=some ⟨some d,.convert s t x,ty,pos,aft,g⟩)(hw:fE ops l g=true)(hx:fW l x=some a)(hb:WU P s t a v)(hd:Nat.blt d n=true):fh P w0 S n h ops i l d (v):=
 .of ho hw rfl rfl hd (λt w Ds _ hF _=>⟨.value v,by
  have:=hb w;simp only[execOp,hF.fW hx];rw[Sem.run_bind,this];rfl,rfl⟩)
theorem fh.ext {j:Nat}{vs:af}{v:aC}(ho:ops[i]?=some ⟨some d,.extract x j,ty,pos,aft,g⟩)(hw:fE ops l g=true)(hx:fW l x=some (.tuple vs))(hb:vs[j]?=some v)(hd:Nat.blt d n=true):fh P w0 S n h ops i l d (v):=
 .of ho hw rfl rfl hd (λt w Ds _ hF _=>⟨.value v,by
  simp only[execOp,hF.fW hx,Instr.extract,hb];rfl,rfl⟩)
theorem l4{fn:Fn}{first captured:aa}{fs cs:ai}(ho:ops[i]?=some ⟨some d,.makeFunc fn first captured,ty,pos,aft,g⟩)(hw:fE ops l g=true)(hf:iW l first.toList=some fs)(hc:iW l captured.toList=some cs)(hd:Nat.blt d n=true):fh P w0 S n h ops i l d (.func fn fs.toArray cs.toArray):=
 .of ho hw rfl rfl hd (λt w Ds _ hF _=>⟨.value (.func fn fs.toArray cs.toArray),by
  have e1:first.map (Act.eval ⟨t,Ds.map mark⟩)=fs.toArray:=by rw[<-dF];simp[hF.iW (Ds.map mark) hf]
  have e2:captured.map (Act.eval ⟨t,Ds.map mark⟩)=cs.toArray:=by rw[<-dF];simp[hF.iW (Ds.map mark) hc]
  simp only[execOp,Instr.makeFunc,e1,e2];rfl,rfl⟩)
def Vg(P:av)(b:Builtin)(ts:ab)(ty:ax)(vs:ai)(v:aC):Prop:=∀(cs:Array Bool) (w:aB),(builtin b ts ty cs vs.toArray).run P w=.ok (.value v) w
theorem fh.blt{b:Builtin}{az:aa}{ts:ab}{vs:ai}{v:aC}(ho:ops[i]?=some ⟨some d,.call ⟨.builtin b,az,ts⟩,ty,pos,aft,g⟩)(hw:fE ops l g=true)(hx:iW l az.toList=some vs)(hb:Vg P b ts ty vs v)(hd:Nat.blt d n=true):fh P w0 S n h ops i l d (v):=
 .of ho hw rfl rfl hd (λt w Ds _ hF _=>⟨.value v,by
  have e1:az.map (Act.eval ⟨t,Ds.map mark⟩)=vs.toArray:=by rw[<-dF];simp[hF.iW (Ds.map mark) hx]
  have:=hb (az.map λ|.const _=>true|_=>false) w;simp only[execOp,resolve,e1,Sem.run_bind,Sem.run_pure,Result.andThen_ok,invoke];exact this,rfl⟩)
theorem qB{t e:ax}(hu:P.underlying t=some (.slice e)) {m c:Nat}:Vg P .len #[t] ty [.slice a m c] (aS m):=by
 intro cs w;simp[builtin,Builtin.len_,run_underlying hu,goInt]
def tS(a:ae)(i:Nat):Addr:=⟨(a.getD ⟨0,0,none⟩).block,(a.getD ⟨0,0,none⟩).off+i,none⟩
structure Sl (w:aB) (a:ae) (xs:ai):Prop where
  isSome:0<xs.length->∃b o,a=some ⟨b,o,none⟩/\b<w.heap.size
  cell:∀i,i<xs.length->w.cell? (tS a i)=some (xs.getD i undef)
theorem Sl.ex{w0 w:aB}{S:aq}  (h:Sl w0 a xs)(e:Ex S w0 w)(hS:∀b o,a=some ⟨b,o,none⟩->b∉S):Sl w a xs:=by
 refine⟨λh0=>?_,λi hi=>?_⟩;obtain⟨b,o,ha,hb⟩:=h.isSome h0;exact⟨b,o,ha,dt hb e.size⟩;obtain⟨b,o,ha,hb⟩:=h.isSome aH;rw[<-h.cell i hi];refine World.cell?_of_block ?_;subst ha;exact e.block b hb (hS b o rfl)
theorem Sl.nil(w:aB)(a:ae):Sl w a []:=⟨λh=>by simp at h,λi hi=>by simp at hi⟩
theorem Sl.jd{w:aB}{b:Nat}{sp:ai}{e:ax}{fr:Nat×Nat}(h:w.heap[b]?=some (.cells (xs++sp).toArray e fr)):Sl w (aR b) xs:=by
 refine⟨λ_=>⟨b,0,rfl,(aX.1 h).1⟩,λi hi=>?_⟩;simp[World.cell?,tS,h,List.getElem?_append,hi]
theorem OY{w:aB}  (h:Sl w a xs){t e:ax}
  (hu:P.underlying t=some (.slice e))(he:∀w,(sizeOf e).run P w=.ok 1 w)(cap:Nat)(kd:aw)(j:Nat)(hj:j<xs.length)(w':aB):
  (Instr.indexAt t (.slice a xs.length cap) (.int kd j)).run P w'=.ok (.pointer (some (tS a j))) w':=by
 obtain⟨b,o,rfl,_⟩:=h.isSome aH;simp only[Instr.indexAt,asIntOf,Sem.run_bind,Sem.run_pure,Result.andThen_ok,run_underlying hu];rw[if_pos ⟨aH,aH⟩];simp only[Sem.run_bind,he,Result.andThen_ok,Sem.run_pure,Addr.add,tS,eS,Option.getD_some,dy];split;rename_i h0;rw[h0];rfl;rfl
theorem fM{t e:ax}  {m cap:Nat}{kd:aw}{j:Int} (ho:ops[i]?=some ⟨some d,.indexAddr t x y,ty,pos,aft,g⟩)(hw:fE ops l g=true)
  (hx:fW l x=some (.slice a m cap))(hy:fW l y=some (.int kd j))(hd:Nat.blt d n=true)(hu:P.underlying t=some (.slice e))(he:∀w,(sizeOf e).run P w=.ok 1 w)
  (hs:∃w,Sl w a xs)(hm:m=xs.length)(j':Nat)(hj:j=j'/\j'<xs.length):fh P w0 S n h ops i l d (.pointer (some (tS a j'))):=by
 obtain⟨w1,hs⟩:=hs;obtain⟨rfl,hj⟩:=hj;subst hm;exact .of ho hw rfl rfl hd (λt w Ds _ hF _=>⟨.value (.pointer (some (tS a j'))),by
  simp only[execOp,hF.fW hx,hF.fW hy,Sem.run_bind,OY hs hu he cap kd j' hj w];rfl,rfl⟩)
theorem KX{t:ax}(ha:∀w,(isAgg t).run P w=.ok false w) {v:aC}{w:aB}(hc:w.cell? p=some v):(Instr.loadAt t (.pointer (some p))).run P w=.ok v w:=by
 simp[Instr.loadAt,Instr.sureAddr,loadVar,ha,hc]
theorem ic{t:ax}  {v:aC}(ho:ops[i]?=some ⟨some d,.load t x,ty,pos,aft,g⟩)(hw:fE ops l g=true)
  (hx:fW l x=some (.pointer (some p)))(hd:Nat.blt d n=true)(ha:∀w,(isAgg t).run P w=.ok false w)(hc:∀w Y',St w0 S w h Y'->w.cell? p=some v):fh P w0 S n h ops i l d (v):=
 .of ho hw rfl rfl hd (λt w Ds _ hF hS=>⟨.value v,by
  simp only[execOp,hF.fW hx,Sem.run_bind,KX ha (hc w _ hS)];rfl,rfl⟩)
theorem fh.iF{t:ax}  {v:aC}(ha:∀w,(isAgg t).run P w=.ok false w)(hc:∀w Y',St w0 S w h Y'->w.cell? p=some v)(ho:ops[i]?=some ⟨some d,.load t x,ty,pos,aft,g⟩:=by exact rfl)(hw:fE ops l g=true:=by exact rfl)(hx:fW l x=some (.pointer (some p)):=by exact rfl)(hd:Nat.blt d n=true:=by exact rfl):fh P w0 S n h ops i l d (v):=ic (ho:=ho) (hw:=hw) (hx:=hx) (hd:=hd) (ha:=ha) (hc:=hc)
theorem fh.mE{t:ax} {b off:Nat} {e:ax}{fr:Nat×Nat}{v:aC}(ho:ops[i]?=some ⟨some d,.load t x,ty,pos,aft,g⟩)(hw:fE ops l g=true)
  (hx:fW l x=some (.pointer (some ⟨b,off,none⟩)))(hd:Nat.blt d n=true)(ha:∀w,(isAgg t).run P w=.ok false w)(j:Nat)(hj:h[j]?=some (some b,.cells cs e fr))(hv:cs[off]?=some v):fh P w0 S n h ops i l d (v):=
 ic ho hw hx hd ha (λw Ds hS=>by simp[World.cell?,hS.get hj,hv])
theorem AM{t:ax}(hz:∀w,(sizeOf t).run P w=.ok 1 w){b off:Nat} {e:ax}{v:aC}{w:aB}(hb:w.heap[b]?=some (.cells cs e (0,0)))(ho:off<cs.size)(hv:v.oneCell'=true):
  (Instr.storeAt t (.pointer (some ⟨b,off,none⟩)) v).run P w=.ok () (w.setCell ⟨b,off,none⟩ v):=by
 have hcell:w.cell? ⟨b,off,none⟩=some cs[off]:=by simp[World.cell?,hb,ho]
 have hfr:w.frozen? ⟨b,off,none⟩=false:=by simp[World.frozen?,hb]
 have hcs:v.cells=#[v]:=by cases v<;>first|rfl|cases hv
 simp only[Instr.storeAt,Instr.sureAddr,storeVar,Sem.run_bind,Sem.run_pure,Result.andThen_ok,hz,hcs];simp only[List.size_toArray,dM,List.length_nil,eP,ne_eq,not_true_eq_false,eW];simp[storeCells,run_store _ _ _ _ _ hv,hcell,hfr,Addr.add]
theorem ff.st{t:ax} {b off:Nat} {e:ax}{v:aC}(ho:ops[i]?=some ⟨none,.store t x y,ty,pos,aft,g⟩)(hw:fE ops l g=true)
  (hx:fW l x=some (.pointer (some ⟨b,off,none⟩)))(hy:fW l y=some v)(hz:∀w,(sizeOf t).run P w=.ok 1 w)(hv:v.oneCell'=true)(j:Nat)(hj:h[j]?=some (some b,.cells cs e (0,0)))(hoff:Nat.blt off cs.size=true)
  (hk:ff P r f R w0 S Y n (.inRegion ops rest::k) l (h.set j (some b,.cells (cs.setIfInBounds off v) e (0,0)))):ff P r f R w0 S Y n (.inRegion ops (i::rest)::k) l h:=
 .V0 ho hw rfl rfl (λt' w Ds _ hF hS=>by
  refine⟨w.setCell ⟨b,off,none⟩ v,_,?_,hS.xw hj (o':=.cells (cs.setIfInBounds off v) e (0,0)) rfl rfl rfl rfl ?_ ?_ ?_,hk⟩;simp only[execOp,hF.fW hx,hF.fW hy,Sem.run_bind,AM hz (hS.get hj) (by simpa[eT]using hoff) hv];rfl;simp[World.setCell];obtain⟨hlt,hg⟩:=aX.1 (hS.get hj);simp only[World.setCell];rw[Array.getElem?_modify,if_pos rfl,hS.get hj];rfl;intro q _ hq;exact Below.heap_setCell _ _ _ _ hq)
theorem ff.oW{t:ax} {b off:Nat} {e:ax}{v:aC}(hz:∀w,(sizeOf t).run P w=.ok 1 w)(j:Nat)(hk:ff P r f R w0 S Y n (.inRegion ops rest::k) l (h.set j (some b,.cells (cs.setIfInBounds off v) e (0,0))))(ho:ops[i]?=some ⟨none,.store t x y,ty,pos,aft,g⟩:=by exact rfl)(hw:fE ops l g=true:=by exact rfl)(hx:fW l x=some (.pointer (some ⟨b,off,none⟩)):=by exact rfl)(hy:fW l y=some v:=by exact rfl)(hv:v.oneCell'=true:=by exact rfl)(hj:h[j]?=some (some b,.cells cs e (0,0)):=by exact rfl)(hoff:Nat.blt off cs.size=true:=by exact rfl):ff P r f R w0 S Y n (.inRegion ops (i::rest)::k) l h:=ff.st (ho:=ho) (hw:=hw) (hx:=hx) (hy:=hy) (hz:=hz) (hv:=hv) (j:=j) (hj:=hj) (hoff:=hoff) (hk:=hk)
theorem ff.ML{e:ax}{z:aC}(ho:ops[i]?=some ⟨some d,.alloc e,ty,pos,aft,g⟩)(hw:fE ops l g=true)(hd:Nat.blt d n=true)(hz:∀w,(zeroValue e).run P w=.ok z w)
  (hk:∀b,ff P r f R w0 S Y n (.inRegion ops rest::k) ((d,aQ b)::l) ((some b,.cells z.cells e)::h)):ff P r f R w0 S Y n (.inRegion ops (i::rest)::k) l h:=
 .mem ho hw rfl rfl hd (λt' w Ds _ hF hS=>⟨aQ w.heap.size,w.alloc (.cells z.cells e),_,by
  simp[execOp,Instr.alloc,hz,newVar,newRow],hS.alloc rfl,hk _⟩)
theorem ff.gO{e:ax}{z:aC}(hz:∀w,(zeroValue e).run P w=.ok z w)(hk:∀b,ff P r f R w0 S Y n (.inRegion ops rest::k) ((d,aQ b)::l) ((some b,.cells z.cells e)::h))(ho:ops[i]?=some ⟨some d,.alloc e,ty,pos,aft,g⟩:=by exact rfl)(hw:fE ops l g=true:=by exact rfl)(hd:Nat.blt d n=true:=by exact rfl):ff P r f R w0 S Y n (.inRegion ops (i::rest)::k) l h:=ff.ML (ho:=ho) (hw:=hw) (hd:=hd) (hz:=hz) (hk:=hk)
theorem ff.bx{e:ax} {v:aC}(ho:ops[i]?=some ⟨some d,.box e x,ty,pos,aft,g⟩)(hw:fE ops l g=true)(hx:fW l x=some v)(hd:Nat.blt d n=true)
  (hk:∀b,ff P r f R w0 S Y n (.inRegion ops rest::k) ((d,aQ b)::l) ((some b,.cells v.cells e)::h)):ff P r f R w0 S Y n (.inRegion ops (i::rest)::k) l h:=
 .mem ho hw rfl rfl hd (λt' w Ds _ hF hS=>⟨aQ w.heap.size,w.alloc (.cells v.cells e),_,by
  simp[execOp,Instr.box,hF.fW hx,newVar,newRow],hS.alloc rfl,hk _⟩)
theorem ff.oE{e:ax} {v:aC}(hk:∀b,ff P r f R w0 S Y n (.inRegion ops rest::k) ((d,aQ b)::l) ((some b,.cells v.cells e)::h))(ho:ops[i]?=some ⟨some d,.box e x,ty,pos,aft,g⟩:=by exact rfl)(hw:fE ops l g=true:=by exact rfl)(hx:fW l x=some v:=by exact rfl)(hd:Nat.blt d n=true:=by exact rfl):ff P r f R w0 S Y n (.inRegion ops (i::rest)::k) l h:=ff.bx (ho:=ho) (hw:=hw) (hx:=hx) (hd:=hd) (hk:=hk)
theorem LU{w w':aB}(hg:w.grownBy w' none):Ex [] w w':=⟨hg.os,hg.tape,hg.output,hg.size,λb hb _=>hg.block b hb aL⟩
def gx(q:ah)(n cap:Nat):aC:=.slice (q.map aP) n cap
theorem KV(z:aC)(hz1:z.cells=#[z])(m:Nat):(madeCells z.cells (m*1)).toList=List.replicate m z:=by
 rw[hz1];apply List.ext_getElem?;intro q;simp only[madeCells,Array.toList_map,Array.toList_range,dB,eS,List.getElem?_replicate];by_cases hq:q<m;simp[hq,Nat.mod_one];simp[hq]
theorem ff.W6{t e:ax} {kx ky:aw}{m:Nat} {z:aC}(ho:ops[i]?=some ⟨some d,.makeSlice t x y,ty,pos,aft,g⟩)(hw:fE ops l g=true)(hx:fW l x=some (.int kx m))(hy:fW l y=some (.int ky m))(hd:Nat.blt d n=true)
  (hu:P.underlying t=some (.slice e))(hi:P.info? e=some inf)(hz:inf.zero=some z)(hz1:z.cells=#[z])(hs:inf.size=1)(hb:inf.bytes*m<=281474976710656)(hm:m<=maxLen)
  (hk:∀b,ff P r f R w0 S Y n (.inRegion ops rest::k) ((d,gx (some b) m m)::l) ((some b,.cells (List.replicate m z++[]).toArray e)::h)):ff P r f R w0 S Y n (.inRegion ops (i::rest)::k) l h:=
 .mem ho hw rfl rfl hd (λt' w Ds _ hF hS=>by
  obtain⟨w',hrun,⟨_,hown⟩,hg⟩:=run_make_full (P:=P) w w.heap.size t e inf z 1 hu hi hz hs kx ky m hb hm (eR _);rw[KV z hz1]at hown;rcases hown with⟨h1,_⟩|⟨b,cap,cur,hv,hbg,hheap,hnc,_,hcs,htk⟩;simp at h1;simp only[Value.slice.injEq,dD,Addr.mk.injEq,and_true,true_and]at hv;obtain⟨rfl,rfl⟩:=hv;have hcur:cur=(List.replicate m z++[]).toArray:=by
   rw[<-dF,dW];rw[<-htk,bZ (by simp[hcs])]
  rw[hcur]at hheap;refine⟨_,w',_,?_,hS.DW (LU hg) hheap rfl hbg,hk _⟩;simp[execOp,hF.fW hx,hF.fW hy,hrun,gx])
theorem yu{t e:ax} {z:aC}(hu:P.underlying t=some (.slice e))(hi:P.info? e=some inf)(hz:inf.zero=some z){size:Nat}(hsz:inf.size=size)(hz1:z.cells.size=size)
    {w:aB}{Ds:List (Nat×Obj)}(hS:St w0 S w h Ds){q:ah}{xs sp:ai}{nx:Nat}(hnx:xs.length=nx*size){cap:Nat}(fB:(xs++sp).length=cap*size)(hq:q=none->nx=0/\cap=0){j:Nat}(hj:h[j]?=some (q,.cells (xs++sp).toArray e (0,0)))
    {a:Addr}{m c:Nat}{news:ai}(hl:news.length=m*size)(hm0:0<m)(hnews:∀j u,news[j]?=some u->w.cell? (a.add j)=some u)(h1:∀u∈news,u.oneCell'=true)(hmx:nx+m<=maxLen)(hbytes:(nx+m)*inf.bytes<=140737488355328)(ty:ax):
    ∃b' sp' cap' w',(Builtin.append_ #[t,t] ty #[gx q nx cap,.slice (some a) m c]).run P w=.ok (gx (some b') (nx+m) cap') w'/\(xs++news++sp').length=cap'*size/\
      St w0 S w' (h.set j (some b',.cells (xs++news++sp').toArray e (0,0))) Ds:=by
  subst hsz;have hsmall:nx+m<=9223372036854775807:=by simp only[maxLen]at hmx;omega
  have hzc:∀q,(Builtin.zeroCells z.cells q).toList.length=q*inf.size:=λq=>by simp[size_zeroCells,hz1]
  cases q with
  |none=>
    obtain⟨rfl,rfl⟩:=hq rfl;obtain rfl:xs=[]:=aV (by simpa using hnx);have hr:=run_append_nil (P:=P) w t ty e inf z hu hi hz a m c news hl hnews hm0 aH (by simp only[eP]at hbytes;omega);have hge:=grownCap_ge w m 0 e;refine⟨w.heap.size,(Builtin.zeroCells z.cells (grownCap w m 0 e - m)).toList,grownCap w m 0 e,w.drew.alloc (.cells (news.toArray++Builtin.zeroCells z.cells (grownCap w m 0 e - m)) e),?_,?_,?_⟩;simp only[gx,eP,ez,Option.map_none];exact hr;rw[eh,di,hl,hzc,<-Nat.add_mul];congr 1;omega
    refine hS.swap ((Cb w).trans (vF w.drew _) aL) j ?_ rfl (eR _);have:=heap_alloc_new w.drew (.cells (news.toArray++Builtin.zeroCells z.cells (grownCap w m 0 e - m)) e);rw[show w.drew.heap.size=w.heap.size from rfl]at this;rw[this];congr 2;rw[<-dF];simp
  |some b=>
    have hb:=hS.get hj;have hlo:xs.length<=(xs++sp).length:=by simp
    by_cases hroom:nx+m<=cap;have hfit:nx*inf.size+news.length<=(xs++sp).toArray.size:=by
      rw[List.size_toArray,fB,hl,<-Nat.add_mul];exact Nat.mul_le_mul_right _ hroom
    have hr:=run_append_room (P:=P) w t ty e inf hu hi b nx cap _ hb a m c news hl hnews h1 hroom hfit;have hsz0:(xs++sp).toArray.size=(xs++sp).length:=by simp
    have hrow:((xs++sp).toArray.toList.take (nx*inf.size)++news++(xs++sp).toArray.toList.drop (nx*inf.size+news.length))=xs++news++sp.drop news.length:=by
      simp only[<-hnx];rw[List.take_left,List.drop_append,List.drop_eq_nil_of_le aH,eh]
      congr 2;omega
    rw[hrow]at hr;refine⟨b,sp.drop news.length,cap,w.setRow b (xs++news++sp.drop news.length).toArray,hr,?_,hS.xw hj rfl rfl rfl rfl (by simp[World.setRow]) (setRow_heap w b _ _ e _ hb) (λi _ hi=>setRow_other w b i _ hi)⟩;rw[hsz0]at hfit;rw[<-fB];simp only[di,List.length_drop]at hfit⊢;omega;have holds:∀j v,xs[j]?=some v->w.cell? ((⟨b,0,none⟩:Addr).add j)=some v:=by
      intro j v hv;have hjl:=(bB.1 hv).1;have e1:(⟨b,0,none⟩:Addr).add j=⟨b,j,none⟩:=by unfold Addr.add;split;(rename_i h0;rw[h0]);simp
      rw[e1];rw[bJ hjl]at hv;cases hv;simp[World.cell?,hb,List.getElem?_append,hjl]
    have hfit:Builtin.nextslicecap (nx+m) cap*inf.bytes<=281474976710656:=by
      have:=nextslicecap_le (need:=nx+m) (old:=cap) aH
      calc _<=(2*(nx+m))*inf.bytes:=Nat.mul_le_mul_right _ this
        _<=_:=by rw[Nat.mul_assoc];omega
    have hr:=run_append_grow (P:=P) w t ty e inf z hu hi hz ⟨b,0,none⟩ nx cap xs hnx holds a m c news hl hnews aH aH hfit;have hge:=grownCap_ge w (nx+m) cap e;refine⟨w.heap.size,(Builtin.zeroCells z.cells (grownCap w (nx+m) cap e - (nx+m))).toList,grownCap w (nx+m) cap e,_,hr,?_,?_⟩;rw[di,di,hl,hnx,hzc,<-Nat.add_mul,<-Nat.add_mul];congr 1;omega
    refine hS.swap ((Cb w).trans (vF w.drew _) aL) j ?_ rfl (eR _);have:=heap_alloc_new w.drew (.cells (xs.toArray++news.toArray++Builtin.zeroCells z.cells (grownCap w (nx+m) cap e - (nx+m))) e);rw[show w.drew.heap.size=w.heap.size from rfl]at this;rw[this];congr 2;rw[<-dF];simp
theorem ff.app{t e:ax}  {z:aC}{q:ah}{sp:ai}{nx cap:Nat}{bn m c:Nat}{news spn:ai}{en:ax}{frn:Nat×Nat}(size:Nat)
  (ho:ops[i]?=some ⟨some d,.call ⟨.builtin .append,#[x,y],#[t,t]⟩,ty,pos,aft,g⟩)(hw:fE ops l g=true)(hx:fW l x=some (gx q nx cap))(hy:fW l y=some (.slice (aR bn) m c))(hd:Nat.blt d n=true)
  (hu:P.underlying t=some (.slice e))(hi:P.info? e=some inf)(hz:inf.zero=some z)(hsz:inf.size=size)(hz1:z.cells.size=size)
  (hq:q=none->nx=0/\cap=0)(j:Nat)(hj:h[j]?=some (q,.cells (xs++sp).toArray e (0,0)))(jn:Nat)(hjn:h[jn]?=some (some bn,.cells (news++spn).toArray en frn))
  (hnx:xs.length=nx*size)(fB:(xs++sp).length=cap*size)(hl:news.length=m*size)(hm0:0<m)(h1:∀u∈news,u.oneCell'=true)(hmx:nx+m<=maxLen)(hbytes:(nx+m)*inf.bytes<=140737488355328)
  (hk:∀b' sp' cap',(xs++news++sp').length=cap'*size->ff P r f R w0 S Y n (.inRegion ops rest::k) ((d,gx (some b') (nx+m) cap')::l) (h.set j (some b',.cells (xs++news++sp').toArray e (0,0)))):ff P r f R w0 S Y n (.inRegion ops (i::rest)::k) l h:=
 .mem ho hw rfl rfl hd (λt' w Ds _ hF hS=>by
  have hbn:=hS.get hjn;have hnews:∀j u,news[j]?=some u->w.cell? ((⟨bn,0,none⟩:Addr).add j)=some u:=by
   intro j u hv;have hjl:=(bB.1 hv).1;have e1:(⟨bn,0,none⟩:Addr).add j=⟨bn,j,none⟩:=by unfold Addr.add;split;(rename_i h0;rw[h0]);simp
   rw[e1];rw[bJ hjl]at hv;cases hv;simp[World.cell?,hbn,List.getElem?_append,hjl]
  obtain⟨b',sp',cap',w',hrun,hlen,hS'⟩:=yu hu hi hz hsz hz1 hS hnx fB hq hj (c:=c) hl hm0 hnews h1 hmx hbytes ty;refine⟨_,w',_,?_,hS',hk b' sp' cap' hlen⟩;have e1:(#[x,y]:aa).map (Act.eval ⟨t',Ds.map mark⟩)=#[gx q nx cap,.slice (aR bn) m c]:=by simp[hF.fW hx,hF.fW hy]
  simp only[execOp,resolve,e1,Sem.run_bind,Sem.run_pure,Result.andThen_ok,invoke,builtin,hrun])
def Cn(P:av)(gf:ay)(args:ai)(w:aB)(Rc:aC->aB->Prop):Prop:=
 Calls P gf args.toArray w λe w'=>∃v,e=.returned v/\(Ex [] w w'/\Rc v w')
theorem lR   {fn:Fn}{first captured:af}  {Ds:aq}{w:aB}(hF:pJ n t l)(hc:fW l cal=some (.func fn first captured))(hx:iW l az.toList=some vs):
  (resolve (Act.eval ⟨t,Ds.map mark⟩) ⟨.value cal,az,ts⟩ ty).run P w=.ok {target:=.fn fn captured,args:=first++vs.toArray} w:=by
 have e1:az.map (Act.eval ⟨t,Ds.map mark⟩)=vs.toArray:=by rw[<-dF];simp[hF.iW (Ds.map mark) hx]
 simp only[resolve,e1,hF.fW hc,Deferred.ofValue,Sem.run_pure]
theorem ff.HN   {gf:ay}{first captured:af} (ho:ops[i]?=some ⟨some d,.call ⟨.value cal,az,ts⟩,ty,pos,aft,g⟩)(hw:fE ops l g=true)
  (hc:fW l cal=some (.func (.func gf) first captured))(hx:iW l az.toList=some vs)(hd:Nat.blt d n=true)(hcf:∀args w,(callFunc gf args).run P w=.ok (.enter gf args) w)
  (hk:∀w Y',St w0 S w h Y'->∃Rc:aC->aB->Prop,(Calls P gf (first++vs.toArray++captured) w λe w'=>∃v,e=.returned v/\Rc v w')/\∀v w',Rc v w'->∃h',St w0 S w' h' Y'/\ff P r f R w0 S Y n (.inRegion ops rest::k) ((d,v)::l) h'):
  ff P r f R w0 S Y n (.inRegion ops (i::rest)::k) l h:=by
 intro t w Ds hF hS;obtain⟨Rc,hcall,hres⟩:=hk w _ hS;refine ki.call (Rc:=Rc) (g:=gf) (args:=first++vs.toArray++captured) (w':=w) ho (km hF hw) (jc rfl) ?_ hcall (λv w2 hR=>?_);simp only[execOp,Sem.run_bind,lR hF hc hx,Result.andThen_ok,invoke,hcf];obtain⟨h',hS',hgo⟩:=hres v w2 hR;exact hgo _ w2 Ds (hF.put v hd) hS'
theorem ff.mI   {gf:ay} {v:aC}(ho:ops[i]?=some ⟨some d,.call ⟨.value cal,az,ts⟩,ty,pos,aft,g⟩)(hw:fE ops l g=true)
  (hc:fW l cal=some (.func (.func gf) #[] #[]))(hx:iW l az.toList=some vs)(hd:Nat.blt d n=true)(hcf:∀args w,(callFunc gf args).run P w=.ok (.enter gf args) w)
  (hcall:∀w Y',St w0 S w h Y'->Cn P gf vs w (λu _=>u=v))
  (hk:ff P r f R w0 S Y n (.inRegion ops rest::k) ((d,v)::l) h):ff P r f R w0 S Y n (.inRegion ops (i::rest)::k) l h:=
 .HN ho hw hc hx hd hcf (λw Ds hS=>⟨λu w'=>Ex [] w w'/\u=v,by
  have:=hcall w Ds hS;unfold Cn at this;simpa using this,λu w' ⟨he,hu⟩=>⟨h,hS.later he,hu ▸ hk⟩⟩)
theorem ff.vM   {gf:ay} (Rc:aB->aC->aB->Prop)(ho:ops[i]?=some ⟨some d,.call ⟨.value cal,az,ts⟩,ty,pos,aft,g⟩)(hw:fE ops l g=true)
  (hc:fW l cal=some (.func (.func gf) #[] #[]))(hx:iW l az.toList=some vs)(hd:Nat.blt d n=true)(hcf:∀args w,(callFunc gf args).run P w=.ok (.enter gf args) w)
  (hcall:∀w Y',St w0 S w h Y'->Cn P gf vs w (Rc w))
  (hk:∀v w w' Y',St w0 S w h Y'->Ex [] w w'->Rc w v w'->∃h',St w0 S w' h' Y'/\ff P r f R w0 S Y n (.inRegion ops rest::k) ((d,v)::l) h'):ff P r f R w0 S Y n (.inRegion ops (i::rest)::k) l h:=
 .HN ho hw hc hx hd hcf (λw Ds hS=>⟨λu w'=>Ex [] w w'/\Rc w u w',by
  have:=hcall w Ds hS;unfold Cn at this;simpa using this,λu w' ⟨he,hu⟩=>hk u w w' Ds hS he hu⟩)
end
def shut(w:aB):aq->aB
 |[]=>w
 |D::Ds=>shut {w with heap:=w.heap.setIfInBounds D (.deferred none)} Ds
theorem GA{w0:aB}:∀{Ds:aq} {w:aB},(∀D∈Ds,w0.heap.size<=D)->(shut w Ds).os=w.os/\(shut w Ds).tape=w.tape/\(shut w Ds).output=w.output/\(shut w Ds).heap.size=w.heap.size/\∀b,b∉Ds->(shut w Ds).heap[b]?=w.heap[b]?
 |[],w,_=>⟨rfl,rfl,rfl,rfl,λ_ _=>rfl⟩
 |D::Ds,w,h=>by
  obtain⟨h1,h2,h3,h4,h5⟩:=GA (Ds:=Ds) (w:={w with heap:=w.heap.setIfInBounds D (.deferred none)}) (λD hD=>h D (cM _ hD));refine⟨h1,h2,h3,by rw[shut,h4];simp,λb hb=>?_⟩;rw[shut,h5 b (λhm=>hb (cM _ hm))];have:D≠b:=λe=>hb (by rw[e];exact aF);simp[this]
theorem yJ{P:av}:∀{Ds:aq} {w:aB} {fr:Frame} {cs:List Frame},fr.mode=.returning->fr.defers=Ds.map mark->(∀D∈Ds,w.heap[D]?=some (.deferred (some [])))->Ds.Nodup->
  Steps P (lone fr cs w) (lone {fr with defers:=[]} cs (shut w Ds))
 |[],w,fr,cs,hm,hd,_,_=>by
  have:fr={fr with defers:=[]}:=by cases fr;simp at hd;simp[hd]
  rw[<-this];exact .refl _ _
 |D::Ds,w,fr,cs,hm,hd,hall,hn=>by
  have hD:=hall D aF;have htake:(Instr.takeDeferred D).run P w=.ok [] {w with heap:=w.heap.setIfInBounds D (.deferred none)}:=by
   simp[Instr.takeDeferred,getObj,setObj,Sem.run,hD,bind,Sem.bind,pure]
  have h1:=step_collected (P:=P) (fr:=fr) (cs:=cs) (w:=w) (d:=mark D) (ds:=Ds.map mark) (by rw[hm];simp) hd rfl htake;rw[ej]at hn;refine .head h1 (yJ (fr:={fr with defers:=[]++Ds.map mark}) hm rfl (λD' hD'=>?_) hn.2);have:D≠D':=λe=>hn.1 (e ▸ hD');simp[this];exact hall D' (cM _ hD')
def E3(l:Fl):List ResultVar->Option ai
 |[]=>some []
 |.tmp t::rs=>match look l t,E3 l rs with
  |some v,some vs=>some (v::vs)
  |_,_=>none
 |_=>none
def nV:ai->aC
 |[v]=>v
 |vs=>.tuple vs.toArray
theorem OC{Ds:aq}{D:Nat}(h:D∈Ds):(D,(.deferred (some []):Obj))∈uy Ds:=eL.2 ⟨D,h,rfl⟩
theorem G1(Ds:aq):(uy Ds).map (·.1)=Ds:=by simp[uy,Function.comp_def]
theorem St.marks{w0:aB}{S:aq}{w:aB}{h:Hl}{Y:List (Nat×Obj)}{Ds:aq}(s:St w0 S w h (uy Ds++Y)):(∀D∈Ds,w0.heap.size<=D/\w.heap[D]?=some (.deferred (some [])))/\Ds.Nodup:=by
 refine⟨λD hD=>?_,?_⟩;obtain⟨h1,h2,_⟩:=s.sys _ (cK _ (OC hD));exact⟨h1,h2⟩;have:=s.CP;rw[ec,G1]at this;exact(dC.1 this).1
theorem St.shut{w0:aB}{S:aq}{w:aB}{h:Hl}{Y:List (Nat×Obj)}{Ds:aq}(s:St w0 S w h (uy Ds++Y)):St w0 S (shut w Ds) h Y:=by
 have hm:=s.marks;obtain⟨h1,h2,h3,h4,h5⟩:=GA (w0:=w0) (Ds:=Ds) (w:=w) (λD hD=>(hm.1 D hD).1);have hnd:=s.CP;rw[ec,G1,dC]at hnd;refine⟨⟨h1.trans s.ext.os,h2.trans s.ext.tape,h3.trans s.ext.output,by rw[h4];exact s.ext.size,λb hb hn=>?_⟩,λp hp b hb=>?_,s.apart,λp hp=>?_,hnd.2.1⟩;rw[h5 b (λhmm=>by have:=(hm.1 b hmm).1;omega)];exact s.ext.block b hb hn;obtain⟨q1,q2,q3⟩:=s.own p hp b hb;refine⟨?_,q2,q3⟩;rw[h5 b ?_];exact q1;intro hmm;have e1:=q1.symm.trans (hm.1 b hmm).2;rw[eA e1]at q2;cases q2;obtain⟨q1,q2,q3⟩:=s.sys p (cD _ hp);refine⟨q1,?_,q3⟩;rw[h5 p.1 (λhmm=>hnd.2.2 _ hmm _ (eL.2 ⟨p,hp,rfl⟩) rfl)];exact q2
theorem DE{P:av}{w:aB}{n:Nat}{t:af}{l:Fl}(hF:pJ n t l):∀{rs:List ResultVar} {vs:ai},E3 l rs=some vs->
  (rs.mapM (m:=Sem) λ|.tmp t'=>pure (t.getD t' undef)|.cell a ty=>do loadVar ty (<-asAddr (t.getD a undef))).run P w=.ok vs w
 |[],vs,h=>by cases h;rfl
 |.tmp q::rs,vs,h=>by
  simp only[E3]at h;split at h;rename_i v us hv hus;cases h;rw[List.mapM_cons];simp only[Sem.run_bind,Sem.run_pure,Result.andThen_ok,DE hF hus,hF.2 _ _ hv];cases h
 |.cell a ty::rs,vs,h=>by cases h
theorem w5{P:av}{fn:Func}{w:aB}{n:Nat} {l:Fl}(hF:pJ n t l) (h:E3 l fn.results.toList=some vs):(results fn t).run P w=.ok (nV vs) w:=by
 unfold results;rw[Array.mapM_eq_mapM_toList];have hm:=DE (P:=P) (w:=w) hF h;simp only[Sem.run_bind,Sem.run_map,Sem.run_pure];refine(eV (λx=>(x.andThen λa w'=>Result.ok a.toArray w').andThen λa w'=>Result.ok (if h:a.size=1 then a[0]else Value.tuple a) w') hm).trans ?_;simp only[Result.andThen_ok];cases vs with
 |nil=>rfl
 |cons v us=>cases us with
  |nil=>rfl
  |cons u us=>simp[nV]
section
variable{P:av}{r:ah}{f:ay}{R:aC->aB->Prop}{w0:aB}{S:aq}{Y:List (Nat×Obj)}{n:Nat}{k k':al}{l l':Fl}{h h':Hl}{fn:Func}
theorem tH {Ds:aq}{w:aB}{v:aC}(hf:P.funcs[f]?=some fn)(hS:St w0 S w h (uy Ds++Y))(kz:∀cs,step P (lone (vm f none t (Ds.map mark) k) cs w)=.next (lone {vm f none t (Ds.map mark) k with mode:=.returning} cs w))
  (hr:(results fn t).run P (shut w Ds)=.ok v (shut w Ds))(hR:R v (shut w Ds)):ki P none f R k t (Ds.map mark) w:=by
 intro cs _;have h2:=yJ (P:=P) (Ds:=Ds) (w:=w) (fr:={vm f none t (Ds.map mark) k with mode:=.returning}) (cs:=cs) rfl rfl (λD hD=>(hS.marks.1 D hD).2) hS.marks.2;exact⟨v,shut w Ds,_,hR,.head (kz cs) h2,_,rfl,rfl,rfl,rfl,rfl,fn,hf,hr⟩
theorem ff.ret(fn:Func)(hf:P.funcs[f]?=some fn){vs:ai}(hres:E3 l fn.results.toList=some vs)(hR:∀w,St w0 S w h Y->R (nV vs) w):ff P none f R w0 S Y n (.code .ret::k) l h:=λt w Ds hF hS=>
 tH hf hS (λcs=>by rw[iH];exact stepR_ret rfl) (w5 hF hres) (hR _ hS.shut)
theorem ff.fin(fn:Func)(hf:P.funcs[f]?=some fn) (hres:E3 l fn.results.toList=some vs)(hR:∀w,St w0 S w h Y->R (nV vs) w):ff P none f R w0 S Y n [] l h:=λt w Ds hF hS=>
 tH hf hS (λcs=>by rw[iH];exact stepR_end rfl) (w5 hF hres) (hR _ hS.shut)
theorem BJ {w:aB}{a:Tmp}{ty:ax}{b off j:Nat} {e:ax}{fr:Nat×Nat}{v:aC}(hF:pJ n t l)(hS:St w0 S w h Y)(hres:fn.results=#[.cell a ty])(ha:look l a=some (.pointer (some ⟨b,off,none⟩)))(hag:∀w,(isAgg ty).run P w=.ok false w)(hj:h[j]?=some (some b,.cells cs e fr))(hv:cs[off]?=some v):
  (results fn t).run P w=.ok v w:=by
 have h1:=hF.2 _ _ ha;rw[aW]at h1;have hc:w.cell? ⟨b,off,none⟩=some v:=by simp[World.cell?,hS.get hj,hv]
 simp[results,hres,h1,asAddr,loadVar,hag,hc]
theorem ff.xB(fn:Func)(hf:P.funcs[f]?=some fn){a:Tmp}{ty:ax}{b off:Nat}(j:Nat) {e:ax}{fr:Nat×Nat}{v:aC}(hres:fn.results=#[.cell a ty])(ha:look l a=some (.pointer (some ⟨b,off,none⟩)))(hag:∀w,(isAgg ty).run P w=.ok false w)(hj:h[j]?=some (some b,.cells cs e fr))(hv:cs[off]?=some v)
  (hR:∀w,St w0 S w h Y->R v w):ff P none f R w0 S Y n (.code .ret::k) l h:=λt w Ds hF hS=>
 tH hf hS (λcs=>by rw[iH];exact stepR_ret rfl) (BJ hF hS.shut hres ha hag hj hv) (hR _ hS.shut)
def Ar:Nat->ai->Fl
 |_,[]=>[]
 |i,v::vs=>(i,v)::Ar (i+1) vs
theorem A5:∀{vs:ai} {i j:Nat} {v:aC},look (Ar i vs) j=some v->i<=j/\vs[j - i]?=some v
 |[],_,_,_,h=>by cases h
 |u::us,i,j,v,h=>by
  unfold Ar look at h;cases hb:Nat.beq i j with
  |true=>rw[hb]at h;obtain rfl:=Nat.eq_of_beq_eq_true hb;cases h;simp
  |false=>
   rw[hb]at h;obtain⟨h1,h2⟩:=A5 h;refine⟨aH,?_⟩;rw[show j - i=(j - (i+1))+1 from aH,List.getElem?_cons_succ];exact h2
theorem Bd{args:ai}{nt:Nat}(hn:args.length<=nt):pJ nt (args.toArray++Array.replicate (nt - args.toArray.size) undef) (Ar 0 args):=by
 refine⟨by simp;omega,λi v hv=>?_⟩;have:=(A5 hv).2;rw[Nat.sub_zero]at this;obtain⟨h1,h2⟩:=bB.1 this;simp[Array.getElem?_append,h1,h2]
theorem Eg{c:Code}{args:ai}(hf:P.funcs[f]?=some fn)(hb:fn.body=some c)(hn:Nat.ble args.length fn.ntmps=true)(h:Hl)(hS:St w0 S w0 h [])
  (hgo:ff P none f R w0 S [] fn.ntmps [.code c] (Ar 0 args) h):Calls P f args.toArray w0 λe w'=>∃v,e=.returned v/\R v w':=by
 intro cs;obtain⟨v,w',m,hR,kz,fr,rfl,hfn,hl⟩:=hgo _ w0 [] (Bd (Nat.le_of_ble_eq_true hn)) hS cs aL;refine⟨.returned v,w',fr,⟨v,rfl,hR⟩,?_,hfn,hl⟩;have henter:Frame.enter P f args.toArray .normal=vm f none (args.toArray++Array.replicate (fn.ntmps - args.toArray.size) undef) [] [.code c]:=by
  simp[Frame.enter,hf,hb,vm]
 show Steps P _ _;rw[henter];exact kz
theorem NL(w:aB):St w [] w [] []:=⟨Ex.refl _ _,by simp,.nil,by simp,by simp⟩
theorem Cn.of{c:Code}{args:ai}{Rc:aC->aB->Prop}(hf:P.funcs[f]?=some fn)(hb:fn.body=some c)(hn:Nat.ble args.length fn.ntmps=true)
  (hgo:ff P none f (λv w'=>Ex [] w0 w'/\Rc v w') w0 [] [] fn.ntmps [.code c] (Ar 0 args) []):Cn P f args w0 Rc:=by
 unfold Cn;exact Eg hf hb hn [] (NL w0) hgo
theorem Cn.mono{gf:ay}{args:ai}{w:aB}{R R':aC->aB->Prop}(h:Cn P gf args w R)(hr:∀v w',Ex [] w w'->R v w'->R' v w'):Cn P gf args w R':=
 Calls.mono h (λ_ w' ⟨v,e,he,hR⟩=>⟨v,e,he,hr v w' he hR⟩)
end
end
section
variable{p q:Bool}{z:aC}{k:aw}
section
variable{P:av}{t:ax}{x y:fi}{a b:Int}
theorem Ce(op:BinOp)(t:ax)(p q:au)(k k':aw)(a b:Int):eqGuard op t p q (.int k a) (.int k' b)=pure ():=by unfold eqGuard;cases op<;>rfl
theorem L5(op:BinOp)(t:ax)(p q:au)(a b:Bool):eqGuard op t p q (.bool a) (.bool b)=pure ():=by unfold eqGuard;cases op<;>rfl
theorem qW{op:BinOp}{u v:aC}(h1:∀p q,eqGuard op t p q u v=pure ())(h2:binOp op t u v=pure z):oO P op t u v z:=by
 intro p q w;rw[h1,h2];rfl
theorem bU(op:BinOp) (h2:binOp op t (U x) (U y)=pure z):oO P op t (U x) (U y) z:=qW (λp q=>Jb t x y op p q) h2
theorem Ep:oO P .and t (U x) (U y) (U (x &&& y)):=bU _ (PE t x y)
theorem PG:oO P .or t (U x) (U y) (U (x|||y)):=bU _ (Sq t x y)
theorem V6:oO P .xor t (U x) (U y) (U (x^^^y)):=bU _ (Pz t x y)
theorem yq:oO P .andNot t (U x) (U y) (U (x &&& ~~~y)):=bU _ (Gb t x y)
theorem HU:oO P .sub t (U x) (U y) (U (x - y)):=bU _ (PA t x y)
theorem U2:oO P .mul t (U x) (U y) (U (x*y)):=bU _ (PC t x y)
theorem xL:oO P .eql t (U x) (U y) (.bool (x==y)):=bU _ (PD t x y)
theorem CA:oO P .neq t (U x) (U y) (.bool (x !=y)):=bU _ (PB t x y)
theorem L6(op:BinOp)(p q:au)(k:aw)(b:Int):eqGuard op t p q (U x) (.int k b)=pure ():=by unfold eqGuard U;cases op<;>rfl
theorem mJ(j:Nat)(h:b=j) :oO P .shl t (U x) (.int k b) (U (x<<<j)):=by subst h;exact qW (λp q=>L6 _ p q k _) (Ek t x k j)
theorem Cz(j:Nat)(h:b=j) :oO P .shr t (U x) (.int k b) (U (x>>>j)):=by subst h;exact qW (λp q=>L6 _ p q k _) (Ej t x k j)
theorem bI(op:BinOp)  (h2:binOp op t (.int k a) (.int k b)=pure z):oO P op t (.int k a) (.int k b) z:=qW (λp q=>Ce op t p q k k a b) h2
theorem U4(h:-9223372036854775808<=a+b/\a+b<=9223372036854775807):oO P .add t (aS a) (aS b) (aS (a+b)):=bI _ (by rw[binOp_add];show pure (Value.int .i64 (IntKind.i64.wrap (a+b)))=_;rw[IntWalk.i64_in _ h])
theorem V7(h:-9223372036854775808<=a - b/\a - b<=9223372036854775807):oO P .sub t (aS a) (aS b) (aS (a - b)):=bI _ (by rw[binOp_sub];show pure (Value.int .i64 (IntKind.i64.wrap (a - b)))=_;rw[IntWalk.i64_in _ h])
theorem mj{c:Int}(e:a - b=c)(h:-9223372036854775808<=c/\c<=9223372036854775807):oO P .sub t (aS a) (aS b) (aS c):=e ▸ V7 aH
theorem Qy{c:Int}(e:a+b=c)(h:-9223372036854775808<=c/\c<=9223372036854775807):oO P .add t (aS a) (aS b) (aS c):=e ▸ U4 aH
theorem rO :oO P .eql t (.int k a) (.int k b) (.bool (a==b)):=bI _ (binOp_eql ..)
theorem Eo :oO P .neq t (.int k a) (.int k b) (.bool (a !=b)):=bI _ (binOp_neq ..)
theorem AA :oO P .lss t (.int k a) (.int k b) (.bool (decide (a<b))):=bI _ (binOp_lss ..)
theorem WI :oO P .leq t (.int k a) (.int k b) (.bool (decide (a<=b))):=bI _ (binOp_leq ..)
theorem PJ :oO P .gtr t (.int k a) (.int k b) (.bool (decide (a>b))):=bI _ (binOp_gtr ..)
theorem HV :oO P .geq t (.int k a) (.int k b) (.bool (decide (a>=b))):=bI _ (binOp_geq ..)
theorem Ja(dd:Nat) (hu:P.underlying t=some .bool)(w:aB):(Op.equalIn (dd+1) t (.bool p) (.bool q)).run P w=.ok (p==q) w:=by
 simp only[Op.equalIn,Sem.run_bind,run_underlying hu,Result.andThen_ok];rfl
theorem Pd (hu:P.underlying t=some .bool)(w:aB):(Op.equal t (.bool p) (.bool q)).run P w=.ok (p==q) w:=Ja 9999 hu w
theorem Wb (hu:P.underlying t=some .bool):oO P .eql t (.bool p) (.bool q) (.bool (p==q)):=by
 intro c d w;rw[L5];show(do pure (Value.bool (<-Op.equal t (.bool p) (.bool q))):Sem aC).run P w=_;rw[Sem.run_bind,Pd hu];rfl
theorem QQ :S9 P .not (.bool p) (.bool (!p)):=λ_=>rfl
theorem Ts:S9 P .neg (U x) (U (-x)):=λw=>by rw[unary_neg];rfl
theorem Tq:S9 P .xor (U x) (U (~~~x)):=λw=>by rw[unary_xor];rfl
theorem UY{s t:ax}{k':aw}{c:TypeDesc}(hs:P.underlying s=some c)(ht:P.underlying t=some (.int k))(hk:k.wrap a=a):WU P s t (.int k' a) (.int k a):=by
 intro w;simp only[convert,Sem.run_bind,run_underlying hs,run_underlying ht,Result.andThen_ok];cases c<;>simp[Conv.intToInt,hk]
end
end
theorem xn{p q:ah×Obj}(h:uH p q):uH q p:=λb hb hp=>h b hp hb
theorem St.perm{w0:aB}{S:aq}{w:aB}{h h':Hl}{Y:List (Nat×Obj)}(s:St w0 S w h Y)(hp:h.Perm h'):St w0 S w h' Y:=
 ⟨s.ext,λp hm=>s.own p (hp.mem_iff.2 hm),(hp.pairwise_iff (λ{_ _}=>xn)).1 s.apart,s.sys,s.CP⟩
theorem St.AS{w0:aB}{S:aq}{w:aB}{h:Hl}{Y Y':List (Nat×Obj)}(s:St w0 S w h Y)(hp:Y.Perm Y'):St w0 S w h Y':=
 ⟨s.ext,s.own,s.apart,λp hm=>s.sys p (hp.mem_iff.2 hm),(hp.map _).nodup_iff.1 s.CP⟩
theorem St.Tz{w0:aB}{S:aq}{w:aB}{h:Hl}{Y Y':List (Nat×Obj)}(s:St w0 S w h Y)(hp:Y'.Sublist Y):St w0 S w h Y':=
 ⟨s.ext,s.own,s.apart,λp hm=>s.sys p (hp.subset hm),(hp.map _).nodup s.CP⟩
theorem St.JU{w0:aB}{S:aq}{w:aB}{h:Hl}{Y:List (Nat×Obj)}{L:Nat}{o o':Obj}(s:St w0 S w h ((L,o)::Y))(ho:ub o'=true):
  St w0 S {w with heap:=w.heap.setIfInBounds L o'} h ((L,o')::Y):=by
 obtain⟨h1,h2,h3⟩:=s.sys (L,o) aF;simp only at h1 h2 h3;have hlt:=(aX.1 h2).1;have hne:∀b,b≠L->(w.heap.setIfInBounds L o')[b]?=w.heap[b]?:=λb hb=>by simp[Ne.symm hb]
 have hnd:=s.CP;rw[eG,ej]at hnd;refine⟨⟨s.ext.os,s.ext.tape,s.ext.output,by simpa using s.ext.size,λb hb hn=>?_⟩,λp hp b hb=>?_,s.apart,λp hp=>?_,by rw[eG,ej];exact hnd⟩;rw[hne b aH];exact s.ext.block b hb hn;obtain⟨q1,q2,q3⟩:=s.own p hp b hb;refine⟨?_,q2,q3⟩;rw[hne b ?_];exact q1;rintro rfl;rw[eA (q1.symm.trans h2)]at q2;rw[h3]at q2;cases q2;rcases eH.1 hp with rfl|hp;exact⟨h1,by simp[hlt],ho⟩;obtain⟨q1,q2,q3⟩:=s.sys p (cM _ hp);refine⟨q1,?_,q3⟩;rw[hne p.1 ?_];exact q2;intro e;exact hnd.1 (e ▸ eL.2 ⟨p,hp,rfl⟩)
theorem St.T1{w0:aB}{S:aq}{w:aB}{h:Hl}{Y:List (Nat×Obj)}(s:St w0 S w h Y){o:Obj}(ho:ub o=true):St w0 S (w.alloc o) h ((w.heap.size,o)::Y):=by
 have s':=s.later (vF w o);refine⟨s'.ext,s'.own,s'.apart,λp hp=>?_,?_⟩;rcases eH.1 hp with rfl|hp;exact⟨s.ext.size,heap_alloc_new w o,ho⟩;exact s'.sys p hp;rw[eG,ej];refine⟨λhm=>?_,s.CP⟩;obtain⟨p,hp,e⟩:=eL.1 hm;have:=(aX.1 (s.sys p hp).2.1).1;simp at e;omega
section
variable{P:av}{f:ay}{R:aC->aB->Prop}{w0:aB}{S:aq}{Y:List (Nat×Obj)}{n:Nat}{k k':al}{l l':Fl}{h h':Hl}
theorem Fc{Ds:aq}{L:Nat}{o:Obj}{Y:List (Nat×Obj)}:(uy Ds++(L,o)::Y).Perm ((L,o)::(uy Ds++Y)):=dP
theorem ff.beginRound{L:Nat}{rec:Loop}(hr:rec.state=.ready)(hg:ff P (some L) f R w0 S ((L,.loop {rec with state:=.busy})::Y) n k l h):ff P (some L) f R w0 S ((L,.loop rec)::Y) n (.beginRound::k) l h:=by
 intro t w Ds hF hS;have hS1:=hS.AS Fc;have hL:=(hS1.sys (L,.loop rec) aF).2.1;simp only at hL;have hrun:(Instr.beginRound L).run P w=.ok () {w with heap:=w.heap.setIfInBounds L (.loop {rec with state:=.busy})}:=by
  simp[Instr.beginRound,Instr.getLoop,getObj,setObj,Sem.run,hL,bind,Sem.bind,pure,hr]
 have hS2:=(hS1.JU (o':=.loop {rec with state:=.busy}) rfl).AS Fc.symm;exact .step (λcs=>by rw[iH,iH];exact stepR_beginRound rfl hrun) (hg t _ Ds hF hS2)
def UN(w:aB)(L:Nat)(rec:Loop)(jump:Option Code):aB:={w with heap:=w.heap.setIfInBounds L (.loop {rec with state:=if jump.isNone then .ready else .done,pending:=jump})}
theorem Cg{L:Nat}{rec:Loop}{w:aB}(hL:w.heap[L]?=some (.loop rec))(jump:Option Code):(Instr.endRound L jump).run P w=.ok (.bool jump.isNone) (UN w L rec jump):=by
 simp[Instr.endRound,Instr.getLoop,getObj,setObj,Sem.run,hL,bind,Sem.bind,pure,UN]
theorem Bb{t:af}{Ds:aq}{w:aB}{L:Nat}{rec:Loop}(jump:Option Code)(hS:St w0 S w h (uy Ds++(L,.loop rec)::Y))
  (kz:∀(c:Frame) (cs:List Frame) v w',(Instr.endRound L jump).run P w=.ok v w'->step P (lone (vm f (some L) t (Ds.map mark) k) (c::cs) w)=.next (lone (c.finish v) cs w'))
  (hR:∀w',St w0 S w' h ((L,.loop {rec with state:=if jump.isNone then .ready else .done,pending:=jump})::Y)->R (.bool jump.isNone) w'):ki P (some L) f R k t (Ds.map mark) w:=by
 intro cs hcs;cases cs with
 |nil=>exact absurd rfl (hcs rfl)
 |cons c cs=>
  have hS1:=hS.AS Fc;have hL:=(hS1.sys (L,.loop rec) aF).2.1;have hr:=Cg (P:=P) hL jump;have hS2:=hS1.JU (o':=.loop {rec with state:=if jump.isNone then .ready else .done,pending:=jump}) rfl;refine⟨_,_,_,hR _ (hS2.Tz (.cons_cons _ (bG _ _))),.one (kz c cs _ _ hr),c,cs,rfl,rfl⟩
theorem ff.Kd{L:Nat}{rec:Loop}(hR:∀w',St w0 S w' h ((L,.loop {rec with state:=.ready,pending:=none})::Y)->R (.bool true) w'):ff P (some L) f R w0 S ((L,.loop rec)::Y) n [] l h:=λt w Ds _ hS=>
 Bb none hS (λc cs v w' hr=>by rw[iH];exact stepR_round_end rfl rfl hr) hR
theorem ff.Kc{L:Nat}{rec:Loop}(hR:∀w',St w0 S w' h ((L,.loop {rec with state:=.done,pending:=some .ret})::Y)->R (.bool false) w'):ff P (some L) f R w0 S ((L,.loop rec)::Y) n (.code .ret::k) l h:=λt w Ds _ hS=>
 Bb (some .ret) hS (λc cs v w' hr=>by rw[iH];exact stepR_round_ret rfl rfl hr) hR
def ED(P:av)(w0:aB)(S:aq)(gf:ay)(lb:ai)(args:List ai)(cap:Hl):Prop:=
 ∀(Y:List (Nat×Obj)) (σ:Type) (Hc:σ->Hl) (I:Nat->σ->Prop) (X:σ->Prop) (Yx:σ->List (Nat×Obj)) (L:Nat),
  (∀(i:Nat) (a:ai),args[i]?=some a->∀s,I i s->∀(hi:Hl) (w:aB) (Y1:List (Nat×Obj)),St w0 S w (hi++Hc s) (Y1++Y)->
   Vp P L a.toArray w (λv w'=>(v=.bool true/\∃s',I (i+1) s'/\St w0 S w' (hi++Hc s') (Y1++Y))\/(v=.bool false/\∃s',X s'/\St w0 S w' (hi++Hc s') (Y1++Yx s'))))->
  ∀s0 w,I 0 s0->St w0 S w (cap++Hc s0) Y->
   Calls P gf ((Value.func (.yield L) #[] #[]::lb).toArray) w λe w'=>∃v,e=.returned v/\((∃s,I args.length s/\St w0 S w' (Hc s) Y)\/(∃s,X s/\St w0 S w' (Hc s) (Yx s)))
def zW:List Tmp->ai->Fl->Fl
 |p::ps,a::az,l=>zW ps az ((p,a)::l)
 |_,_,l=>l
theorem DZ:∀{ps:List Tmp} {az:ai} {t:af} {l:Fl},pJ n t l->(∀p∈ps,Nat.blt p n=true)->pJ n ((ps.zip az).foldl (λt (p:Tmp×aC)=>t.setIfInBounds p.1 p.2) t) (zW ps az l)
 |[],_,_,_,hF,_=>by simpa[zW]using hF
 |p::ps,[],_,_,hF,_=>by simpa[zW]using hF
 |p::ps,a::az,t,l,hF,hp=>by
  simp only[List.zip_cons_cons,dX,zW];exact DZ (hF.put a (hp p aF)) (λq hq=>hp q (cM _ hq))
theorem MI{α:Type}{xs:List α}{f:α->aC}{m:Nat}(hm:m=1):∀a∈xs.map (λx=>[f x]),a.length=m:=λa ha=>by
 obtain⟨_,_,rfl⟩:=eL.1 ha;exact hm.symm
def Gk{σ:Type}(w0:aB)(S:aq)(Hc:σ->Hl)(I:Nat->σ->Prop)(X:Code->σ->Prop)(L:Nat)(rec:Loop)(Y':List (Nat×Obj))(hi:Hl)(i:Nat):aC->aB->Prop:=λv w'=>
 (v=.bool true/\∃s',I (i+1) s'/\St w0 S w' (Hc s'++hi) ((L,.loop {rec with state:=.ready,pending:=none})::Y'))\/
 (v=.bool false/\∃c s',X c s'/\St w0 S w' (Hc s'++hi) ((L,.loop {rec with state:=.done,pending:=some c})::Y'))
theorem Ag{σ:Type}{Hc:σ->Hl}{I:Nat->σ->Prop}{X:Code->σ->Prop}{L:Nat}{rec:Loop}{hi:Hl}{i:Nat}(s':σ)(hI:I (i+1) s')(hs:(Hc s'++hi).Sublist h):
  ff P (some L) f (Gk w0 S Hc I X L rec Y hi i) w0 S ((L,.loop {rec with state:=.busy})::Y) n [] l h:=
 .Kd (λ_ hS=>.inl ⟨rfl,s',hI,hS.js hs⟩)
theorem M3{σ:Type}{Hc:σ->Hl}{I:Nat->σ->Prop}{X:Code->σ->Prop}{L:Nat}{rec:Loop}{hi:Hl}{i:Nat}(s':σ)(hI:X .ret s')(hs:(Hc s'++hi).Sublist h):
  ff P (some L) f (Gk w0 S Hc I X L rec Y hi i) w0 S ((L,.loop {rec with state:=.busy})::Y) n (.code .ret::k) l h:=
 .Kc (λ_ hS=>.inr ⟨rfl,.ret,s',hI,hS.js hs⟩)
theorem ff.E4{g:au}{ps:Array Tmp}{assign body:Code}{gf:ay}{lb:ai}{args:List ai}{cap:Hl}{σ:Type}(Hc:σ->Hl)(I:Nat->σ->Prop)(X:Code->σ->Prop)(s0:σ)
  (hg:fW l g=some (.func (.func gf) #[] lb.toArray))(hcf:∀args w,(callFunc gf args).run P w=.ok (.enter gf args) w)(it:ED P w0 S gf lb args cap)
  (hps:∀a∈args,a.length=ps.size)(hpn:ps.toList.all (λp=>Nat.blt p n)=true)(h0:I 0 s0)(hh:(cap++Hc s0).Sublist h)
  (hround:∀(L:Nat) (Y':List (Nat×Obj)) (rec:Loop) (hi:Hl) (i:Nat) (a:ai) (s:σ),args[i]?=some a->I i s->rec.state=.ready->
   ff P (some L) f (Gk w0 S Hc I X L rec Y' hi i) w0 S ((L,.loop rec)::Y') n [.code assign,.beginRound,.code body] (zW ps.toList a l) (Hc s++hi))
  (hdone:∀s,I args.length s->ff P none f R w0 S Y n k l (Hc s))(hstop:∀c s,X c s->ff P none f R w0 S Y n (.code c::k) l (Hc s)):
  ff P none f R w0 S Y n (.code (.rangeFunc g ps assign body)::k) l h:=by
 intro t w Ds hF hS cs hcs;obtain⟨rec,hrec⟩:∃rec:Loop,rec={state:=.ready,pending:=none,fn:=f,tmps:=t,params:=ps,assign,body,defers:=w.heap.size}:=⟨_,rfl⟩;have hS1:=(hS.T1 (o:=.deferred (some [])) rfl).T1 (o:=.loop rec) rfl;rw[World.size_alloc]at hS1;obtain⟨w2,hw2⟩:∃w2,(w.alloc (.deferred (some []))).alloc (.loop rec)=w2:=⟨_,rfl⟩;rw[hw2]at hS1;have henter:(Instr.enterLoop f t ps assign body none).run P w=.ok (w.heap.size+1,[mark w.heap.size]) w2:=by
  rw[<-hw2,hrec];exact run_enterLoop_outer _ _ _ _ _
 have hinv:(invoke (.fn (.func gf) lb.toArray) #[Value.func (.yield (w.heap.size+1)) #[] #[]]).run P w2=.ok (.enter gf ((Value.func (.yield (w.heap.size+1)) #[] #[]::lb).toArray)) w2:=by
  simp only[invoke,hcf]
  congr 2
  simp
 have hres:(resolve (Act.eval ⟨t,Ds.map mark⟩) (rangeCall g (w.heap.size+1)) 0).run P w2=.ok {target:=.fn (.func gf) lb.toArray,args:=#[Value.func (.yield (w.heap.size+1)) #[] #[]]} w2:=by
  have e1:=hF.fW hg (Ds.map mark);simp only[resolve,e1,Deferred.ofValue];simp[Act.eval]
 have hstep:=stepR_rangeFunc (P:=P) (b:=vm f none #[] [] []) (a:=⟨t,Ds.map mark⟩) (k:=k) (cs:=cs) (w:=w) (ps:=ps) (assign:=assign) (body:=body) (g:=g) henter hres hinv;obtain⟨Yr,hYr⟩:∃Yr,(w.heap.size,(.deferred (some []):Obj))::(uy Ds++Y)=Yr:=⟨_,rfl⟩;have hcall:=it ((w.heap.size+1,.loop rec)::Yr) (σ×Option Code) (λs=>Hc s.1) (λi s=>I i s.1/\s.2=none) (λs=>∃c,s.2=some c/\X c s.1)
  (λs=>(w.heap.size+1,.loop {rec with state:=.done,pending:=s.2})::Yr) (w.heap.size+1) (by
   rintro i a ha ⟨s,c⟩ ⟨hI,hc⟩ hi W Y1 hSt;simp only at hc hSt;subst hc;have hSt1:=(hSt.perm (cG)).AS (dP (l₁:=Y1) (a:=(w.heap.size+1,Obj.loop rec)) (l₂:=Yr));have hL:=(hSt1.sys _ aF).2.1;simp only at hL;have hlen:=hps a (cP ha);refine⟨f,(ps.zip a.toArray).foldl (λt (p:Tmp×aC)=>t.setIfInBounds p.1 p.2) t,assign,body,?_,λc cs=>?_⟩;simp only[Instr.yield,Instr.getLoop,getObj,Sem.run,hL,bind,Sem.bind,pure];rw[hrec];simp[hlen];have hg1:=hround (w.heap.size+1) (Y1++Yr) rec hi i a s ha hI (by rw[hrec]);have hfr:pJ n ((ps.zip a.toArray).foldl (λt (p:Tmp×aC)=>t.setIfInBounds p.1 p.2) t) (zW ps.toList a l):=by
    have:=DZ (ps:=ps.toList) (az:=a) hF (dI.1 hpn);rw[<-Array.foldl_toList,Array.toList_zip];exact this
   obtain⟨v,w',m,hR,kz,htg⟩:=hg1 _ W [] hfr (by simpa[uy]using hSt1) (c::cs) aL;obtain⟨c',cs',hcc,rfl⟩:=htg;cases hcc;refine⟨v,w',?_,kz⟩;rcases hR with⟨hv,s',hI',hS'⟩|⟨hv,c2,s',hX,hS'⟩;refine .inl ⟨hv,(s',none),⟨hI',rfl⟩,?_⟩;have e1:({rec with state:=.ready,pending:=none}:Loop)=rec:=by rw[hrec]
   rw[e1]at hS';exact(hS'.perm (cG)).AS (dP (l₁:=Y1) (a:=(w.heap.size+1,Obj.loop rec)) (l₂:=Yr)).symm;refine .inr ⟨hv,(s',some c2),⟨c2,rfl,hX⟩,?_⟩;exact(hS'.perm (cG)).AS (dP (l₁:=Y1) (l₂:=Yr)).symm)
  (s0,none) w2 ⟨h0,rfl⟩ ((hYr ▸ hS1).js hh);obtain⟨e,w3,fr,⟨v,rfl,hpost⟩,hcomes,hfn,hleave⟩:=hcall ((vm f none #[] [] []).atR ⟨t,[mark w.heap.size]++Ds.map mark⟩ (.inRangeFunc (w.heap.size+1)::k)::cs);have hback:=step_leave_returned (c:=(vm f none #[] [] []).atR ⟨t,[mark w.heap.size]++Ds.map mark⟩ (.inRangeFunc (w.heap.size+1)::k)) (cs:=cs) hleave;rw[finish_atR_inRangeFunc]at hback;have fin:∀(s:σ) (rc:Loop) (jump:Option Code),rc.state≠.busy->rc.pending=jump->St w0 S w3 (Hc s) ((w.heap.size+1,.loop rc)::Yr)->
   (∀w4,St w0 S w4 (Hc s) (uy (w.heap.size::Ds)++Y)->ki P none f R ((jump.map Item.code).toList++k) t ((w.heap.size::Ds).map mark) w4)->
   ∃v w' m,R v w'/\Steps P (lone (vm f none t (Ds.map mark) (.code (.rangeFunc g ps assign body)::k)) cs w) m/\WL P none f cs v w' m:=by
  intro s rc jump hnb hj hS3 hgo;have hL:=(hS3.sys _ aF).2.1;simp only at hL;have hend:(Instr.endLoop (w.heap.size+1)).run P w3=.ok jump {w3 with heap:=w3.heap.setIfInBounds (w.heap.size+1) (.loop {rc with state:=.exhausted})}:=by
   simp[Instr.endLoop,Instr.getLoop,getObj,setObj,Sem.run,hL,bind,Sem.bind,pure,hj];exact λhx=>absurd hx hnb
  have hS4:=(hS3.JU (o':=.loop {rc with state:=.exhausted}) rfl).Tz (List.sublist_cons_self ..);obtain⟨v',w',m,hR,kz,htg⟩:=hgo _ (by rw[<-hYr]at hS4;exact hS4) cs hcs;refine⟨v',w',m,hR,.head hstep (Steps.trans hcomes (.head hback (.head (stepR_endRangeFunc hend) ?_))),htg⟩;exact kz
 rcases hpost with⟨⟨s,c⟩,⟨hI,hc⟩,hS3⟩|⟨⟨s,c⟩,⟨c',hc,hX⟩,hS3⟩;exact fin s rec none (by rw[hrec];simp) (by rw[hrec]) hS3 (λw4 hS4=>hdone s hI t w4 (w.heap.size::Ds) hF hS4);simp only at hc;subst hc;exact fin s _ (some c') aL rfl hS3 (λw4 hS4=>hstop c' s hX t w4 (w.heap.size::Ds) hF hS4)
section
variable{ops:aj}{i d:Nat}{rest:aq}{ty:ax}{pos:aA}{aft:ak}{gd:Option (Nat×Bool)}
theorem ff.QJ{az:aa}{ts:ab}{cal:au}{L:Nat}{a:ai}(Hyes:Hl->Prop)(Hno:Hl->List (Nat×Obj)->Prop)(ho:ops[i]?=some ⟨some d,.call ⟨.value cal,az,ts⟩,ty,pos,aft,gd⟩)(hw:fE ops l gd=true)
  (hc:fW l cal=some (.func (.yield L) #[] #[]))(hx:iW l az.toList=some a)(hd:Nat.blt d n=true)
  (hr:∀w Y1,St w0 S w h (Y1++Y)->Vp P L a.toArray w (λv w'=>(v=.bool true/\∃h',Hyes h'/\St w0 S w' h' (Y1++Y))\/(v=.bool false/\∃h' Y',Hno h' Y'/\St w0 S w' h' (Y1++Y'))))
  (hyes:∀h',Hyes h'->ff P none f R w0 S Y n (.inRegion ops rest::k) ((d,.bool true)::l) h')
  (hno:∀h' Y',Hno h' Y'->ff P none f R w0 S Y' n (.inRegion ops rest::k) ((d,.bool false)::l) h'):
  ff P none f R w0 S Y n (.inRegion ops (i::rest)::k) l h:=by
 intro t w Ds hF hS;refine ki.yield ho (km hF hw) (jc rfl) ?_ (hr w (uy Ds) hS) (λv w2 hR=>?_);have e1:=lR (P:=P) (ty:=ty) (ts:=ts) (Ds:=Ds) (w:=w) hF hc hx;simp only[execOp,Sem.run_bind,e1,Result.andThen_ok,invoke,Array.empty_append];rcases hR with⟨rfl,h',hh,hS'⟩|⟨rfl,h',Y',hh,hS'⟩;exact hyes h' hh _ w2 Ds (hF.put _ hd) hS';exact hno h' Y' hh _ w2 Ds (hF.put _ hd) hS'
end
theorem ED.of{gf:ay}{lb:ai}{args:List ai}{cap:Hl}{c:Code}{fn:Func}(hf:P.funcs[gf]?=some fn)(hb:fn.body=some c)(hn:Nat.ble (lb.length+1) fn.ntmps=true)
  (hgo:∀(Y:List (Nat×Obj)) (σ:Type) (Hc:σ->Hl) (I:Nat->σ->Prop) (X:σ->Prop) (Yx:σ->List (Nat×Obj)) (L:Nat),
   (∀(i:Nat) (a:ai),args[i]?=some a->∀s,I i s->∀(hi:Hl) (w:aB) (Y1:List (Nat×Obj)),St w0 S w (hi++Hc s) (Y1++Y)->
    Vp P L a.toArray w (λv w'=>(v=.bool true/\∃s',I (i+1) s'/\St w0 S w' (hi++Hc s') (Y1++Y))\/(v=.bool false/\∃s',X s'/\St w0 S w' (hi++Hc s') (Y1++Yx s'))))->
   ∀s0,I 0 s0->ff P none gf (λ_ w'=>(∃s,I args.length s/\St w0 S w' (Hc s) Y)\/(∃s,X s/\St w0 S w' (Hc s) (Yx s))) w0 S Y fn.ntmps [.code c] (Ar 0 (Value.func (.yield L) #[] #[]::lb)) (cap++Hc s0)):
  ED P w0 S gf lb args cap:=by
 intro Y σ Hc I X Yx L hy s0 w hI hS cs;obtain⟨v,w',m,hR,kz,fr,rfl,hfn,hl⟩:=hgo Y σ Hc I X Yx L hy s0 hI _ w [] (Bd (by simpa using Nat.le_of_ble_eq_true hn)) hS cs aL;refine⟨.returned v,w',fr,⟨v,rfl,hR⟩,?_,hfn,hl⟩;have henter:Frame.enter P gf (Value.func (.yield L) #[] #[]::lb).toArray .normal=vm gf none ((Value.func (.yield L) #[] #[]::lb).toArray++Array.replicate (fn.ntmps - (Value.func (.yield L) #[] #[]::lb).toArray.size) undef) [] [.code c]:=by
  simp[Frame.enter,hf,hb,vm]
 show Steps P _ _;rw[henter];exact kz
end
end Go.Proofs.Wit
