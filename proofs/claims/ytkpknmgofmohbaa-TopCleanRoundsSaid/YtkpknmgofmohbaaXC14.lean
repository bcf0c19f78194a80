/- Laws of walks, for any program, under the conditions that each theorem states. -/
import Derived.Test.YtkpknmgofmohbaaXC12
import Derived.Test.YtkpknmgofmohbaaXC03
import Derived.Laws.IdiomRangeMap
namespace Go.Proofs.Wit
open Go Go.RowKit
section
variable {P:Program}
theorem kC {w:World} {t k e:TypeId} {bm:Nat} {es:Array MapEntry} {clock:Nat} (ht:P.underlying t=some (.map k e)) (hb:w.heap[bm]?=some (.map es clock)):
  (Instr.range t (.map (some bm))).run P w=.ok (.pointer (some ⟨w.heap.size,0,none⟩)) (w.alloc (.mapIter (some bm) clock #[] clock)):=run_range_map w t k e bm es clock ht hb
theorem setIter {w1:World} {bi:Nat} {a:Option Nat} {b c:Nat} {s:Array Nat} (h:w1.heap[bi]?=some (.mapIter a b s c)):∀o2,(setObj bi o2).run P w1=.ok () {w1 with heap:=w1.heap.setIfInBounds bi o2}:=fun o2=>by
 simp only [setObj,Sem.run,h]
theorem mj {w:World} {ty:TypeId} {bi bm since c0:Nat} {seen:Array Nat} {es:Array MapEntry} {clock:Nat} (hbi:w.heap[bi]?=some (.mapIter (some bm) since seen c0)) (hb:w.heap[bm]?=some (.map es clock)) (hold:∀x∈es.toList,x.born<since) (hsc:since≤c0):
  ((es.filter (fun e=>!seen.contains e.born)).size=0∧(Instr.next (.pointer (some ⟨bi,0,none⟩)) false ty).run P w=.ok (.tuple #[.bool false]) w)∨
  ∃e∈(es.filter (fun e=>!seen.contains e.born)).toList,∃w1:World,(w1=w∨w1={w with drawn:=w.drawn+1})∧(Instr.next (.pointer (some ⟨bi,0,none⟩)) false ty).run P w=.ok (.tuple #[.bool true,e.key,e.val]) {w1 with heap:=w1.heap.setIfInBounds bi (.mapIter (some bm) since (seen.push e.born) clock)}:=by
 simp only [Instr.next,getObj,Sem.run_bind,Sem.run,hbi,hb,Result.andThen,next_test_false seen es since c0 hold hsc,Bool.false_eq_true,if_false]
 have hmem:∀x∈(Array.filter (fun e=>!seen.contains e.born) es).toList,x.born<since:=fun x hx=>hold x (by simp at hx⊢;exact hx.1)
 generalize Array.filter (fun e=>!seen.contains e.born) es=L at hmem⊢
 have e1:L.filter (fun x=>decide (x.born<since))=L:=Array.filter_eq_self.2 (fun x hx=>by simpa using hmem x (by simpa using hx))
 have e2:L.filter (fun x=>decide (x.born≥since))=#[]:=by
  rw [Array.filter_eq_empty_iff]
  intro x hx
  have:=hmem x (by simpa using hx)
  simp
  omega
 simp only [e1,e2,Array.append_empty]
 by_cases h0:L.size=0
 ·left
  have:L=#[]:=Array.eq_empty_of_size_eq_zero h0
  subst this
  refine ⟨rfl,?_⟩
  simp [choose,Sem.run,Question.forced]
 right
 have hne:L.isEmpty=false:=by simp [Array.isEmpty,h0]
 simp only [hne,Bool.false_eq_true,if_false,Array.empty_append,Array.size_map]
 have hch:∃(j:Nat) (w1:World),j<L.size∧(w1=w∨w1={w with drawn:=w.drawn+1})∧(choose (Question.mapNext L.size)).run P w=.ok j w1:=by
  by_cases hf:L.size≤1
  ·exact ⟨0,w,by omega,.inl rfl,by simp [choose,Sem.run,Question.forced,hf]⟩
  exact ⟨_,{w with drawn:=w.drawn+1},Nat.mod_lt _ (by omega),.inr rfl,by
   simp only [choose,Sem.run,Question.forced,decide_eq_true_eq,hf,if_false,Question.cut]
   rfl⟩
 obtain ⟨j,w1,hj,hal,hrun⟩:=hch
 refine ⟨L[j],by simp,w1,hal,?_⟩
 have hb1:w1.heap[bi]?=some (.mapIter (some bm) since seen c0):=by
  rcases hal with rfl|rfl
  ·exact hbi
  exact hbi
 have hset:=setIter (P:=P) hb1
 simp only [hrun,Array.getElem?_map,Array.getElem?_eq_getElem hj,Option.map_some,Sem.run_bind,hset,Result.andThen]
 rfl
theorem kZ {w:World} {bi bm since:Nat} {seen:Array Nat} {es:Array MapEntry} {clock:Nat} {e:MapEntry} (hbi:w.heap[bi]?=some (.mapIter (some bm) since (seen.push e.born) clock)) (hb:w.heap[bm]?=some (.map es clock)) (he:e∈es.toList) (hn:(es.toList.map (·.born)).Nodup):
  (Instr.entry (.pointer (some ⟨bi,0,none⟩))).run P w=.ok (.tuple #[e.key,e.val]) w:=by
 have hf:es.find? (·.born==e.born)=some e:=by rw [←Array.find?_toList];exact find_born e es.toList hn he
 simp only [Instr.entry,getObj,Sem.run_bind,Sem.run,hbi,hb,Result.andThen,Array.back?_push,bne_self_eq_false,Bool.false_eq_true,if_false,hf]
 rfl
end
section
variable {κ ν:Type} {ek:κ→Value} {ev:ν→Value} {q:κ→κ→Bool}
theorem hH:∀{L:List (κ×ν)} {i0 i:Nat} (hi:i<L.length),(bg ek ev L i0)[i]'(by rw [di];exact hi)=⟨ek L[i].1,ev L[i].2,i0+i⟩
 |p::L,i0,0,_=>rfl
 |p::L,i0,i+1,hi=>by
  simp only [bg,List.getElem_cons_succ]
  rw [hH (by simpa using hi),Nat.add_assoc,Nat.add_comm 1]
theorem j0 {L:List (κ×ν)} {e:MapEntry} (h:e∈bg ek ev L 0):∃i,∃hi:i<L.length,e=⟨ek L[i].1,ev L[i].2,i⟩:=by
 obtain ⟨i,hi,rfl⟩:=List.mem_iff_getElem.1 h
 rw [di] at hi
 exact ⟨i,hi,by rw [hH hi,Nat.zero_add]⟩
theorem lQ {L:List (κ×ν)} {i:Nat} (hi:i<L.length):(⟨ek L[i].1,ev L[i].2,i⟩:MapEntry)∈bg ek ev L 0:=by
 have:=hH (ek:=ek) (ev:=ev) (i0:=0) hi
 rw [Nat.zero_add] at this
 rw [←this];exact List.getElem_mem _
theorem iL:∀{L:List (κ×ν)} {i0:Nat},(bg ek ev L i0).map (·.born)=List.range' i0 L.length
 |[],_=>rfl
 |p::L,i0=>by rw [bg,List.map_cons,iL,List.length_cons,List.range'_succ]
end
section
variable {P:Program} {r:Option Nat} {f:FuncId} {R:Value→World→Prop} {w0:World} {S:List Nat} {Y:List (Nat×Obj)} {n:Nat} {k:List Item} {l:Fl} {h:Hl}
variable {ops:Array Oper} {i d:Nat} {rest:List Nat} {ty:TypeId} {pos:String} {aft:Array Edge} {g:Option (Nat×Bool)}
variable {κ ν:Type} {ek:κ→Value} {ev:ν→Value} {q:κ→κ→Bool}
theorem dX.qU {t kt el:TypeId} {x:Operand} {bm:Nat} {L:List (κ×ν)} {K:Value→Hl→Prop} (ho:ops[i]?=some ⟨some d,.range t x,ty,pos,aft,g⟩) (hw:al ops l g=true) (hx:aA l x=some (.map (some bm))) (hd:Nat.blt d n=true)
  (hu:P.underlying t=some (.map kt el)) (hm:∀w Y',St w0 S w h Y'→w.heap[bm]?=some (a9 ek ev L)) (hk:∀b,K (.pointer (some ⟨b,0,none⟩)) ((some b,.mapIter (some bm) L.length #[] L.length)::h)):dX P w0 S n h ops i l d K:=
 ⟨_,ho,rfl,rfl,rfl,hd,.inl ⟨hw,fun _ w Ds Y' hF hS=>.inl ⟨.pointer (some ⟨w.heap.size,0,none⟩),w.alloc (.mapIter (some bm) L.length #[] L.length),_,by
  have:=kC (P:=P) hu (hm w Y' hS)
  simp only [execOp,hF.aA hx,Sem.run_bind,this];rfl,hS.alloc rfl,hk _⟩⟩⟩
theorem aa.sM {x:Operand} {bi bm c0:Nat} {seen:Array Nat} {L:List (κ×ν)} (ho:ops[i]?=some ⟨some d,.next x false,ty,pos,aft,g⟩) (hw:al ops l g=true) (hx:aA l x=some (.pointer (some ⟨bi,0,none⟩))) (hd:Nat.blt d n=true)
  (j:Nat) (hj:h[j]?=some (some bi,.mapIter (some bm) L.length seen c0)) (hm:∀w Y',St w0 S w h Y'→w.heap[bm]?=some (a9 ek ev L)) (hc0:L.length≤c0)
  (hdone:(∀i,i<L.length→i∈seen)→aa P r f R w0 S Y n (.inRegion ops rest::k) ((d,.tuple #[.bool false])::l) h)
  (hone:∀i (hi:i<L.length),i∉seen→aa P r f R w0 S Y n (.inRegion ops rest::k) ((d,.tuple #[.bool true,ek L[i].1,ev L[i].2])::l) (h.set j (some bi,.mapIter (some bm) L.length (seen.push i) L.length))):
  aa P r f R w0 S Y n (.inRegion ops (i::rest)::k) l h:=
 .mem ho hw rfl rfl hd (fun t' w Ds Y' hF hS=>by
  have hbi:=hS.get hj
  have hbm:=hm w Y' hS
  have hold:∀x∈(bg ek ev L 0).toArray.toList,x.born<L.length:=fun x hx=>by
   obtain ⟨i,hi,rfl⟩:=j0 hx
   exact hi
  rcases mj (P:=P) (ty:=ty) hbi hbm hold hc0 with ⟨h1,h2⟩|⟨e,he,w1,hw1,h2⟩
  ·refine ⟨_,w,h,?_,hS,hdone (fun i hi=>?_)⟩
   ·simp only [execOp,hF.aA hx,Sem.run_bind,h2];rfl
   ·rw [Array.size_eq_zero_iff,Array.filter_eq_empty_iff] at h1
    have:=h1 ⟨ek L[i].1,ev L[i].2,i⟩ (by simpa using lQ hi)
    simpa using this
  have he2:e∈bg ek ev L 0∧e.born∉seen:=by
   have:=he
   simp at this
   exact this
  obtain ⟨i,hi,rfl⟩:=j0 he2.1
  have hS1:St w0 S w1 h Y':=by
   rcases hw1 with rfl|rfl
   ·exact hS
   exact hS.drew
  have hb1:=hS1.lt hj
  refine ⟨_,{w1 with heap:=w1.heap.setIfInBounds bi (.mapIter (some bm) L.length (seen.push i) L.length)},_,?_,hS1.gk hj (o':=.mapIter (some bm) L.length (seen.push i) L.length) rfl rfl rfl rfl (by simp) (by simp [hb1]) (fun q _ hq=>by simp [Ne.symm hq]),hone i hi he2.2⟩
  simp only [execOp,hF.aA hx,Sem.run_bind,h2];rfl)
theorem ah.rJ {x:Operand} {bi bm:Nat} {seen:Array Nat} {L:List (κ×ν)} {m:Nat} (hm:m<L.length) (ho:ops[i]?=some ⟨some d,.entry x,ty,pos,aft,g⟩) (hw:al ops l g=true) (hx:aA l x=some (.pointer (some ⟨bi,0,none⟩))) (hd:Nat.blt d n=true)
  (j:Nat) (hj:h[j]?=some (some bi,   .mapIter (some bm) L.length (seen.push m) L.length)) (hmm:∀w Y',St w0 S w h Y'→w.heap[bm]?=some (a9 ek ev L)):ah P w0 S n h ops i l d (.tuple #[ek L[m].1,ev L[m].2]):=
 .of ho hw rfl rfl hd (fun t' w Ds Y' hF hS=>⟨.value (.tuple #[ek L[m].1,ev L[m].2]),by
  have:=kZ (P:=P) (e:=⟨ek L[m].1,ev L[m].2,m⟩) (hS.get hj) (hmm w Y' hS) (by simpa using lQ hm) (by
   show ((bg ek ev L 0).map (·.born)).Nodup
   rw [iL];exact List.nodup_range')
  simp only [execOp,hF.aA hx,Sem.run_bind,this];rfl,rfl⟩)
end
end Go.Proofs.Wit
