/- Laws of walks, for any program, under the conditions that each theorem states. -/
import Derived.Test.YtkpknmgofmohbaaXC16
import Derived.Test.YtkpknmgofmohbaaXC03
namespace Go.Proofs.Wit
open Go Go.RowKit
structure BV where
  a:Option Addr
  c:Nat
  xs:List Bool
def BV.v (x:BV):Value:=.slice x.a x.xs.length x.c
structure qC (w:World) (a:Option Addr) (m l:Nat) (rows:List BV) (val:CD→Bool):Prop where
  at_:Sl w a (rows.map BV.v)
  len:rows.length=m
  row:∀r (hr:r<rows.length),Sl w rows[r].a (rows[r].xs.map Value.bool)∧rows[r].xs.length=l∧∀t,t<l→rows[r].xs.getD t false=val (r,t)
theorem qC.a8 {w0 w:World} {a:Option Addr} {m l:Nat} {rows:List BV} {val:CD→Bool} (h:qC w0 a m l rows val) (e:Ex [] w0 w):qC w a m l rows val:=
 ⟨Sl.ex h.at_ e (by simp),h.len,fun r hr=>⟨Sl.ex (h.row r hr).1 e (by simp),(h.row r hr).2⟩⟩
abbrev RB:=Nat×List Bool
def dN (l:Nat):Option Nat→Value
 |none=>.slice none 0 0
 |some b=>.slice (some ⟨b,0,none⟩) l l
def dB (t:TypeId) (e:RB):Option Nat×Obj:=(some e.1,ob Value.bool t e.2 [])
def jf (B:List RB) (p:CD):Bool:=(B.getD p.1 (0,[])).2.getD p.2 false
def cK (B:List RB) (m:Nat):List (Option Nat):=B.map (fun e=>some e.1)++List.replicate m none
section
variable {B:List RB} {m r t:Nat} {v:Bool}
theorem nv {b:Nat} {xs:List Bool}:(cK B (m+1)).set B.length (some b)=cK (B++[(b,xs)]) m:=by
 unfold cK
 rw [List.set_append_right _ _ (by simp),List.length_map,Nat.sub_self,List.replicate_succ,List.set_cons_zero,List.map_append]
 simp
theorem jG:(cK B m).length=B.length+m:=by simp [cK]
theorem ny (hr:r<B.length):(cK B m).getD r none=some B[r].1:=by
 unfold cK
 rw [List.getD_eq_getElem?_getD,List.getElem?_append_left (by simpa using hr)]
 simp [hr]
theorem m8 (hr:r<B.length) {xs:List Bool}:cK (B.set r (B[r].1,xs)) m=cK B m:=by
 unfold cK
 congr 1
 apply List.ext_getElem (by simp)
 intro j h1 h2
 simp only [List.getElem_map,List.getElem_set]
 by_cases e:r=j
 ·subst e;simp
 simp [e]
theorem nU (hr:r<B.length) (ht:t<B[r].2.length) {p:CD}:jf (B.set r (B[r].1,B[r].2.set t v)) p=if p=(r,t) then v else jf B p:=by
 obtain ⟨p1,p2⟩:=p
 unfold jf
 dsimp only
 by_cases e:r=p1
 ·subst e
  have e1:(B.set r (B[r].1,B[r].2.set t v)).getD r (0,[])=(B[r].1,B[r].2.set t v):=by simp [List.getD_eq_getElem?_getD,hr]
  have e2:B.getD r (0,[])=B[r]:=by simp [List.getD_eq_getElem?_getD,hr]
  rw [e1,e2]
  by_cases e3:t=p2
  ·subst e3
   rw [if_pos rfl];simp [List.getD_eq_getElem?_getD,ht]
  rw [if_neg (by simp;omega),List.getD_eq_getElem?_getD,List.getElem?_set_ne e3,←List.getD_eq_getElem?_getD]
 have e1:(B.set r (B[r].1,B[r].2.set t v)).getD p1 (0,[])=B.getD p1 (0,[]):=by rw [List.getD_eq_getElem?_getD,List.getElem?_set_ne e,←List.getD_eq_getElem?_getD]
 rw [e1,if_neg (by simp;omega)]
theorem pY {pre H:Hl} {tt:TypeId} (hr:r<B.length) {q:Nat} (hq:pre.length+r=q):(pre++(B.map (dB tt)++H))[q]?=some (dB tt B[r]):=by
 subst hq
 rw [List.getElem?_append_right (by omega),Nat.add_sub_cancel_left,List.getElem?_append_left (by simpa using hr)]
 simp [hr]
theorem pX {pre H:Hl} {tt:TypeId} {e:RB} (hr:r<B.length) {q:Nat} (hq:pre.length+r=q):(pre++(B.map (dB tt)++H)).set q (dB tt e)=pre++((B.set r e).map (dB tt)++H):=by
 subst hq
 rw [List.set_append_right _ _ (by omega),Nat.add_sub_cancel_left,List.set_append_left _ _ (by simpa using hr),List.map_set]
end
def jt (l:Nat) (B:List RB):Prop:=∀e∈B,e.2.length=l
theorem jt.set {l r:Nat} {B:List RB} {e:RB} (h:jt l B) (he:e.2.length=l):jt l (B.set r e):=fun x hx=>by
 rcases List.mem_or_eq_of_mem_set hx with hx|rfl
 ·exact h x hx
 exact he
def jv (to tb:TypeId) (w w':World) (v:Value) (m l:Nat) (val:CD→Bool):Prop:=
 ∃(b:Nat) (B:List RB),v=.slice (some ⟨b,0,none⟩) m m∧c3 w w' ((some b,ob (dN l) to (cK B 0) [])::B.map (dB tb))∧B.length=m∧jt l B∧∀p:CD,p.1<m→p.2<l→jf B p=val p
def cI (l:Nat) (B:List RB):List BV:=B.map (fun e=>⟨some ⟨e.1,0,none⟩,l,e.2⟩)
theorem si {w0 w:World} {S:List Nat} {h:Hl} {Y:List (Nat×Obj)} (s:St w0 S w h Y) {to tb:TypeId} {b m l:Nat} {B:List RB} {val:CD→Bool} (h1:(some b,ob (dN l) to (cK B 0) [])∈h) (h2:∀e∈B,dB tb e∈h) (h3:B.length=m) (h4:jt l B) (h5:∀p:CD,p.1<m→p.2<l→jf B p=val p):qC w (some ⟨b,0,none⟩) m l (cI l B) val:=by
 refine ⟨?_,by simp [cI,h3],fun r hr=>?_⟩
 ·obtain ⟨j,hj⟩:=List.getElem?_of_mem h1
  have hb:=s.get hj
  have e:(cK B 0).map (dN l)=(cI l B).map BV.v:=by
   unfold cK cI
   simp only [List.replicate_zero,List.append_nil,List.map_map]
   refine List.map_congr_left (fun e he=>?_)
   show Value.slice (some ⟨e.1,0,none⟩) l l=Value.slice (some ⟨e.1,0,none⟩) e.2.length l
   rw [h4 e he]
  rw [←e];exact Sl.c5 hb
 have hr2:r<B.length:=by simpa [cI] using hr
 have er:(cI l B)[r]=⟨some ⟨B[r].1,0,none⟩,l,B[r].2⟩:=by simp [cI]
 rw [er]
 obtain ⟨j,hj⟩:=List.getElem?_of_mem (h2 B[r] (List.getElem_mem hr2))
 refine ⟨Sl.c5 (s.get hj),h4 _ (List.getElem_mem hr2),fun t ht=>?_⟩
 rw [←h5 (r,t) (by omega) ht]
 unfold jf
 simp [List.getD_eq_getElem?_getD,hr2]
def dD (to tb:TypeId) (H:Hl) (b m l:Nat) (val:CD→Bool):Prop:=∃B:List RB,(some b,ob (dN l) to (cK B 0) [])∈H∧(∀e∈B,dB tb e∈H)∧B.length=m∧jt l B∧∀p:CD,p.1<m→p.2<l→jf B p=val p
theorem dD.mono {to tb:TypeId} {H H':Hl} {b m l:Nat} {val:CD→Bool} (h:dD to tb H b m l val) (hs:H⊆H'):dD to tb H' b m l val:=by
 obtain ⟨B,h1,h2,h3⟩:=h
 exact ⟨B,hs h1,fun e he=>hs (h2 e he),h3⟩
theorem dD.at {to tb:TypeId} {w0 w:World} {S:List Nat} {h:Hl} {Y:List (Nat×Obj)} {b m l:Nat} {val:CD→Bool} (g:dD to tb h b m l val) (s:St w0 S w h Y):∃rows,qC w (some ⟨b,0,none⟩) m l rows val:=by
 obtain ⟨B,h1,h2,h3,h4,h5⟩:=g
 exact ⟨cI l B,si s h1 h2 h3 h4 h5⟩
theorem dD.new {to tb:TypeId} {b m l:Nat} {B:List RB} {val:CD→Bool} (h3:B.length=m) (h4:jt l B) (h5:∀p:CD,p.1<m→p.2<l→jf B p=val p):dD to tb ((some b,ob (dN l) to (cK B 0) [])::B.map (dB tb)) b m l val:=
 ⟨B,List.mem_cons_self ..,fun _e he=>List.mem_cons_of_mem _ (List.mem_map_of_mem he),h3,h4,h5⟩
def kp (m:Nat) (b:Nat):Value:=.slice (some ⟨b,0,none⟩) m m
theorem iB {ν:Type} {a x:Int} {v:ν}:∀{L:List (Int×ν)},aG qI (dn qI L a v) x=if x=a then some v else aG qI L x
 |[]=>by
  show (if qI x a=true then some v else none)=if x=a then some v else none
  by_cases h:x=a
  ·rw [if_pos h,if_pos (by subst h;exact beq_self_eq_true x)]
  rw [if_neg h,if_neg (by simpa [qI] using h)]
 |p::L=>by
  rw [dn]
  by_cases h:qI a p.1=true
  ·rw [if_pos h]
   have e:a=p.1:=eq_of_beq h
   rw [aG]
   by_cases h2:x=a
   ·rw [if_pos h2,if_pos (by subst h2;exact h)]
   rw [if_neg h2,if_neg (by rw [←e];simpa [qI] using h2),aG,if_neg (by rw [←e];simpa [qI] using h2)]
  rw [if_neg h,aG,iB]
  by_cases h2:x=a
  ·subst h2;rw [if_neg h,if_pos rfl,if_pos rfl]
  rw [if_neg h2,if_neg h2,aG]
def qJ (n:Nat) (seen:Array Nat):Nat:=(List.range n).countP (fun i=>!seen.contains i)
theorem oW {n i:Nat} {seen:Array Nat} (hi:i<n) (hs:i∉seen):qJ n (seen.push i)<qJ n seen:=
 pP (fun j _ h=>by
  simp only [Array.contains_push,Bool.not_or,Bool.and_eq_true] at h
  exact h.1) hi (by simp) (by simpa using hs)
section
variable {P:Program} {r:Option Nat} {f:FuncId} {R:Value→World→Prop} {w0:World} {S:List Nat} {Y:List (Nat×Obj)} {n:Nat} {k:List Item} {l:Fl} {h:Hl}
variable {ops:Array Oper} {i d:Nat} {rest:List Nat} {ty:TypeId} {pos:String} {aft:Array Edge} {g:Option (Nat×Bool)}
variable {κ ν:Type} {ek:κ→Value} {ev:ν→Value} {q:κ→κ→Bool}
theorem aa.q0 {x:Operand} {bi bm:Nat} {seen:Array Nat} {L:List (κ×ν)} (ho:ops[i]?=some ⟨some d,.next x false,ty,pos,aft,g⟩) (hw:al ops l g=true) (hx:aA l x=some (.pointer (some ⟨bi,0,none⟩))) (hd:Nat.blt d n=true)
  (j:Nat) (hj:h[j]?=some (some bi,.mapIter (some bm) L.length seen L.length)) (hm:∀w Y',St w0 S w h Y'→w.heap[bm]?=some (a9 ek ev L))
  (hk:∀(b:Bool) (us:List Value) (seen':Array Nat),((b=false∧us=[]∧seen'=seen∧∀i,i<L.length→i∈seen)∨(b=true∧∃i,∃hi:i<L.length,i∉seen∧us=[ek L[i].1,ev L[i].2]∧seen'=seen.push i))→aa P r f R w0 S Y n (.inRegion ops rest::k) ((d,.tuple (.bool b::us).toArray)::l) (h.set j (some bi,.mapIter (some bm) L.length seen' L.length))):
  aa P r f R w0 S Y n (.inRegion ops (i::rest)::k) l h:=
 aa.sM ho hw hx hd j hj hm (Nat.le_refl _) (fun hall=>by
  have:=hk false [] seen (.inl ⟨rfl,rfl,rfl,hall⟩)
  have e:h.set j (some bi,.mapIter (some bm) L.length seen L.length)=h:=by
   obtain ⟨h1,h2⟩:=List.getElem?_eq_some_iff.1 hj
   rw [←h2,List.set_getElem_self]
  rw [e] at this;exact this) (fun i hi hs=>hk true _ _ (.inr ⟨rfl,i,hi,hs,rfl,rfl⟩))
end
end Go.Proofs.Wit
